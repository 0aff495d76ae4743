/-
  Walk: is a tree right?
-/
import Derived.Test.YtmjikfeaopmejaaGreatDoorIoe
import Derived.Lib.SlBytesConst
import Derived.Deep.Slices
import Derived.Deep.Fields
import Derived.ChangeSame
import Derived.ChangeSlices
import Derived.Carry
import Derived.SizedLaws
import Derived.Lib.SmallJoins
import Derived.Deep.DeepHandedRow
import Derived.LaidSub
import Derived.Lib.LaidTab
import Derived.MakeChecks
import Derived.Test.YtmjikfeaopmejaaGreatDoorCards
import Derived.Test.YtmjikfeaopmejaaGreatDoorTie
import Derived.SevenTiedAt
namespace Go.Proofs.YtmjikfeaopmejaaGreatDoor
open Go.RowKit
def isInbox (x : PlaceM) : Bool := x.2.toList == [73, 78, 66, 79, 88]
def prevN (l : List PlaceM) (j : Nat) : Int := match l[j - 1]? with | some y => y.1 | none => 0
def numOk (l : List PlaceM) (j : Nat) (x : PlaceM) : Bool := !decide (x.1 < 0) && !decide (16 ≤ x.1) && !(decide (0 < j) && decide (x.1 ≤ prevN l j))
def stepOk (l : List PlaceM) (j : Nat) (x : PlaceM) : Bool := numOk l j x && nameIs x.2 && !placeHas (l.take j) x.2
def stepAt (l : List PlaceM) (j : Nat) : Bool := match l[j]? with | some x => stepOk l j x | none => true
def treeAll (l : List PlaceM) : Bool := (List.range l.length).all (stepAt l)
def rightTreeV (l : List PlaceM) : Bool := treeAll l && (l.countP isInbox == 1)
theorem stepAt_eq {l : List PlaceM} {j : Nat} {x : PlaceM} (hx : l[j]? = some x) : stepAt l j = stepOk l j x := by unfold stepAt; rw [hx]
theorem tree_no {l : List PlaceM} {j : Nat} {x : PlaceM} (hx : l[j]? = some x) (h : stepOk l j x = false) : rightTreeV l = false := by
  unfold rightTreeV treeAll
  have : (List.range l.length).all (stepAt l) = false := by
    rw [List.all_eq_false]
    exact ⟨j, List.mem_range.2 (List.getElem?_eq_some_iff.1 hx).1, by rw [stepAt_eq hx, h]; simp⟩
  rw [this, Bool.false_and]
theorem tree_yes {l : List PlaceM} (h : ∀ j, j < l.length → stepAt l j = true) : rightTreeV l = (l.countP isInbox == 1) := by
  unfold rightTreeV treeAll
  have : (List.range l.length).all (stepAt l) = true := List.all_eq_true.2 fun j hj => h j (List.mem_range.1 hj)
  rw [this, Bool.true_and]
theorem inbox_step {l : List PlaceM} {j : Nat} {x : PlaceM} (hx : l[j]? = some x) : (l.take (j + 1)).countP isInbox = (l.take j).countP isInbox + (if isInbox x = true then 1 else 0) := by
  rw [List.take_add_one, hx]
  simp [List.countP_append, List.countP_cons]
theorem pcells_take (l : List PlaceM) (k : Nat) : pcells (l.take k) = (pcells l).take (k * 2) := by
  rcases Nat.lt_or_ge k l.length with h | h
  · have e : pcells l = pcells (l.take k) ++ pcells (l.drop k) := by rw [← pcells_append, List.take_append_drop]
    have hl : (pcells (l.take k)).length = k * 2 := by rw [pcells_length, List.length_take]; congr 1; omega
    rw [e, ← hl, List.take_left']
    rfl
  · rw [List.take_of_length_le h, List.take_of_length_le (by rw [pcells_length]; omega)]
theorem Reads.takeP {w : World} {B n : Nat} {A : Option Addr} {l : List PlaceM} (h : Reads w B 2 A n (pcells l)) {k : Nat} (hk : k ≤ n) : Reads w B 2 A k (pcells (l.take k)) := by
  have hl : l.length = n := by have := h.1; rw [pcells_length] at this; omega
  refine ⟨by rw [pcells_length, List.length_take]; congr 1; omega, fun hp => ?_⟩
  obtain ⟨ad, e, hlt, hc⟩ := h.2 (by omega)
  refine ⟨ad, e, hlt, fun j u hu => hc j u ?_⟩
  rw [pcells_take, List.getElem?_take] at hu
  split at hu
  · exact hu
  · cases hu
set_option maxHeartbeats 1600000 in
set_option maxRecDepth 100000 in
theorem rightTree_any (A : Option Addr) (c n : Nat) (l : List PlaceM) (w : World) (hm : MaxCell w) (hg : 0 < w.heap.size) (hsz : ∀ q ∈ l, q.2.size ≤ 9223372036854775807) (hn2 : l.length = n) (hn : n ≤ 100000) (hcn : n ≤ c) (hr : Reads w w.heap.size 2 A n (pcells l)) :
    Calls Tryz.prog 77 #[.slice A n c] w fun e w' => e = .returned (.bool (rightTreeV l)) ∧ Below w.heap.size w w' := by
  have HR := Lib.hid hr
  have HM := Lib.hid hm
  have HSZ := Lib.hid hsz
  have HL := Lib.hid hn2
  obtain ⟨rv, hrv⟩ : ∃ rv, rightTreeV l = rv := ⟨_, rfl⟩
  have HRV := Lib.hid hrv
  rw [hrv]
  clear hr hm hsz hn2 hrv
  go_enter Tryz.func77, Tryz.ntmps77
  go_wp2
  go_loopw [3, 8] (fun z k wr => ∃ (j cc : Nat), k = .int .i64 j ∧ j ≤ n ∧ cc ≤ j ∧ z = .int .i64 cc ∧ Hid (cc = (l.take j).countP isInbox) ∧ Hid (∀ i, i < j → stepAt l i = true) ∧ Hid (Below w.heap.size w wr)) (fun _ k _ => n - (intOf k).toNat)
  case atStart => exact ⟨0, 0, rfl, by omega, by omega, rfl, rfl, fun i hi => absurd hi (by omega), Below.refl _ _⟩
  case round =>
    obtain ⟨j, cc, rfl, hj, hcj, rfl, hcc, hall, hb⟩ := hrel
    by_cases hlt : j < n
    · obtain ⟨x, hx⟩ : ∃ x, l[j]? = some x := ⟨_, List.getElem?_eq_getElem (by have := HL.out; omega)⟩
      obtain ⟨ad, rfl, hadl, hc⟩ := (HR.out.below hb.out).2 (by omega)
      obtain ⟨k0, k1⟩ := place_at hc hx
      have hadl' : (ad.add (j * 2)).block < wr.heap.size := by rw [block_of_add]; exact Nat.lt_of_lt_of_le hadl hb.out.size
      have hbx := (Below.refl wr.heap.size wr).alloc (Nat.le_refl _) (.cells #[.int .i64 x.1, .string x.2] 115)
      have hxb : Blk (wr.alloc (.cells #[.int .i64 x.1, .string x.2] 115)) wr.heap.size 115 #[.int .i64 x.1, .string x.2] := Blk.new wr _ _
      obtain ⟨gp, hgp⟩ : ∃ gp, wr.heap.size = gp := ⟨_, rfl⟩
      have hb1 := hb.out.trans (hbx.mono hb.out.size)
      obtain ⟨w1, hw1⟩ : ∃ w1, wr.alloc (.cells #[.int .i64 x.1, .string x.2] 115) = w1 := ⟨_, rfl⟩
      rw [hw1] at hbx hxb hb1
      have HN : Hid (∀ dd os, Calls Tryz.prog 91 #[.string x.2] (Sort.grow (redrawn w1 dd) os) fun e w' => e = .returned (.bool (nameIs x.2)) ∧ Below (Sort.grow (redrawn w1 dd) os).heap.size (Sort.grow (redrawn w1 dd) os) w') := fun dd os =>
        named_any x.2 (HSZ.out _ (List.mem_of_getElem? hx)) _ ((HM.out.below hg hb1).below (Nat.lt_of_lt_of_le hg hb1.size) (below_regrown w1 dd os))
      rw [hgp] at hxb
      have y0 : ∀ dd os, (Sort.grow (redrawn w1 dd) os).cell? ⟨gp, 0, none⟩ = some (.int .i64 x.1) := fun dd os => cell_regrown (by rw [hxb.cell]; rfl) dd os
      have y1 : ∀ dd os, (Sort.grow (redrawn w1 dd) os).cell? ⟨gp, 1, none⟩ = some (.string x.2) := fun dd os => cell_regrown (by rw [hxb.cell]; rfl) dd os
      have HB1 := Lib.hid hb1
      have HXB := Lib.hid hxb
      have HX := Lib.hid hx
      have jj0 : (0 : Int) ≤ (j : Int) := by omega
      have jj1 : (j : Int) ≤ (c : Int) := by omega
      obtain ⟨ni, hni⟩ : ∃ ni, nameIs x.2 = ni := ⟨_, rfl⟩
      rw [hni] at HN
      have HNI := Lib.hid hni
      clear hbx hxb hb1 hni hadl
      by_cases ha : x.1 < 0
      · have g1 : decide (x.1 < 0) = true := by simp; omega
        obtain rfl : false = rv := by rw [← HRV.out]; exact (tree_no hx (by unfold stepOk numOk; rw [g1]; simp)).symm
        clear hx hc
        go_upto_region 5 with fail
        refine wp_region_quiet_below (by kernel_rfl) (by kernel_rfl) ?_
        repeat (go_big_quiet_step (first | (go_at_call 91; exact Calls.regrown_of (HN.out _ _))))
        refine wpQuiet_nil ?_
        intro w2 hw2
        have hb2 : Below w1.heap.size w1 w2 := by
          obtain ⟨p, hw2⟩ := hw2
          rw [hw2]; exact below_regrown _ _ _
        go_wp2
        go_ret
        exact ⟨rfl, HB1.out.trans (hb2.mono HB1.out.size)⟩
      · have g1 : decide (x.1 < 0) = false := by simp; omega
        by_cases ha2 : 16 ≤ x.1
        · have g2 : decide (16 ≤ x.1) = true := by simp; omega
          obtain rfl : false = rv := by rw [← HRV.out]; exact (tree_no hx (by unfold stepOk numOk; rw [g2]; simp)).symm
          clear hx hc
          go_upto_region 5 with fail
          refine wp_region_quiet_below (by kernel_rfl) (by kernel_rfl) ?_
          repeat (go_big_quiet_step (first | (go_at_call 91; exact Calls.regrown_of (HN.out _ _))))
          refine wpQuiet_nil ?_
          intro w2 hw2
          have hb2 : Below w1.heap.size w1 w2 := by
            obtain ⟨p, hw2⟩ := hw2
            rw [hw2]; exact below_regrown _ _ _
          go_wp2
          go_ret
          exact ⟨rfl, HB1.out.trans (hb2.mono HB1.out.size)⟩
        · have g2 : decide (16 ≤ x.1) = false := by simp; omega
          by_cases hjz : j = 0
          · have g3 : decide (0 < j) = false := by simp; omega
            clear hjz
            cases ni with
            | false =>
              obtain rfl : false = rv := by rw [← HRV.out]; exact (tree_no hx (by unfold stepOk numOk; rw [HNI.out]; simp)).symm
              clear hx hc
              go_upto_region 5 with fail
              refine wp_region_quiet_below (by kernel_rfl) (by kernel_rfl) ?_
              repeat (go_big_quiet_step (first | (go_at_call 91; exact Calls.regrown_of (HN.out _ _))))
              refine wpQuiet_nil ?_
              intro w2 hw2
              have hb2 : Below w1.heap.size w1 w2 := by
                obtain ⟨p, hw2⟩ := hw2
                rw [hw2]; exact below_regrown _ _ _
              go_wp2
              go_ret
              exact ⟨rfl, HB1.out.trans (hb2.mono HB1.out.size)⟩
            | true =>
              clear hx hc
              go_upto_region 5 with fail
              refine wp_region_quiet_below (by kernel_rfl) (by kernel_rfl) ?_
              repeat (go_big_quiet_step (first | (go_at_call 91; exact Calls.regrown_of (HN.out _ _))))
              refine wpQuiet_nil ?_
              intro w2 hw2
              have hb2 : Below w1.heap.size w1 w2 := by
                obtain ⟨p, hw2⟩ := hw2
                rw [hw2]; exact below_regrown _ _ _
              have HB2 := Lib.hid (HB1.out.trans (hb2.mono HB1.out.size))
              have hx2 := HXB.out.below hb2 HXB.out.lt
              have z1 : w2.cell? ⟨gp, 1, none⟩ = some (.string x.2) := by rw [hx2.cell]; rfl
              have R := Lib.hid (contains_any (some ad) c j (l.take j) x.2 w2 (by rw [List.length_take]; have := HL.out; omega) (by omega) (((HR.out.below HB2.out).more HB2.out.size).takeP hj) gp x.1 hx2)
              obtain ⟨ph, hph⟩ : ∃ ph, placeHas (l.take j) x.2 = ph := ⟨_, rfl⟩
              rw [hph] at R
              have HPH := Lib.hid hph
              have HX2 := Lib.hid hx2
              clear hb2 hw2 hph hx2
              go_wp2_with fail
              refine R.out.mono ?_
              rintro e w3 ⟨rfl, hb3⟩
              have HB3 := Lib.hid (HB2.out.trans (hb3.mono HB2.out.size))
              have hx3 := HX2.out.below hb3 HX2.out.lt
              have u1 : w3.cell? ⟨gp, 1, none⟩ = some (.string x.2) := by rw [hx3.cell]; rfl
              clear hb3 hx3 z1 R
              cases ph with
              | true =>
                obtain rfl : false = rv := by rw [← HRV.out]; exact (tree_no HX.out (by unfold stepOk; rw [HPH.out]; simp)).symm
                go_wp2
                go_ret
                exact ⟨rfl, HB3.out⟩
              | false =>
                have hso : stepAt l j = true := by rw [stepAt_eq HX.out]; unfold stepOk numOk; rw [HNI.out, HPH.out, g1, g2, g3]; simp
                have hall2 : ∀ i, i < j + 1 → stepAt l i = true := fun i hi => by
                  rcases Nat.lt_or_ge i j with h | h
                  · exact hall.out i h
                  · obtain rfl : i = j := by omega
                    exact hso
                have HA2 := Lib.hid hall2
                have hin := inbox_step HX.out
                rw [← hcc.out] at hin
                have HIN := Lib.hid hin
                have hII : isInbox x = (x.2.toList == [73, 78, 66, 79, 88]) := rfl
                obtain ⟨ii, hii⟩ : ∃ ii, (x.2.toList == [73, 78, 66, 79, 88]) = ii := ⟨_, rfl⟩
                rw [hii] at hII
                have HII := Lib.hid hII
                clear hso hall2 hin hII
                cases ii with
                | true =>
                  go_wp2
                  go_roundw
                  case rel => exact ⟨j + 1, cc + 1, by go_num, by omega, by omega, by go_num, by rw [HIN.out, HII.out]; exact rfl, HA2, HB3⟩
                  case measure => simp [intOf]; omega
                | false =>
                  go_wp2
                  go_roundw
                  case rel => exact ⟨j + 1, cc, by go_num, by omega, by omega, rfl, by rw [HIN.out, HII.out]; exact rfl, HA2, HB3⟩
                  case measure => simp [intOf]; omega
          · have g3 : decide (0 < j) = true := by simp; omega
            obtain ⟨y, hy⟩ : ∃ y, l[j - 1]? = some y := ⟨_, List.getElem?_eq_getElem (by have := HL.out; omega)⟩
            obtain ⟨adp, eadp, _, hcp⟩ := (HR.out.below hb.out).2 (by omega)
            injection eadp with eadp
            subst eadp
            obtain ⟨p0, _⟩ := place_at hcp hy
            have hpl : (ad.add ((j - 1) * 2)).block < wr.heap.size := by rw [block_of_add] at hadl' ⊢; exact hadl'
            have p1 : w1.cell? (ad.add ((j - 1) * 2)) = some (.int .i64 y.1) := by rw [← hw1]; exact (World.cell?_alloc_lt wr _ _ hpl).trans p0
            have q0 : ∀ dd os, (Sort.grow (redrawn w1 dd) os).cell? (ad.add ((j - 1) * 2)) = some (.int .i64 y.1) := fun dd os => cell_regrown p1 dd os
            have hpv : prevN l j = y.1 := by unfold prevN; rw [hy]
            have jm : (j : Int) - 1 = ((j - 1 : Nat) : Int) := by omega
            have jm0 : (0 : Int) ≤ ((j - 1 : Nat) : Int) := by omega
            have jm1 : ((j - 1 : Nat) : Int) < (n : Int) := by omega
            have HPV := Lib.hid hpv
            clear hpv hy hcp p0 p1 hpl
            generalize j - 1 = jp at *
            by_cases hle : x.1 ≤ y.1
            · have g4 : decide (x.1 ≤ y.1) = true := by simp; omega
              obtain rfl : false = rv := by rw [← HRV.out]; exact (tree_no hx (by unfold stepOk numOk; rw [g3, HPV.out, g4]; simp)).symm
              clear hx hc
              go_upto_region 5 with fail
              refine wp_region_quiet_below (by kernel_rfl) (by kernel_rfl) ?_
              repeat (go_big_quiet_step (first | (go_at_call 91; exact Calls.regrown_of (HN.out _ _))))
              refine wpQuiet_nil ?_
              intro w2 hw2
              have hb2 : Below w1.heap.size w1 w2 := by
                obtain ⟨p, hw2⟩ := hw2
                rw [hw2]; exact below_regrown _ _ _
              go_wp2
              go_ret
              exact ⟨rfl, HB1.out.trans (hb2.mono HB1.out.size)⟩
            · have g4 : decide (x.1 ≤ y.1) = false := by simp; omega
              cases ni with
              | false =>
                obtain rfl : false = rv := by rw [← HRV.out]; exact (tree_no hx (by unfold stepOk numOk; rw [HNI.out]; simp)).symm
                clear hx hc
                go_upto_region 5 with fail
                refine wp_region_quiet_below (by kernel_rfl) (by kernel_rfl) ?_
                repeat (go_big_quiet_step (first | (go_at_call 91; exact Calls.regrown_of (HN.out _ _))))
                refine wpQuiet_nil ?_
                intro w2 hw2
                have hb2 : Below w1.heap.size w1 w2 := by
                  obtain ⟨p, hw2⟩ := hw2
                  rw [hw2]; exact below_regrown _ _ _
                go_wp2
                go_ret
                exact ⟨rfl, HB1.out.trans (hb2.mono HB1.out.size)⟩
              | true =>
                clear hx hc
                go_upto_region 5 with fail
                refine wp_region_quiet_below (by kernel_rfl) (by kernel_rfl) ?_
                repeat (go_big_quiet_step (first | (go_at_call 91; exact Calls.regrown_of (HN.out _ _))))
                refine wpQuiet_nil ?_
                intro w2 hw2
                have hb2 : Below w1.heap.size w1 w2 := by
                  obtain ⟨p, hw2⟩ := hw2
                  rw [hw2]; exact below_regrown _ _ _
                have HB2 := Lib.hid (HB1.out.trans (hb2.mono HB1.out.size))
                have hx2 := HXB.out.below hb2 HXB.out.lt
                have z1 : w2.cell? ⟨gp, 1, none⟩ = some (.string x.2) := by rw [hx2.cell]; rfl
                have R := Lib.hid (contains_any (some ad) c j (l.take j) x.2 w2 (by rw [List.length_take]; have := HL.out; omega) (by omega) (((HR.out.below HB2.out).more HB2.out.size).takeP hj) gp x.1 hx2)
                obtain ⟨ph, hph⟩ : ∃ ph, placeHas (l.take j) x.2 = ph := ⟨_, rfl⟩
                rw [hph] at R
                have HPH := Lib.hid hph
                have HX2 := Lib.hid hx2
                clear hb2 hw2 hph hx2
                go_wp2_with fail
                refine R.out.mono ?_
                rintro e w3 ⟨rfl, hb3⟩
                have HB3 := Lib.hid (HB2.out.trans (hb3.mono HB2.out.size))
                have hx3 := HX2.out.below hb3 HX2.out.lt
                have u1 : w3.cell? ⟨gp, 1, none⟩ = some (.string x.2) := by rw [hx3.cell]; rfl
                clear hb3 hx3 z1 R
                cases ph with
                | true =>
                  obtain rfl : false = rv := by rw [← HRV.out]; exact (tree_no HX.out (by unfold stepOk; rw [HPH.out]; simp)).symm
                  go_wp2
                  go_ret
                  exact ⟨rfl, HB3.out⟩
                | false =>
                  have hso : stepAt l j = true := by rw [stepAt_eq HX.out]; unfold stepOk numOk; rw [HNI.out, HPH.out, g1, g2, g3, HPV.out, g4]; simp
                  have hall2 : ∀ i, i < j + 1 → stepAt l i = true := fun i hi => by
                    rcases Nat.lt_or_ge i j with h | h
                    · exact hall.out i h
                    · obtain rfl : i = j := by omega
                      exact hso
                  have HA2 := Lib.hid hall2
                  have hin := inbox_step HX.out
                  rw [← hcc.out] at hin
                  have HIN := Lib.hid hin
                  have hII : isInbox x = (x.2.toList == [73, 78, 66, 79, 88]) := rfl
                  obtain ⟨ii, hii⟩ : ∃ ii, (x.2.toList == [73, 78, 66, 79, 88]) = ii := ⟨_, rfl⟩
                  rw [hii] at hII
                  have HII := Lib.hid hII
                  clear hso hall2 hin hII
                  cases ii with
                  | true =>
                    go_wp2
                    go_roundw
                    case rel => exact ⟨j + 1, cc + 1, by go_num, by omega, by omega, by go_num, by rw [HIN.out, HII.out]; exact rfl, HA2, HB3⟩
                    case measure => simp [intOf]; omega
                  | false =>
                    go_wp2
                    go_roundw
                    case rel => exact ⟨j + 1, cc, by go_num, by omega, by omega, rfl, by rw [HIN.out, HII.out]; exact rfl, HA2, HB3⟩
                    case measure => simp [intOf]; omega
    · obtain rfl : j = n := by omega
      have hv := tree_yes (l := l) (fun i hi => hall.out i (by have := HL.out; omega))
      have hcc2 := hcc.out
      rw [List.take_of_length_le (by have := HL.out; omega)] at hcc2
      rw [← hcc2, HRV.out] at hv
      have HV := Lib.hid hv
      clear hv hcc2
      go_wp2
      go_ret
      refine ⟨?_, hb.out⟩
      rw [HV.out]
      exact ret_bool (by rw [Bool.eq_iff_iff]; simp; omega)
end Go.Proofs.YtmjikfeaopmejaaGreatDoor
/-
  Walks of a page: the program's Put and Get.
-/
namespace Go.Proofs.YtmjikfeaopmejaaGreatDoor
open Go.RowKit
theorem lit8 {w : World} {g : Nat} {p : Nat × Nat} {l : List UInt8} (h : w.heap[g]? = some (.cells (u8s l).toArray 5 p)) : Reads w w.heap.size 1 (some ⟨g, 0, none⟩) l.length (u8s l) := by
  refine ⟨by rw [u8s_length, Nat.mul_one], fun _ => ⟨_, rfl, lt_of_get h, fun j u hu => ?_⟩⟩
  have ha : (⟨g, 0, none⟩ : Addr).add j = ⟨g, j, none⟩ := by unfold Addr.add; split <;> simp_all
  rw [ha, cell_of_row w g j _ _ p h]
  simpa using hu
set_option maxRecDepth 100000 in
theorem page_long (k : Nat) (hk : 1 ≤ k ∧ k ≤ 3) (A : Option Addr) (n c : Nat) (hn : 60000 < n) (w : World) :
    Calls Tryz.prog 90 #[.int .i64 (k : Nat), .slice A n c] w fun e w' => e = .returned (.tuple #[.slice none 0 0, .int .i64 3]) ∧ w' = w := by
  have k1 : decide ((k : Int) < 1) = false := by simp; omega
  have k2 : decide (3 < (k : Int)) = false := by simp; omega
  have k3 : decide (60000 < (n : Int)) = true := by simp; omega
  go_enter Tryz.func90, Tryz.ntmps90
  go_wp2
  go_ret2
  exact ⟨rfl, rfl⟩
set_option maxRecDepth 100000 in
theorem page_Put (k : Nat) (hk : 1 ≤ k ∧ k ≤ 3) (A : Option Addr) (n c : Nat) (l : List UInt8) (hl : l.length = n) (hn : n ≤ 60000) (w : World) (hr : Reads w w.heap.size 1 A n (u8s l)) :
    Calls Tryz.prog 90 #[.int .i64 (k : Nat), .slice A n c] w fun e w' => ∃ v, e = .returned (.tuple #[v, .int .i64 0]) ∧ w'.ownsRow w.heap.size 5 1 v (pageB k l).length (u8s (pageB k l)) ∧ Below w.heap.size w w' := by
  have k1 : decide ((k : Int) < 1) = false := by simp; omega
  have k2 : decide (3 < (k : Int)) = false := by simp; omega
  have k3 : decide (60000 < (n : Int)) = false := by simp; omega
  have hb0 := (Below.refl w.heap.size w).alloc (Nat.le_refl _) (.cells #[.slice none 0 0, .bool false] 74)
  have ho0 := out_new (w := w) (Nat.le_refl w.heap.size)
  have hr0 := hr.below hb0
  obtain ⟨w0, hw0⟩ : ∃ w0, w.alloc (.cells #[.slice none 0 0, .bool false] 74) = w0 := ⟨_, rfl⟩
  rw [hw0] at hb0 ho0 hr0
  obtain ⟨o, ho⟩ : ∃ o, w.heap.size = o := ⟨_, rfl⟩
  have hob : Hid (w.heap.size ≤ o) := by show _ ≤ _; omega
  have hbl : Below w0.heap.size w0 (w0.alloc (.cells #[.int .u8 112, .int .u8 97, .int .u8 103] 5 (3, 4))) := (Below.refl _ _).alloc (Nat.le_refl _) _
  have hlit : Reads (w0.alloc (.cells #[.int .u8 112, .int .u8 97, .int .u8 103] 5 (3, 4))) (w0.alloc (.cells #[.int .u8 112, .int .u8 97, .int .u8 103] 5 (3, 4))).heap.size 1 (some ⟨w0.heap.size, 0, none⟩) 3 (u8s [112, 97, 103]) := lit8 (l := [112, 97, 103]) (p := (3, 4)) (heap_alloc_new w0 _)
  rw [show OutAt w0 w.heap.size w.heap.size [] false (.slice none 0 0) = OutAt w0 w.heap.size o [] false (.slice none 0 0) by rw [ho]] at ho0
  have R1 := Lib.hid (out_Raw (ho0.below hbl) (Nat.le_trans hb0.size hbl.size) (by simp) (some ⟨w0.heap.size, 0, none⟩) 3 3 [112, 97, 103] rfl (by omega) hlit)
  have HB0 := Lib.hid (((OBut.of_below (B := w.heap.size) (o := o) (hb0.mono (Nat.le_refl _)))).below hbl)
  have HR := Lib.hid hr
  have HC0 : Hid (w.heap.size ≤ w.heap.size) := Nat.le_refl _
  have HBW : Hid (∀ w', OBut w.heap.size o w w' → Below w.heap.size w w') := fun w' h => h.toBelow (Nat.le_refl _) (Nat.le_refl _) hob.out
  have hcv := Lib.run_convert_bytes_const (P := Tryz.prog) w0 23 5 #[.int .u8 112, .int .u8 97, .int .u8 103] 3 3 Tryz.underlying23 Tryz.underlying5
  clear hb0 ho0 hr0 hbl hlit hr
  go_enter Tryz.func90, Tryz.ntmps90
  go_wp2_with fail
  refine R1.out.mono ?_
  rintro e w1 ⟨rfl, ⟨v1, h1⟩, hb1⟩
  have hB1 := HB0.out.trans hb1
  have R2 := Lib.hid (out_N h1 hB1.size (by simp) k 1 (by omega) (by omega))
  have HB1 := Lib.hid hB1
  clear h1 hb1 hB1 R1 HB0 hcv
  go_wp2_with fail
  refine R2.out.mono ?_
  rintro e w2 ⟨rfl, ⟨v2, h2⟩, hb2⟩
  have hB2 := HB1.out.trans hb2
  have R3 := Lib.hid (out_N h2 hB2.size (by simp [be_length]) n 4 (by omega) (by omega))
  have HB2 := Lib.hid hB2
  clear h2 hb2 hB2 R2 HB1
  go_wp2_with fail
  refine R3.out.mono ?_
  rintro e w3 ⟨rfl, ⟨v3, h3⟩, hb3⟩
  have hB3 := HB2.out.trans hb3
  have R4 := Lib.hid (out_Raw h3 hB3.size (by simp [be_length]) A n c l hl (by omega) ((HR.out.below (HBW.out _ hB3)).more hB3.size))
  have HB3 := Lib.hid hB3
  clear h3 hb3 hB3 R3 HB2
  go_wp2_with fail
  refine R4.out.mono ?_
  rintro e w4 ⟨rfl, ⟨v4, h4⟩, hb4⟩
  have hh : ((([] ++ [112, 97, 103]) ++ be 1 k) ++ be 4 n) ++ l = pageHead k l := by
    unfold pageHead
    rw [hl]
    simp [be]
  rw [hh] at h4
  have hB4 := HB3.out.trans hb4
  have hpl : (pageHead k l).length ≤ 60008 := by rw [pageHead_length]; omega
  have R5 := Lib.hid (out_End h4 (by omega))
  have H4 := Lib.hid h4
  have HB4 := Lib.hid hB4
  clear h4 hb4 hB4 R4 HB3 hh
  go_wp2_with fail
  refine R5.out.mono ?_
  rintro e w5 ⟨r5, rfl, ho5, hb5⟩
  obtain ⟨A5, c5, rfl, hr5⟩ := own8_reads ho5
  have R6 := Lib.hid (crc_any A5 _ c5 _ w5 rfl (by omega) hr5)
  have hB5 := HB4.out.below hb5
  have hcl := crc_lt (pageHead k l)
  have R7 := Lib.hid (out_N (H4.out.below hb5) hB5.size (by omega) (crc (pageHead k l)) 4 (by omega) (by omega))
  have HB5 := Lib.hid hB5
  clear ho5 hb5 hr5 hB5 H4 HB4 R5
  obtain ⟨cr, hcr⟩ : ∃ cr, crc (pageHead k l) = cr := ⟨_, rfl⟩
  rw [hcr] at R6 R7 hcl
  have HCR := Lib.hid hcr
  clear hcr
  go_wp2_with fail
  refine R6.out.mono ?_
  rintro e w6 ⟨rfl, rfl⟩
  go_wp2_with fail
  refine R7.out.mono ?_
  rintro e w7 ⟨rfl, ⟨v7, h7⟩, hb7⟩
  have hh : pageHead k l ++ be 4 cr = pageB k l := by unfold pageB; rw [HCR.out]
  rw [hh] at h7
  have R8 := Lib.hid (out_End h7 (by rw [pageB_length]; omega))
  have HB7 := Lib.hid (HB5.out.trans hb7)
  clear h7 hb7 R7 HB5 hh
  go_wp2_with fail
  refine R8.out.mono ?_
  rintro e w8 ⟨r8, rfl, ho8, hb8⟩
  have HO8 := Lib.hid (own_mono ho8 HB7.out.size)
  have HB8 := Lib.hid (HBW.out _ (HB7.out.below hb8))
  clear ho8 hb8
  go_wp2
  go_ret2
  exact ⟨r8, rfl, HO8.out, HB8.out⟩
/-- whatever is put: some bytes, or an error -/
theorem page_any (k : Nat) (hk : 1 ≤ k ∧ k ≤ 3) (A : Option Addr) (n c : Nat) (l : List UInt8) (hl : l.length = n) (w : World) (hr : Reads w w.heap.size 1 A n (u8s l)) :
    Calls Tryz.prog 90 #[.int .i64 (k : Nat), .slice A n c] w fun e w' => ∃ v, e = .returned (.tuple #[v, .int .i64 (if n ≤ 60000 then 0 else 3)]) ∧ w'.ownsRow w.heap.size 5 1 v (if n ≤ 60000 then pageB k l else []).length (u8s (if n ≤ 60000 then pageB k l else [])) ∧ Below w.heap.size w w' := by
  by_cases hn : n ≤ 60000
  · rw [if_pos hn, if_pos hn]
    exact page_Put k hk A n c l hl hn w hr
  · rw [if_neg hn, if_neg hn]
    refine (page_long k hk A n c (by omega) w).mono ?_
    rintro e w' ⟨rfl, rfl⟩
    exact ⟨_, rfl, World.ownsRow_nil _ _ _ _, Below.refl _ _⟩
theorem midOf_reads {w : World} {B n c : Nat} {A : Option Addr} {l : List UInt8} (hl : l.length = n) (hc : n ≤ c) (h12 : 12 ≤ n) (hr : Reads w B 1 A n (u8s l)) : ∃ ad, A = some ad ∧ Reads w B 1 (some (ad.add 8)) (n - 12) (u8s (midOf l)) := by
  obtain ⟨ad, rfl, _, _⟩ := hr.2 (by omega)
  refine ⟨ad, rfl, ?_⟩
  have h1 := hr.drop8 (k := 8) (c := c) (by omega) hc
  rw [if_neg (by omega)] at h1
  have h2 := h1.take8 (k := n - 12) (by omega)
  unfold midOf
  rw [hl]
  exact h2
set_option maxRecDepth 100000 in
theorem page_short (k : Nat) (A : Option Addr) (n c : Nat) (hn : n < 12) (w : World) :
    Calls Tryz.prog 75 #[.int .i64 (k : Nat), .slice A n c] w fun e w' => e = .returned (.tuple #[.slice none 0 0, .int .i64 9]) ∧ w' = w := by
  have k3 : decide ((n : Int) < 12) = true := by simp; omega
  go_enter Tryz.func75, Tryz.ntmps75
  go_wp2
  go_ret2
  exact ⟨rfl, rfl⟩
set_option maxRecDepth 100000 in
theorem page_mid (k : Nat) (hk : 1 ≤ k ∧ k ≤ 3) (ad : Addr) (n c : Nat) (hc : n ≤ c) (h12 : 12 ≤ n) (hn : n ≤ 1000000) (l : List UInt8) (hl : l.length = n) (w : World) (hr : Reads w w.heap.size 1 (some ad) n (u8s l)) :
    Calls Tryz.prog 75 #[.int .i64 (k : Nat), .slice (some ad) n c] w fun e w' => ∃ v, e = .returned (.tuple #[v, .int .i64 (if (pageGet k l).isSome = true then 0 else 9)]) ∧ w'.ownsRow w.heap.size 5 1 v ((pageGet k l).getD []).length (u8s ((pageGet k l).getD [])) ∧ Below w.heap.size w w' := by
  have k3 : decide ((n : Int) < 12) = false := by simp; omega
  obtain ⟨_, e, hm⟩ := midOf_reads hl hc h12 hr
  injection e with e
  subst e
  have hml : (midOf l).length = n - 12 := by have := hm.1; rw [u8s_length] at this; omega
  obtain ⟨m, hmn⟩ : ∃ m, n - 12 = m := ⟨_, rfl⟩
  rw [hmn] at hm hml
  have e4 : (n : Int) - 4 = ((m + 8 : Nat) : Int) := by omega
  have R1 := Lib.hid (page_any k hk (some (ad.add 8)) m (c - 8) (midOf l) hml w hm)
  have HR := Lib.hid hr
  have HM := Lib.hid hm
  have h88 : m + 8 - 8 = m := by omega
  have ea : ad.add 8 = ⟨ad.block, ad.off + 8, none⟩ := by unfold Addr.add; simp
  rw [ea] at R1 HM
  have i1 : (8 : Int) ≤ (n : Int) - 4 := by omega
  have i2 : (n : Int) - 4 ≤ (c : Int) := by omega
  clear hr hm ea
  have hpg : pageGet k l = if m ≤ 60000 ∧ pageB k (midOf l) = l then some (midOf l) else none := by
    unfold pageGet
    rw [hml]
    by_cases h : m ≤ 60000 ∧ pageB k (midOf l) = l
    · rw [if_pos ⟨by omega, h.1, h.2⟩, if_pos h]
    · rw [if_neg (fun h' => h h'.2), if_neg h]
  by_cases hm6 : m ≤ 60000
  · rw [if_pos hm6, if_pos hm6] at R1
    by_cases heq : pageB k (midOf l) = l
    · have hv : pageGet k l = some (midOf l) := by rw [hpg, if_pos ⟨hm6, heq⟩]
      rw [hv]
      rw [heq] at R1
      dsimp only [Option.isSome_some, Option.getD_some]
      rw [if_pos rfl, hml]
      have hll : (l == l) = true := by simp
      have HML := Lib.hid hml
      clear hpg hv heq hml
      go_enter Tryz.func75, Tryz.ntmps75
      go_wp2_with fail
      refine R1.out.mono ?_
      rintro e w1 ⟨v1, rfl, ho1, hb1⟩
      obtain ⟨A1, c1, rfl, hr1⟩ := own8_reads ho1
      have hr' := (HR.out.below hb1).more hb1.size
      have hm' := (HM.out.below hb1).more hb1.size
      rw [hl] at hr1 ⊢
      have R2 := Lib.hid (equal_any A1 (some ad) n c1 n c l l w1 hl hl hr1 hr')
      rw [hll] at R2
      have R3 := Lib.hid (clone_any (some ⟨ad.block, ad.off + 8, none⟩) m (c - 8) (midOf l) w1 HML.out (by omega) hm')
      have HB1 := Lib.hid hb1
      clear ho1 hb1 hr1 hr' hm' R1
      go_wp2_with fail
      refine R2.out.mono ?_
      rintro e w2 ⟨rfl, rfl⟩
      go_wp2_with fail
      refine R3.out.mono ?_
      rintro e w3 ⟨v3, rfl, ho3, hb3⟩
      have HO3 := Lib.hid (own_mono ho3 HB1.out.size)
      have HB3 := Lib.hid (HB1.out.trans (hb3.mono HB1.out.size))
      clear ho3 hb3
      go_wp2
      go_ret2
      exact ⟨v3, rfl, HO3.out, HB3.out⟩
    · have hv : pageGet k l = none := by rw [hpg, if_neg (fun h => heq h.2)]
      rw [hv]
      dsimp only [Option.isSome_none, Option.getD_none]
      rw [if_neg (by decide)]
      have hll : (pageB k (midOf l) == l) = false := by simpa using heq
      obtain ⟨pb, hpb⟩ : ∃ pb, pageB k (midOf l) = pb := ⟨_, rfl⟩
      rw [hpb] at R1 hll
      clear hpg hv heq hml hpb
      go_enter Tryz.func75, Tryz.ntmps75
      go_wp2_with fail
      refine R1.out.mono ?_
      rintro e w1 ⟨v1, rfl, ho1, hb1⟩
      obtain ⟨A1, c1, rfl, hr1⟩ := own8_reads ho1
      have hr' := (HR.out.below hb1).more hb1.size
      have R2 := Lib.hid (equal_any A1 (some ad) pb.length c1 n c pb l w1 rfl hl hr1 hr')
      rw [hll] at R2
      have HB1 := Lib.hid hb1
      clear ho1 hb1 hr1 hr' R1
      go_wp2_with fail
      refine R2.out.mono ?_
      rintro e w2 ⟨rfl, rfl⟩
      go_wp2
      go_ret2
      exact ⟨_, rfl, World.ownsRow_nil _ _ _ _, HB1.out⟩
  · rw [if_neg hm6, if_neg hm6] at R1
    have hv : pageGet k l = none := by rw [hpg, if_neg (fun h => hm6 h.1)]
    rw [hv]
    dsimp only [Option.isSome_none, Option.getD_none]
    rw [if_neg (by decide)]
    clear hpg hv hml
    go_enter Tryz.func75, Tryz.ntmps75
    go_wp2_with fail
    refine R1.out.mono ?_
    rintro e w1 ⟨v1, rfl, ho1, hb1⟩
    have HB1 := Lib.hid hb1
    clear ho1 hb1 R1
    go_wp2
    go_ret2
    exact ⟨_, rfl, World.ownsRow_nil _ _ _ _, HB1.out⟩
/-- a page's payload, or an error -/
theorem page_Get (k : Nat) (hk : 1 ≤ k ∧ k ≤ 3) (A : Option Addr) (n c : Nat) (hc : n ≤ c) (hn : n ≤ 1000000) (l : List UInt8) (hl : l.length = n) (w : World) (hr : Reads w w.heap.size 1 A n (u8s l)) :
    Calls Tryz.prog 75 #[.int .i64 (k : Nat), .slice A n c] w fun e w' => ∃ v, e = .returned (.tuple #[v, .int .i64 (if (pageGet k l).isSome = true then 0 else 9)]) ∧ w'.ownsRow w.heap.size 5 1 v ((pageGet k l).getD []).length (u8s ((pageGet k l).getD [])) ∧ Below w.heap.size w w' := by
  by_cases h12 : 12 ≤ n
  · obtain ⟨ad, rfl, _⟩ := hr.2 (by omega)
    exact page_mid k hk ad n c hc h12 hn l hl w hr
  · have e : pageGet k l = none := by unfold pageGet; rw [if_neg (fun h => by omega)]
    rw [e]
    refine (page_short k A n c (by omega) w).mono ?_
    rintro e w' ⟨rfl, rfl⟩
    exact ⟨_, rfl, World.ownsRow_nil _ _ _ _, Below.refl _ _⟩
end Go.Proofs.YtmjikfeaopmejaaGreatDoor
/-
  Walks: what is put, and whether it is the same; a tree's page.
-/
namespace Go.Proofs.YtmjikfeaopmejaaGreatDoor
open Go.RowKit
def errLong (n : Nat) : Int := if n ≤ 60000 then 0 else 3
def pageOr (k : Nat) (l : List UInt8) : List UInt8 := if l.length ≤ 60000 then pageB k l else []
theorem page_or (k : Nat) (hk : 1 ≤ k ∧ k ≤ 3) (A : Option Addr) (c : Nat) (l : List UInt8) (w : World) (hr : Reads w w.heap.size 1 A l.length (u8s l)) :
    Calls Tryz.prog 90 #[.int .i64 (k : Nat), .slice A l.length c] w fun e w' => ∃ v, e = .returned (.tuple #[v, .int .i64 (errLong l.length)]) ∧ w'.ownsRow w.heap.size 5 1 v (pageOr k l).length (u8s (pageOr k l)) ∧ Below w.heap.size w w' := page_any k hk A l.length c l rfl w hr
set_option maxRecDepth 100000 in
theorem put_any {w : World} {B o : Nat} {l : List UInt8} {v0 : Value} (h : OutAt w B o l false v0) (hl : l.length ≤ 800000000) (k : Nat) (hk : 1 ≤ k ∧ k ≤ 3) :
    Calls Tryz.prog 78 #[.int .i64 (k : Nat), .pointer (some ⟨o, 0, none⟩)] w fun e w' => ∃ r, e = .returned (.tuple #[r, .int .i64 (errLong l.length)]) ∧ w'.ownsRow w.heap.size 5 1 r (pageOr k l).length (u8s (pageOr k l)) ∧ Below w.heap.size w w' := by
  have R1 := Lib.hid (out_End h hl)
  clear h
  go_enter Tryz.func78, Tryz.ntmps78
  go_wp2_with fail
  refine R1.out.mono ?_
  rintro e w1 ⟨v1, rfl, ho1, hb1⟩
  obtain ⟨A1, c1, rfl, hr1⟩ := own8_reads ho1
  have R2 := Lib.hid (page_or k hk A1 c1 l w1 hr1)
  have HB1 := Lib.hid hb1
  clear ho1 hr1 hb1 R1
  go_wp2_with fail
  refine R2.out.mono ?_
  rintro e w2 ⟨v2, rfl, ho2, hb2⟩
  have HO2 := Lib.hid (own_mono ho2 HB1.out.size)
  have HB2 := Lib.hid (HB1.out.trans (hb2.mono HB1.out.size))
  clear ho2 hb2 R2
  go_wp2
  go_ret2
  exact ⟨v2, rfl, HO2.out, HB2.out⟩
set_option maxRecDepth 100000 in
theorem same_any (A1 A2 : Option Addr) (n c m d : Nat) (l1 l2 : List UInt8) (e : Int) (w : World) (h1 : l1.length = n) (h2 : l2.length = m) (r1 : Reads w w.heap.size 1 A1 n (u8s l1)) (r2 : Reads w w.heap.size 1 A2 m (u8s l2)) :
    Calls Tryz.prog 76 #[.slice A1 n c, .int .i64 e, .slice A2 m d] w fun e' w' => e' = .returned (.bool (decide (e = 0) && (l1 == l2))) ∧ w' = w := by
  have R := Lib.hid (equal_any A1 A2 n c m d l1 l2 w h1 h2 r1 r2)
  generalize (l1 == l2) = q at *
  clear r1 r2
  by_cases he : e = 0
  · subst he
    go_enter Tryz.func76, Tryz.ntmps76
    go_wp2_with fail
    refine R.out.mono ?_
    rintro e w1 ⟨rfl, rfl⟩
    go_wp2
    go_ret
    exact ⟨by simp, rfl⟩
  · have g1 : (e == 0) = false := by simpa using he
    have g2 : decide (e = 0) = false := by simpa using he
    rw [g2, Bool.false_and]
    clear he g2
    go_enter Tryz.func76, Tryz.ntmps76
    go_wp2
    go_ret
    exact ⟨rfl, rfl⟩
def placeB (q : PlaceM) : List UInt8 := be 1 q.1.toNat ++ textB q.2
def treeB (l : List PlaceM) : List UInt8 := be 1 l.length ++ l.flatMap placeB
theorem tree_step {l : List PlaceM} {j : Nat} {x : PlaceM} (hx : l[j]? = some x) (h : rightTreeV l = true) : stepOk l j x = true := by
  cases hs : stepOk l j x with
  | true => rfl
  | false => rw [tree_no hx hs] at h; cases h
theorem stepOk_parts {l : List PlaceM} {j : Nat} {x : PlaceM} (h : stepOk l j x = true) : 0 ≤ x.1 ∧ x.1 < 16 ∧ (0 < j → prevN l j < x.1) ∧ nameIs x.2 = true ∧ placeHas (l.take j) x.2 = false := by
  unfold stepOk numOk at h
  simp only [Bool.and_eq_true, Bool.not_eq_true', decide_eq_false_iff_not, Bool.and_eq_false_imp, decide_eq_true_eq] at h
  exact ⟨by omega, by omega, fun hj => by have := h.1.1.2 hj; omega, h.1.2, h.2⟩
theorem tree_rise {l : List PlaceM} (h : rightTreeV l = true) : ∀ (j : Nat) (x : PlaceM), l[j]? = some x → (j : Int) ≤ x.1
  | 0, x, hx => (stepOk_parts (tree_step hx h)).1
  | j + 1, x, hx => by
    obtain ⟨y, hy⟩ : ∃ y, l[j]? = some y := ⟨_, List.getElem?_eq_getElem (by have := (List.getElem?_eq_some_iff.1 hx).1; omega)⟩
    have h1 := tree_rise h j y hy
    have h2 := (stepOk_parts (tree_step hx h)).2.2.1 (by omega)
    unfold prevN at h2
    rw [show j + 1 - 1 = j by omega, hy] at h2
    simp only at h2
    omega
theorem tree_len {l : List PlaceM} (h : rightTreeV l = true) : l.length ≤ 16 := by
  rcases Nat.lt_or_ge 16 l.length with hl | hl
  · exfalso
    have hx : l[16]? = some l[16] := List.getElem?_eq_getElem hl
    have h1 := tree_rise h 16 _ hx
    have h2 := (stepOk_parts (tree_step hx h)).2.1
    omega
  · exact hl
theorem flat_len (l : List PlaceM) (h : ∀ x ∈ l, x.2.size ≤ 60) : (l.flatMap placeB).length ≤ l.length * 63 := by
  induction l with
  | nil => simp
  | cons x r ih =>
    have h1 := h x (by simp)
    have h2 := ih (fun y hy => h y (by simp [hy]))
    rw [List.flatMap_cons, List.length_append, List.length_cons]
    have h3 : (placeB x).length = 3 + x.2.size := by unfold placeB textB; simp [be_length]; omega
    omega
theorem tree_names {l : List PlaceM} (h : rightTreeV l = true) : ∀ x ∈ l, x.2.size ≤ 60 := fun x hx => by
  obtain ⟨j, hj, e⟩ := List.getElem_of_mem hx
  have hxj : l[j]? = some x := by rw [List.getElem?_eq_getElem hj, e]
  exact nameIs_size (stepOk_parts (tree_step hxj h)).2.2.2.1
theorem treeB_len {l : List PlaceM} (h : rightTreeV l = true) : (treeB l).length ≤ 2000 := by
  have h1 := tree_len h
  have h2 := flat_len l (tree_names h)
  unfold treeB
  rw [List.length_append, be_length]
  omega
def treeErr (l : List PlaceM) : Int := if rightTreeV l = true then 0 else 1
def treePage (l : List PlaceM) : List UInt8 := if rightTreeV l = true then pageB 3 (treeB l) else []
set_option maxHeartbeats 800000 in
set_option maxRecDepth 100000 in
theorem putTree_any (A : Option Addr) (c n : Nat) (l : List PlaceM) (w : World) (hm : MaxCell w) (hg : 0 < w.heap.size) (hsz : ∀ q ∈ l, q.2.size ≤ 9223372036854775807) (hn2 : l.length = n) (hn : n ≤ 100000) (hcn : n ≤ c) (hr : Reads w w.heap.size 2 A n (pcells l)) :
    Calls Tryz.prog 59 #[.slice A n c] w fun e w' => ∃ r, e = .returned (.tuple #[r, .int .i64 (treeErr l)]) ∧ w'.ownsRow w.heap.size 5 1 r (treePage l).length (u8s (treePage l)) ∧ Below w.heap.size w w' := by
  have R1 := Lib.hid (rightTree_any A c n l w hm hg hsz hn2 hn hcn hr)
  have HR := Lib.hid hr
  have HL := Lib.hid hn2
  unfold treeErr treePage
  cases hv : rightTreeV l with
  | false =>
    rw [hv] at R1
    rw [if_neg (by simp), if_neg (by simp)]
    clear hr hn2 hv hsz hm
    go_enter Tryz.func59, Tryz.ntmps59
    go_wp2_with fail
    refine R1.out.mono ?_
    rintro e w1 ⟨rfl, hb1⟩
    go_wp2
    go_ret2
    exact ⟨_, rfl, World.ownsRow_nil _ _ _ _, hb1⟩
  | true =>
    rw [hv] at R1
    rw [if_pos rfl, if_pos rfl]
    have hl16 := tree_len hv
    have HP : Hid (∀ (j : Nat) (x : PlaceM), l[j]? = some x → 0 ≤ x.1 ∧ x.1 < 16 ∧ x.2.size ≤ 60) := fun j x hx => by
      have h := stepOk_parts (tree_step hx hv)
      exact ⟨h.1, h.2.1, nameIs_size h.2.2.2.1⟩
    have HTL := Lib.hid (treeB_len hv)
    have HFL : Hid (∀ j, j ≤ n → ((l.take j).flatMap placeB).length ≤ 2000) := fun j hj => by
      have h1 := flat_len (l.take j) (fun x hx => tree_names hv x (List.mem_of_mem_take hx))
      rw [List.length_take] at h1
      omega
    have hn16 : n ≤ 16 := by omega
    clear hr hn2 hv hsz hm hl16
    go_enter Tryz.func59, Tryz.ntmps59
    go_wp2_with fail
    refine R1.out.mono ?_
    rintro e w1 ⟨rfl, hb1⟩
    have hb0 := (Below.refl w1.heap.size w1).alloc (Nat.le_refl _) (.cells #[.slice none 0 0, .bool false] 74)
    have ho0 := out_new (w := w1) (B := w.heap.size) hb1.size
    obtain ⟨w0, hw0⟩ : ∃ w0, w1.alloc (.cells #[.slice none 0 0, .bool false] 74) = w0 := ⟨_, rfl⟩
    obtain ⟨o, ho⟩ : ∃ o, w1.heap.size = o := ⟨_, rfl⟩
    have hob : Hid (w.heap.size ≤ o) := by show _ ≤ _; have := hb1.size; omega
    rw [hw0, ho] at ho0
    rw [hw0] at hb0
    have hbw := hb1.trans (hb0.mono hb1.size)
    have R2 := Lib.hid (out_N ho0 hbw.size (by simp) n 1 (by omega) (by omega))
    have HBW := Lib.hid hbw
    clear hb1 hb0 ho0 R1 hbw
    go_wp2_with fail
    clear hw0 ho
    refine R2.out.mono ?_
    rintro e w2 ⟨rfl, ⟨v2, h2⟩, hb2⟩
    have HB2 := Lib.hid (HBW.out.trans (hb2.toBelow HBW.out.size (Nat.le_refl _) hob.out))
    have HO2 := Lib.hid h2
    clear h2 hb2 R2
    go_wp2
    go_loopw [15] (fun k wr => ∃ (j : Nat) (v : Value), k = .int .i64 j ∧ j ≤ n ∧ Hid (OutAt wr w.heap.size o (be 1 n ++ (l.take j).flatMap placeB) false v) ∧ Hid (Below w.heap.size w wr)) (fun k _ => n - (intOf k).toNat)
    case atStart => exact ⟨0, v2, rfl, by omega, by simpa using HO2, HB2⟩
    case round =>
      obtain ⟨j, v, rfl, hj, ho, hb⟩ := hrel
      by_cases hlt : j < n
      · obtain ⟨x, hx⟩ : ∃ x, l[j]? = some x := ⟨_, List.getElem?_eq_getElem (by have := HL.out; omega)⟩
        obtain ⟨p0, p1, p2⟩ := HP.out j x hx
        obtain ⟨xi, xs⟩ := x
        obtain ⟨xn, rfl⟩ : ∃ xn : Nat, xi = xn := ⟨xi.toNat, by simp only at p0; omega⟩
        obtain ⟨ad, rfl, hadl, hc⟩ := (HR.out.below hb.out).2 (by omega)
        obtain ⟨k0, k1⟩ := place_at hc hx
        simp only at k0 k1 p0 p1 p2
        have hadl' : (ad.add (j * 2)).block < wr.heap.size := by rw [block_of_add]; exact Nat.lt_of_lt_of_le hadl hb.out.size
        have hbx := (Below.refl wr.heap.size wr).alloc (Nat.le_refl _) (.cells #[.int .i64 (xn : Int), .string xs] 115)
        have hxb : Blk (wr.alloc (.cells #[.int .i64 (xn : Int), .string xs] 115)) wr.heap.size 115 #[.int .i64 (xn : Int), .string xs] := Blk.new wr _ _
        have ho1 := ho.out.below hbx
        have hb1 := hb.out.trans (hbx.mono hb.out.size)
        have hfl := HFL.out j hj
        have hlen : (be 1 n ++ (l.take j).flatMap placeB).length ≤ 2001 := by rw [List.length_append, be_length]; omega
        have hst : be 1 n ++ (l.take (j + 1)).flatMap placeB = ((be 1 n ++ (l.take j).flatMap placeB) ++ be 1 xn) ++ textB xs := by
          rw [List.take_add_one, hx]
          simp [placeB, List.flatMap_append, List.append_assoc]
        have HST := Lib.hid hst
        obtain ⟨gp, hgp⟩ : ∃ gp, wr.heap.size = gp := ⟨_, rfl⟩
        have hgo : gp ≠ o := by have := ho.out.cells.lt; omega
        obtain ⟨w3, hw3⟩ : ∃ w3, wr.alloc (.cells #[.int .i64 (xn : Int), .string xs] 115) = w3 := ⟨_, rfl⟩
        rw [hw3] at hxb ho1 hb1
        rw [hgp] at hxb
        have R3 := Lib.hid (out_N ho1 hb1.size (by omega) xn 1 (by omega) (by omega))
        have z0 : w3.cell? ⟨gp, 0, none⟩ = some (.int .i64 (xn : Int)) := by rw [hxb.cell]; rfl
        have HB1 := Lib.hid hb1
        have HXB := Lib.hid hxb
        clear hx hc hst hadl hbx hxb ho1 hb1 hfl
        go_wp2_with fail
        clear hw3 hgp k0 k1 hadl'
        refine R3.out.mono ?_
        rintro e w4 ⟨rfl, ⟨v4, h4⟩, hb4⟩
        have hx4 := HXB.out.obut hb4 hgo (by decide)
        have hb14 := HB1.out.trans (hb4.toBelow HB1.out.size (Nat.le_refl _) hob.out)
        have z1 : w4.cell? ⟨gp, 1, none⟩ = some (.string xs) := by rw [hx4.cell]; rfl
        have R4 := Lib.hid (out_Text h4 hb14.size (by rw [List.length_append, be_length]; omega) xs (by omega))
        have HB14 := Lib.hid hb14
        clear h4 hb4 hb14 hx4 R3 z0
        go_wp2_with fail
        refine R4.out.mono ?_
        rintro e w5 ⟨rfl, ⟨v5, h5⟩, hb5⟩
        rw [← HST.out] at h5
        have H5 := Lib.hid h5
        have HB5 := Lib.hid (HB14.out.trans (hb5.toBelow HB14.out.size (Nat.le_refl _) hob.out))
        clear h5 hb5 R4 z1
        go_wp2
        go_roundw
        case rel => exact ⟨j + 1, v5, by go_num, by omega, H5, HB5⟩
        case measure => simp [intOf]; omega
      · obtain rfl : j = n := by omega
        have hfin : be 1 j ++ (l.take j).flatMap placeB = treeB l := by
          unfold treeB
          rw [List.take_of_length_le (by have := HL.out; omega), HL.out]
        have ho1 := ho.out
        rw [hfin] at ho1
        have R9 := Lib.hid (put_any ho1 (by have := HTL.out; omega) 3 (by omega))
        have he : errLong (treeB l).length = 0 := by unfold errLong; rw [if_pos (by have := HTL.out; omega)]
        have hp : pageOr 3 (treeB l) = pageB 3 (treeB l) := by unfold pageOr; rw [if_pos (by have := HTL.out; omega)]
        rw [he, hp] at R9
        clear ho1 hfin he hp
        go_wp2_with fail
        refine R9.out.mono ?_
        rintro e w9 ⟨r9, rfl, ho9, hb9⟩
        have HO9 := Lib.hid (own_mono ho9 hb.out.size)
        have HB9 := Lib.hid (hb.out.trans (hb9.mono hb.out.size))
        clear ho9 hb9
        go_wp2
        go_ret2
        exact ⟨r9, rfl, HO9.out, HB9.out⟩
end Go.Proofs.YtmjikfeaopmejaaGreatDoor
/-
  Walk: a page's tree.
-/
namespace Go.Proofs.YtmjikfeaopmejaaGreatDoor
open Go.RowKit
def inTreeL : Nat → InM → List PlaceM × InM
  | 0, s => ([], s)
  | n + 1, s => ((inTreeL n s).1 ++ [(((inN (inTreeL n s).2 1).1 : Int), (inText (inN (inTreeL n s).2 1).2).1)], (inText (inN (inTreeL n s).2 1).2).2)
theorem inTreeL_len : ∀ (n : Nat) (s : InM), (inTreeL n s).1.length = n
  | 0, _ => rfl
  | n + 1, s => by
    show (_ ++ [_]).length = _
    rw [List.length_append, inTreeL_len n s]; rfl
theorem inTreeL_rest : ∀ (n : Nat) (s : InM), (inTreeL n s).2.rest.length ≤ s.rest.length
  | 0, _ => Nat.le_refl _
  | n + 1, s => Nat.le_trans (inText_rest _) (Nat.le_trans (inTake_rest _ _) (inTreeL_rest n s))
theorem inTake_part (s : InM) (n : Int) : (inTake s n).1.length ≤ s.rest.length := by
  unfold inTake
  split
  · simp
  · split
    · simp
    · simp only [List.length_take]; omega
theorem inText_size (s : InM) : (inText s).1.size ≤ s.rest.length := by
  unfold inText
  have h1 := inTake_part (inN s 2).2 (inN s 2).1
  have h2 : (inN s 2).2.rest.length ≤ s.rest.length := inTake_rest _ _
  show (inTake (inN s 2).2 (inN s 2).1).1.toArray.size ≤ _
  rw [List.size_toArray]
  omega
theorem inTreeL_sizes : ∀ (n : Nat) (s : InM), ∀ q ∈ (inTreeL n s).1, q.2.size ≤ s.rest.length
  | 0, s, q, h => by cases h
  | n + 1, s, q, h => by
    rcases List.mem_append.1 h with h | h
    · exact inTreeL_sizes n s q h
    · rw [List.mem_singleton] at h
      subst h
      exact Nat.le_trans (inText_size _) (Nat.le_trans (inTake_rest _ _) (inTreeL_rest n s))
def readTree (p : List UInt8) : List PlaceM := (inTreeL (inN ⟨p, false⟩ 1).1 (inN ⟨p, false⟩ 1).2).1
def getTreeV (b : List UInt8) : Option (List PlaceM) := match pageGet 3 b with
  | none => none
  | some p => if rightTreeV (readTree p) = true ∧ pageB 3 (treeB (readTree p)) = b then some (readTree p) else none
def getErr {V : Type} (o : Option V) : Int := if o.isSome = true then 0 else 9
theorem place_info : (Tryz.prog.info? 115).map (fun i => (i.zero, i.size, i.bytes)) = some (some (.agg #[.int .i64 0, .string ⟨#[]⟩]), 2, 24) := by kernel_rfl
/-- append of places, shut -/
def appendPS (args : Array Value) : Sem Next := do pure (.value (← Builtin.append_ #[110, 110] 110 args))
theorem builtin_appendP (cs : Array Bool) (args : Array Value) : builtin .append #[110, 110] 110 cs args = appendPS args := rfl
theorem run_appendP {w : World} {B n : Nat} {v : Value} {l m : List PlaceM} (h : w.ownsRow B 115 2 v n (pcells l)) {A : Option Addr} (c : Nat) {k n2 Bd : Nat} (hk : m.length = k) (hn2 : n + k = n2) (hr : Reads w Bd 2 A k (pcells m)) (hlen : n2 ≤ 1000000) (hB : B ≤ w.heap.size) :
    ∃ A' c' w', (appendPS #[v, .slice A k c]).run Tryz.prog w = .ok (.value (.slice A' n2 c')) w' ∧ w'.ownsRow B 115 2 (.slice A' n2 c') n2 (pcells (l ++ m)) ∧ w.grownBy w' v.ownBlock := by
  subst hk hn2
  obtain ⟨i0, hi0, hz0, hz1, hz2⟩ := info_parts place_info
  obtain ⟨v', w', hrun, ho, hg⟩ := run_append_any (P := Tryz.prog) w B 110 110 115 i0 _ 2 24 Tryz.underlying110 hi0 hz0 hz1 hz2 rfl (by omega) v n (pcells l) h A m.length c (pcells m) (Gives.of_reads hr (pcells_one m)) (by unfold maxLen; omega) (by omega) hB
  rw [← pcells_append] at ho
  obtain ⟨A', c', rfl, _, _⟩ := own_reads ho
  exact ⟨A', c', w', by unfold appendPS; simp only [Sem.run_bind, hrun, Result.andThen_ok, Sem.run_pure], ho, hg⟩
theorem InAt.grownT {w w' : World} {i : Nat} {s : InM} {v vL : Value} (h : InAt w i s v) {base n size : Nat} {e : TypeId} {xs : List Value} (ho : w.ownsRow base e size vL n xs) (h1 : 119 ≠ e) (h2 : 5 ≠ e) (hg : w.grownBy w' vL.ownBlock) : InAt w' i s v := by
  have hi := h.cells.grown hg (fun e => own_ne ho h.cells h1 i e.symm rfl)
  refine ⟨hi, ?_⟩
  rcases h.row with h | ⟨ad, c, e, hc, hr, hu⟩
  · exact .inl h
  · have hk : w'.heap[ad.block]? = w.heap[ad.block]? := hg.block ad.block hu.lt (fun e => by
      obtain ⟨cs', hc⟩ := own_kind ho e.symm
      obtain ⟨cs, p, hh⟩ := hu
      rw [hh] at hc
      injection hc with hc
      injection hc with _ hc
      exact h2 hc)
    refine .inr ⟨ad, c, e, hc, ⟨hr.1, fun hn => ?_⟩, hu.same hk⟩
    obtain ⟨ad', e', hlt, hcc⟩ := hr.2 hn
    injection e' with e'
    subst e'
    exact ⟨ad, rfl, Nat.lt_of_lt_of_le hlt hg.size, fun j u hu' => (World.cell?_of_block (by rw [block_of_add]; exact hk)).trans (hcc j u hu')⟩
theorem litP {w : World} {g : Nat} {x : PlaceM} (h : Blk w g 115 #[.int .i64 x.1, .string x.2]) : Reads w w.heap.size 2 (some ⟨g, 0, none⟩) 1 (pcells [x]) := by
  refine ⟨rfl, fun _ => ⟨⟨g, 0, none⟩, rfl, h.lt, fun j u hu => ?_⟩⟩
  have ha : (⟨g, 0, none⟩ : Addr).add j = ⟨g, j, none⟩ := by unfold Addr.add; split <;> simp_all
  rw [ha, h.cell, ← hu]
  rcases j with _ | _ | j <;> rfl
attribute [local go_sem ↓ 100000] builtin_appendP
set_option maxHeartbeats 1600000 in
set_option maxRecDepth 100000 in
theorem getTree_any (A : Option Addr) (c n : Nat) (b : List UInt8) (w : World) (hm : MaxCell w) (hg : 0 < w.heap.size) (hn2 : b.length = n) (hn : n ≤ 1000000) (hcn : n ≤ c) (hr : Reads w w.heap.size 1 A n (u8s b)) :
    Calls Tryz.prog 58 #[.slice A n c] w fun e w' => ∃ r, e = .returned (.tuple #[r, .int .i64 (getErr (getTreeV b))]) ∧ w'.ownsRow w.heap.size 115 2 r ((getTreeV b).getD []).length (pcells ((getTreeV b).getD [])) ∧ Below w.heap.size w w' := by
  have R1 := Lib.hid (page_Get 3 (by omega) A n c hcn hn b hn2 w hr)
  have HR := Lib.hid hr
  have HM := Lib.hid hm
  have HN := Lib.hid hn2
  obtain ⟨G, hG⟩ : ∃ G, getTreeV b = G := ⟨_, rfl⟩
  rw [hG]
  cases hp : pageGet 3 b with
  | none =>
    rw [hp] at R1
    have e1 : (if (none : Option (List UInt8)).isSome = true then (0 : Int) else 9) = 9 := rfl
    rw [e1] at R1
    have e2 : getErr (none : Option (List PlaceM)) = 9 := rfl
    obtain rfl : G = none := by rw [← hG]; unfold getTreeV; rw [hp]
    dsimp only [Option.getD_none]
    rw [e2]
    clear hr hm hn2 hp e1 e2 hG
    go_enter Tryz.func58, Tryz.ntmps58
    go_wp2_with fail
    refine R1.out.mono ?_
    rintro e w1 ⟨v1, rfl, _, hb1⟩
    go_wp2
    go_ret2
    exact ⟨_, rfl, World.ownsRow_nil _ _ _ _, hb1⟩
  | some p =>
    rw [hp] at R1
    have e1 : (if (some p : Option (List UInt8)).isSome = true then (0 : Int) else 9) = 0 := rfl
    rw [e1] at R1
    dsimp only [Option.getD_some] at R1
    have HG : Hid (G = if rightTreeV (readTree p) = true ∧ pageB 3 (treeB (readTree p)) = b then some (readTree p) else none) := by rw [← hG]; unfold getTreeV; rw [hp]; exact rfl
    obtain ⟨ge, hge⟩ : ∃ ge, getErr G = ge := ⟨_, rfl⟩
    rw [hge]
    have HGE := Lib.hid hge
    clear hge
    have hpl : p.length ≤ 60000 := by
      unfold pageGet at hp
      split at hp
      · rename_i h
        injection hp with hp
        rw [← hp]; exact h.2.1
      · cases hp
    obtain ⟨pn, hpn⟩ : ∃ pn, p.length = pn := ⟨_, rfl⟩
    rw [hpn] at R1 hpl
    have HPN := Lib.hid hpn
    clear hr hm hn2 hp e1 hpn hG
    go_enter Tryz.func58, Tryz.ntmps58
    go_wp2_with fail
    refine R1.out.mono ?_
    rintro e w1 ⟨v1, rfl, ho1, hb1⟩
    obtain ⟨A1, c1, e1, hr1⟩ := own8_reads ho1
    rw [HPN.out] at e1 hr1
    subst e1
    have R2 := Lib.hid (in_new A1 pn c1 p HPN.out (by omega) w1 hr1)
    have HB1 := Lib.hid hb1
    clear ho1 hr1 hb1 R1
    go_wp2_with fail
    refine R2.out.mono ?_
    rintro e w2 ⟨i, vi, rfl, hi, hle, hb2⟩
    have hiw : w.heap.size ≤ i := Nat.le_trans HB1.out.size hle
    have R3 := Lib.hid (in_N hi (by show p.length ≤ _; have := HPN.out; omega) 1 (by omega))
    have hB2 := HB1.out.trans (hb2.mono HB1.out.size)
    have HB2 := Lib.hid hB2
    have hc256 : (inN ⟨p, false⟩ 1).1 < 256 := inN_lt _ 1
    have hrest : (inN ⟨p, false⟩ 1).2.rest.length ≤ 60000 := Nat.le_trans (inTake_rest _ _) (by show p.length ≤ _; have := HPN.out; omega)
    have HRT : Hid (readTree p = (inTreeL (inN ⟨p, false⟩ 1).1 (inN ⟨p, false⟩ 1).2).1) := rfl
    obtain ⟨cnt, hcnt⟩ : ∃ cnt, (inN ⟨p, false⟩ 1).1 = cnt := ⟨_, rfl⟩
    obtain ⟨s0, hs0⟩ : ∃ s0, (inN ⟨p, false⟩ 1).2 = s0 := ⟨_, rfl⟩
    rw [hcnt, hs0] at R3 HRT
    rw [hcnt] at hc256
    rw [hs0] at hrest
    clear hi hb2 hB2 hle R2 hcnt hs0
    go_wp2_with fail
    refine R3.out.mono ?_
    rintro e w3 ⟨rfl, ⟨v3, h3⟩, hb3⟩
    have HI3 := Lib.hid h3
    have HB3 := Lib.hid (HB2.out.trans (hb3.toBelow HB2.out.size hiw))
    clear h3 hb3 R3
    go_wp2
    go_loopw [7, 22] (fun u k wr => ∃ (j : Nat) (vL vi : Value), vL = u ∧ k = .int .i64 j ∧ j ≤ cnt ∧ Hid (wr.ownsRow w.heap.size 115 2 vL j (pcells (inTreeL j s0).1)) ∧ Hid (InAt wr i (inTreeL j s0).2 vi) ∧ Hid (Below w.heap.size w wr)) (fun _ k _ => cnt - (intOf k).toNat)
    case atStart => exact ⟨0, _, v3, rfl, rfl, by omega, World.ownsRow_nil _ _ _ _, HI3, HB3⟩
    case round =>
      obtain ⟨j, vL, vi, rfl, rfl, hj, ho, hi, hb⟩ := hrel
      have hsz := hb.out.size
      by_cases hlt : j < cnt
      · have hrl : (inTreeL j s0).2.rest.length ≤ 1000000 := Nat.le_trans (inTreeL_rest j s0) (by omega)
        have R4 := Lib.hid (in_N hi.out hrl 1 (by omega))
        have hst : inTreeL (j + 1) s0 = ((inTreeL j s0).1 ++ [(((inN (inTreeL j s0).2 1).1 : Int), (inText (inN (inTreeL j s0).2 1).2).1)], (inText (inN (inTreeL j s0).2 1).2).2) := rfl
        have hx256 : (inN (inTreeL j s0).2 1).1 < 256 := inN_lt _ 1
        have hrl2 : (inN (inTreeL j s0).2 1).2.rest.length ≤ 1000000 := Nat.le_trans (inTake_rest _ _) hrl
        obtain ⟨lj, hlj⟩ : ∃ lj, (inTreeL j s0).1 = lj := ⟨_, rfl⟩
        obtain ⟨sj, hsj⟩ : ∃ sj, (inTreeL j s0).2 = sj := ⟨_, rfl⟩
        rw [hlj] at ho
        rw [hlj] at hst
        rw [hsj] at hst R4 hi hx256 hrl2
        obtain ⟨xn, hxn⟩ : ∃ xn, (inN sj 1).1 = xn := ⟨_, rfl⟩
        obtain ⟨s1, hs1⟩ : ∃ s1, (inN sj 1).2 = s1 := ⟨_, rfl⟩
        rw [hxn, hs1] at hst R4
        rw [hxn] at hx256
        rw [hs1] at hrl2
        have HST := Lib.hid hst
        clear hst hlj hsj hxn hs1 hrl
        go_wp2_with fail
        refine R4.out.mono ?_
        rintro e w4 ⟨rfl, ⟨v4, h4⟩, hb4⟩
        have ho4 := own_keep (w' := w4) ho.out (fun g hg => hb4.block g (ho.out.lt g hg).2 (own_ne ho.out hi.out.cells (by decide) g hg))
        have R5 := Lib.hid (in_Text h4 hrl2)
        have HI4 := Lib.hid h4.cells
        have HB4 := Lib.hid (hb.out.trans (hb4.toBelow hsz hiw))
        have HO4 := Lib.hid ho4
        obtain ⟨xs, hxs⟩ : ∃ xs, (inText s1).1 = xs := ⟨_, rfl⟩
        obtain ⟨s2, hs2⟩ : ∃ s2, (inText s1).2 = s2 := ⟨_, rfl⟩
        rw [hxs, hs2] at R5 HST
        clear h4 hb4 ho4 R4 hxs hs2
        go_wp2_with fail
        refine R5.out.mono ?_
        rintro e w5 ⟨rfl, ⟨v5, h5⟩, hb5⟩
        have ho5 := own_keep (w' := w5) HO4.out (fun g hg => hb5.block g (HO4.out.lt g hg).2 (own_ne HO4.out HI4.out (by decide) g hg))
        have hB5 := HB4.out.trans (hb5.toBelow HB4.out.size hiw)
        have hbx := (Below.refl w5.heap.size w5).alloc (Nat.le_refl _) (.cells #[.int .i64 (xn : Int), .string xs] 115)
        have hxb : Blk (w5.alloc (.cells #[.int .i64 (xn : Int), .string xs] 115)) w5.heap.size 115 #[.int .i64 (xn : Int), .string xs] := Blk.new w5 _ _
        have ho6 := own_below ho5 hbx
        have hB6 := hB5.trans (hbx.mono hB5.size)
        obtain ⟨A7, c7, w7, E7, ho7, hg7⟩ := run_appendP (m := [((xn : Int), xs)]) (k := 1) (n2 := j + 1) ho6 1 rfl rfl (litP (x := ((xn : Int), xs)) hxb) (by omega) hB6.size
        have hi7 := (h5.below hbx).grownT ho6 (by decide) (by decide) hg7
        have HB7 := Lib.hid (hB6.grown hg7 hB6.size (fun k hk => (ho6.lt k hk).1))
        have HI7 : Hid (InAt w7 i (inTreeL (j + 1) s0).2 v5) := by rw [HST.out]; exact hi7
        have HO7 : Hid (w7.ownsRow w.heap.size 115 2 (.slice A7 (j + 1) c7) (j + 1) (pcells (inTreeL (j + 1) s0).1)) := by rw [HST.out]; exact ho7
        clear h5 hb5 ho5 hB5 hbx hxb ho6 hB6 ho7 hg7 hi7 R5
        go_wp2
        go_roundw
        case rel => exact ⟨j + 1, _, v5, rfl, by go_num, by omega, HO7, HI7, HB7⟩
        case measure => simp [intOf]; omega
      · obtain rfl : j = cnt := by omega
        have hol := ho.out
        rw [← HRT.out] at hol
        obtain ⟨AL, cL, rfl, hrL, hcL⟩ := own_reads hol
        have hll : (readTree p).length = j := by rw [HRT.out]; exact inTreeL_len _ _
        have hszs : ∀ q ∈ readTree p, q.2.size ≤ 9223372036854775807 := fun q hq => by
          rw [HRT.out] at hq
          have := inTreeL_sizes _ _ q hq
          omega
        have R6 := Lib.hid (putTree_any AL cL j (readTree p) wr (HM.out.below hg hb.out) (Nat.lt_of_lt_of_le hg hsz) hszs hll (by omega) hcL hrL)
        have HOL := Lib.hid hol
        have HLL := Lib.hid hll
        obtain ⟨L, hL⟩ : ∃ L, readTree p = L := ⟨_, rfl⟩
        rw [hL] at R6 HOL HLL
        have HLP := Lib.hid hL
        clear hol hrL hcL hll hszs ho hi HRT hL
        go_wp2_with fail
        refine R6.out.mono ?_
        rintro e w8 ⟨r8, rfl, ho8, hb8⟩
        obtain ⟨A8, c8, rfl, hr8⟩ := own8_reads ho8
        have hB8 := hb.out.trans (hb8.mono hsz)
        have R7 := Lib.hid (same_any A8 A (treePage L).length c8 n c (treePage L) b (treeErr L) w8 rfl HN.out hr8 ((HR.out.below hB8).more hB8.size))
        have HO8 := Lib.hid (own_below HOL.out hb8)
        have HB8 := Lib.hid hB8
        have hres : (decide (treeErr L = 0) && (treePage L == b)) = decide (rightTreeV L = true ∧ pageB 3 (treeB L) = b) := by
          unfold treeErr treePage
          cases rightTreeV L
          · simp
          · simp only [if_pos, decide_true, Bool.true_and, true_and]
            rw [Bool.eq_iff_iff]; simp
        rw [hres] at R7
        obtain ⟨q, hq⟩ : ∃ q, decide (rightTreeV L = true ∧ pageB 3 (treeB L) = b) = q := ⟨_, rfl⟩
        rw [hq] at R7
        have HQ := Lib.hid hq
        generalize (treePage L).length = tn at *
        generalize treeErr L = te at *
        clear ho8 hb8 hr8 hB8 hres hq R6
        go_wp2_with fail
        refine R7.out.mono ?_
        rintro e w9 ⟨rfl, rfl⟩
        cases q with
        | true =>
          have hqq := of_decide_eq_true HQ.out
          go_wp2
          go_ret2
          have hgg : G = some L := by rw [HG.out, HLP.out, if_pos hqq]
          have hge : ge = 0 := by rw [← HGE.out, hgg]; rfl
          rw [hge, hgg]
          exact ⟨_, rfl, by show World.ownsRow _ _ _ _ _ L.length _; rw [HLL.out]; exact HO8.out, HB8.out⟩
        | false =>
          have hqq := of_decide_eq_false HQ.out
          go_wp2
          go_ret2
          have hgg : G = none := by rw [HG.out, HLP.out, if_neg hqq]
          have hge : ge = 9 := by rw [← HGE.out, hgg]; rfl
          rw [hge, hgg]
          exact ⟨_, rfl, World.ownsRow_nil _ _ _ _, HB8.out⟩
end Go.Proofs.YtmjikfeaopmejaaGreatDoor
/-
  cubbylaw11.awake answers true.
-/
namespace Go.Proofs.YtmjikfeaopmejaaGreatDoor
open Go.RowKit
theorem one_right : rightTreeV [(1, inboxS)] = true := by decide +kernel
theorem getTree_nil : getTreeV [] = none := by
  unfold getTreeV
  have : pageGet 3 [] = none := by unfold pageGet; rw [if_neg (by simp)]
  rw [this]
set_option maxRecDepth 100000 in
theorem awake11 (w : World) (hm : MaxCell w) (hg : 0 < w.heap.size) :
    Calls Tryz.prog 29 #[] w fun e w' => e = .returned (.bool true) ∧ Below w.heap.size w w' := by
  have R1 := Lib.hid (getTree_any none 0 0 [] w hm hg rfl (by omega) (by omega) Reads.none8)
  rw [getTree_nil] at R1
  have e1 : getErr (none : Option (List PlaceM)) = 9 := rfl
  rw [e1] at R1
  have HM := Lib.hid hm
  clear hm e1
  go_enter Tryz.func29, Tryz.ntmps29
  go_wp2_with fail
  refine R1.out.mono ?_
  rintro e w1 ⟨r1, rfl, _, hb1⟩
  have hbx := (Below.refl w1.heap.size w1).alloc (Nat.le_refl _) (.cells #[.int .i64 1, .string inboxS] 115)
  have hb := hb1.trans (hbx.mono hb1.size)
  have R2 := Lib.hid (putTree_any (some ⟨w1.heap.size, 0, none⟩) 1 1 [(1, inboxS)] _ (HM.out.below hg hb) (Nat.lt_of_lt_of_le hg hb.size) (by intro q hq; rw [List.mem_singleton] at hq; subst hq; decide) rfl (by omega) (by omega) (litP (x := (1, inboxS)) (Blk.new w1 _ _)))
  have e2 : treeErr [(1, inboxS)] = 0 := by unfold treeErr; rw [if_pos one_right]
  have hlen : 0 < (treePage [(1, inboxS)]).length := by unfold treePage; rw [if_pos one_right, pageB_length]; omega
  rw [e2] at R2
  obtain ⟨pg, hpg⟩ : ∃ pg, treePage [(1, inboxS)] = pg := ⟨_, rfl⟩
  rw [hpg] at R2 hlen
  unfold inboxS at R2
  have HB := Lib.hid (show Below w.heap.size w (w1.alloc (.cells #[.int .i64 1, .string ⟨#[73, 78, 66, 79, 88]⟩] 115)) from hb)
  clear hb1 hbx hb e2 hpg R1
  go_wp2_with fail
  refine R2.out.mono ?_
  rintro e w2 ⟨r2, rfl, ho2, hb2⟩
  obtain ⟨A2, c2, rfl, _⟩ := own8_reads ho2
  obtain ⟨pl, hpl⟩ : ∃ pl, pg.length = pl := ⟨_, rfl⟩
  rw [hpl] at hlen ⊢
  have g1 : decide ((0 : Int) < (pl : Int)) = true := by simp; omega
  have g2 : decide (0 < pl) = true := by simp; omega
  have HB2 := Lib.hid (HB.out.trans (hb2.mono HB.out.size))
  clear ho2 hb2 hpl R2
  go_wp2
  go_ret
  exact ⟨rfl, HB2.out⟩
end Go.Proofs.YtmjikfeaopmejaaGreatDoor
/-
  Walk of the law: the index, and the flags, of any log are what the document says.
-/
namespace Go.Proofs.YtmjikfeaopmejaaGreatDoor
open Go.RowKit
set_option linter.unusedSimpArgs false
set_option linter.unusedVariables false
theorem place_step {NB : List NoteB} {k : Nat} {y : NoteB} (hy : NB[k]? = some y) (E u : Nat) : (NB.take (k + 1)).foldl (atStep E u) (-1) = bif y.k == 2 && (y.ep == E && y.u == u) then (y.at_ : Int) else (NB.take k).foldl (atStep E u) (-1) := by
  rw [List.take_add_one, hy, List.foldl_append]
  rfl
theorem get_map {α β : Type} {f : α → β} {l : List α} {m : List β} (h : l.map f = m) {j : Nat} {x : α} (hx : l[j]? = some x) : m[j]? = some (f x) := by rw [← h, List.getElem?_map, hx]; rfl
set_option maxRecDepth 100000 in
set_option maxHeartbeats 8000000 in
theorem indexOf_law (A : Option Addr) (n c : Nat) (b : List UInt8) (hl : b.length = n) (hc : n ≤ c) (w : World) (hm : MaxCell w) (hg : 0 < w.heap.size) (htab : Lib.TabIs Tryz.prog w "internal/strconv.uint64pow10" .u64 Lib.pow10Tab) (hr : Reads w w.heap.size 1 A n (u8s b)) :
    Calls Tryz.prog 7 #[.slice A n c] w fun ev w' => ev = .returned (.bool true) ∧ Below w.heap.size w w' := by
  have Ht := Lib.tabBelow_of_tabIs htab
  refine calls_at 221 Tryz.func7 rfl rfl (Nat.le_of_ble_eq_true rfl) ?_
  intro a hA; replace hA := hA.norm
  refine wS (wR ?_)
  revert a; refine wo rfl rfl (by decide) (fun ev e h => by simp [go_sem, h] <;> rfl) ?_; intro a hA
  replace hA := hA.keepN [0]
  refine wN (nT (wS (wS (wR ?_))))
  refine wl_call hA rfl rfl (by decide) (fun ev h => exec_call Tryz.func29 (by kernel_rfl) rfl (h.f _) (by first | (simp only [mL, h.c] <;> rfl) | (simp [mL, h.c] <;> rfl))) (awake11 w hm hg) ?_
  rintro e w1 ⟨rfl, HB⟩
  refine ⟨_, rfl, fun a hA => ?_⟩
  revert a; (iterate 2 refine wo rfl rfl (by decide) (fun ev e h => by simp [go_sem, h] <;> rfl) ?_); (iterate 3 refine wg _ rfl rfl rfl rfl (by decide) (fun hq ev e h => by simp [go_sem, h, ↓gw_t (beq_t hq)] <;> rfl) ?_); refine wko rfl rfl (by decide) rfl rfl rfl ?_; intro a hA
  replace hA := hA.keepN [0, 19]
  refine wN (nT ?_)
  refine wp_if hA 19 _ rfl (fun hq => ?yA) (fun hq => ?nA)
  case yA =>
    refine wS (wR ?_)
    refine wl_call hA rfl rfl (by decide) (fun ev h => exec_call Tryz.func29 (by kernel_rfl) rfl (h.f _) (by first | (simp only [mL, h.c] <;> rfl) | (simp [mL, h.c] <;> rfl))) (awake11 _ (hm.below hg HB) (Nat.lt_of_lt_of_le hg HB.size)) ?_
    rintro e w4 ⟨rfl, hb4⟩
    refine ⟨_, rfl, fun a hA => ?_⟩
    replace HB := HB.trans (hb4.mono HB.size)
    revert a; refine wo rfl rfl (by decide) (fun ev e h => by simp [go_sem, h] <;> rfl) ?_; intro a hA
    replace hA := hA.keepN [2]
    refine wN (nT (wp_ret (rT ?_)))
    refine ret_1 hA 2 rfl rfl ?_
    exact ⟨rfl, HB⟩
  case nA =>
    have hn : n ≤ 30000 := by simp at hq; omega
    refine wp_skip (nT (wS (wR ?_)))
    revert a; refine wo rfl rfl (by decide) (fun ev e h => by simp [go_sem, h] <;> rfl) ?_; intro a hA
    refine wl_call hA rfl rfl (by decide) (fun ev h => exec_call Tryz.func19 (by kernel_rfl) rfl (h.f _) (by first | (simp only [mL, h.get 22 rfl, h.c] <;> rfl) | (simp [mL, h.get 22 rfl, h.c] <;> rfl))) (read_any A n c b hl hc (by omega) _ (hm.below hg HB) (Nat.lt_of_lt_of_le hg HB.size) (Ht _ HB) ((hr.below HB).more HB.size)) ?_
    rintro e w3 ⟨v, L, rfl, ho, hlv, hb3⟩
    refine ⟨_, rfl, fun a hA => ?_⟩
    replace HB := HB.trans (hb3.mono HB.size)
    rw [takeAll_of _ (notesB_kind b)] at hA hlv
    obtain ⟨S, hS⟩ : ∃ S, ofAll (notesB b) = S := ⟨_, rfl⟩
    have hLl : L.length = S.live.length := by rw [← hS]; have := congrArg List.length hlv; rw [List.length_map, List.length_map] at this; exact this
    have hNl0 := notesB_len b
    have hLs : L.length ≤ 1000000 := by
      have h2 := ofLive_len (notesB b)
      rw [← hS] at hLl
      have h3 : L.length = (ofLive (notesB b)).length := hLl
      omega
    rw [hS] at hA hlv
    obtain ⟨T, hT⟩ : ∃ T, (scan b).2 = T := ⟨_, rfl⟩
    rw [hT] at hA
    obtain ⟨A0, c0, rfl, hrr, _⟩ := ho.reads
    have IX := fun w => idxOf_any S.nm S.ep S.nx (T : Int) (cleanS S) A0 c0 L.length L w hLs rfl
    have hbn := boxS_nm S
    cases hno : noIdx (cleanS S) S.nm with
    | true =>
      refine wl_call hA rfl rfl (by decide) (fun ev h => exec_call Tryz.func30 (by kernel_rfl) rfl (h.f _) (by first | (simp only [mL, h.get 23 rfl, h.c] <;> rfl) | (simp [mL, h.get 23 rfl, h.c] <;> rfl))) ((IX _ hrr).mono fun e w' h => (⟨h.1 hno, h.2.2⟩ : _ ∧ Below _ _ _)) ?_
      rintro e w4 ⟨rfl, hb4⟩
      refine ⟨_, rfl, fun a hA => ?_⟩
      replace HB := HB.trans (hb4.mono HB.size)
      have h4 := HB.size
      revert a; (iterate 3 refine wo rfl rfl (by decide) (fun ev e h => by simp [go_sem, h] <;> rfl) ?_); intro a hA
      refine wl_new hA rfl rfl (by decide) (fun ev h => by simp [go_sem]; try first | exact ⟨rfl, rfl⟩ | rfl) fun w5 a (K3 : Blk _ _ _ _) hz5 hb5 hA => ?_
      replace HB := HB.trans (hb5.mono HB.size)
      refine wl_new hA rfl rfl (by decide) (fun ev h => by simp [go_sem]; try first | exact ⟨rfl, rfl⟩ | rfl) fun w6 a (K4 : Blk _ _ _ _) hz6 hb6 hA => ?_
      replace HB := HB.trans (hb6.mono HB.size)
      replace K3 := K3.below hb6 K3.lt
      have hs34 : w4.heap.size < w5.heap.size := by omega
      refine wl_set [.string ⟨#[]⟩, .int .u32 0, .int .u32 0, .int .i64 0, .slice none 0 0] hA rfl rfl K3 (by rfl) (fun ev h => by simp [go_sem, h.get 3 rfl, h.get 25 rfl, setAll, K3.cell, K3.frozen]) fun w7 (K3 : Blk _ _ _ _) hs7 => ?_
      replace K4 := hs7.blk K4 (by omega)
      replace HB := hs7.below HB h4
      refine wl_set [.int .u32 0, .slice none 0 0] hA rfl rfl K4 (by rfl) (fun ev h => by simp [go_sem, h.get 4 rfl, h.get 26 rfl, setAll, K4.cell, K4.frozen]) fun w8 (K4 : Blk _ _ _ _) hs8 => ?_
      replace K3 := hs8.blk K3 (by omega)
      replace HB := hs8.below HB (by omega)
      replace hA := hA.keepN [0, 3, 4]
      refine wN (nT (wS (wR ?_)))
      revert a; refine wo rfl rfl (by decide) (fun ev e h => by simp [go_sem, h] <;> rfl) ?_; intro a hA
      refine wl_call hA rfl rfl (by decide) (fun ev h => exec_call Tryz.func20 (by kernel_rfl) rfl (h.f _) (by first | (simp only [mL, h.get 28 rfl, h.c] <;> rfl) | (simp [mL, h.get 28 rfl, h.c] <;> rfl))) (notes_any A n c b hl hc (by omega) _ (hm.below hg HB) (Nat.lt_of_lt_of_le hg HB.size) (Ht _ HB) ((hr.below HB).more HB.size)) ?_
      rintro e w9 ⟨v2, u2, N, P, rfl, hoN, -, hN, -, hNl, hNu, hb9⟩
      refine ⟨_, rfl, fun a hA => ?_⟩
      replace HB := HB.trans (hb9.mono HB.size)
      replace K3 := K3.below hb9 K3.lt
      replace K4 := K4.below hb9 K4.lt
      obtain ⟨A2, c2, rfl, hrN, _⟩ := hoN.reads
      revert a; (iterate 7 refine wo rfl rfl (by decide) (fun ev e h => by simp [go_sem, h] <;> rfl) ?_); intro a hA
      replace hA := hA.keepN [3, 4, 5, 6, 7]
      refine wN (nT (wS (wR ?_)))
      revert a; refine wo rfl rfl (by decide) (fun ev e h => by simp [go_sem, h] <;> rfl) ?_; intro a hA
      refine wl_call hA rfl rfl (by decide) (fun ev h => exec_call Tryz.func21 (by kernel_rfl) rfl (h.f _) (by first | (simp only [mL, h.get 34 rfl, h.c] <;> rfl) | (simp [mL, h.get 34 rfl, h.c] <;> rfl))) (refOf_any A2 N.length c2 N _ rfl (by omega) hrN hNu) ?_
      rintro e w10 ⟨v3, M, rfl, hoM, hM, -, hb10⟩
      refine ⟨_, rfl, fun a hA => ?_⟩
      replace HB := HB.trans (hb10.mono HB.size)
      replace K3 := K3.below hb10 K3.lt
      replace K4 := K4.below hb10 K4.lt
      rw [hN, boxS_z0, cleanS_z0, hS] at hA
      obtain ⟨Am, cm, rfl, -, _⟩ := hoM.reads
      revert a; (iterate 3 refine wo rfl rfl (by decide) (fun ev e h => by simp [go_sem, h] <;> rfl) ?_); intro a hA
      refine wl_local [.string (boxS S).nm, .int .u32 ((boxS S).ep : Nat), .int .u32 ((boxS S).nx : Nat), .slice Am M.length cm] hA rfl rfl (by decide) (fun ev h => by simp [go_sem]; try first | exact ⟨rfl, rfl⟩ | rfl) rfl rfl (by rfl) (fun w1 g ev hb h => by simp [go_sem, h.get 8 rfl, h.get 36 rfl, setAll, hb.cell, hb.frozen]) fun w11 a (K8 : Blk _ _ _ _) hz11 hb11 hA => ?_
      replace HB := HB.trans (hb11.mono HB.size)
      replace K3 := K3.below hb11 K3.lt
      replace K4 := K4.below hb11 K4.lt
      rw [hbn] at K8
      revert a; refine wo rfl rfl (by decide) (fun ev e h => by simp [go_sem, h, K8.cell] <;> rfl) ?_; intro a hA
      replace hA := hA.keepN [3, 4, 5, 6, 7, 8, 9]
      refine wN (nT (wS (wS (wR ?_))))
      revert a; (iterate 3 refine wo rfl rfl (by decide) (fun ev e h => by simp [go_sem, h, K8.cell] <;> rfl) ?_); (iterate 3 refine wg _ rfl rfl rfl rfl (by decide) (fun hq ev e h => by simp [go_sem, h, ↓gw_t (beq_t hq), K8.cell] <;> rfl) ?_); refine wko rfl rfl (by decide) rfl rfl rfl ?_; intro a hA
      replace hA := hA.keepN [3, 4, 5, 6, 7, 8, 44]
      refine wN (nT ?_)
      rw [show (!cleanS S || S.nm.toList.isEmpty) = true from hno] at hA
      refine wp_if hA 44 _ rfl (fun hq2 => ?yB) (fun hq2 => ?nB)
      case nB => cases hq2
      case yB =>
        refine wS (wR ?_)
        revert a; (iterate 4 refine wo rfl rfl (by decide) (fun ev e h => by simp [go_sem, h, K3.cell, K4.cell] <;> rfl) ?_); (iterate 3 refine wg _ rfl rfl rfl rfl (by decide) (fun hq ev e h => by simp [go_sem, h, ↓gw_t (beq_t hq), K3.cell, K4.cell] <;> rfl) ?_); refine wka rfl rfl (by decide) rfl rfl rfl ?_; refine wo rfl rfl (by decide) (fun ev e h => by simp [go_sem, h, K3.cell, K4.cell] <;> rfl) ?_; refine wg _ rfl rfl rfl rfl (by decide) (fun hq ev e h => by simp [go_sem, h, ↓gw_t (beq_t hq), K3.cell, K4.cell] <;> rfl) ?_; intro a hA
        replace hA := hA.keepN [4, 53, 54]
        revert a; (iterate 3 refine wg _ rfl rfl rfl rfl (by decide) (fun hq ev e h => by simp [go_sem, h, ↓gw_t (beq_t hq), K3.cell, K4.cell] <;> rfl) ?_); refine wka rfl rfl (by decide) rfl rfl rfl ?_; refine wo rfl rfl (by decide) (fun ev e h => by simp [go_sem, h, K3.cell, K4.cell] <;> rfl) ?_; (iterate 3 refine wg _ rfl rfl rfl rfl (by decide) (fun hq ev e h => by simp [go_sem, h, ↓gw_t (beq_t hq), K3.cell, K4.cell] <;> rfl) ?_); refine wka rfl rfl (by decide) rfl rfl rfl ?_; refine wo rfl rfl (by decide) (fun ev e h => by simp [go_sem, h, K3.cell, K4.cell] <;> rfl) ?_; intro a hA
        replace hA := hA.keepN [4, 64]
        revert a; (iterate 4 refine wg _ rfl rfl rfl rfl (by decide) (fun hq ev e h => by simp [go_sem, h, ↓gw_t (beq_t hq), K3.cell, K4.cell] <;> rfl) ?_); refine wka rfl rfl (by decide) rfl rfl rfl ?_; refine wo rfl rfl (by decide) (fun ev e h => by simp [go_sem, h, K3.cell, K4.cell] <;> rfl) ?_; intro a hA
        replace hA := hA.keepN [2]
        refine wN (nT (wp_ret (rT ?_)))
        refine ret_1 hA 2 rfl rfl ?_
        exact ⟨ret_bool (by rfl), HB⟩
    | false =>
      have hcl : cleanS S = true := by unfold noIdx at hno; cases h : cleanS S with | true => rfl | false => rw [h] at hno; cases hno
      have hbx : boxS S = ⟨S.nm, S.ep, S.nx, S.live.map bare4⟩ := by unfold boxS; rw [hcl]; rfl
      refine wl_call hA rfl rfl (by decide) (fun ev h => exec_call Tryz.func30 (by kernel_rfl) rfl (h.f _) (by first | (simp only [mL, h.get 23 rfl, h.c] <;> rfl) | (simp [mL, h.get 23 rfl, h.c] <;> rfl))) ((IX _ hrr).mono fun e w' h => (⟨h.2.1 hno, h.2.2⟩ : (∃ _ _, _) ∧ Below _ _ _)) ?_
      rintro e w4 ⟨⟨v1, u1, rfl, hoE, hoF⟩, hb4⟩
      refine ⟨_, rfl, fun a hA => ?_⟩
      replace HB := HB.trans (hb4.mono HB.size)
      have h4 := HB.size
      obtain ⟨A1, c1, rfl, hrE, _⟩ := hoE.reads
      obtain ⟨A3, c3, rfl, hrF, _⟩ := hoF.reads
      obtain ⟨q, hLq⟩ : ∃ q, L.length = q := ⟨_, rfl⟩
      rw [List.length_map, List.length_map, hLq] at hA
      revert a; (iterate 3 refine wo rfl rfl (by decide) (fun ev e h => by simp [go_sem, h] <;> rfl) ?_); intro a hA
      refine wl_new hA rfl rfl (by decide) (fun ev h => by simp [go_sem]; try first | exact ⟨rfl, rfl⟩ | rfl) fun w5 a (K3 : Blk _ _ _ _) hz5 hb5 hA => ?_
      replace HB := HB.trans (hb5.mono HB.size)
      refine wl_new hA rfl rfl (by decide) (fun ev h => by simp [go_sem]; try first | exact ⟨rfl, rfl⟩ | rfl) fun w6 a (K4 : Blk _ _ _ _) hz6 hb6 hA => ?_
      replace HB := HB.trans (hb6.mono HB.size)
      replace K3 := K3.below hb6 K3.lt
      have H4 := hb5.trans (hb6.mono hb5.size)
      refine wl_set [.string S.nm, .int .u32 (S.ep : Nat), .int .u32 (S.nx : Nat), .int .i64 (T : Nat), .slice A1 q c1] hA rfl rfl K3 (by rfl) (fun ev h => by simp [go_sem, h.get 3 rfl, h.get 25 rfl, setAll, K3.cell, K3.frozen]) fun w7 (K3 : Blk _ _ _ _) hs7 => ?_
      replace K4 := hs7.blk K4 (by omega)
      replace HB := hs7.below HB h4
      replace H4 := hs7.below H4 (Nat.le_refl _)
      refine wl_set [.int .u32 (S.ep : Nat), .slice A3 q c3] hA rfl rfl K4 (by rfl) (fun ev h => by simp [go_sem, h.get 4 rfl, h.get 26 rfl, setAll, K4.cell, K4.frozen]) fun w8 (K4 : Blk _ _ _ _) hs8 => ?_
      replace K3 := hs8.blk K3 (by omega)
      replace HB := hs8.below HB (by omega)
      replace H4 := hs8.below H4 (by omega)
      replace hrE := hrE.below H4
      replace hrF := hrF.below H4
      obtain ⟨p3, hp3⟩ : ∃ x, w4.heap.size = x := ⟨_, rfl⟩
      obtain ⟨p4, hp4⟩ : ∃ x, w5.heap.size = x := ⟨_, rfl⟩
      rw [hp3] at K3 hA
      rw [hp4] at K4 hA
      replace hA := hA.keepN [0, 3, 4]
      refine wN (nT (wS (wR ?_)))
      revert a; refine wo rfl rfl (by decide) (fun ev e h => by simp [go_sem, h] <;> rfl) ?_; intro a hA
      refine wl_call hA rfl rfl (by decide) (fun ev h => exec_call Tryz.func20 (by kernel_rfl) rfl (h.f _) (by first | (simp only [mL, h.get 28 rfl, h.c] <;> rfl) | (simp [mL, h.get 28 rfl, h.c] <;> rfl))) (notes_any A n c b hl hc (by omega) _ (hm.below hg HB) (Nat.lt_of_lt_of_le hg HB.size) (Ht _ HB) ((hr.below HB).more HB.size)) ?_
      rintro e w9 ⟨v2, u2, N, P, rfl, hoN, hoP, hN, hP, hNl, hNu, hb9⟩
      refine ⟨_, rfl, fun a hA => ?_⟩
      replace HB := HB.trans (hb9.mono HB.size)
      replace K3 := K3.below hb9 K3.lt
      replace K4 := K4.below hb9 K4.lt
      replace hrE := hrE.below hb9
      replace hrF := hrF.below hb9
      obtain ⟨A2, c2, rfl, hrN, _⟩ := hoN.reads
      obtain ⟨A5, c5, rfl, hrP, _⟩ := hoP.reads
      have hNN : N.length = (notesB b).length := by have := congrArg List.length hN; rw [List.length_map, List.length_map] at this; exact this
      have hPN : P.length = (notesB b).length := by rw [hP, List.length_map]
      obtain ⟨nn, hnn⟩ : ∃ q, (notesB b).length = q := ⟨_, rfl⟩
      rw [hnn] at hNN hPN hNl0
      rw [hNN, hPN, hT] at hA
      revert a; (iterate 7 refine wo rfl rfl (by decide) (fun ev e h => by simp [go_sem, h] <;> rfl) ?_); intro a hA
      replace hA := hA.keepN [3, 4, 5, 6, 7]
      refine wN (nT (wS (wR ?_)))
      revert a; refine wo rfl rfl (by decide) (fun ev e h => by simp [go_sem, h] <;> rfl) ?_; intro a hA
      refine wl_call hA rfl rfl (by decide) (fun ev h => exec_call Tryz.func21 (by kernel_rfl) rfl (h.f _) (by first | (simp only [mL, h.get 34 rfl, h.c] <;> rfl) | (simp [mL, h.get 34 rfl, h.c] <;> rfl))) (refOf_any A2 nn c2 N _ hNN (by omega) hrN hNu) ?_
      rintro e w10 ⟨v3, M, rfl, hoM, hM, -, hb10⟩
      refine ⟨_, rfl, fun a hA => ?_⟩
      replace HB := HB.trans (hb10.mono HB.size)
      replace K3 := K3.below hb10 K3.lt
      replace K4 := K4.below hb10 K4.lt
      replace hrE := hrE.below hb10
      replace hrF := hrF.below hb10
      replace hrN := hrN.below hb10
      replace hrP := hrP.below hb10
      rw [hN, boxS_z0, cleanS_z0, hS, hbx] at hA
      rw [hN, boxS_z0, hS, hbx] at hM
      have hM : M.map msgB = S.live.map bare4 := hM
      have hMq : M.length = q := by have := congrArg List.length hM; rw [List.length_map, List.length_map] at this; omega
      obtain ⟨Am, cm, rfl, hrM, _⟩ := hoM.reads
      rw [hMq] at hA
      revert a; (iterate 3 refine wo rfl rfl (by decide) (fun ev e h => by simp [go_sem, h] <;> rfl) ?_); intro a hA
      refine wl_local [.string S.nm, .int .u32 (S.ep : Nat), .int .u32 (S.nx : Nat), .slice Am q cm] hA rfl rfl (by decide) (fun ev h => by simp [go_sem]; try first | exact ⟨rfl, rfl⟩ | rfl) rfl rfl (by rfl) (fun w1 g ev hb h => by simp [go_sem, h.get 8 rfl, h.get 36 rfl, setAll, hb.cell, hb.frozen]) fun w11 a (K8 : Blk _ _ _ _) hz11 hb11 hA => ?_
      replace HB := HB.trans (hb11.mono HB.size)
      replace K3 := K3.below hb11 K3.lt
      replace K4 := K4.below hb11 K4.lt
      replace hrE := hrE.below hb11
      replace hrF := hrF.below hb11
      replace hrN := hrN.below hb11
      replace hrP := hrP.below hb11
      replace hrM := hrM.below hb11
      revert a; refine wo rfl rfl (by decide) (fun ev e h => by simp [go_sem, h, K8.cell] <;> rfl) ?_; intro a hA
      replace hA := hA.keepN [3, 4, 5, 6, 7, 8, 9]
      refine wN (nT (wS (wS (wR ?_))))
      revert a; (iterate 3 refine wo rfl rfl (by decide) (fun ev e h => by simp [go_sem, h, K8.cell] <;> rfl) ?_); (iterate 3 refine wg _ rfl rfl rfl rfl (by decide) (fun hq ev e h => by simp [go_sem, h, ↓gw_t (beq_t hq), K8.cell] <;> rfl) ?_); refine wko rfl rfl (by decide) rfl rfl rfl ?_; intro a hA
      replace hA := hA.keepN [3, 4, 5, 6, 7, 8, 44]
      refine wN (nT ?_)
      rw [show (!cleanS S || S.nm.toList.isEmpty) = false from hno] at hA
      refine wp_if hA 44 _ rfl (fun hq2 => ?yB) (fun hq2 => ?nB)
      case yB => cases hq2
      case nB =>
        refine wp_skip (nT (wS (wS (wR ?_))))
        revert a; (iterate 6 refine wo rfl rfl (by decide) (fun ev e h => by simp [go_sem, h, K3.cell, K4.cell, K8.cell] <;> rfl) ?_); (iterate 4 refine wg _ rfl rfl rfl rfl (by decide) (fun hq ev e h => by simp [go_sem, h, ↓gw_t (beq_t hq), K3.cell, K4.cell, K8.cell] <;> rfl) ?_); intro a hA
        replace hA := hA.keepN [3, 4, 5, 6, 7, 8, 75, 77, 79]
        revert a; refine wg _ rfl rfl rfl rfl (by decide) (fun hq ev e h => by simp [go_sem, h, ↓gw_t (beq_t hq), K3.cell, K4.cell, K8.cell] <;> rfl) ?_; refine wko rfl rfl (by decide) rfl rfl rfl ?_; refine wo rfl rfl (by decide) (fun ev e h => by simp [go_sem, h, K3.cell, K4.cell, K8.cell] <;> rfl) ?_; (iterate 5 refine wg _ rfl rfl rfl rfl (by decide) (fun hq ev e h => by simp [go_sem, h, ↓gw_t (beq_t hq), K3.cell, K4.cell, K8.cell] <;> rfl) ?_); refine wko rfl rfl (by decide) rfl rfl rfl ?_; refine wo rfl rfl (by decide) (fun ev e h => by simp [go_sem, h, K3.cell, K4.cell, K8.cell] <;> rfl) ?_; intro a hA
        replace hA := hA.keepN [3, 4, 5, 6, 7, 8, 89]
        revert a; (iterate 4 refine wg _ rfl rfl rfl rfl (by decide) (fun hq ev e h => by simp [go_sem, h, ↓gw_t (beq_t hq), K3.cell, K4.cell, K8.cell] <;> rfl) ?_); refine wko rfl rfl (by decide) rfl rfl rfl ?_; refine wo rfl rfl (by decide) (fun ev e h => by simp [go_sem, h, K3.cell, K4.cell, K8.cell] <;> rfl) ?_; (iterate 4 refine wg _ rfl rfl rfl rfl (by decide) (fun hq ev e h => by simp [go_sem, h, ↓gw_t (beq_t hq), K3.cell, K4.cell, K8.cell] <;> rfl) ?_); intro a hA
        replace hA := hA.keepN [3, 4, 5, 6, 8, 95, 97, 99]
        revert a; refine wg _ rfl rfl rfl rfl (by decide) (fun hq ev e h => by simp [go_sem, h, ↓gw_t (beq_t hq), K3.cell, K4.cell, K8.cell] <;> rfl) ?_; refine wko rfl rfl (by decide) rfl rfl rfl ?_; refine wo rfl rfl (by decide) (fun ev e h => by simp [go_sem, h, K3.cell, K4.cell, K8.cell] <;> rfl) ?_; (iterate 7 refine wg _ rfl rfl rfl rfl (by decide) (fun hq ev e h => by simp [go_sem, h, ↓gw_t (beq_t hq), K3.cell, K4.cell, K8.cell] <;> rfl) ?_); intro a hA
        replace hA := hA.keepN [3, 4, 5, 6, 8, 102, 109]
        revert a; refine wko rfl rfl (by decide) rfl rfl rfl ?_; refine wo rfl rfl (by decide) (fun ev e h => by simp [go_sem, h, K3.cell, K4.cell, K8.cell] <;> rfl) ?_; (iterate 7 refine wg _ rfl rfl rfl rfl (by decide) (fun hq ev e h => by simp [go_sem, h, ↓gw_t (beq_t hq), K3.cell, K4.cell, K8.cell] <;> rfl) ?_); refine wko rfl rfl (by decide) rfl rfl rfl ?_; intro a hA
        replace hA := hA.keepN [3, 4, 5, 6, 8, 119]
        refine wN (nT ?_)
        refine wp_if hA 119 _ rfl (fun hq3 => ?yD) (fun hq3 => ?nD)
        case yD => simp at hq3
        case nD =>
          refine wp_skip (nT (wS (wS (wR ?_))))
          revert a; (iterate 4 refine wo rfl rfl (by decide) (fun ev e h => by simp [go_sem, h, K8.cell] <;> rfl) ?_); intro a hA
          replace hA := hA.keepN [3, 4, 5, 6, 8, 122, 123]
          refine wN (nT (wB ?_))
          obtain ⟨p8, hp8⟩ : ∃ x, w10.heap.size = x := ⟨_, rfl⟩
          rw [hp8] at K8 hA
          have h3 := K3.lt
          have h4' := K4.lt
          have h8 := K8.lt
          refine wp_loop_at (fun kk a wx => ∃ (i : Nat), i + kk = q ∧ At 221 [(3, .pointer (some ⟨p3, 0, none⟩)), (4, .pointer (some ⟨p4, 0, none⟩)), (5, .slice A2 nn c2), (6, .slice A5 nn c5), (8, .pointer (some ⟨p8, 0, none⟩)), (122, .int .i64 (q : Nat)), (123, .int .i64 (i : Nat))] a ∧ Below w11.heap.size w11 wx) (q) ?_ ?_
          · exact ⟨0, by omega, hA, Below.refl _ _⟩
          rintro kk a wx ⟨i, hik, hA, HL⟩
          refine wS (wR ?_)
          revert a; refine wo rfl rfl (by decide) (fun ev e h => by simp [go_sem, h] <;> rfl) ?_; intro a hA
          replace hA := hA.keepN [3, 4, 5, 6, 8, 122, 123, 124]
          refine wN (nT (wS ?_))
          refine wp_if hA 124 _ rfl (fun hq4 => ?yI) (fun hq4 => ?nI)
          case nI =>
            replace hA := hA.keepN []
            refine wp_exit (xT (xT (xB (nT (wS (wR ?_))))))
            revert a; refine wo rfl rfl (by decide) (fun ev e h => by simp [go_sem, h] <;> rfl) ?_; intro a hA
            replace hA := hA.keepN [2]
            refine wN (nT (wp_ret ?_))
            refine ret_1 hA 2 rfl rfl ?_
            exact ⟨rfl, HB.trans (HL.mono HB.size)⟩
          case yI =>
            have hlt : i < q := by simp at hq4; omega
            have hqL : S.live.length = q := by omega
            obtain ⟨x, hx⟩ : ∃ x, S.live[i]? = some x := ⟨_, List.getElem?_eq_getElem (by omega)⟩
            obtain ⟨Li, hLi⟩ : ∃ x, L[i]? = some x := ⟨_, List.getElem?_eq_getElem (by omega)⟩
            obtain ⟨Mi, hMi⟩ : ∃ x, M[i]? = some x := ⟨_, List.getElem?_eq_getElem (by omega)⟩
            have hLx : liveL Li = noteL x := by
              have h1 := get_map hlv hLi
              rw [List.getElem?_map, hx] at h1
              injection h1 with h1
              exact h1.symm
            have hMx : msgB Mi = bare4 x := by
              have h1 := get_map hM hMi
              rw [List.getElem?_map, hx] at h1
              injection h1 with h1
              exact h1.symm
            unfold liveL noteL at hLx
            unfold msgB bare4 at hMx
            simp only [Prod.mk.injEq] at hLx hMx
            obtain ⟨adE, rfl, hadE, kE, kE'⟩ := hrE.cell (i := i) (x := entV Li) (by rw [List.getElem?_map, hLi]; rfl)
            obtain ⟨adF, rfl, hadF, kF, kF'⟩ := hrF.cell (i := i) (x := markV Li) (by rw [List.getElem?_map, hLi]; rfl)
            obtain ⟨adM, rfl, hadM, kM0, kM1, kM2, kM3⟩ := hrM.msgR.at_ hMi
            have cE0 : ∀ {wy : World}, Below w11.heap.size w11 wy → wy.cell? (adE.add (i * 2)) = some (.int .u32 (x.u : Nat)) ∧ wy.cell? ⟨(adE.add (i * 2)).block, (adE.add (i * 2)).off + 1, none⟩ = some (.int .i64 (x.at_ : Nat)) ∧ wy.cell? (adF.add (i * 2)) = some (.int .u32 (x.u : Nat)) ∧ wy.cell? ⟨(adF.add (i * 2)).block, (adF.add (i * 2)).off + 1, none⟩ = some (.int .i64 x.f) ∧ wy.cell? (adM.add (i * 4)) = some (.int .u32 (x.u : Nat)) ∧ wy.cell? ⟨(adM.add (i * 4)).block, (adM.add (i * 4)).off + 2, none⟩ = some (.int .i64 x.f) := fun {wy} hb => by
              refine ⟨(hb.cell (by rw [block_of_add]; exact hadE)).trans ((kE _ rfl).trans (by unfold entV; rw [hLx.2.1])), (hb.cell (by show (adE.add _).block < _; rw [block_of_add]; exact hadE)).trans ((kE' 1 _ (by decide) rfl).trans (by unfold entV; rw [hLx.2.2.2.2.2])), (hb.cell (by rw [block_of_add]; exact hadF)).trans ((kF _ rfl).trans (by unfold markV; rw [hLx.2.1])), (hb.cell (by show (adF.add _).block < _; rw [block_of_add]; exact hadF)).trans ((kF' 1 _ (by decide) rfl).trans (by unfold markV; rw [hLx.2.2.2.1])), (hb.cell hadM).trans (kM0.trans (by rw [hMx.1])), (hb.cell (p := ⟨(adM.add (i * 4)).block, (adM.add (i * 4)).off + 2, none⟩) hadM).trans (kM2.trans (by rw [hMx.2.2.1]))⟩
            have ii0 : (0 : Int) ≤ (i : Int) := by omega
            have ii1 : (i : Int) < (q : Int) := by omega
            have hwi : IntKind.i64.wrap ((i : Int) + 1) = (i : Int) + 1 := IntWalk.i64_in _ (by omega)
            refine wp_skip (nT (wS (wB (wS (wR ?_)))))
            revert a; (iterate 2 refine wo rfl rfl (by decide) (fun ev e h => by simp [go_sem, h] <;> rfl) ?_); intro a hA
            replace hA := hA.keepN [3, 4, 5, 6, 8, 10, 122, 123]
            refine wN (nT (wS (wR ?_)))
            revert a; refine wo rfl rfl (by decide) (fun ev e h => by simp [go_sem, h] <;> rfl) ?_; intro a hA
            replace hA := hA.keepN [3, 4, 5, 6, 8, 10, 11, 122, 123]
            refine wN (nT (wS (wS (wR ?_))))
            revert a; (iterate 3 refine wo rfl rfl (by decide) (fun ev e h => by simp [go_sem, h] <;> rfl) ?_); intro a hA
            replace hA := hA.keepN [3, 4, 5, 6, 8, 10, 11, 122, 123, 127, 128]
            refine wN (nT (wB ?_))
            refine wp_loop_at (fun kk a wy => ∃ (k : Nat) (pl : Int), k + kk = nn ∧ At 221 [(3, .pointer (some ⟨p3, 0, none⟩)), (4, .pointer (some ⟨p4, 0, none⟩)), (5, .slice A2 nn c2), (6, .slice A5 nn c5), (8, .pointer (some ⟨p8, 0, none⟩)), (10, .int .i64 (i : Nat)), (11, .int .i64 pl), (122, .int .i64 (q : Nat)), (123, .int .i64 (i : Nat)), (127, .int .i64 (nn : Nat)), (128, .int .i64 (k : Nat))] a ∧ pl = ((notesB b).take k).foldl (atStep S.ep x.u) (-1) ∧ Below w11.heap.size w11 wy) (nn) ?_ ?_
            · exact ⟨0, _, by omega, hA, rfl, HL⟩
            clear HL
            rintro kk2 a wy ⟨k, pl, hkk, hA, hpl, HL⟩
            refine wS (wR ?_)
            revert a; refine wo rfl rfl (by decide) (fun ev e h => by simp [go_sem, h] <;> rfl) ?_; intro a hA
            replace hA := hA.keepN [3, 4, 5, 6, 8, 10, 11, 122, 123, 127, 128, 129]
            refine wN (nT (wS ?_))
            refine wp_if hA 129 _ rfl (fun hq5 => ?yJ) (fun hq5 => ?nJ)
            case yJ =>
              have hltk : k < nn := by simp at hq5; omega
              obtain ⟨y, hy⟩ : ∃ x, (notesB b)[k]? = some x := ⟨_, List.getElem?_eq_getElem (by omega)⟩
              obtain ⟨Nk, hNk⟩ : ∃ x, N[k]? = some x := ⟨_, List.getElem?_eq_getElem (by omega)⟩
              have hNy : Nk.b = z0 y := by
                have h1 := get_map hN hNk
                rw [List.getElem?_map, hy] at h1
                injection h1 with h1
                exact h1.symm
              have hPy : P[k]? = some y.at_ := by rw [hP, List.getElem?_map, hy]; rfl
              have hy1 : Nk.kind = y.k := congrArg NoteB.k hNy
              have hy2 : Nk.ep = y.ep := congrArg NoteB.ep hNy
              have hy3 : Nk.m.uid = y.u := congrArg NoteB.u hNy
              obtain ⟨adN, hA2, hadN, kN, kN'⟩ := hrN.cell hNk
              obtain ⟨adP, hA5, hadP, kP, -⟩ := hrP.cell hPy
              subst hA2 hA5
              have cN : ∀ {wz : World}, Below w11.heap.size w11 wz → wz.cell? (adN.add (k * 7)) = some (.int .i64 y.k) ∧ wz.cell? ⟨(adN.add (k * 7)).block, (adN.add (k * 7)).off + 1, none⟩ = some (.int .u32 (y.ep : Nat)) ∧ wz.cell? ⟨(adN.add (k * 7)).block, (adN.add (k * 7)).off + 3, none⟩ = some (.int .u32 (y.u : Nat)) ∧ wz.cell? (adP.add k) = some (.int .i64 (y.at_ : Nat)) := fun {wz} hb => by
                refine ⟨(hb.cell (by rw [block_of_add]; exact hadN)).trans ((kN _ rfl).trans (by rw [hy1])), (hb.cell (by show (adN.add _).block < _; rw [block_of_add]; exact hadN)).trans ((kN' 1 _ (by decide) rfl).trans (by rw [hy2])), (hb.cell (by show (adN.add _).block < _; rw [block_of_add]; exact hadN)).trans ((kN' 3 _ (by decide) rfl).trans (by rw [hy3])), ?_⟩
                have h1 := kP _ rfl
                rw [show k * intSh.k = k from Nat.mul_one k] at h1
                exact (hb.cell (by rw [block_of_add]; exact hadP)).trans h1
              have kk0 : (0 : Int) ≤ (k : Int) := by omega
              have kk1 : (k : Int) < (nn : Int) := by omega
              have hwk : IntKind.i64.wrap ((k : Int) + 1) = (k : Int) + 1 := IntWalk.i64_in _ (by omega)
              have hst := place_step hy S.ep x.u
              refine wp_skip (nT (wS (wB (wS (wR ?_)))))
              revert a; (iterate 2 refine wo rfl rfl (by decide) (fun ev e h => by simp [go_sem, h] <;> rfl) ?_); intro a hA
              replace hA := hA.keepN [3, 4, 5, 6, 8, 10, 11, 12, 122, 123, 127, 128]
              have pG := fun (wo : World) (hC : (fun wz => Below w11.heap.size w11 wz) wo) => have Kx := K8.below hC K8.lt; have y0 := cN hC; have y1 := cE0 hC; And.intro (Kx.cell) (And.intro (y0) (y1))
              refine wN (nT (wS ?_))
              refine wp_any_at hA ((.det ?dG0) :: (.det ?dG1) :: (.det ?dG2) :: (.det ?dG3) :: (.det ?dG4) :: (.det ?dG5) :: (.det ?dG6) :: (.det ?dG7) :: (.det ?dG8) :: (.det ?dG9) :: (.det ?dG10) :: (.det ?dG11) :: (.det ?dG12) :: (.det ?dG13) :: (.det ?dG14) :: (.det ?dG15) :: (.det ?dG16) :: (.det ?dG17) :: (.det ?dG18) :: (.det ?dG19) :: (.det ?dG20) :: (.det ?dG21) :: (.det ?dG22) :: (.det ?dG23) :: (.det ?dG24) :: (.det ?dG25) :: (.det ?dG26) :: (.det ?dG27) :: (.det ?dG28) :: (.det ?dG29) :: (.det ?dG30) :: []) [] (fun wz => Below w11.heap.size w11 wz) (TSp [] Grows) (by kernel_rfl) rfl (by kernel_rfl) (by kernel_rfl) rfl (HL.drew) (stab_sp [] (true :: true :: true :: true :: true :: true :: true :: true :: true :: true :: true :: true :: true :: true :: true :: true :: true :: true :: true :: true :: true :: true :: true :: true :: true :: true :: true :: true :: true :: true :: true :: []) (true :: true :: true :: true :: true :: true :: true :: true :: true :: true :: true :: true :: true :: true :: true :: true :: true :: true :: true :: true :: true :: true :: true :: true :: true :: true :: true :: true :: true :: true :: true :: []) [] rfl rfl rfl (by kernel_rfl) ⟨trivial, trivial, trivial, trivial, trivial, trivial, trivial, trivial, trivial, trivial, trivial, trivial, trivial, trivial, trivial, trivial, trivial, trivial, trivial, trivial, trivial, trivial, trivial, trivial, trivial, trivial, trivial, trivial, trivial, trivial, trivial, trivial⟩ trivial) (fun _ h => by cases h) (fun _ _ _ _ _ h => by cases h) (fun _ h => by cases h) ⟨?oG0, ?oG1, ?oG2, ?oG3, ?oG4, ?oG5, ?oG6, ?oG7, ?oG8, ?oG9, ?oG10, ?oG11, ?oG12, ?oG13, ?oG14, ?oG15, ?oG16, ?oG17, ?oG18, ?oG19, ?oG20, ?oG21, ?oG22, ?oG23, ?oG24, ?oG25, ?oG26, ?oG27, ?oG28, ?oG29, ?oG30, trivial⟩ (by kernel_rfl) ?fG
              case oG0 => intro ev wo hev hC hs hph; have x0 := se hA hs 5; exact od rfl rfl (by kernel_rfl) hC (TSp.of rfl (Grows.refl _)) (by simp [go_sem, x0] <;> rfl)
              case oG1 => intro ev wo hev hC hs hph; have x0 := se hA hs 12; exact od rfl rfl (by kernel_rfl) hC (TSp.of rfl (Grows.refl _)) (by simp [go_sem, x0] <;> rfl)
              case oG2 => intro ev wo hev hC hs hph; have x0 := sd hs 131 0; have x1 := sd hs 132 1; exact od rfl rfl (by kernel_rfl) hC (TSp.of rfl (Grows.refl _)) (by simp [go_sem, x0, x1, kk0, kk1] <;> rfl)
              case oG3 => intro ev wo hev hC hs hph; have x0 := sd hs 133 2; exact od rfl rfl (by kernel_rfl) hC (TSp.of rfl (Grows.refl _)) (by simp [go_sem, x0] <;> rfl)
              case oG4 => intro ev wo hev hC hs hph; have x0 := sd hs 134 3; exact od rfl rfl (by kernel_rfl) hC (TSp.of rfl (Grows.refl _)) (by simp [go_sem, x0, pG _ hC] <;> rfl)
              case oG5 => intro ev wo hev hC hs hph; have x0 := sd hs 135 4; exact od rfl rfl (by kernel_rfl) hC (TSp.of rfl (Grows.refl _)) (by simp [go_sem, x0, hev.const] <;> rfl)
              case oG6 => intro ev wo hev hC hs hph; have x0 := sd hs 136 5; exact od rfl rfl (by kernel_rfl) hC (TSp.of rfl (Grows.refl _)) (by simp [go_sem, x0] <;> rfl)
              case oG7 => intro ev wo hev hC hs hph; have x0 := se hA hs 5; have y := sd hs 137 6; exact ob_gv _ rfl rfl y rfl (by kernel_rfl) hC (TSp.of rfl (Grows.refl _)) (fun hq => by simp [go_sem, x0] <;> rfl) (by rfl)
              case oG8 => intro ev wo hev hC hs hph; have x0 := se hA hs 12; have y := sd hs 137 6; exact ob_gv _ rfl rfl y rfl (by kernel_rfl) hC (TSp.of rfl (Grows.refl _)) (fun hq => by simp [go_sem, x0] <;> rfl) (by rfl)
              case oG9 => intro ev wo hev hC hs hph; have x0 := sd hs 138 7; have x1 := sd hs 139 8; have y := sd hs 137 6; exact ob_gv _ rfl rfl y rfl (by kernel_rfl) hC (TSp.of rfl (Grows.refl _)) (fun hq => by simp [go_sem, (x0.trans (gw_t (beq_t hq))), (x1.trans (gw_t (beq_t hq))), kk0, kk1] <;> rfl) (by rfl)
              case oG10 => intro ev wo hev hC hs hph; have x0 := sd hs 140 9; have y := sd hs 137 6; exact ob_gv _ rfl rfl y rfl (by kernel_rfl) hC (TSp.of rfl (Grows.refl _)) (fun hq => by simp [go_sem, (x0.trans (gw_t (beq_t hq)))] <;> rfl) (by rfl)
              case oG11 => intro ev wo hev hC hs hph; have x0 := sd hs 141 10; have y := sd hs 137 6; exact ob_gv _ rfl rfl y rfl (by kernel_rfl) hC (TSp.of rfl (Grows.refl _)) (fun hq => by simp [go_sem, (x0.trans (gw_t (beq_t hq))), pG _ hC] <;> rfl) (by rfl)
              case oG12 => intro ev wo hev hC hs hph; have x0 := se hA hs 8; have y := sd hs 137 6; exact ob_gv _ rfl rfl y rfl (by kernel_rfl) hC (TSp.of rfl (Grows.refl _)) (fun hq => by simp [go_sem, x0] <;> rfl) (by rfl)
              case oG13 => intro ev wo hev hC hs hph; have x0 := sd hs 143 12; have y := sd hs 137 6; exact ob_gv _ rfl rfl y rfl (by kernel_rfl) hC (TSp.of rfl (Grows.refl _)) (fun hq => by simp [go_sem, (x0.trans (gw_t (beq_t hq))), pG _ hC] <;> rfl) (by rfl)
              case oG14 => intro ev wo hev hC hs hph; have x0 := sd hs 142 11; have x1 := sd hs 144 13; have y := sd hs 137 6; exact ob_gv _ rfl rfl y rfl (by kernel_rfl) hC (TSp.of rfl (Grows.refl _)) (fun hq => by simp [go_sem, (x0.trans (gw_t (beq_t hq))), (x1.trans (gw_t (beq_t hq)))] <;> rfl) (by rfl)
              case oG15 => intro ev wo hev hC hs hph; have x0 := sd hs 137 6; have x1 := sd hs 145 14; exact od rfl rfl (by kernel_rfl) hC (TSp.of rfl (Grows.refl _)) (by rw [pick_and rfl x0 x1 (hev.const _)] <;> rfl)
              case oG16 => intro ev wo hev hC hs hph; have x0 := sd hs 146 15; exact od rfl rfl (by kernel_rfl) hC (TSp.of rfl (Grows.refl _)) (by simp [go_sem, x0] <;> rfl)
              case oG17 => intro ev wo hev hC hs hph; have x0 := se hA hs 5; have y := sd hs 147 16; exact ob_gv _ rfl rfl y rfl (by kernel_rfl) hC (TSp.of rfl (Grows.refl _)) (fun hq => by simp [go_sem, x0] <;> rfl) (by rfl)
              case oG18 => intro ev wo hev hC hs hph; have x0 := se hA hs 12; have y := sd hs 147 16; exact ob_gv _ rfl rfl y rfl (by kernel_rfl) hC (TSp.of rfl (Grows.refl _)) (fun hq => by simp [go_sem, x0] <;> rfl) (by rfl)
              case oG19 => intro ev wo hev hC hs hph; have x0 := sd hs 148 17; have x1 := sd hs 149 18; have y := sd hs 147 16; exact ob_gv _ rfl rfl y rfl (by kernel_rfl) hC (TSp.of rfl (Grows.refl _)) (fun hq => by simp [go_sem, (x0.trans (gw_t (beq_t hq))), (x1.trans (gw_t (beq_t hq))), kk0, kk1] <;> rfl) (by rfl)
              case oG20 => intro ev wo hev hC hs hph; have x0 := sd hs 150 19; have y := sd hs 147 16; exact ob_gv _ rfl rfl y rfl (by kernel_rfl) hC (TSp.of rfl (Grows.refl _)) (fun hq => by simp [go_sem, (x0.trans (gw_t (beq_t hq)))] <;> rfl) (by rfl)
              case oG21 => intro ev wo hev hC hs hph; have x0 := sd hs 151 20; have y := sd hs 147 16; exact ob_gv _ rfl rfl y rfl (by kernel_rfl) hC (TSp.of rfl (Grows.refl _)) (fun hq => by simp [go_sem, (x0.trans (gw_t (beq_t hq)))] <;> rfl) (by rfl)
              case oG22 => intro ev wo hev hC hs hph; have x0 := sd hs 152 21; have y := sd hs 147 16; exact ob_gv _ rfl rfl y rfl (by kernel_rfl) hC (TSp.of rfl (Grows.refl _)) (fun hq => by simp [go_sem, (x0.trans (gw_t (beq_t hq))), pG _ hC] <;> rfl) (by rfl)
              case oG23 => intro ev wo hev hC hs hph; have x0 := se hA hs 8; have y := sd hs 147 16; exact ob_gv _ rfl rfl y rfl (by kernel_rfl) hC (TSp.of rfl (Grows.refl _)) (fun hq => by simp [go_sem, x0] <;> rfl) (by rfl)
              case oG24 => intro ev wo hev hC hs hph; have x0 := sd hs 154 23; have y := sd hs 147 16; exact ob_gv _ rfl rfl y rfl (by kernel_rfl) hC (TSp.of rfl (Grows.refl _)) (fun hq => by simp [go_sem, (x0.trans (gw_t (beq_t hq))), pG _ hC] <;> rfl) (by rfl)
              case oG25 => intro ev wo hev hC hs hph; have x0 := se hA hs 10; have y := sd hs 147 16; exact ob_gv _ rfl rfl y rfl (by kernel_rfl) hC (TSp.of rfl (Grows.refl _)) (fun hq => by simp [go_sem, x0] <;> rfl) (by rfl)
              case oG26 => intro ev wo hev hC hs hph; have x0 := sd hs 155 24; have x1 := sd hs 156 25; have y := sd hs 147 16; exact ob_gv _ rfl rfl y rfl (by kernel_rfl) hC (TSp.of rfl (Grows.refl _)) (fun hq => by simp [go_sem, (x0.trans (gw_t (beq_t hq))), (x1.trans (gw_t (beq_t hq))), ii0, ii1] <;> rfl) (by rfl)
              case oG27 => intro ev wo hev hC hs hph; have x0 := sd hs 157 26; have y := sd hs 147 16; exact ob_gv _ rfl rfl y rfl (by kernel_rfl) hC (TSp.of rfl (Grows.refl _)) (fun hq => by simp [go_sem, (x0.trans (gw_t (beq_t hq)))] <;> rfl) (by rfl)
              case oG28 => intro ev wo hev hC hs hph; have x0 := sd hs 158 27; have y := sd hs 147 16; exact ob_gv _ rfl rfl y rfl (by kernel_rfl) hC (TSp.of rfl (Grows.refl _)) (fun hq => by simp [go_sem, (x0.trans (gw_t (beq_t hq))), pG _ hC] <;> rfl) (by rfl)
              case oG29 => intro ev wo hev hC hs hph; have x0 := sd hs 153 22; have x1 := sd hs 159 28; have y := sd hs 147 16; exact ob_gv _ rfl rfl y rfl (by kernel_rfl) hC (TSp.of rfl (Grows.refl _)) (fun hq => by simp [go_sem, (x0.trans (gw_t (beq_t hq))), (x1.trans (gw_t (beq_t hq)))] <;> rfl) (by rfl)
              case oG30 => intro ev wo hev hC hs hph; have x0 := sd hs 147 16; have x1 := sd hs 160 29; exact od rfl rfl (by kernel_rfl) hC (TSp.of rfl (Grows.refl _)) (by rw [pick_and rfl x0 x1 (hev.const _)] <;> rfl)
              intro sg wf hC hph
              intro a hA
              replace hA := hA.keepN [3, 4, 5, 6, 8, 10, 11, 12, 122, 123, 127, 128, 161]
              refine nT ?_
              rw [int_beq, int_beq, Bool.and_assoc] at hA
              refine wp_if hA 161 _ rfl (fun hq6 => ?yE) (fun hq6 => ?nE)
              case yE =>
                rw [hq6, cond_true] at hst
                refine wR ?_
                revert a; (iterate 5 refine wo rfl rfl (by decide) (fun ev e h => by simp [go_sem, h, cN hC, kk0, kk1, hwk] <;> rfl) ?_); intro a hA
                replace hA := hA.keepN [3, 4, 5, 6, 8, 10, 11, 122, 123, 127, 128]
                refine wN (nB (nT (wR ?_)))
                revert a; (iterate 2 refine wo rfl rfl (by decide) (fun ev e h => by simp [go_sem, h, cN hC, kk0, kk1, hwk] <;> rfl) ?_); intro a hA
                replace hA := hA.keepN [3, 4, 5, 6, 8, 10, 11, 122, 123, 127, 128]
                refine wN (nT ?_)
                rw [show ((k : Int) + 1) = ((k + 1 : Nat) : Int) by omega] at hA
                exact ⟨kk2 - 1, by omega, k + 1, _, by omega, hA, hst.symm, hC⟩
              case nE =>
                rw [hq6, cond_false] at hst
                refine wp_skip (nB (nT (wR ?_)))
                revert a; (iterate 2 refine wo rfl rfl (by decide) (fun ev e h => by simp [go_sem, h, hwk] <;> rfl) ?_); intro a hA
                replace hA := hA.keepN [3, 4, 5, 6, 8, 10, 11, 122, 123, 127, 128]
                refine wN (nT ?_)
                rw [show ((k : Int) + 1) = ((k + 1 : Nat) : Int) by omega] at hA
                exact ⟨kk2 - 1, by omega, k + 1, _, by omega, hA, by rw [hst]; exact hpl, hC⟩
            case nJ =>
              have hkn : k = nn := by simp at hq5; omega
              rw [List.take_of_length_le (by omega)] at hpl
              have hpx : pl = (x.at_ : Int) := by
                rw [hpl]
                have hl9 : S.live = ofLive (notesB b) := by rw [← hS]; rfl
                refine place_of (E := S.ep) (a := 0) (-1) ?_ x ?_
                · rw [← hl9]; exact hcl
                · rw [← hl9]; exact List.mem_of_getElem? hx
              subst hpx
              replace hA := hA.keepN [3, 4, 5, 6, 8, 10, 11, 122, 123]
              have pH := fun (wo : World) (hC : (fun wz => Below w11.heap.size w11 wz) wo) => have Kx := K8.below hC K8.lt; have Ky := K3.below hC h3; have Kz := K4.below hC h4'; have y1 := cE0 hC; And.intro (Kx.cell) (And.intro (Ky.cell) (And.intro (Kz.cell) (y1)))
              refine wp_exit (xT (xT (xB (nT (wS ?_)))))
              refine wp_any_at hA ((.det ?dH0) :: (.det ?dH1) :: (.det ?dH2) :: (.det ?dH3) :: (.det ?dH4) :: (.det ?dH5) :: (.det ?dH6) :: (.det ?dH7) :: (.det ?dH8) :: (.det ?dH9) :: (.det ?dH10) :: (.det ?dH11) :: (.det ?dH12) :: (.det ?dH13) :: (.det ?dH14) :: (.det ?dH15) :: (.det ?dH16) :: (.det ?dH17) :: (.det ?dH18) :: (.det ?dH19) :: (.det ?dH20) :: (.det ?dH21) :: (.det ?dH22) :: (.det ?dH23) :: (.det ?dH24) :: (.det ?dH25) :: (.det ?dH26) :: (.det ?dH27) :: (.det ?dH28) :: (.det ?dH29) :: (.det ?dH30) :: (.det ?dH31) :: (.det ?dH32) :: (.det ?dH33) :: (.det ?dH34) :: (.det ?dH35) :: (.det ?dH36) :: (.det ?dH37) :: (.det ?dH38) :: (.det ?dH39) :: (.det ?dH40) :: (.det ?dH41) :: (.det ?dH42) :: (.det ?dH43) :: (.det ?dH44) :: (.det ?dH45) :: (.det ?dH46) :: (.det ?dH47) :: (.det ?dH48) :: (.det ?dH49) :: (.det ?dH50) :: (.det ?dH51) :: (.det ?dH52) :: []) [] (fun wz => Below w11.heap.size w11 wz) (TSp [] Grows) (by kernel_rfl) rfl (by kernel_rfl) (by kernel_rfl) rfl (HL.drew) (stab_sp [] (true :: true :: true :: true :: true :: true :: true :: true :: true :: true :: true :: true :: true :: true :: true :: true :: true :: true :: true :: true :: true :: true :: true :: true :: true :: true :: true :: true :: true :: true :: true :: true :: true :: true :: true :: true :: true :: true :: true :: true :: true :: true :: true :: true :: true :: true :: true :: true :: true :: true :: true :: true :: true :: []) (true :: true :: true :: true :: true :: true :: true :: true :: true :: true :: true :: true :: true :: true :: true :: true :: true :: true :: true :: true :: true :: true :: true :: true :: true :: true :: true :: true :: true :: true :: true :: true :: true :: true :: true :: true :: true :: true :: true :: true :: true :: true :: true :: true :: true :: true :: true :: true :: true :: true :: true :: true :: true :: []) [] rfl rfl rfl (by kernel_rfl) ⟨trivial, trivial, trivial, trivial, trivial, trivial, trivial, trivial, trivial, trivial, trivial, trivial, trivial, trivial, trivial, trivial, trivial, trivial, trivial, trivial, trivial, trivial, trivial, trivial, trivial, trivial, trivial, trivial, trivial, trivial, trivial, trivial, trivial, trivial, trivial, trivial, trivial, trivial, trivial, trivial, trivial, trivial, trivial, trivial, trivial, trivial, trivial, trivial, trivial, trivial, trivial, trivial, trivial, trivial⟩ trivial) (fun _ h => by cases h) (fun _ _ _ _ _ h => by cases h) (fun _ h => by cases h) ⟨?oH0, ?oH1, ?oH2, ?oH3, ?oH4, ?oH5, ?oH6, ?oH7, ?oH8, ?oH9, ?oH10, ?oH11, ?oH12, ?oH13, ?oH14, ?oH15, ?oH16, ?oH17, ?oH18, ?oH19, ?oH20, ?oH21, ?oH22, ?oH23, ?oH24, ?oH25, ?oH26, ?oH27, ?oH28, ?oH29, ?oH30, ?oH31, ?oH32, ?oH33, ?oH34, ?oH35, ?oH36, ?oH37, ?oH38, ?oH39, ?oH40, ?oH41, ?oH42, ?oH43, ?oH44, ?oH45, ?oH46, ?oH47, ?oH48, ?oH49, ?oH50, ?oH51, ?oH52, trivial⟩ (by kernel_rfl) ?fH
              case oH0 => intro ev wo hev hC hs hph; have x0 := se hA hs 3; exact od rfl rfl (by kernel_rfl) hC (TSp.of rfl (Grows.refl _)) (by simp [go_sem, x0, ii0, ii1] <;> rfl)
              case oH1 => intro ev wo hev hC hs hph; have x0 := sd hs 167 0; exact od rfl rfl (by kernel_rfl) hC (TSp.of rfl (Grows.refl _)) (by simp [go_sem, x0, pH _ hC, ii0, ii1] <;> rfl)
              case oH2 => intro ev wo hev hC hs hph; have x0 := se hA hs 10; exact od rfl rfl (by kernel_rfl) hC (TSp.of rfl (Grows.refl _)) (by simp [go_sem, x0, ii0, ii1] <;> rfl)
              case oH3 => intro ev wo hev hC hs hph; have x0 := sd hs 168 1; have x1 := sd hs 169 2; exact od rfl rfl (by kernel_rfl) hC (TSp.of rfl (Grows.refl _)) (by simp [go_sem, x0, x1, ii0, ii1] <;> rfl)
              case oH4 => intro ev wo hev hC hs hph; have x0 := sd hs 170 3; exact od rfl rfl (by kernel_rfl) hC (TSp.of rfl (Grows.refl _)) (by simp [go_sem, x0, ii0, ii1] <;> rfl)
              case oH5 => intro ev wo hev hC hs hph; have x0 := sd hs 171 4; exact od rfl rfl (by kernel_rfl) hC (TSp.of rfl (Grows.refl _)) (by simp [go_sem, x0, pH _ hC, ii0, ii1] <;> rfl)
              case oH6 => intro ev wo hev hC hs hph; have x0 := se hA hs 8; exact od rfl rfl (by kernel_rfl) hC (TSp.of rfl (Grows.refl _)) (by simp [go_sem, x0, ii0, ii1] <;> rfl)
              case oH7 => intro ev wo hev hC hs hph; have x0 := sd hs 173 6; exact od rfl rfl (by kernel_rfl) hC (TSp.of rfl (Grows.refl _)) (by simp [go_sem, x0, pH _ hC, ii0, ii1] <;> rfl)
              case oH8 => intro ev wo hev hC hs hph; have x0 := se hA hs 10; exact od rfl rfl (by kernel_rfl) hC (TSp.of rfl (Grows.refl _)) (by simp [go_sem, x0, ii0, ii1] <;> rfl)
              case oH9 => intro ev wo hev hC hs hph; have x0 := sd hs 174 7; have x1 := sd hs 175 8; exact od rfl rfl (by kernel_rfl) hC (TSp.of rfl (Grows.refl _)) (by simp [go_sem, x0, x1, ii0, ii1] <;> rfl)
              case oH10 => intro ev wo hev hC hs hph; have x0 := sd hs 176 9; exact od rfl rfl (by kernel_rfl) hC (TSp.of rfl (Grows.refl _)) (by simp [go_sem, x0, ii0, ii1] <;> rfl)
              case oH11 => intro ev wo hev hC hs hph; have x0 := sd hs 177 10; exact od rfl rfl (by kernel_rfl) hC (TSp.of rfl (Grows.refl _)) (by simp [go_sem, x0, pH _ hC, ii0, ii1] <;> rfl)
              case oH12 => intro ev wo hev hC hs hph; have x0 := sd hs 172 5; have x1 := sd hs 178 11; exact od rfl rfl (by kernel_rfl) hC (TSp.of rfl (Grows.refl _)) (by simp [go_sem, x0, x1, ii0, ii1] <;> rfl)
              case oH13 => intro ev wo hev hC hs hph; have x0 := sd hs 179 12; exact od rfl rfl (by kernel_rfl) hC (TSp.of rfl (Grows.refl _)) (by simp [go_sem, x0, ii0, ii1] <;> rfl)
              case oH14 => intro ev wo hev hC hs hph; have x0 := se hA hs 3; have y := sd hs 180 13; exact ob_gv _ rfl rfl y rfl (by kernel_rfl) hC (TSp.of rfl (Grows.refl _)) (fun hq => by simp [go_sem, x0, ii0, ii1] <;> rfl) (by rfl)
              case oH15 => intro ev wo hev hC hs hph; have x0 := sd hs 181 14; have y := sd hs 180 13; exact ob_gv _ rfl rfl y rfl (by kernel_rfl) hC (TSp.of rfl (Grows.refl _)) (fun hq => by simp [go_sem, (x0.trans (gw_t (beq_t hq))), pH _ hC, ii0, ii1] <;> rfl) (by rfl)
              case oH16 => intro ev wo hev hC hs hph; have x0 := se hA hs 10; have y := sd hs 180 13; exact ob_gv _ rfl rfl y rfl (by kernel_rfl) hC (TSp.of rfl (Grows.refl _)) (fun hq => by simp [go_sem, x0, ii0, ii1] <;> rfl) (by rfl)
              case oH17 => intro ev wo hev hC hs hph; have x0 := sd hs 182 15; have x1 := sd hs 183 16; have y := sd hs 180 13; exact ob_gv _ rfl rfl y rfl (by kernel_rfl) hC (TSp.of rfl (Grows.refl _)) (fun hq => by simp [go_sem, (x0.trans (gw_t (beq_t hq))), (x1.trans (gw_t (beq_t hq))), ii0, ii1] <;> rfl) (by rfl)
              case oH18 => intro ev wo hev hC hs hph; have x0 := sd hs 184 17; have y := sd hs 180 13; exact ob_gv _ rfl rfl y rfl (by kernel_rfl) hC (TSp.of rfl (Grows.refl _)) (fun hq => by simp [go_sem, (x0.trans (gw_t (beq_t hq))), ii0, ii1] <;> rfl) (by rfl)
              case oH19 => intro ev wo hev hC hs hph; have x0 := sd hs 185 18; have y := sd hs 180 13; exact ob_gv _ rfl rfl y rfl (by kernel_rfl) hC (TSp.of rfl (Grows.refl _)) (fun hq => by simp [go_sem, (x0.trans (gw_t (beq_t hq))), pH _ hC, ii0, ii1] <;> rfl) (by rfl)
              case oH20 => intro ev wo hev hC hs hph; have x0 := se hA hs 11; have y := sd hs 180 13; exact ob_gv _ rfl rfl y rfl (by kernel_rfl) hC (TSp.of rfl (Grows.refl _)) (fun hq => by simp [go_sem, x0, ii0, ii1] <;> rfl) (by rfl)
              case oH21 => intro ev wo hev hC hs hph; have x0 := sd hs 186 19; have x1 := sd hs 187 20; have y := sd hs 180 13; exact ob_gv _ rfl rfl y rfl (by kernel_rfl) hC (TSp.of rfl (Grows.refl _)) (fun hq => by simp [go_sem, (x0.trans (gw_t (beq_t hq))), (x1.trans (gw_t (beq_t hq))), ii0, ii1] <;> rfl) (by rfl)
              case oH22 => intro ev wo hev hC hs hph; have x0 := sd hs 180 13; have x1 := sd hs 188 21; exact od rfl rfl (by kernel_rfl) hC (TSp.of rfl (Grows.refl _)) (by rw [pick_or rfl x0 (hev.const _) x1] <;> rfl)
              case oH23 => intro ev wo hev hC hs hph; have x0 := sd hs 189 22; exact od rfl rfl (by kernel_rfl) hC (TSp.of rfl (Grows.refl _)) (by simp [go_sem, x0, ii0, ii1] <;> rfl)
              case oH24 => intro ev wo hev hC hs hph; have x0 := se hA hs 4; have y := sd hs 190 23; exact ob_gv _ rfl rfl y rfl (by kernel_rfl) hC (TSp.of rfl (Grows.refl _)) (fun hq => by simp [go_sem, x0, ii0, ii1] <;> rfl) (by rfl)
              case oH25 => intro ev wo hev hC hs hph; have x0 := sd hs 191 24; have y := sd hs 190 23; exact ob_gv _ rfl rfl y rfl (by kernel_rfl) hC (TSp.of rfl (Grows.refl _)) (fun hq => by simp [go_sem, (x0.trans (gw_t (beq_t hq))), pH _ hC, ii0, ii1] <;> rfl) (by rfl)
              case oH26 => intro ev wo hev hC hs hph; have x0 := se hA hs 10; have y := sd hs 190 23; exact ob_gv _ rfl rfl y rfl (by kernel_rfl) hC (TSp.of rfl (Grows.refl _)) (fun hq => by simp [go_sem, x0, ii0, ii1] <;> rfl) (by rfl)
              case oH27 => intro ev wo hev hC hs hph; have x0 := sd hs 192 25; have x1 := sd hs 193 26; have y := sd hs 190 23; exact ob_gv _ rfl rfl y rfl (by kernel_rfl) hC (TSp.of rfl (Grows.refl _)) (fun hq => by simp [go_sem, (x0.trans (gw_t (beq_t hq))), (x1.trans (gw_t (beq_t hq))), ii0, ii1] <;> rfl) (by rfl)
              case oH28 => intro ev wo hev hC hs hph; have x0 := sd hs 194 27; have y := sd hs 190 23; exact ob_gv _ rfl rfl y rfl (by kernel_rfl) hC (TSp.of rfl (Grows.refl _)) (fun hq => by simp [go_sem, (x0.trans (gw_t (beq_t hq))), ii0, ii1] <;> rfl) (by rfl)
              case oH29 => intro ev wo hev hC hs hph; have x0 := sd hs 195 28; have y := sd hs 190 23; exact ob_gv _ rfl rfl y rfl (by kernel_rfl) hC (TSp.of rfl (Grows.refl _)) (fun hq => by simp [go_sem, (x0.trans (gw_t (beq_t hq))), pH _ hC, ii0, ii1] <;> rfl) (by rfl)
              case oH30 => intro ev wo hev hC hs hph; have x0 := se hA hs 8; have y := sd hs 190 23; exact ob_gv _ rfl rfl y rfl (by kernel_rfl) hC (TSp.of rfl (Grows.refl _)) (fun hq => by simp [go_sem, x0, ii0, ii1] <;> rfl) (by rfl)
              case oH31 => intro ev wo hev hC hs hph; have x0 := sd hs 197 30; have y := sd hs 190 23; exact ob_gv _ rfl rfl y rfl (by kernel_rfl) hC (TSp.of rfl (Grows.refl _)) (fun hq => by simp [go_sem, (x0.trans (gw_t (beq_t hq))), pH _ hC, ii0, ii1] <;> rfl) (by rfl)
              case oH32 => intro ev wo hev hC hs hph; have x0 := se hA hs 10; have y := sd hs 190 23; exact ob_gv _ rfl rfl y rfl (by kernel_rfl) hC (TSp.of rfl (Grows.refl _)) (fun hq => by simp [go_sem, x0, ii0, ii1] <;> rfl) (by rfl)
              case oH33 => intro ev wo hev hC hs hph; have x0 := sd hs 198 31; have x1 := sd hs 199 32; have y := sd hs 190 23; exact ob_gv _ rfl rfl y rfl (by kernel_rfl) hC (TSp.of rfl (Grows.refl _)) (fun hq => by simp [go_sem, (x0.trans (gw_t (beq_t hq))), (x1.trans (gw_t (beq_t hq))), ii0, ii1] <;> rfl) (by rfl)
              case oH34 => intro ev wo hev hC hs hph; have x0 := sd hs 200 33; have y := sd hs 190 23; exact ob_gv _ rfl rfl y rfl (by kernel_rfl) hC (TSp.of rfl (Grows.refl _)) (fun hq => by simp [go_sem, (x0.trans (gw_t (beq_t hq))), ii0, ii1] <;> rfl) (by rfl)
              case oH35 => intro ev wo hev hC hs hph; have x0 := sd hs 201 34; have y := sd hs 190 23; exact ob_gv _ rfl rfl y rfl (by kernel_rfl) hC (TSp.of rfl (Grows.refl _)) (fun hq => by simp [go_sem, (x0.trans (gw_t (beq_t hq))), pH _ hC, ii0, ii1] <;> rfl) (by rfl)
              case oH36 => intro ev wo hev hC hs hph; have x0 := sd hs 196 29; have x1 := sd hs 202 35; have y := sd hs 190 23; exact ob_gv _ rfl rfl y rfl (by kernel_rfl) hC (TSp.of rfl (Grows.refl _)) (fun hq => by simp [go_sem, (x0.trans (gw_t (beq_t hq))), (x1.trans (gw_t (beq_t hq))), ii0, ii1] <;> rfl) (by rfl)
              case oH37 => intro ev wo hev hC hs hph; have x0 := sd hs 190 23; have x1 := sd hs 203 36; exact od rfl rfl (by kernel_rfl) hC (TSp.of rfl (Grows.refl _)) (by rw [pick_or rfl x0 (hev.const _) x1] <;> rfl)
              case oH38 => intro ev wo hev hC hs hph; have x0 := sd hs 204 37; exact od rfl rfl (by kernel_rfl) hC (TSp.of rfl (Grows.refl _)) (by simp [go_sem, x0, ii0, ii1] <;> rfl)
              case oH39 => intro ev wo hev hC hs hph; have x0 := se hA hs 4; have y := sd hs 205 38; exact ob_gv _ rfl rfl y rfl (by kernel_rfl) hC (TSp.of rfl (Grows.refl _)) (fun hq => by simp [go_sem, x0, ii0, ii1] <;> rfl) (by rfl)
              case oH40 => intro ev wo hev hC hs hph; have x0 := sd hs 206 39; have y := sd hs 205 38; exact ob_gv _ rfl rfl y rfl (by kernel_rfl) hC (TSp.of rfl (Grows.refl _)) (fun hq => by simp [go_sem, (x0.trans (gw_t (beq_t hq))), pH _ hC, ii0, ii1] <;> rfl) (by rfl)
              case oH41 => intro ev wo hev hC hs hph; have x0 := se hA hs 10; have y := sd hs 205 38; exact ob_gv _ rfl rfl y rfl (by kernel_rfl) hC (TSp.of rfl (Grows.refl _)) (fun hq => by simp [go_sem, x0, ii0, ii1] <;> rfl) (by rfl)
              case oH42 => intro ev wo hev hC hs hph; have x0 := sd hs 207 40; have x1 := sd hs 208 41; have y := sd hs 205 38; exact ob_gv _ rfl rfl y rfl (by kernel_rfl) hC (TSp.of rfl (Grows.refl _)) (fun hq => by simp [go_sem, (x0.trans (gw_t (beq_t hq))), (x1.trans (gw_t (beq_t hq))), ii0, ii1] <;> rfl) (by rfl)
              case oH43 => intro ev wo hev hC hs hph; have x0 := sd hs 209 42; have y := sd hs 205 38; exact ob_gv _ rfl rfl y rfl (by kernel_rfl) hC (TSp.of rfl (Grows.refl _)) (fun hq => by simp [go_sem, (x0.trans (gw_t (beq_t hq))), ii0, ii1] <;> rfl) (by rfl)
              case oH44 => intro ev wo hev hC hs hph; have x0 := sd hs 210 43; have y := sd hs 205 38; exact ob_gv _ rfl rfl y rfl (by kernel_rfl) hC (TSp.of rfl (Grows.refl _)) (fun hq => by simp [go_sem, (x0.trans (gw_t (beq_t hq))), pH _ hC, ii0, ii1] <;> rfl) (by rfl)
              case oH45 => intro ev wo hev hC hs hph; have x0 := se hA hs 8; have y := sd hs 205 38; exact ob_gv _ rfl rfl y rfl (by kernel_rfl) hC (TSp.of rfl (Grows.refl _)) (fun hq => by simp [go_sem, x0, ii0, ii1] <;> rfl) (by rfl)
              case oH46 => intro ev wo hev hC hs hph; have x0 := sd hs 212 45; have y := sd hs 205 38; exact ob_gv _ rfl rfl y rfl (by kernel_rfl) hC (TSp.of rfl (Grows.refl _)) (fun hq => by simp [go_sem, (x0.trans (gw_t (beq_t hq))), pH _ hC, ii0, ii1] <;> rfl) (by rfl)
              case oH47 => intro ev wo hev hC hs hph; have x0 := se hA hs 10; have y := sd hs 205 38; exact ob_gv _ rfl rfl y rfl (by kernel_rfl) hC (TSp.of rfl (Grows.refl _)) (fun hq => by simp [go_sem, x0, ii0, ii1] <;> rfl) (by rfl)
              case oH48 => intro ev wo hev hC hs hph; have x0 := sd hs 213 46; have x1 := sd hs 214 47; have y := sd hs 205 38; exact ob_gv _ rfl rfl y rfl (by kernel_rfl) hC (TSp.of rfl (Grows.refl _)) (fun hq => by simp [go_sem, (x0.trans (gw_t (beq_t hq))), (x1.trans (gw_t (beq_t hq))), ii0, ii1] <;> rfl) (by rfl)
              case oH49 => intro ev wo hev hC hs hph; have x0 := sd hs 215 48; have y := sd hs 205 38; exact ob_gv _ rfl rfl y rfl (by kernel_rfl) hC (TSp.of rfl (Grows.refl _)) (fun hq => by simp [go_sem, (x0.trans (gw_t (beq_t hq))), ii0, ii1] <;> rfl) (by rfl)
              case oH50 => intro ev wo hev hC hs hph; have x0 := sd hs 216 49; have y := sd hs 205 38; exact ob_gv _ rfl rfl y rfl (by kernel_rfl) hC (TSp.of rfl (Grows.refl _)) (fun hq => by simp [go_sem, (x0.trans (gw_t (beq_t hq))), pH _ hC, ii0, ii1] <;> rfl) (by rfl)
              case oH51 => intro ev wo hev hC hs hph; have x0 := sd hs 211 44; have x1 := sd hs 217 50; have y := sd hs 205 38; exact ob_gv _ rfl rfl y rfl (by kernel_rfl) hC (TSp.of rfl (Grows.refl _)) (fun hq => by simp [go_sem, (x0.trans (gw_t (beq_t hq))), (x1.trans (gw_t (beq_t hq))), ii0, ii1] <;> rfl) (by rfl)
              case oH52 => intro ev wo hev hC hs hph; have x0 := sd hs 205 38; have x1 := sd hs 218 51; exact od rfl rfl (by kernel_rfl) hC (TSp.of rfl (Grows.refl _)) (by rw [pick_or rfl x0 (hev.const _) x1] <;> rfl)
              intro sg wf hC hph
              intro a hA
              replace hA := hA.keepN [3, 4, 5, 6, 8, 122, 123, 219]
              refine nT ?_
              refine wp_if hA 219 _ rfl (fun hq6 => ?yF) (fun hq6 => ?nF)
              case yF => simp at hq6
              case nF =>
                refine wp_skip (nB (nT (wR ?_)))
                revert a; (iterate 2 refine wo rfl rfl (by decide) (fun ev e h => by simp [go_sem, h, hwi] <;> rfl) ?_); intro a hA
                replace hA := hA.keepN [3, 4, 5, 6, 8, 122, 123]
                refine wN (nT ?_)
                rw [show ((i : Int) + 1) = ((i + 1 : Nat) : Int) by omega] at hA
                exact ⟨kk - 1, by omega, i + 1, by omega, hA, hC⟩
end Go.Proofs.YtmjikfeaopmejaaGreatDoor
/-
  Arguments, opened by their types: numbers, texts, structs of one-cell fields, slices of what reads.
-/
namespace Go.Proofs.YtmjikfeaopmejaaGreatDoor
open Go.ChangeShapes Go.WideShapes Go.Deep Go.RowKit
theorem cell_lt' {w : World} {a : Addr} {v : Value} (h : w.cell? a = some v) : a.block < w.heap.size := by
  rcases Nat.lt_or_ge a.block w.heap.size with hlt | hge
  · exact hlt
  · unfold World.cell? at h
    simp [Array.getElem?_eq_none hge] at h
/-- cells that read at a type -/
def Fits {H : Type} (enc : TypeId × Value → H) (P : Program) (w : World) (t : TypeId) (cs : List Value) : Prop := ∃ base spare held fuel x, DataW.trod enc P w base spare held fuel t cs = some x
section
variable {H : Type} {enc : TypeId × Value → H} {P : Program} {w : World} {t e : TypeId} {cs : List Value}
theorem fits_int {k : IntKind} (h : Fits enc P w t cs) (ht : P.underlying t = some (.int k)) : ∃ n, cs = [.int k n] ∧ (Lit.int k n).wf = true := by
  obtain ⟨_, _, _, _, _, h⟩ := h
  obtain ⟨n, e, _, hw⟩ := DataW.trod_int ht h
  exact ⟨n, e, hw⟩
theorem fits_string (h : Fits enc P w t cs) (ht : P.underlying t = some .string) : ∃ s : ByteArray, cs = [.string s] ∧ s.size ≤ maxLen := by
  obtain ⟨_, _, _, _, _, h⟩ := h
  obtain ⟨s, e, _, hw⟩ := DataW.trod_string ht h
  exact ⟨s, e, hw⟩
theorem fits_bool (h : Fits enc P w t cs) (ht : P.underlying t = some .bool) : ∃ b, cs = [.bool b] := by
  obtain ⟨_, _, _, _, _, h⟩ := h
  obtain ⟨s, e, _⟩ := DataW.trod_bool ht h
  exact ⟨s, e⟩
theorem fits_fields {fs : Array Field} (h : Fits enc P w t cs) (ht : P.underlying t = some (.struct fs)) (hone : oneCellFields P fs = true) (hC : P.cellsOf t = fs.size) : cs.length = fs.size ∧ ∀ (j : Nat) (f : Field) (c : Value), fs[j]? = some f → cs[j]? = some c → Fits enc P w f.type [c] := by
  obtain ⟨base, spare, held, fuel, x, h⟩ := h
  obtain ⟨ys, n, _, _, hl, hyl, hat⟩ := DataW.trod_struct ht h
  refine ⟨by rw [hl, hC], fun j f c hf hc => ?_⟩
  obtain ⟨ho, hk⟩ := hone_of hone j f hf
  have h1 := hat j f hf
  have hj := (Array.getElem?_eq_some_iff.1 hf).1
  rw [ho, hk] at h1
  have hd1 : (List.drop j cs).take 1 = [c] := by
    have hjl := (List.getElem?_eq_some_iff.1 hc).1
    rw [List.drop_eq_getElem_cons hjl, (List.getElem?_eq_some_iff.1 hc).2]
    rfl
  rw [hd1, List.getElem?_eq_getElem (by omega)] at h1
  exact ⟨base, spare, held, n, _, h1⟩
theorem rows_at (k : Nat) : ∀ (L : List (List Value)) (i j : Nat) (x : List Value), (∀ x ∈ L, x.length = k) → L[i]? = some x → j < k → L.flatten[i * k + j]? = x[j]?
  | y :: r, 0, j, x, hL, h, hj => by
    have e : y = x := by simpa using h
    subst e
    have := hL y List.mem_cons_self
    rw [List.flatten_cons, Nat.zero_mul, Nat.zero_add, List.getElem?_append_left (by omega)]
  | y :: r, i + 1, j, x, hL, h, hj => by
    have ih := rows_at k r i j x (fun z hz => hL z (List.mem_cons_of_mem _ hz)) (by simpa using h) hj
    have := hL y List.mem_cons_self
    have hm : k ≤ (i + 1) * k + j := by rw [Nat.succ_mul]; omega
    rw [List.flatten_cons, List.getElem?_append_right (by omega)]
    have e : (i + 1) * k + j - y.length = i * k + j := by rw [Nat.succ_mul]; omega
    rw [e]; exact ih
theorem rows_len (k : Nat) : ∀ (L : List (List Value)), (∀ x ∈ L, x.length = k) → L.flatten.length = L.length * k
  | [], _ => by simp
  | y :: r, h => by
    have := rows_len k r fun z hz => h z (List.mem_cons_of_mem _ hz)
    rw [List.flatten_cons, List.length_append, this, h y List.mem_cons_self, List.length_cons, Nat.succ_mul]; omega
theorem fits_slice (h : Fits enc P w t cs) (ht : P.underlying t = some (.slice e)) (hk : 0 < P.cellsOf e) :
    ∃ (A : Option Addr) (n c : Nat) (L : List (List Value)), cs = [.slice A n c] ∧ n ≤ c ∧ c ≤ maxLen ∧ L.length = n ∧ (∀ x ∈ L, x.length = P.cellsOf e ∧ Fits enc P w e x) ∧ Reads w w.heap.size (P.cellsOf e) A n L.flatten := by
  obtain ⟨base, spare, held, fuel, x, hf⟩ := h
  rcases open_slice ht hf with ⟨hcs, _⟩ | ⟨a, len, cap, m, n0, D, Pl, hcs, _, hl, hm, hmm, hdx, hx⟩
  · exact ⟨none, 0, 0, [], hcs, Nat.le_refl _, Nat.zero_le _, rfl, fun x hx => (by cases hx), by simp, fun hn => absurd hn (by simp)⟩
  · have hml : len ≤ m := by rw [hmm]; split <;> omega
    have hall : ∀ n, n ≤ len → ∃ L : List (List Value), L.length = n ∧ (∀ x ∈ L, x.length = P.cellsOf e ∧ Fits enc P w e x) ∧ ∀ i x, L[i]? = some x → ∀ j u, x[j]? = some u → w.cell? (a.add (i * P.cellsOf e + j)) = some u := by
      intro n
      induction n with
      | zero => intro _; exact ⟨[], rfl, by simp, by simp⟩
      | succ n ih =>
        intro hnl
        obtain ⟨L, hl1, hl2, hl3⟩ := ih (by omega)
        obtain ⟨cs', hcc, htr⟩ := hx n (by omega)
        obtain ⟨_, hlen, hat⟩ := World.cells?_some hcc
        refine ⟨L ++ [cs'], by simp [hl1], ?_, ?_⟩
        · intro y hy
          rcases List.mem_append.1 hy with h | h
          · exact hl2 y h
          · rw [List.mem_singleton] at h
            subst h
            exact ⟨hlen, base, spare, held, n0, _, htr⟩
        · intro i y hi' j u hj
          rcases Nat.lt_or_ge i L.length with h | h
          · rw [List.getElem?_append_left h] at hi'; exact hl3 i y hi' j u hj
          · rw [List.getElem?_append_right h] at hi'
            have h0 : i - L.length = 0 := by
              rcases Nat.eq_zero_or_pos (i - L.length) with h' | h'
              · exact h'
              · rw [List.getElem?_eq_none (by simp; omega)] at hi'; cases hi'
            rw [h0] at hi'
            have hy : cs' = y := by simpa using hi'
            subst hy
            obtain rfl : i = n := by omega
            have hj2 : j < P.cellsOf e := by
              have := (List.getElem?_eq_some_iff.1 hj).1
              omega
            have := hat j hj2
            rw [hj, Go.Deep.add_add] at this
            exact this
    obtain ⟨L, hL1, hL2, hL3⟩ := hall len (Nat.le_refl _)
    refine ⟨some a, len, cap, L, hcs, hl, hm, hL1, hL2, ?_, fun hn => ⟨a, rfl, ?_, ?_⟩⟩
    · rw [rows_len _ L fun x hx => (hL2 x hx).1, hL1]
    · obtain ⟨x, hx0⟩ : ∃ x, L[0]? = some x := ⟨_, List.getElem?_eq_getElem (by omega)⟩
      have hxl := (hL2 x (List.mem_of_getElem? hx0)).1
      obtain ⟨u, hu⟩ : ∃ u, x[0]? = some u := ⟨_, List.getElem?_eq_getElem (by omega)⟩
      have := cell_lt' (hL3 0 x hx0 0 u hu)
      rwa [block_of_add] at this
    · intro j u hj
      have hjl := (List.getElem?_eq_some_iff.1 hj).1
      rw [rows_len _ L fun x hx => (hL2 x hx).1] at hjl
      have hq : j / P.cellsOf e < L.length := Nat.div_lt_of_lt_mul (by rw [Nat.mul_comm]; exact hjl)
      have he2 : j / P.cellsOf e * P.cellsOf e + j % P.cellsOf e = j := by rw [Nat.mul_comm]; exact Nat.div_add_mod j _
      have hp := rows_at (P.cellsOf e) L (j / P.cellsOf e) (j % P.cellsOf e) _ (fun x hx => (hL2 x hx).1) (List.getElem?_eq_getElem hq) (Nat.mod_lt _ hk)
      rw [he2, hj] at hp
      have := hL3 _ _ (List.getElem?_eq_getElem hq) _ u hp.symm
      rw [he2] at this
      exact this
theorem fits_top {base0 : Nat} {spare : Nat → Bool} {held : Bool} {v : Value} {d : DataW H} {ps : List MemPlace} (h : DataW.Trod enc P w base0 spare held t v d ps) : Fits enc P w t v.cells.toList := by
  obtain ⟨fuel, hf⟩ := h
  exact ⟨_, _, _, fuel, _, hf⟩
theorem fits_struct {base0 : Nat} {spare : Nat → Bool} {held : Bool} {r : Reach} {b0 : Nat} {fs : Array Field} {v : Value} {d : DataW H} {ps : List MemPlace} (hv : Value.okWide P w r b0 t v) (ht : P.underlying t = some (.struct fs)) (h : DataW.Trod enc P w base0 spare held t v d ps) : ∃ cs : Array Value, v = .agg cs ∧ Fits enc P w t cs.toList := by
  obtain ⟨cs, rfl, _⟩ := okWide_struct ht hv
  exact ⟨cs, rfl, fits_top h⟩
theorem fits_plain {base0 : Nat} {spare : Nat → Bool} {held : Bool} {v : Value} {d : DataW H} {ps : List MemPlace} (h : DataW.Trod enc P w base0 spare held t v d ps) (hc : v.cells = #[v]) : Fits enc P w t [v] := by
  have := fits_top h
  rwa [hc] at this
theorem choose_list {M : Type} {f : M → List Value} {Q : M → Prop} : ∀ {L : List (List Value)}, (∀ x ∈ L, ∃ m, x = f m ∧ Q m) → ∃ l : List M, L = l.map f ∧ ∀ m ∈ l, Q m
  | [], _ => ⟨[], rfl, by simp⟩
  | x :: r, h => by
    obtain ⟨m, rfl, hm⟩ := h x List.mem_cons_self
    obtain ⟨l, rfl, hl⟩ := choose_list (L := r) fun y hy => h y (List.mem_cons_of_mem _ hy)
    exact ⟨m :: l, rfl, fun y hy => by
      rcases List.mem_cons.1 hy with e | e
      · subst e; exact hm
      · exact hl y e⟩
/-- all arguments stay behind a call that writes below nothing -/
theorem args_stay (hl : laidOutB P = true) {W W' : World} {sp : Nat → Bool} : ∀ {ts : List TypeId} {vs : List Value} {ds : List (DataW H)} {ps : List MemPlace}, (ts.all fun t => P.readableRec t && decide (t < P.types.size)) = true →
    DataW.TrodAll enc P W 0 (fun _ => true) true ts vs ds ps → (∀ x ∈ ps, W.sameAt W' x) → (∀ x ∈ ps, sp x.block = true) → DataW.TrodAll enc P W' 0 sp true ts vs ds ps
  | [], [], [], _, _, h, _, _ => h
  | _ :: _, _ :: _, _ :: _, _, ha, ⟨p, q, h1, h2, e⟩, hsame, hs => by
    rw [List.all_cons, Bool.and_eq_true, Bool.and_eq_true, decide_eq_true_eq] at ha
    subst e
    exact ⟨p, q, WideElems.Trod_stays hl ha.1.1 ha.1.2 h1 (fun x hx => hsame x (List.mem_append_left _ hx)) (fun x hx => hs x (List.mem_append_left _ hx)),
      args_stay hl ha.2 h2 (fun x hx => hsame x (List.mem_append_right _ hx)) (fun x hx => hs x (List.mem_append_right _ hx)), rfl⟩
end
end Go.Proofs.YtmjikfeaopmejaaGreatDoor
/-
  Arguments, opened by their types, with a bound on their sizes.
-/
namespace Go.Proofs.YtmjikfeaopmejaaGreatDoor
open Go.ChangeShapes Go.WideShapes Go.Deep Go.RowKit
/-- cells that read at a type; no part is longer than R -/
def FitsZ {H : Type} (R : Nat) (enc : TypeId × Value → H) (P : Program) (w : World) (t : TypeId) (cs : List Value) : Prop := ∃ base spare held fuel d ps, DataW.trod enc P w base spare held fuel t cs = some (d, ps) ∧ ∀ k ∈ d.weights P t, k ≤ R
section
variable {H : Type} {enc : TypeId × Value → H} {P : Program} {w : World} {t e : TypeId} {cs : List Value} {R : Nat}
theorem FitsZ.fits (h : FitsZ R enc P w t cs) : Fits enc P w t cs := by
  obtain ⟨b, s, hd, f, d, ps, h, _⟩ := h
  exact ⟨b, s, hd, f, _, h⟩
theorem mem_weightsAll {e : TypeId} {dd : DataW H} {k : Nat} : ∀ {l : List (DataW H)}, dd ∈ l → k ∈ dd.weights P e → k ∈ DataW.weightsAll P e l
  | y :: r, h, hk => by
    unfold DataW.weightsAll
    rw [List.mem_append]
    rcases List.mem_cons.1 h with rfl | h
    · exact .inl hk
    · exact .inr (mem_weightsAll h hk)
theorem fitsZ_string (h : FitsZ R enc P w t cs) (ht : P.underlying t = some .string) : ∃ s : ByteArray, cs = [.string s] ∧ s.size ≤ maxLen ∧ s.size ≤ R := by
  obtain ⟨_, _, _, _, d, ps, h, hz⟩ := h
  obtain ⟨s, e, hx, hw⟩ := DataW.trod_string ht h
  refine ⟨s, e, hw, hz _ ?_⟩
  rw [(Prod.mk.inj hx).1]
  show s.size ∈ [s.data.toList.length]
  rw [List.mem_singleton, Array.length_toList]; rfl
theorem fitsZ_fields {fs : Array Field} (h : FitsZ R enc P w t cs) (ht : P.underlying t = some (.struct fs)) (hone : oneCellFields P fs = true) (hC : P.cellsOf t = fs.size) : cs.length = fs.size ∧ ∀ (j : Nat) (f : Field) (c : Value), fs[j]? = some f → cs[j]? = some c → FitsZ R enc P w f.type [c] := by
  obtain ⟨base, spare, held, fuel, d, ps, h, hz⟩ := h
  obtain ⟨ys, n, _, hx, hl, hyl, hat⟩ := DataW.trod_struct ht h
  refine ⟨by rw [hl, hC], fun j f c hf hc => ?_⟩
  obtain ⟨ho, hk⟩ := hone_of hone j f hf
  have h1 := hat j f hf
  have hj := (Array.getElem?_eq_some_iff.1 hf).1
  rw [ho, hk] at h1
  have hd1 : (List.drop j cs).take 1 = [c] := by
    have hjl := (List.getElem?_eq_some_iff.1 hc).1
    rw [List.drop_eq_getElem_cons hjl, (List.getElem?_eq_some_iff.1 hc).2]
    rfl
  have hy : ys[j]? = some (ys[j]'(by omega)) := List.getElem?_eq_getElem (by omega)
  rw [hd1, hy] at h1
  refine ⟨base, spare, held, n, _, _, h1, fun k hk => hz k ?_⟩
  rw [(Prod.mk.inj hx).1]
  unfold DataW.weights
  rw [ht]
  refine DataW.weights_mem_each (j := j) (t := f.type) (d := (ys[j]'(by omega)).1) ?_ ?_ k hk
  · rw [List.getElem?_map, Array.getElem?_toList, hf]; rfl
  · rw [List.getElem?_map, hy]; rfl
theorem fitsZ_slice (h : FitsZ R enc P w t cs) (ht : P.underlying t = some (.slice e)) (hk : 0 < P.cellsOf e) (heb : 1 ≤ P.bytesOf e) :
    ∃ (A : Option Addr) (n c : Nat) (L : List (List Value)), cs = [.slice A n c] ∧ n ≤ c ∧ c ≤ maxLen ∧ n ≤ R ∧ L.length = n ∧ (∀ x ∈ L, x.length = P.cellsOf e ∧ FitsZ R enc P w e x) ∧ Reads w w.heap.size (P.cellsOf e) A n L.flatten := by
  obtain ⟨base, spare, held, fuel, d, ps, hf, hz⟩ := h
  rcases open_slice ht hf with ⟨hcs, _⟩ | ⟨a, len, cap, m, n0, D, Pl, hcs, _, hl, hm, hmm, hdx, hx⟩
  · exact ⟨none, 0, 0, [], hcs, Nat.le_refl _, Nat.zero_le _, Nat.zero_le _, rfl, fun x hx => (by cases hx), by simp, fun hn => absurd hn (by simp)⟩
  · have hml : len ≤ m := by rw [hmm]; split <;> omega
    have hdw : d = .slice ((List.range len).map D) ((List.range (m - len)).map fun j => D (len + j)) := congrArg Prod.fst hdx
    have hall : ∀ n, n ≤ len → ∃ L : List (List Value), L.length = n ∧ (∀ x ∈ L, x.length = P.cellsOf e ∧ FitsZ R enc P w e x) ∧ ∀ i x, L[i]? = some x → ∀ j u, x[j]? = some u → w.cell? (a.add (i * P.cellsOf e + j)) = some u := by
      intro n
      induction n with
      | zero => intro _; exact ⟨[], rfl, by simp, by simp⟩
      | succ n ih =>
        intro hnl
        obtain ⟨L, hl1, hl2, hl3⟩ := ih (by omega)
        obtain ⟨cs', hcc, htr⟩ := hx n (by omega)
        obtain ⟨_, hlen, hat⟩ := World.cells?_some hcc
        refine ⟨L ++ [cs'], by simp [hl1], ?_, ?_⟩
        · intro y hy
          rcases List.mem_append.1 hy with h | h
          · exact hl2 y h
          · rw [List.mem_singleton] at h
            subst h
            refine ⟨hlen, base, spare, held, n0, _, _, htr, fun k hk' => hz k ?_⟩
            rw [hdw]
            unfold DataW.weights
            rw [ht]
            simp only [List.mem_cons, List.mem_append]
            exact .inr (.inl (mem_weightsAll (List.mem_map.2 ⟨n, List.mem_range.2 (by omega), rfl⟩) hk'))
        · intro i y hi' j u hj
          rcases Nat.lt_or_ge i L.length with h | h
          · rw [List.getElem?_append_left h] at hi'; exact hl3 i y hi' j u hj
          · rw [List.getElem?_append_right h] at hi'
            have h0 : i - L.length = 0 := by
              rcases Nat.eq_zero_or_pos (i - L.length) with h' | h'
              · exact h'
              · rw [List.getElem?_eq_none (by simp; omega)] at hi'; cases hi'
            rw [h0] at hi'
            have hy : cs' = y := by simpa using hi'
            subst hy
            obtain rfl : i = n := by omega
            have hj2 : j < P.cellsOf e := by
              have := (List.getElem?_eq_some_iff.1 hj).1
              omega
            have := hat j hj2
            rw [hj, Go.Deep.add_add] at this
            exact this
    obtain ⟨L, hL1, hL2, hL3⟩ := hall len (Nat.le_refl _)
    refine ⟨some a, len, cap, L, hcs, hl, hm, ?_, hL1, hL2, ?_, fun hn => ⟨a, rfl, ?_, ?_⟩⟩
    · have hq := hz ((len + (m - len)) * P.bytesOf e) (by rw [hdw]; simp [DataW.weights, ht])
      have e2 : (len + (m - len)) * 1 ≤ (len + (m - len)) * P.bytesOf e := Nat.mul_le_mul_left _ heb
      omega
    · rw [rows_len _ L fun x hx => (hL2 x hx).1, hL1]
    · obtain ⟨x, hx0⟩ : ∃ x, L[0]? = some x := ⟨_, List.getElem?_eq_getElem (by omega)⟩
      have hxl := (hL2 x (List.mem_of_getElem? hx0)).1
      obtain ⟨u, hu⟩ : ∃ u, x[0]? = some u := ⟨_, List.getElem?_eq_getElem (by omega)⟩
      have := cell_lt' (hL3 0 x hx0 0 u hu)
      rwa [block_of_add] at this
    · intro j u hj
      have hjl := (List.getElem?_eq_some_iff.1 hj).1
      rw [rows_len _ L fun x hx => (hL2 x hx).1] at hjl
      have hq : j / P.cellsOf e < L.length := Nat.div_lt_of_lt_mul (by rw [Nat.mul_comm]; exact hjl)
      have he2 : j / P.cellsOf e * P.cellsOf e + j % P.cellsOf e = j := by rw [Nat.mul_comm]; exact Nat.div_add_mod j _
      have hp := rows_at (P.cellsOf e) L (j / P.cellsOf e) (j % P.cellsOf e) _ (fun x hx => (hL2 x hx).1) (List.getElem?_eq_getElem hq) (Nat.mod_lt _ hk)
      rw [he2, hj] at hp
      have := hL3 _ _ (List.getElem?_eq_getElem hq) _ u hp.symm
      rw [he2] at this
      exact this
theorem sized_at {ts : List TypeId} {ds : List (DataW H)} (h : (DataW.weightsEach P ts ds).all (· ≤ reachBytes) = true) {j : Nat} {t : TypeId} {d : DataW H} (ht : ts[j]? = some t) (hd : ds[j]? = some d) : ∀ k ∈ d.weights P t, k ≤ 140737488355328 := by
  intro k hk
  have := List.all_eq_true.1 h _ (DataW.weights_mem_each ht hd k hk)
  have h2 : reachBytes < 2 ^ 47 := reachBytes_lt
  simp only [decide_eq_true_eq] at this
  omega
theorem fitsZ_top {base0 : Nat} {spare : Nat → Bool} {held : Bool} {v : Value} {d : DataW H} {ps : List MemPlace} (h : DataW.Trod enc P w base0 spare held t v d ps) (hz : ∀ k ∈ d.weights P t, k ≤ R) : FitsZ R enc P w t v.cells.toList := by
  obtain ⟨fuel, hf⟩ := h
  exact ⟨_, _, _, fuel, _, _, hf, hz⟩
theorem fitsZ_struct {base0 : Nat} {spare : Nat → Bool} {held : Bool} {r : Reach} {b0 : Nat} {fs : Array Field} {v : Value} {d : DataW H} {ps : List MemPlace} (hv : Value.okWide P w r b0 t v) (ht : P.underlying t = some (.struct fs)) (h : DataW.Trod enc P w base0 spare held t v d ps) (hz : ∀ k ∈ d.weights P t, k ≤ R) : ∃ cs : Array Value, v = .agg cs ∧ FitsZ R enc P w t cs.toList := by
  obtain ⟨cs, rfl, _⟩ := okWide_struct ht hv
  exact ⟨cs, rfl, fitsZ_top h hz⟩
theorem fitsZ_plain {base0 : Nat} {spare : Nat → Bool} {held : Bool} {v : Value} {d : DataW H} {ps : List MemPlace} (h : DataW.Trod enc P w base0 spare held t v d ps) (hc : v.cells = #[v]) (hz : ∀ k ∈ d.weights P t, k ≤ R) : FitsZ R enc P w t [v] := by
  have := fitsZ_top h hz
  rwa [hc] at this
end
end Go.Proofs.YtmjikfeaopmejaaGreatDoor
/-
  Arguments, opened: numbers, truths, bytes.
-/
namespace Go.Proofs.YtmjikfeaopmejaaGreatDoor
open Go.RowKit Go.ChangeShapes Go.WideShapes
theorem u32_range {n : Int} (h : (Lit.int .u32 n).wf = true) : ∃ k : Nat, n = (k : Nat) ∧ k < 4294967296 := by
  simp [Lit.wf, IntKind.min, IntKind.max, IntKind.signed, IntKind.bits] at h
  exact ⟨n.toNat, by omega, by omega⟩
theorem u8_range {n : Int} (h : (Lit.int .u8 n).wf = true) : ∃ k : UInt8, n = (k.toNat : Nat) := by
  simp [Lit.wf, IntKind.min, IntKind.max, IntKind.signed, IntKind.bits] at h
  refine ⟨UInt8.ofNat n.toNat, ?_⟩
  rw [UInt8.toNat_ofNat']
  omega
theorem i64_range {n : Int} (h : (Lit.int .i64 n).wf = true) : -9223372036854775808 ≤ n ∧ n ≤ 9223372036854775807 := by
  simp [Lit.wf, IntKind.min, IntKind.max, IntKind.signed, IntKind.bits] at h
  omega
theorem map_flat {M : Type} (f : M → List Value) (l : List M) : (l.map f).flatten = l.flatMap f := by
  induction l with
  | nil => rfl
  | cons x r ih => rw [List.map_cons, List.flatten_cons, List.flatMap_cons, ih]
theorem flat_one {M : Type} (f : M → Value) (l : List M) : (l.map fun x => [f x]).flatten = l.map f := by
  induction l with
  | nil => rfl
  | cons x r ih => rw [List.map_cons, List.flatten_cons, ih]; rfl
theorem list1 {α : Type} {x : List α} (h : x.length = 1) : ∃ a, x = [a] := by
  match x, h with
  | [a], _ => exact ⟨a, rfl⟩
theorem list4 {α : Type} {x : List α} (h : x.length = 4) : ∃ a b c d, x = [a, b, c, d] := by
  match x, h with
  | [a, b, c, d], _ => exact ⟨a, b, c, d, rfl⟩
theorem array4 {α : Type} {x : Array α} (h : x.toList.length = 4) : ∃ a b c d, x = #[a, b, c, d] := by
  obtain ⟨l⟩ := x
  obtain ⟨a, b, c, d, e⟩ := list4 (show l.length = 4 from h)
  exact ⟨a, b, c, d, by rw [e]⟩
section
variable {H : Type} {enc : TypeId × Value → H} {w : World} {R : Nat}
theorem open_bytesZ {c1 : Value} (h : FitsZ R enc Tryz.prog w 23 [c1]) : ∃ (A : Option Addr) (c : Nat) (l : List UInt8), c1 = .slice A l.length c ∧ l.length ≤ c ∧ c ≤ maxLen ∧ l.length ≤ R ∧ Reads w w.heap.size 1 A l.length (u8s l) := by
  have hk : Tryz.prog.cellsOf 5 = 1 := by kernel_rfl
  obtain ⟨A, n, c, L, hcs, hn, hc, hR, hl, hL, hr⟩ := fitsZ_slice h Tryz.underlying23 (by rw [hk]; omega) (Nat.le_of_ble_eq_true (by kernel_rfl))
  rw [hk] at hr
  obtain ⟨l, rfl, _⟩ := choose_list (f := fun b : UInt8 => [.int .u8 ((b.toNat : Nat) : Int)]) (Q := fun _ => True) fun x hx => by
    obtain ⟨hx1, hx2⟩ := hL x hx
    rw [hk] at hx1
    obtain ⟨a, rfl⟩ := list1 hx1
    obtain ⟨u, e0, hu⟩ := fits_int hx2.fits Tryz.underlying5
    obtain ⟨k, rfl⟩ := u8_range hu
    exact ⟨k, e0, trivial⟩
  rw [List.length_map] at hl
  rw [flat_one (fun b : UInt8 => .int .u8 ((b.toNat : Nat) : Int))] at hr
  subst hl
  simp only [List.cons.injEq, and_true] at hcs
  exact ⟨A, c, l, hcs, hn, hc, hR, hr⟩
theorem fitsZ_part {t : TypeId} {cs : List Value} {fs : Array Field} (h : FitsZ R enc Tryz.prog w t cs) (ht : Tryz.prog.underlying t = some (.struct fs)) : cs.length = Tryz.prog.cellsOf t ∧ ∀ (j : Nat) (f : Field), fs[j]? = some f → FitsZ R enc Tryz.prog w f.type ((cs.drop f.offset).take (Tryz.prog.cellsOf f.type)) := by
  obtain ⟨base, spare, held, fuel, d, ps, h, hz⟩ := h
  obtain ⟨ys, n, _, hx, hl, hyl, hat⟩ := DataW.trod_struct ht h
  refine ⟨hl, fun j f hf => ?_⟩
  have h1 := hat j f hf
  have hj := (Array.getElem?_eq_some_iff.1 hf).1
  have hy : ys[j]? = some (ys[j]'(by omega)) := List.getElem?_eq_getElem (by omega)
  rw [hy] at h1
  refine ⟨base, spare, held, n, _, _, h1, fun k hk => hz k ?_⟩
  rw [(Prod.mk.inj hx).1]
  unfold DataW.weights
  rw [ht]
  refine DataW.weights_mem_each (j := j) (t := f.type) (d := (ys[j]'(by omega)).1) ?_ ?_ k hk
  · rw [List.getElem?_map, Array.getElem?_toList, hf]; rfl
  · rw [List.getElem?_map, hy]; rfl
end
theorem tab_met {l : List (String × DataW Unit)} {W : World} (h : laidMetH Tryz.prog l W) (hl : l.filter (fun x => x.1 == "internal/strconv.uint64pow10") = [("internal/strconv.uint64pow10", Lib.tabData .u64 Lib.pow10Tab)]) :
    Lib.TabIs Tryz.prog W "internal/strconv.uint64pow10" .u64 Lib.pow10Tab := by
  have h1 := laidMetH.filter (fun x => x.1 == "internal/strconv.uint64pow10") h
  rw [hl, MakeChecks.laidMetH_plain _ _ _ (by kernel_rfl)] at h1
  exact Lib.tabIs_of_head (g := 2) (t := 194) (e := 88) (n := 20) (by kernel_rfl) (by kernel_rfl) Tryz.underlying194 Tryz.underlying88 (by kernel_rfl) (by kernel_rfl) h1
section
variable {H : Type} {enc : TypeId × Value → H} {W : World} {base0 b0 : Nat} {spare : Nat → Bool} {held : Bool} {r : Reach} {R : Nat}
set_option maxRecDepth 100000 in
theorem i64_arg {v : Value} {d : DataW H} {ps : List MemPlace} (hv : Value.okWide Tryz.prog W r b0 3 v) (h : DataW.Trod enc Tryz.prog W base0 spare held 3 v d ps) : ∃ k : Int, v = .int .i64 k ∧ -9223372036854775808 ≤ k ∧ k ≤ 9223372036854775807 := by
  obtain ⟨x0, rfl, _, _, h0⟩ := open_int Tryz.underlying3 hv h
  exact ⟨x0, rfl, i64_range h0⟩
set_option maxRecDepth 100000 in
theorem bytes_arg {v : Value} {d : DataW H} {ps : List MemPlace} (hv : Value.okWide Tryz.prog W r b0 23 v) (h : DataW.Trod enc Tryz.prog W base0 spare held 23 v d ps) (hz : ∀ k ∈ d.weights Tryz.prog 23, k ≤ R) :
    ∃ (A : Option Addr) (c : Nat) (l : List UInt8), v = .slice A l.length c ∧ l.length ≤ c ∧ c ≤ maxLen ∧ l.length ≤ R ∧ Reads W W.heap.size 1 A l.length (u8s l) := by
  obtain ⟨A, n, c, rfl⟩ := okWide_slice Tryz.underlying23 hv
  obtain ⟨A', c', l, e, b⟩ := open_bytesZ (fitsZ_plain h rfl hz)
  exact ⟨A', c', l, e, b⟩
set_option maxRecDepth 100000 in
theorem u32_arg {v : Value} {d : DataW H} {ps : List MemPlace} (hv : Value.okWide Tryz.prog W r b0 22 v) (h : DataW.Trod enc Tryz.prog W base0 spare held 22 v d ps) : ∃ k : Nat, v = .int .u32 (k : Nat) ∧ k < 4294967296 := by
  obtain ⟨x0, rfl, _, _, h0⟩ := open_int Tryz.underlying22 hv h
  obtain ⟨k, rfl, hk⟩ := u32_range h0
  exact ⟨k, rfl, hk⟩
set_option maxRecDepth 100000 in
theorem bool_arg {v : Value} {d : DataW H} {ps : List MemPlace} (hv : Value.okWide Tryz.prog W r b0 4 v) (h : DataW.Trod enc Tryz.prog W base0 spare held 4 v d ps) : ∃ b : Bool, v = .bool b := by
  obtain ⟨b, rfl, _⟩ := open_bool Tryz.underlying4 hv h
  exact ⟨b, rfl⟩
end
end Go.Proofs.YtmjikfeaopmejaaGreatDoor
/-
  The index, and the flags, of any log are what the document says: cubbylaw11.IndexOf answers true, for all bytes.
-/
namespace Go.Proofs.YtmjikfeaopmejaaGreatDoor.IndexOf
open Go.RowKit Go.ChangeShapes Go.WideShapes Go.ChangeAt
open Go.ChangeMaps (open_string shut_string)
set_option linter.unusedVariables false
theorem own : ownKnob Tryz.prog.godebug = none := by kernel_rfl
set_option maxRecDepth 100000 in
theorem contract (H : Type) (enc : TypeId × Value → H) (W : World) (base : Nat) (args : Array Value) (ds gs : List (DataW H)) (before : List MemPlace)
    (hval : ∀ (j : Nat) t v, Tryz.f7.params[j]? = some t → args[j]? = some v → Value.okWide Tryz.prog W .any base t v)
    (hW : DataW.Whole enc Tryz.prog Tryz.f7.params.toList Rows.indexOfSpec.vars false W args.toList ds gs before) (hz : (DataW.weightsEach Tryz.prog (Tryz.f7.params.toList ++ (OpenSpec.ofChange Rows.indexOfSpec).bare.plain.varTypes Tryz.prog) (ds ++ gs)).all (· ≤ reachBytes) = true) (hL : laidMetH Tryz.prog Rows.indexOfRow.laid W) (hsh : W.ShapedOpen Tryz.prog) :
    Calls Tryz.prog 7 args W fun e W' => ∃ v, e = .returned v ∧ Rows.indexOfSpec.post enc Tryz.prog Tryz.f7 false true false false W args v W' := by
  have hW' := hW
  obtain ⟨p, q, hA0, hV, rfl, hfz, hnd⟩ := hW
  have hA : DataW.TrodAll enc Tryz.prog W 0 (fun _ => true) true Tryz.f7.params.toList args.toList ds p := hA0
  rw [Tryz.params7] at hA hval
  have hAk := hA
  obtain ⟨v0, d0, rfl, rfl, g0⟩ := trodAll_one hA
  obtain ⟨rfl, rfl⟩ := trodVars_none hV
  obtain ⟨A, c, b, rfl, hbc, _, _, hr⟩ := bytes_arg (hval 0 23 v0 rfl rfl) g0 (sized_at hz (j := 0) (t := 23) (by kernel_rfl) rfl)
  obtain ⟨mx, hm⟩ := Tryz.laysM146.s1_3 W hsh
  have ht : Lib.TabIs Tryz.prog W "internal/strconv.uint64pow10" .u64 Lib.pow10Tab := tab_met hL (by kernel_rfl)
  clear hA0
  refine (indexOf_law A b.length c b rfl hbc W ⟨mx, hm⟩ (block_lt_of_cell hm) ht hr).mono fun e W' ⟨he, hb⟩ => ?_
  subst he
  exact ⟨_, rfl, post_of_below (pv := []) hW' (fun _ _ _ => trodAll_mk1 (shut_bool Tryz.underlying4 _)) (fun sp hsp => args_stay (by kernel_rfl) (by kernel_rfl) hAk (fun x hx => hb.same (by simpa using hW'.lt x (List.mem_append_left _ hx))) (fun x hx => hsp x (List.mem_append_left _ hx))) (fun _ _ => rfl) rfl
    hb (ok_one (by kernel_rfl) rfl (okWide_bool_mk Tryz.underlying4 _))⟩
set_option maxRecDepth 100000 in
theorem reads (os : Os) {H : Type} (enc : TypeId × Value → H) : ∃ places, DataW.whole enc Tryz.prog ((World.laidAll Tryz.prog os Rows.indexOfRow.laid).forCall (fun _ _ => 0) ⟨#[], #[.slice none 0 0], []⟩).memory Tryz.f7.params.toList Rows.indexOfSpec.vars false #[Value.slice none 0 0].toList 8 = some ([.nil], [], places) :=
  ⟨[], by kernel_rfl⟩
set_option maxRecDepth 100000 in
theorem lifted (os : Os) (started : os.Started) (H : Type) (enc : TypeId × Value → H) (F : Stop.Interp) :
    ReturnsInHanded {} Tryz.checked os 7 .any ((OpenSpec.ofChange Rows.indexOfSpec).preRow enc Tryz.prog Tryz.f7 Rows.indexOfRow.domain false Rows.indexOfRow.laid) (((OpenSpec.ofChange Rows.indexOfSpec).at F).post enc Tryz.prog Tryz.f7 false true false false) := by
  obtain ⟨places, hx⟩ := reads os enc
  refine returnsInHanded_of_row (C := Tryz.checked) (s := OpenSpec.ofChange Rows.indexOfSpec) own started (by kernel_rfl) Tryz.func7
    (witness_row_shaped (enc := enc) (C := Tryz.checked) false (World.laidAll Tryz.prog os Rows.indexOfRow.laid) #[.slice none 0 0] (World.laidAll_os _ _ _) (World.shaped_of_ZipB (by kernel_rfl) (by kernel_rfl)) (by kernel_rfl)
      (OpenSpec.preRow_of_cond 8 hx (by kernel_rfl) (fun k hk => by cases hk) (by kernel_rfl) (laidMet_laidAll _ (by kernel_rfl) (by kernel_rfl)))) ?_
  intro W base args ds gs before hval hW _ _ hz hL hsh _
  exact contract H enc W base args ds gs before hval hW hz hL hsh
theorem said : Rows.IndexOfSaid :=
  OpenClaim.holds_of_cond 7 Tryz.f7 rfl rfl rfl rfl rfl rfl rfl ⟨rfl, rfl, rfl, rfl, rfl⟩ rfl rfl rfl rfl rfl (by kernel_rfl) Tryz.func7 (by kernel_rfl)
    (of_decide_eq_true (by kernel_rfl)) (by unfold Func.isWrapper; first | (rw [if_pos (by decide +kernel)]; kernel_rfl) | (rw [if_neg (by decide +kernel)]; exact ⟨rfl, rfl⟩))
    (fun os started H enc _ F => by rw [OpenClaim.pre_eq_preRow]; exact lifted os started H enc F)
theorem plain (f : FuncId) (fn : Func) (hf : Tryz.pinned.checked.prog.funcNamed "cubby/cubbylaw11.IndexOf" = some f) (hfn : Tryz.pinned.checked.prog.funcs[f]? = some fn) :
    false = Tryz.pinned.checked.prog.looks [] ∧ ∀ (j : Nat) t, fn.params[j]? = some t → Tryz.pinned.checked.prog.wantsStandIn t = false := by
  obtain rfl : f = 7 := Option.some.inj ((show Tryz.prog.funcNamed "cubby/cubbylaw11.IndexOf" = some 7 by kernel_rfl).symm.trans hf) |>.symm
  obtain rfl : fn = Tryz.f7 := (Option.some.inj (Tryz.func7.symm.trans hfn)).symm
  refine ⟨by kernel_rfl, fun j t ht => ?_⟩
  rw [Tryz.params7] at ht
  have hm : t ∈ [23] := by simpa using Array.mem_of_getElem? ht
  have hall : ([23].all fun u => !Tryz.prog.wantsStandIn u) = true := by kernel_rfl
  exact (show Tryz.prog.wantsStandIn t = false by simpa using List.all_eq_true.1 hall t hm)
theorem holds : Rows.IndexOfCardSaid :=
  Claim7.holds_tied_plain_at .later [] _ _ _ _ said (fun _ h => by cases h) (by kernel_rfl) (fun _ h => by cases h) indexOf_row_tie rfl ⟨rfl, rfl⟩ (by kernel_rfl) rfl plain (by kernel_rfl)
#print axioms holds
end Go.Proofs.YtmjikfeaopmejaaGreatDoor.IndexOf
