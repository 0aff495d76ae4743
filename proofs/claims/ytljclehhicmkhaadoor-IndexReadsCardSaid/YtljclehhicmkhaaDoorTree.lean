/-
  Walk: is a tree right?
-/
import Derived.Test.YtljclehhicmkhaaDoorPlace
namespace Go.Proofs.YtljclehhicmkhaaDoor
open Go.RowKit
def isInbox (x : PlaceM) : Bool := x.2.toList == [73, 78, 66, 79, 88]
def prevN (l : List PlaceM) (j : Nat) : Int := match l[j - 1]? with | some y => y.1 | none => 0
def numOk (l : List PlaceM) (j : Nat) (x : PlaceM) : Bool := !decide (x.1 < 0) && !decide (16 ≤ x.1) && !(decide (0 < j) && decide (x.1 ≤ prevN l j))
def stepOk (l : List PlaceM) (j : Nat) (x : PlaceM) : Bool := numOk l j x && nameIs x.2 && !placeHas (l.take j) x.2
def stepAt (l : List PlaceM) (j : Nat) : Bool := match l[j]? with | some x => stepOk l j x | none => true
def treeAll (l : List PlaceM) : Bool := (List.range l.length).all (stepAt l)
def rightTreeV (l : List PlaceM) : Bool := treeAll l && (l.countP isInbox == 1)
theorem stepAt_eq {l : List PlaceM} {j : Nat} {x : PlaceM} (hx : l[j]? = some x) : stepAt l j = stepOk l j x := by unfold stepAt; rw [hx]
theorem tree_no {l : List PlaceM} {j : Nat} {x : PlaceM} (hx : l[j]? = some x) (h : stepOk l j x = false) : rightTreeV l = false := by
  unfold rightTreeV treeAll
  have : (List.range l.length).all (stepAt l) = false := by
    rw [List.all_eq_false]
    exact ⟨j, List.mem_range.2 (List.getElem?_eq_some_iff.1 hx).1, by rw [stepAt_eq hx, h]; simp⟩
  rw [this, Bool.false_and]
theorem tree_yes {l : List PlaceM} (h : ∀ j, j < l.length → stepAt l j = true) : rightTreeV l = (l.countP isInbox == 1) := by
  unfold rightTreeV treeAll
  have : (List.range l.length).all (stepAt l) = true := List.all_eq_true.2 fun j hj => h j (List.mem_range.1 hj)
  rw [this, Bool.true_and]
theorem inbox_step {l : List PlaceM} {j : Nat} {x : PlaceM} (hx : l[j]? = some x) : (l.take (j + 1)).countP isInbox = (l.take j).countP isInbox + (if isInbox x = true then 1 else 0) := by
  rw [List.take_add_one, hx]
  simp [List.countP_append, List.countP_cons]
theorem pcells_take (l : List PlaceM) (k : Nat) : pcells (l.take k) = (pcells l).take (k * 2) := by
  rcases Nat.lt_or_ge k l.length with h | h
  · have e : pcells l = pcells (l.take k) ++ pcells (l.drop k) := by rw [← pcells_append, List.take_append_drop]
    have hl : (pcells (l.take k)).length = k * 2 := by rw [pcells_length, List.length_take]; congr 1; omega
    rw [e, ← hl, List.take_left']
    rfl
  · rw [List.take_of_length_le h, List.take_of_length_le (by rw [pcells_length]; omega)]
theorem Reads.takeP {w : World} {B n : Nat} {A : Option Addr} {l : List PlaceM} (h : Reads w B 2 A n (pcells l)) {k : Nat} (hk : k ≤ n) : Reads w B 2 A k (pcells (l.take k)) := by
  have hl : l.length = n := by have := h.1; rw [pcells_length] at this; omega
  refine ⟨by rw [pcells_length, List.length_take]; congr 1; omega, fun hp => ?_⟩
  obtain ⟨ad, e, hlt, hc⟩ := h.2 (by omega)
  refine ⟨ad, e, hlt, fun j u hu => hc j u ?_⟩
  rw [pcells_take, List.getElem?_take] at hu
  split at hu
  · exact hu
  · cases hu
set_option maxHeartbeats 1600000 in
set_option maxRecDepth 100000 in
theorem rightTree_any (A : Option Addr) (c n : Nat) (l : List PlaceM) (w : World) (hm : MaxCell w) (hg : 1 < w.heap.size) (hsz : ∀ q ∈ l, q.2.size ≤ 9223372036854775807) (hn2 : l.length = n) (hn : n ≤ 100000) (hcn : n ≤ c) (hr : Reads w w.heap.size 2 A n (pcells l)) :
    Calls Tryd.prog 20 #[.slice A n c] w fun e w' => e = .returned (.bool (rightTreeV l)) ∧ Below w.heap.size w w' := by
  have HR := Lib.hid hr
  have HM := Lib.hid hm
  have HSZ := Lib.hid hsz
  have HL := Lib.hid hn2
  obtain ⟨rv, hrv⟩ : ∃ rv, rightTreeV l = rv := ⟨_, rfl⟩
  have HRV := Lib.hid hrv
  rw [hrv]
  clear hr hm hsz hn2 hrv
  go_enter Tryd.func20, Tryd.ntmps20
  go_wp2
  go_loopw [3, 8] (fun z k wr => ∃ (j cc : Nat), k = .int .i64 j ∧ j ≤ n ∧ cc ≤ j ∧ z = .int .i64 cc ∧ Hid (cc = (l.take j).countP isInbox) ∧ Hid (∀ i, i < j → stepAt l i = true) ∧ Hid (Below w.heap.size w wr)) (fun _ k _ => n - (intOf k).toNat)
  case atStart => exact ⟨0, 0, rfl, by omega, by omega, rfl, rfl, fun i hi => absurd hi (by omega), Below.refl _ _⟩
  case round =>
    obtain ⟨j, cc, rfl, hj, hcj, rfl, hcc, hall, hb⟩ := hrel
    by_cases hlt : j < n
    · obtain ⟨x, hx⟩ : ∃ x, l[j]? = some x := ⟨_, List.getElem?_eq_getElem (by have := HL.out; omega)⟩
      obtain ⟨ad, rfl, hadl, hc⟩ := (HR.out.below hb.out).2 (by omega)
      obtain ⟨k0, k1⟩ := place_at hc hx
      have hadl' : (ad.add (j * 2)).block < wr.heap.size := by rw [block_of_add]; exact Nat.lt_of_lt_of_le hadl hb.out.size
      have hbx := (Below.refl wr.heap.size wr).alloc (Nat.le_refl _) (.cells #[.int .i64 x.1, .string x.2] 26)
      have hxb : Blk (wr.alloc (.cells #[.int .i64 x.1, .string x.2] 26)) wr.heap.size 26 #[.int .i64 x.1, .string x.2] := Blk.new wr _ _
      obtain ⟨gp, hgp⟩ : ∃ gp, wr.heap.size = gp := ⟨_, rfl⟩
      have hb1 := hb.out.trans (hbx.mono hb.out.size)
      obtain ⟨w1, hw1⟩ : ∃ w1, wr.alloc (.cells #[.int .i64 x.1, .string x.2] 26) = w1 := ⟨_, rfl⟩
      rw [hw1] at hbx hxb hb1
      have HN : Hid (∀ dd os, Calls Tryd.prog 34 #[.string x.2] (Sort.grow (redrawn w1 dd) os) fun e w' => e = .returned (.bool (nameIs x.2)) ∧ Below (Sort.grow (redrawn w1 dd) os).heap.size (Sort.grow (redrawn w1 dd) os) w') := fun dd os =>
        named_any x.2 (HSZ.out _ (List.mem_of_getElem? hx)) _ ((HM.out.below hg hb1).below (Nat.lt_of_lt_of_le hg hb1.size) (below_regrown w1 dd os))
      rw [hgp] at hxb
      have y0 : ∀ dd os, (Sort.grow (redrawn w1 dd) os).cell? ⟨gp, 0, none⟩ = some (.int .i64 x.1) := fun dd os => cell_regrown (by rw [hxb.cell]; rfl) dd os
      have y1 : ∀ dd os, (Sort.grow (redrawn w1 dd) os).cell? ⟨gp, 1, none⟩ = some (.string x.2) := fun dd os => cell_regrown (by rw [hxb.cell]; rfl) dd os
      have HB1 := Lib.hid hb1
      have HXB := Lib.hid hxb
      have HX := Lib.hid hx
      have jj0 : (0 : Int) ≤ (j : Int) := by omega
      have jj1 : (j : Int) ≤ (c : Int) := by omega
      obtain ⟨ni, hni⟩ : ∃ ni, nameIs x.2 = ni := ⟨_, rfl⟩
      rw [hni] at HN
      have HNI := Lib.hid hni
      clear hbx hxb hb1 hni hadl
      by_cases ha : x.1 < 0
      · have g1 : decide (x.1 < 0) = true := by simp; omega
        obtain rfl : false = rv := by rw [← HRV.out]; exact (tree_no hx (by unfold stepOk numOk; rw [g1]; simp)).symm
        clear hx hc
        go_upto_region 5 with fail
        refine wp_region_quiet_below (by kernel_rfl) (by kernel_rfl) ?_
        repeat (go_big_quiet_step (first | (go_at_call 34; exact Calls.regrown_of (HN.out _ _))))
        refine wpQuiet_nil ?_
        intro w2 hw2
        have hb2 : Below w1.heap.size w1 w2 := by
          obtain ⟨p, hw2⟩ := hw2
          rw [hw2]; exact below_regrown _ _ _
        go_wp2
        go_ret
        exact ⟨rfl, HB1.out.trans (hb2.mono HB1.out.size)⟩
      · have g1 : decide (x.1 < 0) = false := by simp; omega
        by_cases ha2 : 16 ≤ x.1
        · have g2 : decide (16 ≤ x.1) = true := by simp; omega
          obtain rfl : false = rv := by rw [← HRV.out]; exact (tree_no hx (by unfold stepOk numOk; rw [g2]; simp)).symm
          clear hx hc
          go_upto_region 5 with fail
          refine wp_region_quiet_below (by kernel_rfl) (by kernel_rfl) ?_
          repeat (go_big_quiet_step (first | (go_at_call 34; exact Calls.regrown_of (HN.out _ _))))
          refine wpQuiet_nil ?_
          intro w2 hw2
          have hb2 : Below w1.heap.size w1 w2 := by
            obtain ⟨p, hw2⟩ := hw2
            rw [hw2]; exact below_regrown _ _ _
          go_wp2
          go_ret
          exact ⟨rfl, HB1.out.trans (hb2.mono HB1.out.size)⟩
        · have g2 : decide (16 ≤ x.1) = false := by simp; omega
          by_cases hjz : j = 0
          · have g3 : decide (0 < j) = false := by simp; omega
            clear hjz
            cases ni with
            | false =>
              obtain rfl : false = rv := by rw [← HRV.out]; exact (tree_no hx (by unfold stepOk numOk; rw [HNI.out]; simp)).symm
              clear hx hc
              go_upto_region 5 with fail
              refine wp_region_quiet_below (by kernel_rfl) (by kernel_rfl) ?_
              repeat (go_big_quiet_step (first | (go_at_call 34; exact Calls.regrown_of (HN.out _ _))))
              refine wpQuiet_nil ?_
              intro w2 hw2
              have hb2 : Below w1.heap.size w1 w2 := by
                obtain ⟨p, hw2⟩ := hw2
                rw [hw2]; exact below_regrown _ _ _
              go_wp2
              go_ret
              exact ⟨rfl, HB1.out.trans (hb2.mono HB1.out.size)⟩
            | true =>
              clear hx hc
              go_upto_region 5 with fail
              refine wp_region_quiet_below (by kernel_rfl) (by kernel_rfl) ?_
              repeat (go_big_quiet_step (first | (go_at_call 34; exact Calls.regrown_of (HN.out _ _))))
              refine wpQuiet_nil ?_
              intro w2 hw2
              have hb2 : Below w1.heap.size w1 w2 := by
                obtain ⟨p, hw2⟩ := hw2
                rw [hw2]; exact below_regrown _ _ _
              have HB2 := Lib.hid (HB1.out.trans (hb2.mono HB1.out.size))
              have hx2 := HXB.out.below hb2 HXB.out.lt
              have z1 : w2.cell? ⟨gp, 1, none⟩ = some (.string x.2) := by rw [hx2.cell]; rfl
              have R := Lib.hid (contains_any (some ad) c j (l.take j) x.2 w2 (by rw [List.length_take]; have := HL.out; omega) (by omega) (((HR.out.below HB2.out).more HB2.out.size).takeP hj) gp x.1 hx2)
              obtain ⟨ph, hph⟩ : ∃ ph, placeHas (l.take j) x.2 = ph := ⟨_, rfl⟩
              rw [hph] at R
              have HPH := Lib.hid hph
              have HX2 := Lib.hid hx2
              clear hb2 hw2 hph hx2
              go_wp2_with fail
              refine R.out.mono ?_
              rintro e w3 ⟨rfl, hb3⟩
              have HB3 := Lib.hid (HB2.out.trans (hb3.mono HB2.out.size))
              have hx3 := HX2.out.below hb3 HX2.out.lt
              have u1 : w3.cell? ⟨gp, 1, none⟩ = some (.string x.2) := by rw [hx3.cell]; rfl
              clear hb3 hx3 z1 R
              cases ph with
              | true =>
                obtain rfl : false = rv := by rw [← HRV.out]; exact (tree_no HX.out (by unfold stepOk; rw [HPH.out]; simp)).symm
                go_wp2
                go_ret
                exact ⟨rfl, HB3.out⟩
              | false =>
                have hso : stepAt l j = true := by rw [stepAt_eq HX.out]; unfold stepOk numOk; rw [HNI.out, HPH.out, g1, g2, g3]; simp
                have hall2 : ∀ i, i < j + 1 → stepAt l i = true := fun i hi => by
                  rcases Nat.lt_or_ge i j with h | h
                  · exact hall.out i h
                  · obtain rfl : i = j := by omega
                    exact hso
                have HA2 := Lib.hid hall2
                have hin := inbox_step HX.out
                rw [← hcc.out] at hin
                have HIN := Lib.hid hin
                have hII : isInbox x = (x.2.toList == [73, 78, 66, 79, 88]) := rfl
                obtain ⟨ii, hii⟩ : ∃ ii, (x.2.toList == [73, 78, 66, 79, 88]) = ii := ⟨_, rfl⟩
                rw [hii] at hII
                have HII := Lib.hid hII
                clear hso hall2 hin hII
                cases ii with
                | true =>
                  go_wp2
                  go_roundw
                  case rel => exact ⟨j + 1, cc + 1, by go_num, by omega, by omega, by go_num, by rw [HIN.out, HII.out]; exact rfl, HA2, HB3⟩
                  case measure => simp [intOf]; omega
                | false =>
                  go_wp2
                  go_roundw
                  case rel => exact ⟨j + 1, cc, by go_num, by omega, by omega, rfl, by rw [HIN.out, HII.out]; exact rfl, HA2, HB3⟩
                  case measure => simp [intOf]; omega
          · have g3 : decide (0 < j) = true := by simp; omega
            obtain ⟨y, hy⟩ : ∃ y, l[j - 1]? = some y := ⟨_, List.getElem?_eq_getElem (by have := HL.out; omega)⟩
            obtain ⟨adp, eadp, _, hcp⟩ := (HR.out.below hb.out).2 (by omega)
            injection eadp with eadp
            subst eadp
            obtain ⟨p0, _⟩ := place_at hcp hy
            have hpl : (ad.add ((j - 1) * 2)).block < wr.heap.size := by rw [block_of_add] at hadl' ⊢; exact hadl'
            have p1 : w1.cell? (ad.add ((j - 1) * 2)) = some (.int .i64 y.1) := by rw [← hw1]; exact (World.cell?_alloc_lt wr _ _ hpl).trans p0
            have q0 : ∀ dd os, (Sort.grow (redrawn w1 dd) os).cell? (ad.add ((j - 1) * 2)) = some (.int .i64 y.1) := fun dd os => cell_regrown p1 dd os
            have hpv : prevN l j = y.1 := by unfold prevN; rw [hy]
            have jm : (j : Int) - 1 = ((j - 1 : Nat) : Int) := by omega
            have jm0 : (0 : Int) ≤ ((j - 1 : Nat) : Int) := by omega
            have jm1 : ((j - 1 : Nat) : Int) < (n : Int) := by omega
            have HPV := Lib.hid hpv
            clear hpv hy hcp p0 p1 hpl
            generalize j - 1 = jp at *
            by_cases hle : x.1 ≤ y.1
            · have g4 : decide (x.1 ≤ y.1) = true := by simp; omega
              obtain rfl : false = rv := by rw [← HRV.out]; exact (tree_no hx (by unfold stepOk numOk; rw [g3, HPV.out, g4]; simp)).symm
              clear hx hc
              go_upto_region 5 with fail
              refine wp_region_quiet_below (by kernel_rfl) (by kernel_rfl) ?_
              repeat (go_big_quiet_step (first | (go_at_call 34; exact Calls.regrown_of (HN.out _ _))))
              refine wpQuiet_nil ?_
              intro w2 hw2
              have hb2 : Below w1.heap.size w1 w2 := by
                obtain ⟨p, hw2⟩ := hw2
                rw [hw2]; exact below_regrown _ _ _
              go_wp2
              go_ret
              exact ⟨rfl, HB1.out.trans (hb2.mono HB1.out.size)⟩
            · have g4 : decide (x.1 ≤ y.1) = false := by simp; omega
              cases ni with
              | false =>
                obtain rfl : false = rv := by rw [← HRV.out]; exact (tree_no hx (by unfold stepOk numOk; rw [HNI.out]; simp)).symm
                clear hx hc
                go_upto_region 5 with fail
                refine wp_region_quiet_below (by kernel_rfl) (by kernel_rfl) ?_
                repeat (go_big_quiet_step (first | (go_at_call 34; exact Calls.regrown_of (HN.out _ _))))
                refine wpQuiet_nil ?_
                intro w2 hw2
                have hb2 : Below w1.heap.size w1 w2 := by
                  obtain ⟨p, hw2⟩ := hw2
                  rw [hw2]; exact below_regrown _ _ _
                go_wp2
                go_ret
                exact ⟨rfl, HB1.out.trans (hb2.mono HB1.out.size)⟩
              | true =>
                clear hx hc
                go_upto_region 5 with fail
                refine wp_region_quiet_below (by kernel_rfl) (by kernel_rfl) ?_
                repeat (go_big_quiet_step (first | (go_at_call 34; exact Calls.regrown_of (HN.out _ _))))
                refine wpQuiet_nil ?_
                intro w2 hw2
                have hb2 : Below w1.heap.size w1 w2 := by
                  obtain ⟨p, hw2⟩ := hw2
                  rw [hw2]; exact below_regrown _ _ _
                have HB2 := Lib.hid (HB1.out.trans (hb2.mono HB1.out.size))
                have hx2 := HXB.out.below hb2 HXB.out.lt
                have z1 : w2.cell? ⟨gp, 1, none⟩ = some (.string x.2) := by rw [hx2.cell]; rfl
                have R := Lib.hid (contains_any (some ad) c j (l.take j) x.2 w2 (by rw [List.length_take]; have := HL.out; omega) (by omega) (((HR.out.below HB2.out).more HB2.out.size).takeP hj) gp x.1 hx2)
                obtain ⟨ph, hph⟩ : ∃ ph, placeHas (l.take j) x.2 = ph := ⟨_, rfl⟩
                rw [hph] at R
                have HPH := Lib.hid hph
                have HX2 := Lib.hid hx2
                clear hb2 hw2 hph hx2
                go_wp2_with fail
                refine R.out.mono ?_
                rintro e w3 ⟨rfl, hb3⟩
                have HB3 := Lib.hid (HB2.out.trans (hb3.mono HB2.out.size))
                have hx3 := HX2.out.below hb3 HX2.out.lt
                have u1 : w3.cell? ⟨gp, 1, none⟩ = some (.string x.2) := by rw [hx3.cell]; rfl
                clear hb3 hx3 z1 R
                cases ph with
                | true =>
                  obtain rfl : false = rv := by rw [← HRV.out]; exact (tree_no HX.out (by unfold stepOk; rw [HPH.out]; simp)).symm
                  go_wp2
                  go_ret
                  exact ⟨rfl, HB3.out⟩
                | false =>
                  have hso : stepAt l j = true := by rw [stepAt_eq HX.out]; unfold stepOk numOk; rw [HNI.out, HPH.out, g1, g2, g3, HPV.out, g4]; simp
                  have hall2 : ∀ i, i < j + 1 → stepAt l i = true := fun i hi => by
                    rcases Nat.lt_or_ge i j with h | h
                    · exact hall.out i h
                    · obtain rfl : i = j := by omega
                      exact hso
                  have HA2 := Lib.hid hall2
                  have hin := inbox_step HX.out
                  rw [← hcc.out] at hin
                  have HIN := Lib.hid hin
                  have hII : isInbox x = (x.2.toList == [73, 78, 66, 79, 88]) := rfl
                  obtain ⟨ii, hii⟩ : ∃ ii, (x.2.toList == [73, 78, 66, 79, 88]) = ii := ⟨_, rfl⟩
                  rw [hii] at hII
                  have HII := Lib.hid hII
                  clear hso hall2 hin hII
                  cases ii with
                  | true =>
                    go_wp2
                    go_roundw
                    case rel => exact ⟨j + 1, cc + 1, by go_num, by omega, by omega, by go_num, by rw [HIN.out, HII.out]; exact rfl, HA2, HB3⟩
                    case measure => simp [intOf]; omega
                  | false =>
                    go_wp2
                    go_roundw
                    case rel => exact ⟨j + 1, cc, by go_num, by omega, by omega, rfl, by rw [HIN.out, HII.out]; exact rfl, HA2, HB3⟩
                    case measure => simp [intOf]; omega
    · obtain rfl : j = n := by omega
      have hv := tree_yes (l := l) (fun i hi => hall.out i (by have := HL.out; omega))
      have hcc2 := hcc.out
      rw [List.take_of_length_le (by have := HL.out; omega)] at hcc2
      rw [← hcc2, HRV.out] at hv
      have HV := Lib.hid hv
      clear hv hcc2
      go_wp2
      go_ret
      refine ⟨?_, hb.out⟩
      rw [HV.out]
      exact ret_bool (by rw [Bool.eq_iff_iff]; simp; omega)
end Go.Proofs.YtljclehhicmkhaaDoor
