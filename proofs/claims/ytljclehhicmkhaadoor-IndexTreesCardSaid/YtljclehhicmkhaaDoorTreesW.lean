/-
  Walk of the statement on trees.
-/
import Derived.Test.YtljclehhicmkhaaDoorTreesLaw
import Derived.Deep.DeepCutAuto
import Derived.Deep.Cut
import Derived.Deep.CutRange
import Derived.Deep.RegionHeld3
namespace Go.Proofs.YtljclehhicmkhaaDoor
open Go.RowKit
/-- append, shut, whatever its types: where a region's operation is not laid open yet -/
def appendH (tys : Array TypeId) (ty : TypeId) (args : Array Value) : Sem Value := Builtin.append_ tys ty args
theorem append_H (tys : Array TypeId) (ty : TypeId) (args : Array Value) : Builtin.append_ tys ty args = appendH tys ty args := rfl
attribute [local go_sem ↓ 100000] append_H
theorem append8_atH {w0 w : World} (hb : Below w0.heap.size w0 w) {v : Value} {l m : List UInt8} {n1 n n2 : Nat} (h : w.ownsRow w0.heap.size 5 1 v n1 (u8s l)) {A : Option Addr} (c : Nat) {Bd : Nat} (hn : m.length = n) (h2 : n1 + n = n2) (hr : Reads w Bd 1 A n (u8s m)) (hlen : n2 ≤ 1000000000) :
    ∃ A' c' w', (appendH #[24, 24] 24 #[v, .slice A n c]).run Tryd.prog w = .ok (.slice A' n2 c') w' ∧ w'.ownsRow w0.heap.size 5 1 (.slice A' n2 c') n2 (u8s (l ++ m)) ∧ Below w0.heap.size w0 w' := by
  subst hn h2
  obtain ⟨i0, hi0, hz0, hz1, hz2⟩ := info_parts u8_info
  obtain ⟨v', w', hrun, ho, hg⟩ := run_append_any (P := Tryd.prog) w w0.heap.size 24 24 5 i0 _ 1 1 Tryd.underlying24 hi0 hz0 hz1 hz2 rfl (by omega) v n1 (u8s l) h A m.length c (u8s m) (Gives.of_reads hr (u8s_one m)) (by unfold maxLen; omega) (by omega) hb.size
  rw [← u8s_append] at ho
  obtain ⟨A', c', rfl, _, _⟩ := own_reads ho
  exact ⟨A', c', w', hrun, ho, hb.grown hg hb.size fun k hk => (h.lt k hk).1⟩
theorem and255 : ∀ v : Fin 16, bits .and .i64 (v.val : Int) 255 = (v.val : Int) := by decide +kernel
theorem step_bool (l : List PlaceM) (j : Nat) (x : PlaceM) (hx : l[j]? = some x) : treeN l (j + 1) = (treeN l j && numOk l j x && nameIs x.2 && !placeHas (l.take j) x.2) := by
  rw [treeN_succ, stepAt_eq hx]
  unfold stepOk
  simp only [Bool.and_assoc]
/-- a text's row onto a row -/
theorem text_chain {w W w3 : World} (hW : Below w.heap.size w W) {v : Value} {l : List UInt8} {n1 tn n2 : Nat} (ho : W.ownsRow w.heap.size 5 1 v n1 (u8s l)) (hb3 : Below W.heap.size W w3) {v3 : Value} {t : List UInt8} (ho3 : w3.ownsRow W.heap.size 5 1 v3 t.length (u8s t)) (ht : t.length = tn) (h2 : n1 + tn = n2) (hlen : n2 ≤ 1000000) :
    ∃ A3 c3 A5 c5 w5, v3 = .slice A3 tn c3 ∧ (appendH #[24, 24] 24 #[v, .slice A3 tn c3]).run Tryd.prog w3 = .ok (.slice A5 n2 c5) w5 ∧ w5.ownsRow w.heap.size 5 1 (.slice A5 n2 c5) n2 (u8s (l ++ t)) ∧ Below w.heap.size w w5 := by
  obtain ⟨A3, c3, e3, hr3⟩ := own8_reads ho3
  rw [ht] at e3 hr3
  obtain ⟨A5, c5, w5, E, ho5, hb5⟩ := append8_atH (hW.trans (hb3.mono hW.size)) (own_below ho hb3) c3 ht h2 hr3 (by omega)
  exact ⟨A3, c3, A5, c5, w5, e3, E, ho5, hb5⟩
set_option maxHeartbeats 12000000 in
set_option maxRecDepth 100000 in
theorem trees_main (A : Option Addr) (c n : Nat) (l : List PlaceM) (w : World) (hm : MaxCell w) (hg : 1 < w.heap.size) (hsz : ∀ q ∈ l, q.2.size ≤ 9223372036854775807) (hn2 : l.length = n) (hn : n ≤ 40) (hcn : n ≤ c) (hr : Reads w w.heap.size 2 A n (pcells l)) :
    Calls Tryd.prog 3 #[.slice A n c] w fun e w' => e = .returned (.bool true) ∧ Below w.heap.size w w' := by
  have HR := Lib.hid hr
  have HM := Lib.hid hm
  have HSZ := Lib.hid hsz
  have HL := Lib.hid hn2
  have R0 := Lib.hid (awake11 w hm hg)
  have g40 : decide (40 < (n : Int)) = false := by simp; omega
  have n8 : (n : Int) % 256 = (n : Int) := by omega
  clear hr hm hsz hn2
  go_enter Tryd.func3, Tryd.ntmps3
  go_wp2_with fail
  refine R0.out.mono ?_
  rintro e w1 ⟨rfl, hb1⟩
  have hbx := (Below.refl w1.heap.size w1).alloc (Nat.le_refl _) (.cells #[.int .u8 (n : Int)] 5)
  have hown : (w1.alloc (.cells #[.int .u8 (n : Int)] 5)).ownsRow w.heap.size 5 1 (.slice (some ⟨w1.heap.size, 0, none⟩) 1 1) 1 (u8s (be 1 n)) := by
    have h := own_lit8 (w := w1) (l := be 1 n) (by simp [be_length]) (cs := #[.int .u8 (n : Int)]) (by simp [be, u8s]; omega)
    exact own_mono h hb1.size
  have HB1 := Lib.hid (hb1.trans (hbx.mono hb1.size))
  have HO1 := Lib.hid hown
  clear hb1 hbx hown R0
  go_wp2
  go_loopw [3, 4, 5, 27] (fun u3 u4 u5 k wr => ∃ (j : Nat) (R I : Bool) (vP : Value) (pl : List UInt8), vP = u5 ∧ u3 = .bool R ∧ u4 = .bool I ∧ k = .int .i64 j ∧ j ≤ n ∧ Hid (treeN l j = R) ∧ Hid (inbN l j = I) ∧ Hid (wr.ownsRow w.heap.size 5 1 vP pl.length (u8s pl)) ∧ Hid (pl.length ≤ 1 + j * 1003) ∧ Hid (R = true → pl = be 1 n ++ (l.take j).flatMap placeB) ∧ Hid (Below w.heap.size w wr)) (fun _ _ _ k _ => n - (intOf k).toNat)
  case atStart => exact ⟨0, true, false, _, be 1 n, rfl, rfl, rfl, rfl, by omega, rfl, rfl, HO1, by show _ ≤ _; rw [be_length]; omega, fun _ => by simp, HB1⟩
  case round =>
    obtain ⟨j, R, I, vP, pl, rfl, rfl, rfl, rfl, hj, hR, hI, ho, hpl, hp, hb⟩ := hrel
    have hs := hb.out.size
    by_cases hlt : j < n
    · obtain ⟨x, hx⟩ : ∃ x, l[j]? = some x := ⟨_, List.getElem?_eq_getElem (by have := HL.out; omega)⟩
      obtain ⟨ad, rfl, hadl, hc⟩ := (HR.out.below hb.out).2 (by omega)
      obtain ⟨k0, k1⟩ := place_at hc hx
      have hadl' : (ad.add (j * 2)).block < wr.heap.size := by rw [block_of_add]; exact Nat.lt_of_lt_of_le hadl hb.out.size
      have jj0 : (0 : Int) ≤ (j : Int) := by omega
      have jj1 : (j : Int) < (n : Int) := by omega
      have HX := Lib.hid hx
      by_cases hbig : 1000 < x.2.size
      · have g1 : decide (1000 < x.2.size) = true := by simp; omega
        have g2 : decide ((1000 : Int) < (x.2.size : Int)) = true := by simp; omega
        clear hc
        go_wp2
        go_ret
        exact ⟨rfl, hb.out⟩
      · have g1 : decide (1000 < x.2.size) = false := by simp; omega
        have g2 : decide ((1000 : Int) < (x.2.size : Int)) = false := by simp; omega
        clear hc
        have hbs : x.2.size ≤ 1000 := by omega
        obtain ⟨R1, hR1⟩ : ∃ R1, (R && numOk l j x && nameIs x.2) = R1 := ⟨_, rfl⟩
        go_wp2_with fail
        clear g1 g2 hbig
        go_cut [3] (fun r wx => r = .bool R1 ∧ Below wr.heap.size wr wx)
        case first =>
          have HR1 := Lib.hid hR1
          obtain ⟨ni, hni⟩ : ∃ ni, nameIs x.2 = ni := ⟨_, rfl⟩
          have HNI := Lib.hid hni
          have HN : Hid (∀ dd os, Calls Tryd.prog 8 #[.string x.2] (Sort.grow (redrawn wr dd) os) fun e w' => e = .returned (.bool ni) ∧ Below (Sort.grow (redrawn wr dd) os).heap.size (Sort.grow (redrawn wr dd) os) w') := fun dd os => by
            have h := refNamed_any x.2 (by omega) (Sort.grow (redrawn wr dd) os)
            rw [hni] at h
            exact h
          have y0 : ∀ dd os, (Sort.grow (redrawn wr dd) os).cell? (ad.add (j * 2)) = some (.int .i64 x.1) := fun dd os => cell_regrown k0 dd os
          have y1 : ∀ dd os, (Sort.grow (redrawn wr dd) os).cell? ⟨(ad.add (j * 2)).block, (ad.add (j * 2)).off + 1, none⟩ = some (.string x.2) := fun dd os => cell_regrown k1 dd os
          clear hR1 hni hx
          cases R with
          | false =>
            obtain rfl : false = R1 := by rw [← HR1.out]; unfold numOk; simp
            refine wp_region_quiet_below (by kernel_rfl) (by kernel_rfl) ?_
            repeat (go_big_quiet_step (fail))
            refine wpQuiet_nil ?_
            intro w2 hw2
            have hb2 : Below wr.heap.size wr w2 := by
              obtain ⟨p, hw2⟩ := hw2
              rw [hw2]; exact below_regrown _ _ _
            go_wp2
            go_meet
            exact ⟨rfl, hb2⟩
          | true =>
            by_cases ha : 0 ≤ x.1
            · have g1 : decide (0 ≤ x.1) = true := by simp; omega
              have q1 : decide (x.1 < 0) = false := by simp; omega
              by_cases ha2 : x.1 < 16
              · have g2 : decide (x.1 < 16) = true := by simp; omega
                have q2 : decide (16 ≤ x.1) = false := by simp; omega
                by_cases hjz : j = 0
                · have g3 : ((j : Int) == 0) = true := by simp; omega
                  have g4 : (j == 0) = true := by simp; omega
                  have q3 : decide (0 < j) = false := by simp; omega
                  clear hjz
                  obtain rfl : ni = R1 := by rw [← HR1.out]; unfold numOk; rw [q1, q2, q3, HNI.out]; simp
                  refine wp_region_quiet_below (by kernel_rfl) (by kernel_rfl) ?_
                  repeat (go_big_quiet_step (first | (go_at_call 8; exact Calls.regrown_of (HN.out _ _))))
                  refine wpQuiet_nil ?_
                  intro w2 hw2
                  have hb2 : Below wr.heap.size wr w2 := by
                    obtain ⟨p, hw2⟩ := hw2
                    rw [hw2]; exact below_regrown _ _ _
                  go_wp2
                  go_meet
                  exact ⟨rfl, hb2⟩
                · have g3 : ((j : Int) == 0) = false := by simp; omega
                  have g4 : (j == 0) = false := by simp; omega
                  have q3 : decide (0 < j) = true := by simp; omega
                  obtain ⟨y, hy⟩ : ∃ y, l[j - 1]? = some y := ⟨_, List.getElem?_eq_getElem (by have := HL.out; omega)⟩
                  obtain ⟨adp, eadp, _, hcp⟩ := (HR.out.below hb.out).2 (by omega)
                  injection eadp with eadp
                  subst eadp
                  obtain ⟨p0, _⟩ := place_at hcp hy
                  have z0 : ∀ dd os, (Sort.grow (redrawn wr dd) os).cell? (ad.add ((j - 1) * 2)) = some (.int .i64 y.1) := fun dd os => cell_regrown p0 dd os
                  have hpv : prevN l j = y.1 := by unfold prevN; rw [hy]
                  have jm : (j : Int) - 1 = ((j - 1 : Nat) : Int) := by omega
                  have jm0 : (0 : Int) ≤ ((j - 1 : Nat) : Int) := by omega
                  have jm1 : ((j - 1 : Nat) : Int) < (n : Int) := by omega
                  have HPV := Lib.hid hpv
                  clear hpv hy hcp p0 hjz
                  generalize j - 1 = jp at *
                  by_cases hle : y.1 < x.1
                  · have g5 : decide (y.1 < x.1) = true := by simp; omega
                    have q5 : decide (x.1 ≤ y.1) = false := by simp; omega
                    obtain rfl : ni = R1 := by rw [← HR1.out]; unfold numOk; rw [q1, q2, q3, HPV.out, q5, HNI.out]; simp
                    refine wp_region_quiet_below (by kernel_rfl) (by kernel_rfl) ?_
                    repeat (go_big_quiet_step (first | (go_at_call 8; exact Calls.regrown_of (HN.out _ _))))
                    refine wpQuiet_nil ?_
                    intro w2 hw2
                    have hb2 : Below wr.heap.size wr w2 := by
                      obtain ⟨p, hw2⟩ := hw2
                      rw [hw2]; exact below_regrown _ _ _
                    go_wp2
                    go_meet
                    exact ⟨rfl, hb2⟩
                  · have g5 : decide (y.1 < x.1) = false := by simp; omega
                    have q5 : decide (x.1 ≤ y.1) = true := by simp; omega
                    obtain rfl : false = R1 := by rw [← HR1.out]; unfold numOk; rw [q3, HPV.out, q5]; simp
                    refine wp_region_quiet_below (by kernel_rfl) (by kernel_rfl) ?_
                    repeat (go_big_quiet_step (fail))
                    refine wpQuiet_nil ?_
                    intro w2 hw2
                    have hb2 : Below wr.heap.size wr w2 := by
                      obtain ⟨p, hw2⟩ := hw2
                      rw [hw2]; exact below_regrown _ _ _
                    go_wp2
                    go_meet
                    exact ⟨rfl, hb2⟩
              · have g2 : decide (x.1 < 16) = false := by simp; omega
                have q2 : decide (16 ≤ x.1) = true := by simp; omega
                obtain rfl : false = R1 := by rw [← HR1.out]; unfold numOk; rw [q2]; simp
                refine wp_region_quiet_below (by kernel_rfl) (by kernel_rfl) ?_
                repeat (go_big_quiet_step (fail))
                refine wpQuiet_nil ?_
                intro w2 hw2
                have hb2 : Below wr.heap.size wr w2 := by
                  obtain ⟨p, hw2⟩ := hw2
                  rw [hw2]; exact below_regrown _ _ _
                go_wp2
                go_meet
                exact ⟨rfl, hb2⟩
            · have g1 : decide (0 ≤ x.1) = false := by simp; omega
              have q1 : decide (x.1 < 0) = true := by simp; omega
              obtain rfl : false = R1 := by rw [← HR1.out]; unfold numOk; rw [q1]; simp
              refine wp_region_quiet_below (by kernel_rfl) (by kernel_rfl) ?_
              repeat (go_big_quiet_step (fail))
              refine wpQuiet_nil ?_
              intro w2 hw2
              have hb2 : Below wr.heap.size wr w2 := by
                obtain ⟨p, hw2⟩ := hw2
                rw [hw2]; exact below_regrown _ _ _
              go_wp2
              go_meet
              exact ⟨rfl, hb2⟩
        case rest =>
          obtain ⟨rfl, hb1⟩ := hcut
          have e0 : wc.cell? (ad.add (j * 2)) = some (.int .i64 x.1) := (hb1.cell hadl').trans k0
          have e1 : wc.cell? ⟨(ad.add (j * 2)).block, (ad.add (j * 2)).off + 1, none⟩ = some (.string x.2) := (hb1.cell (p := ⟨(ad.add (j * 2)).block, (ad.add (j * 2)).off + 1, none⟩) hadl').trans k1
          have hbl : (ad.add (j * 2)).block < wc.heap.size := Nat.lt_of_lt_of_le hadl' hb1.size
          have HBC := Lib.hid (hb.out.trans (hb1.mono hs))
          have HOC := Lib.hid (own_below ho.out hb1)
          have HR1 := Lib.hid hR1
          clear k0 k1 hb1 hadl' hx hR1
          go_wp2
          go_loopw [3, 81] (fun u3 kk w2 => ∃ (k : Nat) (R2 : Bool), u3 = .bool R2 ∧ kk = .int .i64 k ∧ k ≤ j ∧ Hid ((R1 && !placeHas (l.take k) x.2) = R2) ∧ Hid (Below wc.heap.size wc w2)) (fun _ kk _ => j - (intOf kk).toNat)
          case atStart => exact ⟨0, R1, rfl, rfl, by omega, by show _ = R1; simp [placeHas], Below.refl _ _⟩
          case round =>
            obtain ⟨k, R2, rfl, rfl, hk, hR2, hb2⟩ := hrel
            by_cases hkj : k < j
            · obtain ⟨y, hy⟩ : ∃ y, l[k]? = some y := ⟨_, List.getElem?_eq_getElem (by have := HL.out; omega)⟩
              obtain ⟨adp, eadp, _, hcp⟩ := (HR.out.below (HBC.out.trans (hb2.out.mono HBC.out.size))).2 (by omega)
              injection eadp with eadp
              subst eadp
              obtain ⟨_, p1⟩ := place_at hcp hy
              have a1 : ∀ dd os, (Sort.grow (redrawn wr dd) os).cell? ⟨(ad.add (k * 2)).block, (ad.add (k * 2)).off + 1, none⟩ = some (.string y.2) := fun dd os => cell_regrown p1 dd os
              have a2 : ∀ dd os, (Sort.grow (redrawn wr dd) os).cell? ⟨(ad.add (j * 2)).block, (ad.add (j * 2)).off + 1, none⟩ = some (.string x.2) := fun dd os => cell_regrown ((hb2.out.cell (p := ⟨(ad.add (j * 2)).block, (ad.add (j * 2)).off + 1, none⟩) hbl).trans e1) dd os
              have kk0 : (0 : Int) ≤ (k : Int) := by omega
              have kk1 : (k : Int) < (n : Int) := by omega
              have hst := placeHas_step hy x.2
              obtain ⟨eq, heq⟩ : ∃ eq, (y.2.toList == x.2.toList) = eq := ⟨_, rfl⟩
              have hne : (y.2.toList != x.2.toList) = !eq := by rw [← heq]; rfl
              rw [heq] at hst
              have HST := Lib.hid hst
              clear hy hcp p1 hst
              cases R2 with
              | false =>
                have hr2 : (R1 && !placeHas (l.take (k + 1)) x.2) = false := by
                  rw [HST.out]
                  have := hR2.out
                  cases hR1c : R1 with
                  | false => rfl
                  | true => rw [hR1c] at this; simp only [Bool.true_and, Bool.not_eq_false'] at this; rw [this]; rfl
                have HR2 := Lib.hid hr2
                clear hr2
                go_wp2
                refine wp_region_quiet_below (by kernel_rfl) (by kernel_rfl) ?_
                repeat (go_big_quiet_step (fail))
                refine wpQuiet_nil ?_
                intro w3 hw3
                have hb3 : Below wr.heap.size wr w3 := by
                  obtain ⟨p, hw3⟩ := hw3
                  rw [hw3]; exact below_regrown _ _ _
                have HB3 := Lib.hid (hb2.out.trans (hb3.mono hb2.out.size))
                clear hw3 hb3 a1 a2
                go_wp2
                go_roundw
                case rel => exact ⟨k + 1, false, rfl, by go_num, by omega, HR2, HB3⟩
                case measure => simp [intOf]; omega
              | true =>
                have hr2 : (R1 && !placeHas (l.take (k + 1)) x.2) = !eq := by
                  rw [HST.out]
                  have := hR2.out
                  cases hR1c : R1 with
                  | false => rw [hR1c] at this; cases this
                  | true => rw [hR1c] at this; simp only [Bool.true_and, Bool.not_eq_true'] at this; rw [this]; simp
                have HR2 := Lib.hid hr2
                clear hr2
                go_wp2
                refine wp_region_quiet_below (by kernel_rfl) (by kernel_rfl) ?_
                repeat (go_big_quiet_step (fail))
                refine wpQuiet_nil ?_
                intro w3 hw3
                have hb3 : Below wr.heap.size wr w3 := by
                  obtain ⟨p, hw3⟩ := hw3
                  rw [hw3]; exact below_regrown _ _ _
                have HB3 := Lib.hid (hb2.out.trans (hb3.mono hb2.out.size))
                clear hw3 hb3 a1 a2
                go_wp2
                go_roundw
                case rel => exact ⟨k + 1, !eq, rfl, by go_num, by omega, HR2, HB3⟩
                case measure => simp [intOf]; omega
            · obtain rfl : k = j := by omega
              have htn : treeN l (k + 1) = R2 := by rw [step_bool l k x HX.out, hR.out, HR1.out, hR2.out]
              have f0 := (hb2.out.cell (p := ad.add (k * 2)) hbl).trans e0
              have f1 := (hb2.out.cell (p := ⟨(ad.add (k * 2)).block, (ad.add (k * 2)).off + 1, none⟩) hbl).trans e1
              have hfl : (ad.add (k * 2)).block < wr.heap.size := Nat.lt_of_lt_of_le hbl hb2.out.size
              have hin := inbN_succ HX.out
              rw [hI.out] at hin
              have HTN := Lib.hid htn
              have HO2 := Lib.hid (own_below HOC.out (hb2.out.mono (Nat.le_refl _)))
              have HB2 := Lib.hid (HBC.out.trans (hb2.out.mono HBC.out.size))
              have hs2 := HB2.out.size
              have hII : isInbox x = (x.2.toList == [73, 78, 66, 79, 88]) := rfl
              obtain ⟨ii, hii⟩ : ∃ ii, (x.2.toList == [73, 78, 66, 79, 88]) = ii := ⟨_, rfl⟩
              rw [hii] at hII
              rw [hII] at hin
              have HIN := Lib.hid hin
              obtain ⟨cb, hcb⟩ : ∃ cb : UInt8, ((cb.toNat : Nat) : Int) = bits .and .i64 x.1 255 % 256 := ⟨UInt8.ofNat (bits .and .i64 x.1 255 % 256).toNat, by simp; omega⟩
              have HCB := Lib.hid hcb
              obtain ⟨p2, hp2⟩ : ∃ p2, pl ++ [cb] ++ textB x.2 = p2 := ⟨_, rfl⟩
              have hpl2 : p2.length ≤ 1 + (k + 1) * 1003 := by
                rw [← hp2]
                have := hpl.out
                have ht : (textB x.2).length = 2 + x.2.size := by unfold textB; simp [be_length]
                simp only [List.length_append, List.length_singleton]
                omega
              have HP2 := Lib.hid hp2
              have HPL2 := Lib.hid hpl2
              have hpr : R2 = true → p2 = be 1 n ++ (l.take (k + 1)).flatMap placeB := fun h => by
                have h1 := htn
                rw [h, treeN_succ, Bool.and_eq_true] at h1
                have h2 := hp.out (by rw [← hR.out]; exact h1.1)
                have h3 := h1.2
                rw [stepAt_eq HX.out] at h3
                obtain ⟨h4, h5, _⟩ := stepOk_parts h3
                rw [← hp2, h2, List.take_add_one, HX.out]
                have h6 : cb = UInt8.ofNat (x.1.toNat / 256 ^ 0) := by
                  have h7 := hcb
                  obtain ⟨xn, hxn⟩ : ∃ xn : Fin 16, x.1 = (xn.val : Int) := ⟨⟨x.1.toNat, by omega⟩, by simp; omega⟩
                  rw [hxn, and255 xn] at h7
                  rw [hxn]
                  apply UInt8.toNat_inj.1
                  simp
                  omega
                simp [placeB, List.flatMap_append, List.append_assoc, be, h6]
              have HPR := Lib.hid hpr
              clear htn e0 e1 hbl hin hII hp2 hpl2 hR2 hpr
              obtain ⟨tn, htn⟩ : ∃ tn, (textB x.2).length = tn := ⟨_, rfl⟩
              obtain ⟨n2, hn2⟩ : ∃ n2, pl.length + 1 + tn = n2 := ⟨_, rfl⟩
              have hp2l : p2.length = n2 := by
                rw [← HP2.out]
                simp only [List.length_append, List.length_singleton]
                omega
              have hn2b : n2 ≤ 1000000 := by have := HPL2.out; omega
              have HTN2 := Lib.hid htn
              have HN2 := Lib.hid hn2
              have HPN := Lib.hid hp2l
              clear htn hn2 hp2l
              cases I with
              | true =>
                go_wp2_with fail
                have hbx := ((Below.refl wr.heap.size wr).alloc (Nat.le_refl _) (.cells #[.int .u8 ((cb.toNat : Nat) : Int)] 5)).drew
                have hX := HB2.out.trans (hbx.mono hs2)
                have hoX := own_below HO2.out hbx
                obtain ⟨m1, hm1⟩ : ∃ m1, pl.length + 1 = m1 := ⟨_, rfl⟩
                obtain ⟨Aa, ca, wa, Ea, hoa, hba⟩ := append8_atH (m := [cb]) (n := 1) (n2 := m1) hX hoX 1 rfl hm1 (lit_one wr cb).drew (by have := HN2.out; omega)
                have hcw : ((cb.toNat : Nat) : Int) = IntKind.u8.wrap (bits .and .i64 x.1 255) := by rw [hcb, IntKind.wrap_u8']
                rw [hcw] at Ea
                have hadw : (ad.add (k * 2)).block < w.heap.size := by rw [block_of_add]; exact hadl
                have fa1 : wa.cell? ⟨(ad.add (k * 2)).block, (ad.add (k * 2)).off + 1, none⟩ = some (.string x.2) := (hba.cell (p := ⟨(ad.add (k * 2)).block, (ad.add (k * 2)).off + 1, none⟩) hadw).trans ((HB2.out.cell (p := ⟨(ad.add (k * 2)).block, (ad.add (k * 2)).off + 1, none⟩) hadw).symm.trans f1)
                go_region_with (go_at_call 9; refine (refText_any x.2 (by omega) _).mono ?_; rintro e w3 ⟨v3, rfl, ho3, hb3⟩; obtain ⟨A3, c3, A5, c5, w5, rfl, E5, ho5, hb5⟩ := text_chain (l := pl ++ [cb]) (n2 := n2) hba hoa hb3 ho3 HTN2.out (by have := HN2.out; omega) hn2b)
                all_goals (try go_wp2_with fail)
                all_goals go_roundw
                all_goals first
                  | exact ⟨k + 1, R2, true, _, p2, rfl, rfl, rfl, by go_num, by omega, HTN, HIN.out, (by show World.ownsRow _ _ _ _ _ _ _; rw [HPN.out, ← HP2.out]; exact ho5), HPL2, HPR, hb5⟩
                  | ((repeat apply Exists.intro); exact ⟨⟨k + 1, R2, true, _, p2, rfl, rfl, rfl, by go_num, by omega, HTN, HIN.out, (by show World.ownsRow _ _ _ _ _ _ _; rw [HPN.out, ← HP2.out]; exact ho5), HPL2, HPR, hb5⟩, rfl⟩)
                  | (simp [intOf]; omega)
              | false =>
                rw [Bool.false_or] at HIN
                go_wp2_with fail
                have hbx := ((Below.refl wr.heap.size wr).alloc (Nat.le_refl _) (.cells #[.int .u8 ((cb.toNat : Nat) : Int)] 5)).drew
                have hX := HB2.out.trans (hbx.mono hs2)
                have hoX := own_below HO2.out hbx
                obtain ⟨m1, hm1⟩ : ∃ m1, pl.length + 1 = m1 := ⟨_, rfl⟩
                obtain ⟨Aa, ca, wa, Ea, hoa, hba⟩ := append8_atH (m := [cb]) (n := 1) (n2 := m1) hX hoX 1 rfl hm1 (lit_one wr cb).drew (by have := HN2.out; omega)
                have hcw : ((cb.toNat : Nat) : Int) = IntKind.u8.wrap (bits .and .i64 x.1 255) := by rw [hcb, IntKind.wrap_u8']
                rw [hcw] at Ea
                have hadw : (ad.add (k * 2)).block < w.heap.size := by rw [block_of_add]; exact hadl
                have fa1 : wa.cell? ⟨(ad.add (k * 2)).block, (ad.add (k * 2)).off + 1, none⟩ = some (.string x.2) := (hba.cell (p := ⟨(ad.add (k * 2)).block, (ad.add (k * 2)).off + 1, none⟩) hadw).trans ((HB2.out.cell (p := ⟨(ad.add (k * 2)).block, (ad.add (k * 2)).off + 1, none⟩) hadw).symm.trans f1)
                go_region_with (go_at_call 9; refine (refText_any x.2 (by omega) _).mono ?_; rintro e w3 ⟨v3, rfl, ho3, hb3⟩; obtain ⟨A3, c3, A5, c5, w5, rfl, E5, ho5, hb5⟩ := text_chain (l := pl ++ [cb]) (n2 := n2) hba hoa hb3 ho3 HTN2.out (by have := HN2.out; omega) hn2b)
                all_goals (try go_wp2_with fail)
                all_goals go_roundw
                all_goals first
                  | exact ⟨k + 1, R2, ii, _, p2, rfl, rfl, rfl, by go_num, by omega, HTN, HIN.out, (by show World.ownsRow _ _ _ _ _ _ _; rw [HPN.out, ← HP2.out]; exact ho5), HPL2, HPR, hb5⟩
                  | ((repeat apply Exists.intro); exact ⟨⟨k + 1, R2, ii, _, p2, rfl, rfl, rfl, by go_num, by omega, HTN, HIN.out, (by show World.ownsRow _ _ _ _ _ _ _; rw [HPN.out, ← HP2.out]; exact ho5), HPL2, HPR, hb5⟩, rfl⟩)
                  | (simp [intOf]; omega)
    · obtain rfl : j = n := by omega
      have hrv := right_eq l
      rw [HL.out, hR.out, hI.out] at hrv
      have RP := Lib.hid (putTree_any A c j l wr (HM.out.below hg hb.out) (Nat.lt_of_lt_of_le hg hs) HSZ.out HL.out (by omega) hcn ((HR.out.below hb.out).more hs))
      unfold treeErr treePage at RP
      cases R with
      | false =>
        rw [Bool.false_and] at hrv
        rw [← hrv, if_neg (by simp), if_neg (by simp)] at RP
        clear hrv
        go_wp2_with fail
        refine RP.out.mono ?_
        rintro e w8 ⟨r8, rfl, ho8, hb8⟩
        obtain ⟨A8, c8, rfl, _⟩ := own8_reads ho8
        have HB8 := Lib.hid (hb.out.trans (hb8.mono hs))
        clear ho8 hb8 RP
        go_wp2
        go_ret
        exact ⟨rfl, HB8.out⟩
      | true =>
        rw [Bool.true_and] at hrv
        cases I with
        | false =>
          rw [← hrv, if_neg (by simp), if_neg (by simp)] at RP
          clear hrv
          go_wp2_with fail
          refine RP.out.mono ?_
          rintro e w8 ⟨r8, rfl, ho8, hb8⟩
          obtain ⟨A8, c8, rfl, _⟩ := own8_reads ho8
          have HB8 := Lib.hid (hb.out.trans (hb8.mono hs))
          clear ho8 hb8 RP
          go_wp2
          go_ret
          exact ⟨rfl, HB8.out⟩
        | true =>
          have hrt : rightTreeV l = true := hrv.symm
          rw [if_pos hrt, if_pos hrt] at RP
          have hpl2 : pl = treeB l := by
            rw [hp.out rfl, List.take_of_length_le (by have := HL.out; omega)]
            unfold treeB
            rw [HL.out]
          have hget := getTree_put hrt
          have htl := treeB_len hrt
          rw [← hpl2] at RP hget htl
          obtain ⟨pg, hpg⟩ : ∃ pg, pageB 3 pl = pg := ⟨_, rfl⟩
          have hpgl : pg.length ≤ 3000 := by rw [← hpg, pageB_length]; omega
          rw [hpg] at RP hget
          obtain ⟨gn, hgn⟩ : ∃ gn, pg.length = gn := ⟨_, rfl⟩
          rw [hgn] at RP hpgl
          obtain ⟨pn, hpn⟩ : ∃ pn, pl.length = pn := ⟨_, rfl⟩
          rw [hpn] at ho htl
          have HPG := Lib.hid hpg
          have HGN := Lib.hid hgn
          have HPN := Lib.hid hpn
          have HGET := Lib.hid hget
          clear hrv hrt hpl2 hget hpg hgn hpn hpl hp hR hI
          go_wp2_with fail
          refine RP.out.mono ?_
          rintro e w8 ⟨r8, rfl, ho8, hb8⟩
          obtain ⟨A8, c8, rfl, hr8, hc8⟩ := own_reads ho8
          have hB8 := hb.out.trans (hb8.mono hs)
          have RG := Lib.hid (getTree_any A8 c8 gn pg w8 (HM.out.below hg hB8) (Nat.lt_of_lt_of_le hg hB8.size) HGN.out (by omega) hc8 hr8)
          rw [HGET.out] at RG
          have eg : getErr (some l) = 0 := rfl
          rw [eg] at RG
          dsimp only [Option.getD_some] at RG
          rw [HL.out] at RG
          have HB8 := Lib.hid hB8
          have HR8 := Lib.hid hr8
          have HO8 := Lib.hid (own_below ho.out hb8)
          clear ho8 hb8 hr8 hB8 RP eg
          go_wp2_with fail
          refine RG.out.mono ?_
          rintro e w9 ⟨r9, rfl, ho9, hb9⟩
          obtain ⟨A9, c9, rfl, hr9, hc9⟩ := own_reads ho9
          have hB9 := HB8.out.trans (hb9.mono HB8.out.size)
          have ho9p := own_below HO8.out hb9
          obtain ⟨AP, cP, rfl, hrP, _⟩ := own_reads ho9p
          have RPg := Lib.hid (fun w' (hb' : Below w9.heap.size w9 w') => refPage_any 3 (by omega) AP pn cP pl HPN.out (by omega) w' ((hrP.below hb').more hb'.size))
          have hg8 := (HR8.out.below hb9).more hb9.size
          have v0 := conv_reads (w := w9.drew) (c := c8) HGN.out hg8.drew
          obtain ⟨S, hS⟩ : ∃ S : ByteArray, (⟨pg.toArray⟩ : ByteArray) = S := ⟨_, rfl⟩
          rw [hS] at v0
          have HS := Lib.hid hS
          have hSS : (S.toList != S.toList) = false := by simp
          have HG8 := Lib.hid hg8
          have HB9 := Lib.hid hB9
          have HR9 := Lib.hid hr9
          have hne : (j != j) = false := by simp
          have hne2 : ((j : Int) != (j : Int)) = false := by simp
          clear ho9 hb9 hr9 hB9 ho9p hrP hg8 RG hS
          go_wp2_with fail
          go_cut [169] (fun q wx => q = .bool false ∧ Below w9.heap.size w9 wx)
          case first =>
            have hbd : Below w9.heap.size w9 w9.drew := (Below.refl _ _).drew
            refine wp_region_any (by kernel_rfl) ?_
            try (change wpAny _ _ _ _ _ _ _ (World.drew _))
            refine wpAny_take (i := 0) (v := ?_) rfl (by kernel_rfl) (by kernel_rfl) (by kernel_rfl) (fun _ _ _ h => h) (Or.inl ⟨by rfl, ?_⟩) ?_
            rotate_left
            · intro w
              go_simp
              try with_reducible rfl
            try simp only [List.getElem_toArray, List.getElem_cons_zero, Act.put, List.setIfInBounds_toArray, List.set_cons_zero, List.set_cons_succ]
            refine wpAny_take (i := 1) (v := ?_) rfl (by kernel_rfl) (by kernel_rfl) (by kernel_rfl) (fun _ _ _ h => h) (Or.inl ⟨by rfl, ?_⟩) ?_
            rotate_left
            · intro w
              go_simp
              try with_reducible rfl
            try simp only [List.getElem_toArray, List.getElem_cons_succ, List.getElem_cons_zero, Act.put, List.setIfInBounds_toArray, List.set_cons_zero, List.set_cons_succ]
            refine wpAny_take (i := 2) (v := ?_) rfl (by kernel_rfl) (by kernel_rfl) (by kernel_rfl) (fun _ _ _ h => h) (Or.inl ⟨by rfl, ?_⟩) ?_
            rotate_left
            · intro w
              go_simp
              try with_reducible rfl
            try simp only [List.getElem_toArray, List.getElem_cons_succ, List.getElem_cons_zero, Act.put, List.setIfInBounds_toArray, List.set_cons_zero, List.set_cons_succ]
            refine wpAny_take (i := 3) (v := ?_) rfl (by kernel_rfl) (by kernel_rfl) (by kernel_rfl) (fun _ _ _ h => h) (Or.inl ⟨by rfl, ?_⟩) ?_
            rotate_left
            · intro w
              go_simp
              try with_reducible rfl
            try simp only [List.getElem_toArray, List.getElem_cons_succ, List.getElem_cons_zero, Act.put, List.setIfInBounds_toArray, List.set_cons_zero, List.set_cons_succ]
            refine wpAny_take (i := 5) (v := ?_) rfl (by kernel_rfl) (by kernel_rfl) (by kernel_rfl) (fun _ _ _ h => h) (Or.inl ⟨by rfl, ?_⟩) ?_
            rotate_left
            · intro w
              go_simp
              try with_reducible rfl
            try simp only [List.getElem_toArray, List.getElem_cons_succ, List.getElem_cons_zero, Act.put, List.setIfInBounds_toArray, List.set_cons_zero, List.set_cons_succ]
            refine wpAny_ready (rs := [4, 6]) (by kernel_rfl) (by simp) ?_
            refine AllReady.cons rfl (fun K hK => ?_) (AllReady.cons rfl (fun K hK => ?_) AllReady.nil)
            · go_simp
              refine hK _ _ ?_
              clear hK K
              try simp only [List.getElem_toArray, List.getElem_cons_succ, List.getElem_cons_zero, Act.put, List.setIfInBounds_toArray, List.set_cons_zero, List.set_cons_succ]
              refine wpAny_ready (rs := [6]) (by kernel_rfl) (by simp) ?_
              refine AllReady.cons rfl (fun K hK => ?_) AllReady.nil
              · go_simp
                go_wp2_with (go_at_call 12; refine (RPg.out _ (by assumption)).mono ?_; rintro e w10 ⟨v10, rfl, ho10, hb10⟩; obtain ⟨A10, c10, rfl, hr10⟩ := own8_reads ho10; have v1 := conv_reads (c := c10) rfl hr10; have hb10' : Below w9.heap.size w9 w10 := hbd.trans (hb10.mono hbd.size); have v2 := conv_reads (c := c8) HGN.out (HG8.out.below hb10'); rw [HPG.out, HGN.out, HS.out] at v1; rw [HS.out] at v2; rw [HPG.out, HGN.out]; clear hr10 ho10 hb10)
                try (refine hK _ _ ?_; clear hK K)
                try simp only [List.getElem_toArray, List.getElem_cons_succ, List.getElem_cons_zero, Act.put, List.setIfInBounds_toArray, List.set_cons_zero, List.set_cons_succ]
                refine wpAny_ready (rs := [7]) (by kernel_rfl) (by simp) ?_
                refine AllReady.cons rfl (fun K hK => ?_) AllReady.nil
                · go_simp
                  refine hK _ _ ?_
                  clear hK K
                  try simp only [List.getElem_toArray, List.getElem_cons_succ, List.getElem_cons_zero, Act.put, List.setIfInBounds_toArray, List.set_cons_zero, List.set_cons_succ]
                  refine wpAny_take (i := 8) (v := ?_) rfl (by kernel_rfl) (by kernel_rfl) (by kernel_rfl) (fun _ _ _ h => h) (Or.inl ⟨by rfl, ?_⟩) ?_
                  rotate_left
                  · intro w
                    go_simp
                    try with_reducible rfl
                  try simp only [List.getElem_toArray, List.getElem_cons_succ, List.getElem_cons_zero, Act.put, List.setIfInBounds_toArray, List.set_cons_zero, List.set_cons_succ]
                  refine wpAny_take (i := 9) (v := ?_) rfl (by kernel_rfl) (by kernel_rfl) (by kernel_rfl) (fun _ _ _ h => h) (Or.inl ⟨by rfl, ?_⟩) ?_
                  rotate_left
                  · intro w
                    go_simp
                    try with_reducible rfl
                  try simp only [List.getElem_toArray, List.getElem_cons_succ, List.getElem_cons_zero, Act.put, List.setIfInBounds_toArray, List.set_cons_zero, List.set_cons_succ]
                  refine wpAny_take (i := 10) (v := ?_) rfl (by kernel_rfl) (by kernel_rfl) (by kernel_rfl) (fun _ _ _ h => h) (Or.inl ⟨by rfl, ?_⟩) ?_
                  rotate_left
                  · intro w
                    go_simp
                    try with_reducible rfl
                  try simp only [List.getElem_toArray, List.getElem_cons_succ, List.getElem_cons_zero, Act.put, List.setIfInBounds_toArray, List.set_cons_zero, List.set_cons_succ]
                  refine wpAny_take (i := 11) (v := ?_) rfl (by kernel_rfl) (by kernel_rfl) (by kernel_rfl) (fun _ _ _ h => h) (Or.inl ⟨by rfl, ?_⟩) ?_
                  rotate_left
                  · intro w
                    go_simp
                    try with_reducible rfl
                  try simp only [List.getElem_toArray, List.getElem_cons_succ, List.getElem_cons_zero, Act.put, List.setIfInBounds_toArray, List.set_cons_zero, List.set_cons_succ]
                  refine wpAny_take (i := 12) (v := ?_) rfl (by kernel_rfl) (by kernel_rfl) (by kernel_rfl) (fun _ _ _ h => h) (Or.inl ⟨by rfl, ?_⟩) ?_
                  rotate_left
                  · intro w
                    go_simp
                    try with_reducible rfl
                  try simp only [List.getElem_toArray, List.getElem_cons_succ, List.getElem_cons_zero, Act.put, List.setIfInBounds_toArray, List.set_cons_zero, List.set_cons_succ]
                  refine wpAny_take (i := 13) (v := ?_) rfl (by kernel_rfl) (by kernel_rfl) (by kernel_rfl) (fun _ _ _ h => h) (Or.inl ⟨by rfl, ?_⟩) ?_
                  rotate_left
                  · intro w
                    go_simp
                    try with_reducible rfl
                  try simp only [List.getElem_toArray, List.getElem_cons_succ, List.getElem_cons_zero, Act.put, List.setIfInBounds_toArray, List.set_cons_zero, List.set_cons_succ]
                  refine wpAny_take (i := 14) (v := ?_) rfl (by kernel_rfl) (by kernel_rfl) (by kernel_rfl) (fun _ _ _ h => h) (Or.inl ⟨by rfl, ?_⟩) ?_
                  rotate_left
                  · intro w
                    go_simp
                    try with_reducible rfl
                  try simp only [List.getElem_toArray, List.getElem_cons_succ, List.getElem_cons_zero, Act.put, List.setIfInBounds_toArray, List.set_cons_zero, List.set_cons_succ]
                  refine wpAny_take (i := 15) (v := ?_) rfl (by kernel_rfl) (by kernel_rfl) (by kernel_rfl) (fun _ _ _ h => h) (Or.inl ⟨by rfl, ?_⟩) ?_
                  rotate_left
                  · intro w
                    go_simp
                    try with_reducible rfl
                  try simp only [List.getElem_toArray, List.getElem_cons_succ, List.getElem_cons_zero, Act.put, List.setIfInBounds_toArray, List.set_cons_zero, List.set_cons_succ]
                  refine wpAny_take (i := 16) (v := ?_) rfl (by kernel_rfl) (by kernel_rfl) (by kernel_rfl) (fun _ _ _ h => h) (Or.inl ⟨by rfl, ?_⟩) ?_
                  rotate_left
                  · intro w
                    go_simp
                    try with_reducible rfl
                  try simp only [List.getElem_toArray, List.getElem_cons_succ, List.getElem_cons_zero, Act.put, List.setIfInBounds_toArray, List.set_cons_zero, List.set_cons_succ]
                  refine wpAny_take (i := 17) (v := ?_) rfl (by kernel_rfl) (by kernel_rfl) (by kernel_rfl) (fun _ _ _ h => h) (Or.inl ⟨by rfl, ?_⟩) ?_
                  rotate_left
                  · intro w
                    go_simp
                    try with_reducible rfl
                  try simp only [List.getElem_toArray, List.getElem_cons_succ, List.getElem_cons_zero, Act.put, List.setIfInBounds_toArray, List.set_cons_zero, List.set_cons_succ]
                  refine wpAny_take (i := 18) (v := ?_) rfl (by kernel_rfl) (by kernel_rfl) (by kernel_rfl) (fun _ _ _ h => h) (Or.inl ⟨by rfl, ?_⟩) ?_
                  rotate_left
                  · intro w
                    go_simp
                    try with_reducible rfl
                  try simp only [List.getElem_toArray, List.getElem_cons_succ, List.getElem_cons_zero, Act.put, List.setIfInBounds_toArray, List.set_cons_zero, List.set_cons_succ]
                  refine wpAny_take (i := 19) (v := ?_) rfl (by kernel_rfl) (by kernel_rfl) (by kernel_rfl) (fun _ _ _ h => h) (Or.inl ⟨by rfl, ?_⟩) ?_
                  rotate_left
                  · intro w
                    go_simp
                    try with_reducible rfl
                  try simp only [List.getElem_toArray, List.getElem_cons_succ, List.getElem_cons_zero, Act.put, List.setIfInBounds_toArray, List.set_cons_zero, List.set_cons_succ]
                  refine wpAny_take (i := 20) (v := ?_) rfl (by kernel_rfl) (by kernel_rfl) (by kernel_rfl) (fun _ _ _ h => h) (Or.inl ⟨by rfl, ?_⟩) ?_
                  rotate_left
                  · intro w
                    go_simp
                    try with_reducible rfl
                  try simp only [List.getElem_toArray, List.getElem_cons_succ, List.getElem_cons_zero, Act.put, List.setIfInBounds_toArray, List.set_cons_zero, List.set_cons_succ]
                  refine wpAny_done (by kernel_rfl) ?_ _
                  go_wp2
                  go_meet
                  exact ⟨rfl, by assumption⟩
            · go_simp
              go_wp2_with (go_at_call 12; refine (RPg.out _ (by assumption)).mono ?_; rintro e w10 ⟨v10, rfl, ho10, hb10⟩; obtain ⟨A10, c10, rfl, hr10⟩ := own8_reads ho10; have v1 := conv_reads (c := c10) rfl hr10; have hb10' : Below w9.heap.size w9 w10 := hbd.trans (hb10.mono hbd.size); have v2 := conv_reads (c := c8) HGN.out (HG8.out.below hb10'); rw [HPG.out, HGN.out, HS.out] at v1; rw [HS.out] at v2; rw [HPG.out, HGN.out]; clear hr10 ho10 hb10)
              try (refine hK _ _ ?_; clear hK K)
              try simp only [List.getElem_toArray, List.getElem_cons_succ, List.getElem_cons_zero, Act.put, List.setIfInBounds_toArray, List.set_cons_zero, List.set_cons_succ]
              refine wpAny_ready (rs := [4, 7]) (by kernel_rfl) (by simp) ?_
              refine AllReady.cons rfl (fun K hK => ?_) (AllReady.cons rfl (fun K hK => ?_) AllReady.nil)
              · go_simp
                refine hK _ _ ?_
                clear hK K
                try simp only [List.getElem_toArray, List.getElem_cons_succ, List.getElem_cons_zero, Act.put, List.setIfInBounds_toArray, List.set_cons_zero, List.set_cons_succ]
                refine wpAny_ready (rs := [7]) (by kernel_rfl) (by simp) ?_
                refine AllReady.cons rfl (fun K hK => ?_) AllReady.nil
                · go_simp
                  refine hK _ _ ?_
                  clear hK K
                  try simp only [List.getElem_toArray, List.getElem_cons_succ, List.getElem_cons_zero, Act.put, List.setIfInBounds_toArray, List.set_cons_zero, List.set_cons_succ]
                  refine wpAny_take (i := 8) (v := ?_) rfl (by kernel_rfl) (by kernel_rfl) (by kernel_rfl) (fun _ _ _ h => h) (Or.inl ⟨by rfl, ?_⟩) ?_
                  rotate_left
                  · intro w
                    go_simp
                    try with_reducible rfl
                  try simp only [List.getElem_toArray, List.getElem_cons_succ, List.getElem_cons_zero, Act.put, List.setIfInBounds_toArray, List.set_cons_zero, List.set_cons_succ]
                  refine wpAny_take (i := 9) (v := ?_) rfl (by kernel_rfl) (by kernel_rfl) (by kernel_rfl) (fun _ _ _ h => h) (Or.inl ⟨by rfl, ?_⟩) ?_
                  rotate_left
                  · intro w
                    go_simp
                    try with_reducible rfl
                  try simp only [List.getElem_toArray, List.getElem_cons_succ, List.getElem_cons_zero, Act.put, List.setIfInBounds_toArray, List.set_cons_zero, List.set_cons_succ]
                  refine wpAny_take (i := 10) (v := ?_) rfl (by kernel_rfl) (by kernel_rfl) (by kernel_rfl) (fun _ _ _ h => h) (Or.inl ⟨by rfl, ?_⟩) ?_
                  rotate_left
                  · intro w
                    go_simp
                    try with_reducible rfl
                  try simp only [List.getElem_toArray, List.getElem_cons_succ, List.getElem_cons_zero, Act.put, List.setIfInBounds_toArray, List.set_cons_zero, List.set_cons_succ]
                  refine wpAny_take (i := 11) (v := ?_) rfl (by kernel_rfl) (by kernel_rfl) (by kernel_rfl) (fun _ _ _ h => h) (Or.inl ⟨by rfl, ?_⟩) ?_
                  rotate_left
                  · intro w
                    go_simp
                    try with_reducible rfl
                  try simp only [List.getElem_toArray, List.getElem_cons_succ, List.getElem_cons_zero, Act.put, List.setIfInBounds_toArray, List.set_cons_zero, List.set_cons_succ]
                  refine wpAny_take (i := 12) (v := ?_) rfl (by kernel_rfl) (by kernel_rfl) (by kernel_rfl) (fun _ _ _ h => h) (Or.inl ⟨by rfl, ?_⟩) ?_
                  rotate_left
                  · intro w
                    go_simp
                    try with_reducible rfl
                  try simp only [List.getElem_toArray, List.getElem_cons_succ, List.getElem_cons_zero, Act.put, List.setIfInBounds_toArray, List.set_cons_zero, List.set_cons_succ]
                  refine wpAny_take (i := 13) (v := ?_) rfl (by kernel_rfl) (by kernel_rfl) (by kernel_rfl) (fun _ _ _ h => h) (Or.inl ⟨by rfl, ?_⟩) ?_
                  rotate_left
                  · intro w
                    go_simp
                    try with_reducible rfl
                  try simp only [List.getElem_toArray, List.getElem_cons_succ, List.getElem_cons_zero, Act.put, List.setIfInBounds_toArray, List.set_cons_zero, List.set_cons_succ]
                  refine wpAny_take (i := 14) (v := ?_) rfl (by kernel_rfl) (by kernel_rfl) (by kernel_rfl) (fun _ _ _ h => h) (Or.inl ⟨by rfl, ?_⟩) ?_
                  rotate_left
                  · intro w
                    go_simp
                    try with_reducible rfl
                  try simp only [List.getElem_toArray, List.getElem_cons_succ, List.getElem_cons_zero, Act.put, List.setIfInBounds_toArray, List.set_cons_zero, List.set_cons_succ]
                  refine wpAny_take (i := 15) (v := ?_) rfl (by kernel_rfl) (by kernel_rfl) (by kernel_rfl) (fun _ _ _ h => h) (Or.inl ⟨by rfl, ?_⟩) ?_
                  rotate_left
                  · intro w
                    go_simp
                    try with_reducible rfl
                  try simp only [List.getElem_toArray, List.getElem_cons_succ, List.getElem_cons_zero, Act.put, List.setIfInBounds_toArray, List.set_cons_zero, List.set_cons_succ]
                  refine wpAny_take (i := 16) (v := ?_) rfl (by kernel_rfl) (by kernel_rfl) (by kernel_rfl) (fun _ _ _ h => h) (Or.inl ⟨by rfl, ?_⟩) ?_
                  rotate_left
                  · intro w
                    go_simp
                    try with_reducible rfl
                  try simp only [List.getElem_toArray, List.getElem_cons_succ, List.getElem_cons_zero, Act.put, List.setIfInBounds_toArray, List.set_cons_zero, List.set_cons_succ]
                  refine wpAny_take (i := 17) (v := ?_) rfl (by kernel_rfl) (by kernel_rfl) (by kernel_rfl) (fun _ _ _ h => h) (Or.inl ⟨by rfl, ?_⟩) ?_
                  rotate_left
                  · intro w
                    go_simp
                    try with_reducible rfl
                  try simp only [List.getElem_toArray, List.getElem_cons_succ, List.getElem_cons_zero, Act.put, List.setIfInBounds_toArray, List.set_cons_zero, List.set_cons_succ]
                  refine wpAny_take (i := 18) (v := ?_) rfl (by kernel_rfl) (by kernel_rfl) (by kernel_rfl) (fun _ _ _ h => h) (Or.inl ⟨by rfl, ?_⟩) ?_
                  rotate_left
                  · intro w
                    go_simp
                    try with_reducible rfl
                  try simp only [List.getElem_toArray, List.getElem_cons_succ, List.getElem_cons_zero, Act.put, List.setIfInBounds_toArray, List.set_cons_zero, List.set_cons_succ]
                  refine wpAny_take (i := 19) (v := ?_) rfl (by kernel_rfl) (by kernel_rfl) (by kernel_rfl) (fun _ _ _ h => h) (Or.inl ⟨by rfl, ?_⟩) ?_
                  rotate_left
                  · intro w
                    go_simp
                    try with_reducible rfl
                  try simp only [List.getElem_toArray, List.getElem_cons_succ, List.getElem_cons_zero, Act.put, List.setIfInBounds_toArray, List.set_cons_zero, List.set_cons_succ]
                  refine wpAny_take (i := 20) (v := ?_) rfl (by kernel_rfl) (by kernel_rfl) (by kernel_rfl) (fun _ _ _ h => h) (Or.inl ⟨by rfl, ?_⟩) ?_
                  rotate_left
                  · intro w
                    go_simp
                    try with_reducible rfl
                  try simp only [List.getElem_toArray, List.getElem_cons_succ, List.getElem_cons_zero, Act.put, List.setIfInBounds_toArray, List.set_cons_zero, List.set_cons_succ]
                  refine wpAny_done (by kernel_rfl) ?_ _
                  go_wp2
                  go_meet
                  exact ⟨rfl, by assumption⟩
              · go_simp
                refine hK _ _ ?_
                clear hK K
                try simp only [List.getElem_toArray, List.getElem_cons_succ, List.getElem_cons_zero, Act.put, List.setIfInBounds_toArray, List.set_cons_zero, List.set_cons_succ]
                refine wpAny_ready (rs := [4]) (by kernel_rfl) (by simp) ?_
                refine AllReady.cons rfl (fun K hK => ?_) AllReady.nil
                · go_simp
                  refine hK _ _ ?_
                  clear hK K
                  try simp only [List.getElem_toArray, List.getElem_cons_succ, List.getElem_cons_zero, Act.put, List.setIfInBounds_toArray, List.set_cons_zero, List.set_cons_succ]
                  refine wpAny_take (i := 8) (v := ?_) rfl (by kernel_rfl) (by kernel_rfl) (by kernel_rfl) (fun _ _ _ h => h) (Or.inl ⟨by rfl, ?_⟩) ?_
                  rotate_left
                  · intro w
                    go_simp
                    try with_reducible rfl
                  try simp only [List.getElem_toArray, List.getElem_cons_succ, List.getElem_cons_zero, Act.put, List.setIfInBounds_toArray, List.set_cons_zero, List.set_cons_succ]
                  refine wpAny_take (i := 9) (v := ?_) rfl (by kernel_rfl) (by kernel_rfl) (by kernel_rfl) (fun _ _ _ h => h) (Or.inl ⟨by rfl, ?_⟩) ?_
                  rotate_left
                  · intro w
                    go_simp
                    try with_reducible rfl
                  try simp only [List.getElem_toArray, List.getElem_cons_succ, List.getElem_cons_zero, Act.put, List.setIfInBounds_toArray, List.set_cons_zero, List.set_cons_succ]
                  refine wpAny_take (i := 10) (v := ?_) rfl (by kernel_rfl) (by kernel_rfl) (by kernel_rfl) (fun _ _ _ h => h) (Or.inl ⟨by rfl, ?_⟩) ?_
                  rotate_left
                  · intro w
                    go_simp
                    try with_reducible rfl
                  try simp only [List.getElem_toArray, List.getElem_cons_succ, List.getElem_cons_zero, Act.put, List.setIfInBounds_toArray, List.set_cons_zero, List.set_cons_succ]
                  refine wpAny_take (i := 11) (v := ?_) rfl (by kernel_rfl) (by kernel_rfl) (by kernel_rfl) (fun _ _ _ h => h) (Or.inl ⟨by rfl, ?_⟩) ?_
                  rotate_left
                  · intro w
                    go_simp
                    try with_reducible rfl
                  try simp only [List.getElem_toArray, List.getElem_cons_succ, List.getElem_cons_zero, Act.put, List.setIfInBounds_toArray, List.set_cons_zero, List.set_cons_succ]
                  refine wpAny_take (i := 12) (v := ?_) rfl (by kernel_rfl) (by kernel_rfl) (by kernel_rfl) (fun _ _ _ h => h) (Or.inl ⟨by rfl, ?_⟩) ?_
                  rotate_left
                  · intro w
                    go_simp
                    try with_reducible rfl
                  try simp only [List.getElem_toArray, List.getElem_cons_succ, List.getElem_cons_zero, Act.put, List.setIfInBounds_toArray, List.set_cons_zero, List.set_cons_succ]
                  refine wpAny_take (i := 13) (v := ?_) rfl (by kernel_rfl) (by kernel_rfl) (by kernel_rfl) (fun _ _ _ h => h) (Or.inl ⟨by rfl, ?_⟩) ?_
                  rotate_left
                  · intro w
                    go_simp
                    try with_reducible rfl
                  try simp only [List.getElem_toArray, List.getElem_cons_succ, List.getElem_cons_zero, Act.put, List.setIfInBounds_toArray, List.set_cons_zero, List.set_cons_succ]
                  refine wpAny_take (i := 14) (v := ?_) rfl (by kernel_rfl) (by kernel_rfl) (by kernel_rfl) (fun _ _ _ h => h) (Or.inl ⟨by rfl, ?_⟩) ?_
                  rotate_left
                  · intro w
                    go_simp
                    try with_reducible rfl
                  try simp only [List.getElem_toArray, List.getElem_cons_succ, List.getElem_cons_zero, Act.put, List.setIfInBounds_toArray, List.set_cons_zero, List.set_cons_succ]
                  refine wpAny_take (i := 15) (v := ?_) rfl (by kernel_rfl) (by kernel_rfl) (by kernel_rfl) (fun _ _ _ h => h) (Or.inl ⟨by rfl, ?_⟩) ?_
                  rotate_left
                  · intro w
                    go_simp
                    try with_reducible rfl
                  try simp only [List.getElem_toArray, List.getElem_cons_succ, List.getElem_cons_zero, Act.put, List.setIfInBounds_toArray, List.set_cons_zero, List.set_cons_succ]
                  refine wpAny_take (i := 16) (v := ?_) rfl (by kernel_rfl) (by kernel_rfl) (by kernel_rfl) (fun _ _ _ h => h) (Or.inl ⟨by rfl, ?_⟩) ?_
                  rotate_left
                  · intro w
                    go_simp
                    try with_reducible rfl
                  try simp only [List.getElem_toArray, List.getElem_cons_succ, List.getElem_cons_zero, Act.put, List.setIfInBounds_toArray, List.set_cons_zero, List.set_cons_succ]
                  refine wpAny_take (i := 17) (v := ?_) rfl (by kernel_rfl) (by kernel_rfl) (by kernel_rfl) (fun _ _ _ h => h) (Or.inl ⟨by rfl, ?_⟩) ?_
                  rotate_left
                  · intro w
                    go_simp
                    try with_reducible rfl
                  try simp only [List.getElem_toArray, List.getElem_cons_succ, List.getElem_cons_zero, Act.put, List.setIfInBounds_toArray, List.set_cons_zero, List.set_cons_succ]
                  refine wpAny_take (i := 18) (v := ?_) rfl (by kernel_rfl) (by kernel_rfl) (by kernel_rfl) (fun _ _ _ h => h) (Or.inl ⟨by rfl, ?_⟩) ?_
                  rotate_left
                  · intro w
                    go_simp
                    try with_reducible rfl
                  try simp only [List.getElem_toArray, List.getElem_cons_succ, List.getElem_cons_zero, Act.put, List.setIfInBounds_toArray, List.set_cons_zero, List.set_cons_succ]
                  refine wpAny_take (i := 19) (v := ?_) rfl (by kernel_rfl) (by kernel_rfl) (by kernel_rfl) (fun _ _ _ h => h) (Or.inl ⟨by rfl, ?_⟩) ?_
                  rotate_left
                  · intro w
                    go_simp
                    try with_reducible rfl
                  try simp only [List.getElem_toArray, List.getElem_cons_succ, List.getElem_cons_zero, Act.put, List.setIfInBounds_toArray, List.set_cons_zero, List.set_cons_succ]
                  refine wpAny_take (i := 20) (v := ?_) rfl (by kernel_rfl) (by kernel_rfl) (by kernel_rfl) (fun _ _ _ h => h) (Or.inl ⟨by rfl, ?_⟩) ?_
                  rotate_left
                  · intro w
                    go_simp
                    try with_reducible rfl
                  try simp only [List.getElem_toArray, List.getElem_cons_succ, List.getElem_cons_zero, Act.put, List.setIfInBounds_toArray, List.set_cons_zero, List.set_cons_succ]
                  refine wpAny_done (by kernel_rfl) ?_ _
                  go_wp2
                  go_meet
                  exact ⟨rfl, by assumption⟩
          case rest =>
            obtain ⟨rfl, hbc⟩ := hcut
            have HBC := Lib.hid (HB9.out.trans (hbc.mono HB9.out.size))
            have HRC := Lib.hid ((HR9.out.below hbc).more hbc.size)
            clear hbc v0 RPg hne hne2
            go_wp2
            go_loopw [172] (fun k w2 => ∃ (m : Nat), k = .int .i64 m ∧ m ≤ j ∧ Hid (Below wc.heap.size wc w2)) (fun k _ => j - (intOf k).toNat)
            case atStart => exact ⟨0, rfl, by omega, Below.refl _ _⟩
            case round =>
              obtain ⟨m, rfl, hmj, hb2⟩ := hrel
              by_cases hlt2 : m < j
              · obtain ⟨x, hx⟩ : ∃ x, l[m]? = some x := ⟨_, List.getElem?_eq_getElem (by have := HL.out; omega)⟩
                obtain ⟨a1, rfl, _, hc1⟩ := (HRC.out.below hb2.out).2 (by omega)
                obtain ⟨a2, rfl, _, hc2⟩ := (HR.out.below (HBC.out.trans (hb2.out.mono HBC.out.size))).2 (by omega)
                obtain ⟨k0, k1⟩ := place_at hc1 hx
                obtain ⟨q0, q1⟩ := place_at hc2 hx
                have mm0 : (0 : Int) ≤ (m : Int) := by omega
                have mm1 : (m : Int) < (j : Int) := by omega
                clear hx hc1 hc2
                go_wp2
                go_region
                have HB3 := Lib.hid hb2.out.drew
                clear k0 k1 q0 q1
                go_wp2
                go_roundw
                case rel => exact ⟨m + 1, by go_num, by omega, HB3⟩
                case measure => simp [intOf]; omega
              · obtain rfl : m = j := by omega
                go_wp2
                go_ret
                exact ⟨rfl, HBC.out.trans (hb2.out.mono HBC.out.size)⟩
end Go.Proofs.YtljclehhicmkhaaDoor
