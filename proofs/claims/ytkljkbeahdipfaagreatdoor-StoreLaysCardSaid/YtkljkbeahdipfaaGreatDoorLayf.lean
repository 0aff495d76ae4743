/-
  Walk: store.Logs.
-/
import Derived.Test.YtkljkbeahdipfaaGreatDoorLaye
import Derived.Sort.OwnSortedInts
import Derived.Sort.OwnSorted
import Derived.Shelf.SortM.Plain
import Derived.Shelf.SortM.SortNone
import Derived.Maps.RangeWalk
import Derived.Sort.KeysCollected
import Derived.Lib.QuietBelow
import Derived.Deep.RegionHeld3
import Derived.Deep.DrawnRows
import Derived.Deep.Slices
import Derived.Deep.Fields
import Derived.ChangeSame
import Derived.ChangeSlices
import Derived.Carry
import Derived.SizedLaws
import Derived.Lib.SmallJoins
import Derived.Deep.DeepHandedRow
import Derived.LaidSub
import Derived.Lib.LaidTab
import Derived.MakeChecks
import Derived.Stop.LaidErr
namespace Go.Proofs.YtkljkbeahdipfaaGreatDoor
open Go.RowKit
set_option linter.unusedSimpArgs false
set_option linter.unusedVariables false
set_option linter.unusedSimpArgs false
set_option linter.unusedVariables false
def intsSh : Sh Int := ⟨3, 35, 1, 8, .int .i64 0, fun x => [.int .i64 x], fun _ => [], fun _ => rfl, fun x u hu => by
 rw [List.mem_singleton.1 hu]
 rfl, Tryz.underlying35, by kernel_rfl, rfl, by decide, by decide⟩
theorem int_flat (l : List Int) : l.flatMap intsSh.f = l.map (Value.int .i64) := by
 induction l with
 | nil => rfl
 | cons x r ih => rw [List.flatMap_cons, ih]; rfl
theorem sortI_any {B : Nat} {w : World} {V : Value} {l : List Int} (h : OwnR intsSh B w V l) (hl : l.length ≤ 1000000) :
 Calls Tryz.prog 197 #[V] w fun ev w' => ev = .returned (.tuple #[]) ∧ OwnR intsSh B w' V (l.mergeSort fun x y => decide (x ≤ y)) ∧ w.grownBy w' V.ownBlock := by
 obtain ⟨A, c, rfl, hr, hlc⟩ := h.reads
 rcases Nat.eq_zero_or_pos l.length with h0 | h0
 ·have hl0 := List.eq_nil_of_length_eq_zero h0
  subst hl0
  refine (Tryz.slices_Sort_int_none A c w).mono ?_
  rintro e w' ⟨rfl, rfl⟩
  exact ⟨rfl, by simpa using h, ⟨rfl, rfl, rfl, Nat.le_refl _, fun _ _ _ => rfl⟩⟩
 ·have hrow := h.row
  rw [int_flat] at hrow
  rcases hrow.2 with ⟨h1, h2⟩ | ⟨g, cap, cur, hv, hg, hb, hn, hcap, hsz, htk⟩
  ·exfalso
   omega
  ·have hA : A = some ⟨g, 0, none⟩ ∧ c = cap := by injection hv with a b c; exact ⟨a, c⟩
   obtain ⟨rfl, rfl⟩ := hA
   have hgl : g < w.heap.size := (Array.getElem?_eq_some_iff.1 hb).1
   rw [show intsSh.k = 1 from rfl, Nat.mul_one] at htk
   have hms := List.length_mergeSort (le := fun x y : Int => decide (x ≤ y)) l
   refine (Tryz.slices_Sort_int g 0 c l w (Go.holds_of_blockI hb htk) hgl (by omega)).mono ?_
   rintro e w' ⟨rfl, n, os, rfl⟩
   refine ⟨rfl, ⟨?_, fun _ _ p hp => (by cases hp), fun _ _ _ _ p hp => (by cases hp)⟩, Go.grownBy_sortedI _⟩
   rw [int_flat, hms]
   exact Go.ownsRow_sortedI hms hg hb hn hcap hsz
theorem itoaI_any (v : Int) (h : 0 ≤ v ∧ v < 16) (w : World) : Calls Tryz.prog 106 #[.int .i64 v] w fun ev w' => ev = .returned (.string (St (Lib.decDigits v.toNat))) ∧ Below w.heap.size w w' := by
 have := itoaT_any v.toNat (by omega) w
 rwa [Int.toNat_of_nonneg h.1] at this
theorem cutPre_any (s p : Key) (w : World) : Calls Tryz.prog 195 #[.string (St s), .string (St p)] w fun ev w' => ev = .returned (.tuple #[.string (St (Lib.trimPrefix s p)), .bool (Lib.hasPrefix s p)]) ∧ Below w.heap.size w w' := by
 refine (Tryz.strings_CutPrefix (St s) (St p) w).mono ?_
 rintro e w' ⟨rfl, rfl⟩
 exact ⟨rfl, Below.refl _ _⟩
/-- how Atoi ends -/
theorem atoi_any (t : Key) (ht : t.length ≤ 1000000) (w : World) (he : EnvS w) : Calls Tryz.prog 196 #[.string (St t)] w fun ev w' => ∃ (v : Int) (er : Value), ev = .returned (.tuple #[.int .i64 v, er]) ∧ (Lib.atoiAll t = .ok v ∧ er = .nilIface ∨ (∀ u, Lib.atoiAll t ≠ .ok u) ∧ ∃ te pe, er = .iface te pe) ∧ Below w.heap.size w w' := by
 cases h : Lib.atoiAll t with
 | ok v =>
   refine (Tryz.strconv_Atoi_ok (St t) (by show t.length ≤ _; omega) v h w).mono ?_
   rintro e w' ⟨rfl, hw⟩
   refine ⟨v, .nilIface, rfl, .inl ⟨rfl, rfl⟩, ?_⟩
   rcases hw with rfl | ⟨u, rfl⟩
   ·exact Below.refl _ _
   ·exact ⟨rfl, rfl, rfl, by rw [Lib.bytesWorld_size]; omega, fun k hk => Lib.bytesWorld_at_old _ _ _ k hk⟩
 | range =>
   obtain ⟨ev, hc, hev⟩ := he.e6
   refine (Tryz.strconv_Atoi_range (St t) (by show t.length ≤ _; omega) h ev w hc hev).mono ?_
   rintro e w' ⟨N, rfl, _, _, hb⟩
   exact ⟨_, _, rfl, .inr ⟨fun u hu => (by cases hu), _, _, rfl⟩, hb⟩
 | _ =>
   obtain ⟨ev, hc, hev⟩ := he.e5
   refine (Tryz.strconv_Atoi_syntax (St t) (by show t.length ≤ _; omega) (by rw [show (St t).data.toList = t from rfl, h]; rfl) ev w hc hev).mono ?_
   rintro e w' ⟨N, rfl, _, _, hb⟩
   exact ⟨_, _, rfl, .inr ⟨fun u hu => (by cases hu), _, _, rfl⟩, hb⟩
set_option maxRecDepth 100000 in
set_option maxHeartbeats 8000000 in
theorem logs_at {w : World} {p mb N : Nat} {d : DiskM} (h : Dk w p mb d N) (hN : N < 900000) :
 Calls Tryz.prog 143 #[.pointer (some ⟨p, 0, none⟩)] w fun ev w' => ∃ V, ev = .returned V ∧ OwnR intsSh w.heap.size w' V ((logsD d).map fun n => ((n : Nat) : Int)) ∧ Below w.heap.size w w' := by
 have hup := h.wf.up
 have hfew := h.few
 obtain ⟨q, hq0⟩ : ∃ q, d.files.length = q := ⟨_, rfl⟩
 have hkl : (d.files.map (·.1)).length = q := by rw [List.length_map, hq0]
 refine calls_at 54 Tryz.func143 rfl rfl (Nat.le_of_ble_eq_true rfl) ?_
 intro a hA; replace hA := hA.norm
 refine wS (wR ?_)
 revert a; refine wo rfl rfl (by decide) (fun ev e h => by simp [go_sem, h] <;> rfl) ?_; intro a hA
 replace hA := hA.keepN [0]
 refine wN (nT (wS (wR ?_)))
 revert a; refine wo rfl rfl (by decide) (fun ev e h => by simp [go_sem, h] <;> rfl) ?_; intro a hA
 replace hA := hA.keepN [0, 3]
 refine wN (nT (wS (wS (wR ?_))))
 revert a; refine wo rfl rfl (by decide) (fun ev e h => by simp [go_sem, h] <;> rfl) ?_; intro a hA
 refine wl_call hA rfl rfl (by decide) (fun ev h => exec_call Tryz.func78 (by kernel_rfl) rfl (h.f _) (by first | (simp only [mL, h.get 10 rfl, h.c] <;> rfl) | (simp [mL, h.get 10 rfl, h.c] <;> rfl))) (h.names (by omega)) ?_
 rintro e w1 ⟨A, c, rfl, hrn, hb1⟩
 refine ⟨_, rfl, fun a hA => ?_⟩
 rw [hq0] at hA hrn
 have hD := h.below hb1
 revert a; (iterate 2 refine wo rfl rfl (by decide) (fun ev e h => by simp [go_sem, h] <;> rfl) ?_); intro a hA
 replace hA := hA.keepN [3, 11, 12, 13]
 refine wN (nT (wB ?_))
 refine wp_loop_at (fun f a wx => ∃ (j : Nat) (V : Value), j + f = q ∧ OwnR intsSh w1.heap.size wx V ((numsOf ((d.files.map (·.1)).take j)).map fun n => ((n : Nat) : Int)) ∧ Below w1.heap.size w1 wx ∧ At 54 [(3, V), (11, .slice A q c), (12, .int .i64 (q : Nat)), (13, .int .i64 (j : Nat))] a) (q) ?_ ?_
 ·exact ⟨0, _, by omega, OwnR.nil _ _, Below.refl _ _, hA⟩
 clear hA
 rintro f a wx ⟨j, V, hjf, ho, HX, hA⟩
 have jw : IntKind.i64.wrap ((j : Int) + 1) = ((j + 1 : Nat) : Int) := IntWalk.i64_in _ (by omega)
 refine wS (wR ?_)
 revert a; refine wo rfl rfl (by decide) (fun ev e h => by simp [go_sem, h] <;> rfl) ?_; intro a hA
 replace hA := hA.keepN [3, 11, 12, 13, 14]
 refine wN (nT (wS ?_))
 refine wp_if hA 14 _ rfl (fun hq => ?yA) (fun hq => ?nA)
 case nA =>
  have hjq : j = q := by simp at hq; omega
  rw [hjq, ← hkl, List.take_length] at ho
  have hnl : ((numsOf (d.files.map (·.1))).map fun n => ((n : Nat) : Int)).length ≤ 1000000 := by
   rw [List.length_map]
   exact Nat.le_trans (List.length_filterMap_le _ _) (by omega)
  replace hA := hA.keepN [3]
  refine wp_exit (xT (xT (xB (nT (wS (wR ?_))))))
  revert a; refine wo rfl rfl (by decide) (fun ev e h => by simp [go_sem, h] <;> rfl) ?_; intro a hA
  have hs := sortI_any ho hnl
  rw [nums_sorted d hup] at hs
  refine wl_call hA rfl rfl (by decide) (fun ev h => exec_call Tryz.func197 (by kernel_rfl) rfl (h.f _) (by first | (simp only [mL, h.get 51 rfl, h.c] <;> rfl) | (simp [mL, h.get 51 rfl, h.c] <;> rfl))) (hs) ?_
  rintro e w2 ⟨rfl, ho2, hg2⟩
  refine ⟨_, rfl, fun a hA => ?_⟩
  replace hA := hA.keepN [3]
  refine wN (nT (wS (wR ?_)))
  revert a; (iterate 2 refine wo rfl rfl (by decide) (fun ev e h => by simp [go_sem, h] <;> rfl) ?_); intro a hA
  replace hA := hA.keepN [2]
  refine wN (nT (wp_ret ?_))
  refine ret_1 hA 2 rfl rfl ?_
  have HW := hb1.trans (HX.mono hb1.size)
  refine ⟨V, rfl, ho2.mono hb1.size, HW.grown hg2 HW.size fun g e => ?_⟩
  have := (ho.row.lt g e).1
  have := hb1.size
  omega
 case yA =>
  have hjq : j < q := by simp at hq; omega
  have jj0 : (0 : Int) ≤ (j : Int) := by omega
  have jj1 : (j : Int) < (q : Int) := by omega
  obtain ⟨x, hx⟩ : ∃ x, (d.files.map (·.1))[j]? = some x := ⟨_, List.getElem?_eq_getElem (by omega)⟩
  obtain ⟨ad, rfl, hadb, hc⟩ := hrn.2 (by omega)
  have hcx : w1.cell? (ad.add j) = some (.string (St x)) := hc j _ (by
   unfold keyCells
   rw [List.getElem?_map] at hx ⊢
   cases hy : d.files[j]? with
   | none => rw [hy] at hx; cases hx
   | some y => rw [hy] at hx; injection hx with hx; rw [← hx]; rfl)
  have z0 : wx.cell? (ad.add j) = some (.string (St x)) := (HX.cell (by rw [block_of_add]; exact hadb)).trans hcx
  have hxl : x.length ≤ 40 := by
   have hm := List.mem_of_getElem? hx
   obtain ⟨y, hy, rfl⟩ := List.mem_map.1 hm
   exact (h.wf.each y hy).2
  have htl : (Lib.trimPrefix x kLogDot).length ≤ 40 := by
   unfold Lib.trimPrefix
   split
   ·rw [List.length_drop]; omega
   ·exact hxl
  have htake : numsOf ((d.files.map (·.1)).take (j + 1)) = numsOf ((d.files.map (·.1)).take j) ++ (logNum x).toList := by
   rw [List.take_add_one, hx]
   exact numsOf_snoc _ _
  refine wp_skip (nT (wS (wB (wS (wR ?_)))))
  revert a; (iterate 3 refine wo rfl rfl (by decide) (fun ev e h => by simp [go_sem, h, z0, jj0, jj1, hjq] <;> rfl) ?_); intro a hA
  replace hA := hA.keepN [3, 5, 11, 12, 13]
  refine wN (nT (wS (wR ?_)))
  revert a; refine wo rfl rfl (by decide) (fun ev e h => by simp [go_sem, h, z0, jj0, jj1, hjq] <;> rfl) ?_; intro a hA
  refine wl_call hA rfl rfl (by decide) (fun ev h => exec_call Tryz.func195 (by kernel_rfl) rfl (h.f _) (by first | (simp only [mL, h.get 18 rfl, h.c] <;> rfl) | (simp [mL, h.get 18 rfl, h.c, z0, jj0, jj1, hjq] <;> rfl))) (cutPre_any x kLogDot _) ?_
  rintro e w2 ⟨rfl, hb2⟩
  refine ⟨_, rfl, fun a hA => ?_⟩
  obtain ⟨hp, hhp⟩ : ∃ b, Lib.hasPrefix x kLogDot = b := ⟨_, rfl⟩
  obtain ⟨t, ht⟩ : ∃ t, Lib.trimPrefix x kLogDot = t := ⟨_, rfl⟩
  rw [hhp, ht] at hA
  rw [ht] at htl
  revert a; (iterate 5 refine wo rfl rfl (by decide) (fun ev e h => by simp [go_sem, h, z0, jj0, jj1, hjq] <;> rfl) ?_); intro a hA
  replace hA := hA.keepN [3, 6, 7, 11, 12, 13]
  refine wN (nT (wS (wR ?_)))
  revert a; refine wo rfl rfl (by decide) (fun ev e h => by simp [go_sem, h, z0, jj0, jj1, hjq] <;> rfl) ?_; intro a hA
  have hD2 := (hD.below HX).below hb2
  refine wl_call hA rfl rfl (by decide) (fun ev h => exec_call Tryz.func196 (by kernel_rfl) rfl (h.f _) (by first | (simp only [mL, h.get 23 rfl, h.c] <;> rfl) | (simp [mL, h.get 23 rfl, h.c, z0, jj0, jj1, hjq] <;> rfl))) (atoi_any t (by omega) _ hD2.env) ?_
  rintro e w3 ⟨v, er, rfl, hend, hb3⟩
  refine ⟨_, rfl, fun a hA => ?_⟩
  have HX3 := (HX.trans (hb2.mono HX.size)).trans (hb3.mono (HX.trans (hb2.mono HX.size)).size)
  have ho3 := (ho.below hb2).below hb3
  rcases hend with ⟨hok, rfl⟩ | ⟨hbad, te, pe, rfl⟩
  ·have hn := logNum_ok (s := x) (v := v) (by rw [ht]; exact hok)
   rw [hhp, ht] at hn
   obtain ⟨dg, hdg⟩ : ∃ dg, Lib.decDigits v.toNat = dg := ⟨_, rfl⟩
   revert a; (iterate 5 refine wo rfl rfl (by decide) (fun ev e h => by simp [go_sem, h, z0, jj0, jj1, hjq] <;> rfl) ?_); intro a hA
   replace hA := hA.keepN [3, 6, 7, 8, 9, 11, 12, 13]
   refine wN (nT (wS (wR ?_)))
   revert a; (iterate 2 refine wo rfl rfl (by decide) (fun ev e h => by simp [go_sem, h, z0, jj0, jj1, hjq] <;> rfl) ?_); (iterate 2 refine wg _ rfl rfl rfl rfl (by decide) (fun hq ev e h => by simp [go_sem, h, ↓gw_t (beq_t hq), z0, jj0, jj1, hjq] <;> rfl) ?_); refine wka rfl rfl (by decide) rfl rfl rfl ?_; refine wo rfl rfl (by decide) (fun ev e h => by simp [go_sem, h, z0, jj0, jj1, hjq] <;> rfl) ?_; (iterate 2 refine wg _ rfl rfl rfl rfl (by decide) (fun hq ev e h => by simp [go_sem, h, ↓gw_t (beq_t hq), z0, jj0, jj1, hjq] <;> rfl) ?_); refine wka rfl rfl (by decide) rfl rfl rfl ?_; refine wo rfl rfl (by decide) (fun ev e h => by simp [go_sem, h, z0, jj0, jj1, hjq] <;> rfl) ?_; intro a hA
   replace hA := hA.keepN [3, 6, 8, 11, 12, 13, 36]
   revert a; (iterate 2 refine wg _ rfl rfl rfl rfl (by decide) (fun hq ev e h => by simp [go_sem, h, ↓gw_t (beq_t hq), z0, jj0, jj1, hjq] <;> rfl) ?_); refine wka rfl rfl (by decide) rfl rfl rfl ?_; refine wo rfl rfl (by decide) (fun ev e h => by simp [go_sem, h, z0, jj0, jj1, hjq] <;> rfl) ?_; refine wg _ rfl rfl rfl rfl (by decide) (fun hq ev e h => by simp [go_sem, h, ↓gw_t (beq_t hq), z0, jj0, jj1, hjq] <;> rfl) ?_; intro a hA
   refine wl_gcallv _ hA rfl rfl rfl rfl (by decide) (fun hq ev h => exec_call Tryz.func106 (by kernel_rfl) rfl (h.f _) (by first | (simp only [mL, ((h.get 41 rfl).trans (gw_t (beq_t hq))), h.c] <;> rfl) | (simp [mL, ((h.get 41 rfl).trans (gw_t (beq_t hq))), h.c, z0, jj0, jj1, hjq] <;> rfl))) (fun hq => itoaI_any v (by simp at hq; omega) _) fun a w4 hb4 hA => ?_
   rw [hdg] at hA hn
   revert a; (iterate 2 refine wg _ rfl rfl rfl rfl (by decide) (fun hq ev e h => by simp [go_sem, h, ↓gw_t (beq_t hq), z0, jj0, jj1, hjq] <;> rfl) ?_); refine wka rfl rfl (by decide) rfl rfl rfl ?_; intro a hA
   replace hA := hA.keepN [3, 8, 11, 12, 13, 45]
   refine wN (nT ?_)
   refine wp_if hA 45 _ rfl (fun hq2 => ?yB) (fun hq2 => ?nB)
   case nB =>
    have hno : logNum x = none := by
     rw [hn, if_neg]
     intro hc
     simp at hc hq2
     exact hq2 hc.1.1.1 hc.1.1.2 hc.1.2 (by rw [hc.2])
    refine wp_skip (nB (nT (wR ?_)))
    revert a; (iterate 2 refine wo rfl rfl (by decide) (fun ev e h => by simp [go_sem, h, jw] <;> rfl) ?_); intro a hA
    replace hA := hA.keepN [3, 11, 12, 13]
    refine wN (nT ?_)
    refine ⟨f - 1, by omega, j + 1, V, by omega, ?_, HX3.trans (hb4.mono HX3.size), hA⟩
    rw [htake, hno]
    simpa using ho3.below hb4
   case yB =>
    have hall : hp = true ∧ 0 ≤ v ∧ v < 16 ∧ dg = t := by
     simp at hq2
     obtain ⟨⟨⟨h1, h2⟩, h3⟩, h4⟩ := hq2
     exact ⟨h1, h2, h3, h4⟩
    have hyes : logNum x = some v.toNat := by
     rw [hn, if_pos]
     rw [hall.1, decide_eq_true hall.2.1, decide_eq_true hall.2.2.1, decide_eq_true hall.2.2.2]
     rfl
    have hv : ((v.toNat : Nat) : Int) = v := Int.toNat_of_nonneg hall.2.1
    have HX4 := HX3.trans (hb4.mono HX3.size)
    have ho4 := ho3.below hb4
    have hnl : ((numsOf ((d.files.map (·.1)).take j)).map fun n => ((n : Nat) : Int)).length ≤ 1000000 := by
     rw [List.length_map]
     exact Nat.le_trans (List.length_filterMap_le _ _) (by rw [List.length_take]; omega)
    refine wR ?_
    revert a; (iterate 2 refine wo rfl rfl (by decide) (fun ev e h => by simp [go_sem, h, z0, jj0, jj1, hjq] <;> rfl) ?_); intro a hA
    refine wl_new hA rfl rfl (by decide) (fun ev h => by simp [go_sem, h.get 47 rfl, z0, jj0, jj1, hjq]; try first | exact ⟨rfl, rfl⟩ | rfl) fun w5 a (K5 : Blk _ _ _ _) hz5 hb5 hA => ?_
    have hrow5 : RowR intsSh w5 _ [v] := rowR_blk (s := intsSh) (x := v) K5 (fun p hp => (by cases hp))
    obtain ⟨r6, w6, hrun, ho6, hg6, -⟩ := run_appR (s := intsSh) (c := 1) (ho4.below hb5) hrow5 (fun _ _ m _ p hp => (by cases hp)) (by rw [List.length_singleton]; omega) (HX4.trans (hb5.mono HX4.size)).size
    refine wl_op hA rfl rfl (by decide) (fun ev h => exec_append rfl (h.get 46 rfl) (h.get 48 rfl) hrun) fun a hA => ?_
    have HX6 := below_appR (HX4.trans (hb5.mono HX4.size)) (ho4.below hb5) hg6 (Nat.le_refl _) (HX4.trans (hb5.mono HX4.size)).size
    revert a; refine wo rfl rfl (by decide) (fun ev e h => by simp [go_sem, h, jw] <;> rfl) ?_; intro a hA
    replace hA := hA.keepN [3, 11, 12, 13]
    refine wN (nB (nT (wR ?_)))
    revert a; (iterate 2 refine wo rfl rfl (by decide) (fun ev e h => by simp [go_sem, h, jw] <;> rfl) ?_); intro a hA
    replace hA := hA.keepN [3, 11, 12, 13]
    refine wN (nT ?_)
    refine ⟨f - 1, by omega, j + 1, r6, by omega, ?_, HX6, hA⟩
    rw [htake, hyes]
    simpa [hv] using ho6
  ·have hno := logNum_bad (s := x) (by rw [ht]; exact hbad)
   revert a; (iterate 5 refine wo rfl rfl (by decide) (fun ev e h => by simp [go_sem, h, jw] <;> rfl) ?_); intro a hA
   replace hA := hA.keepN [3, 6, 7, 8, 9, 11, 12, 13]
   refine wN (nT (wS (wR ?_)))
   revert a; (iterate 2 refine wo rfl rfl (by decide) (fun ev e h => by simp [go_sem, h, jw] <;> rfl) ?_); (iterate 2 refine wg _ rfl rfl rfl rfl (by decide) (fun hq ev e h => by simp [go_sem, h, ↓gw_t (beq_t hq), jw] <;> rfl) ?_); refine wka rfl rfl (by decide) rfl rfl rfl ?_; refine wo rfl rfl (by decide) (fun ev e h => by simp [go_sem, h, jw] <;> rfl) ?_; (iterate 2 refine wg _ rfl rfl rfl rfl (by decide) (fun hq ev e h => by simp [go_sem, h, ↓gw_t (beq_t hq), jw] <;> rfl) ?_); refine wka rfl rfl (by decide) rfl rfl rfl ?_; refine wo rfl rfl (by decide) (fun ev e h => by simp [go_sem, h, jw] <;> rfl) ?_; intro a hA
   replace hA := hA.keepN [3, 6, 8, 11, 12, 13, 36]
   revert a; (iterate 2 refine wg _ rfl rfl rfl rfl (by decide) (fun hq ev e h => by simp [go_sem, h, ↓gw_t (beq_t hq), jw] <;> rfl) ?_); refine wka rfl rfl (by decide) rfl rfl rfl ?_; refine wo rfl rfl (by decide) (fun ev e h => by simp [go_sem, h, jw] <;> rfl) ?_; refine wg _ rfl rfl rfl rfl (by decide) (fun hq ev e h => by simp [go_sem, h, ↓gw_t (beq_t hq), jw] <;> rfl) ?_; intro a hA
   refine wl_gcallv _ hA rfl rfl rfl rfl (by decide) (fun hq ev h => exec_call Tryz.func106 (by kernel_rfl) rfl (h.f _) (by first | (simp only [mL, ((h.get 41 rfl).trans (gw_t (beq_t hq))), h.c] <;> rfl) | (simp [mL, ((h.get 41 rfl).trans (gw_t (beq_t hq))), h.c, jw] <;> rfl))) (fun hq => itoaI_any v (by simp at hq) _) fun a w4 hb4 hA => ?_
   revert a; (iterate 2 refine wg _ rfl rfl rfl rfl (by decide) (fun hq ev e h => by simp [go_sem, h, ↓gw_t (beq_t hq), jw] <;> rfl) ?_); refine wka rfl rfl (by decide) rfl rfl rfl ?_; intro a hA
   replace hA := hA.keepN [3, 8, 11, 12, 13, 45]
   refine wN (nT ?_)
   refine wp_if hA 45 _ rfl (fun hq2 => ?yB2) (fun hq2 => ?nB2)
   case yB2 => simp at hq2
   case nB2 =>
    refine wp_skip (nB (nT (wR ?_)))
    revert a; (iterate 2 refine wo rfl rfl (by decide) (fun ev e h => by simp [go_sem, h, jw] <;> rfl) ?_); intro a hA
    replace hA := hA.keepN [3, 11, 12, 13]
    refine wN (nT ?_)
    refine ⟨f - 1, by omega, j + 1, V, by omega, ?_, HX3.trans (hb4.mono HX3.size), hA⟩
    rw [htake, hno]
    simpa using ho3.below hb4
end Go.Proofs.YtkljkbeahdipfaaGreatDoor
/-
  Walks: store.Begin, places, Tree, plant, made.
-/
namespace Go.Proofs.YtkljkbeahdipfaaGreatDoor
open Go.RowKit
set_option linter.unusedSimpArgs false
set_option linter.unusedVariables false
set_option linter.unusedSimpArgs false
set_option linter.unusedVariables false
theorem firstV_len (nm : ByteArray) : (firstV nm).length ≤ 1000 := by
 unfold firstV
 cases h : formedV 1 1 nm ⟨0, 0, 0, none, 0, []⟩ with
 | false => exact Nat.zero_le _
 | true =>
   rw [cond_true]
   have h1 := (formed_parts h).2.1
   unfold frameV
   rw [frameB_length]
   unfold encV
   have h2 := enc1_len 1 ⟨0, 0, 0, none, 0, []⟩
   have h3 := enc2_len 1 ⟨0, 0, 0, none, 0, []⟩
   have h4 : (enc3 1 nm).length ≤ 2 + nm.size := by
    unfold enc3
    have := textB_size nm
    cases ((1 : Int) == 3) <;> simp <;> omega
   simp only [List.length_append, be_length, List.length_nil]
   omega
set_option maxRecDepth 100000 in
set_option maxHeartbeats 4000000 in
theorem begin_at {w : World} {p mb N : Nat} {d : DiskM} (h : Dk w p mb d N) (hN : N < 700000) (n : Nat) (hn : n < 100) (nm : ByteArray) (hnm : nm.size ≤ 9223372036854775807) :
 Calls Tryz.prog 150 #[.pointer (some ⟨p, 0, none⟩), .int .i64 (n : Nat), .string nm] w fun ev w' => ev = .returned (.int .i64 (beginD d n nm).1) ∧ Dk w' p mb (beginD d n nm).2 (N + 8) ∧ But p mb w w' := by
 have hbd : beginD d n nm = if firstOk nm = true then thenD (dAppend d (fileK kLog n) (firstV nm)) fun d => thenD (dSync d (fileK kLog n)) fun d => pagesD d n (readL (firstV nm)) [] else (1, d) := rfl
 have hfl := firstV_len nm
 refine calls_at 40 Tryz.func150 rfl rfl (Nat.le_of_ble_eq_true rfl) ?_
 intro a hA; replace hA := hA.norm
 refine wS (wR ?_)
 revert a; refine wo rfl rfl (by decide) (fun ev e h => by simp [go_sem, h] <;> rfl) ?_; intro a hA
 replace hA := hA.keepN [0, 1, 2]
 refine wN (nT (wS (wR ?_)))
 revert a; (iterate 2 refine wo rfl rfl (by decide) (fun ev e h => by simp [go_sem, h] <;> rfl) ?_); intro a hA
 refine wl_call hA rfl rfl (by decide) (fun ev h => exec_call Tryz.func125 (by kernel_rfl) rfl (h.f _) (by first | (simp only [mL, h.get 13 rfl, h.c] <;> rfl) | (simp [mL, h.get 13 rfl, h.c] <;> rfl))) (bodyFrame_any 1 1 nm ⟨0, 0, 0, none, 0, []⟩ w h.env.max h.env.big.2.2 h.env.tab hnm (by decide) (by decide) Reads.none8) ?_
 rintro e w1 ⟨r, rfl, hor, hb1⟩
 refine ⟨_, rfl, fun a hA => ?_⟩
 obtain ⟨ok, hok⟩ : ∃ b, formedV 1 1 nm ⟨0, 0, 0, none, 0, []⟩ = b := ⟨_, rfl⟩
 have hok2 : firstOk nm = ok := hok
 have hor : Own8 w.heap.size w1 r (firstV nm) := hor
 rw [hok] at hA
 rw [hok2] at hbd
 have hD1 := h.below hb1
 obtain ⟨F, hF⟩ : ∃ F, firstV nm = F := ⟨_, rfl⟩
 rw [hF] at hor hbd hfl
 obtain ⟨Ar, cr, rfl, hrr, hcr⟩ := own8_cap hor
 cases ok with
 | false =>
   revert a; (iterate 5 refine wo rfl rfl (by decide) (fun ev e h => by simp [go_sem, h] <;> rfl) ?_); intro a hA
   replace hA := hA.keepN [0, 1, 7, 8]
   refine wN (nT (wS (wS (wR ?_))))
   revert a; (iterate 2 refine wo rfl rfl (by decide) (fun ev e h => by simp [go_sem, h] <;> rfl) ?_); intro a hA
   replace hA := hA.keepN [0, 1, 7, 8, 18]
   refine wN (nT ?_)
   refine wp_if hA 18 _ rfl (fun hq => ?yA) (fun hq => ?nA)
   case nA => simp at hq
   case yA =>
    refine wS (wR ?_)
    revert a; (iterate 2 refine wo rfl rfl (by decide) (fun ev e h => by simp [go_sem, h] <;> rfl) ?_); intro a hA
    replace hA := hA.keepN [6]
    refine wN (nT (wp_ret (rT ?_)))
    refine ret_1 hA 6 rfl rfl ?_
    rw [hbd]
    exact ⟨rfl, hD1.more (by omega), But.of_below hb1⟩
 | true =>
   rw [if_pos rfl] at hbd
   revert a; (iterate 5 refine wo rfl rfl (by decide) (fun ev e h => by simp [go_sem, h] <;> rfl) ?_); intro a hA
   replace hA := hA.keepN [0, 1, 7, 8]
   refine wN (nT (wS (wS (wR ?_))))
   revert a; (iterate 2 refine wo rfl rfl (by decide) (fun ev e h => by simp [go_sem, h] <;> rfl) ?_); intro a hA
   replace hA := hA.keepN [0, 1, 7, 8, 18]
   refine wN (nT ?_)
   refine wp_if hA 18 _ rfl (fun hq => ?yA2) (fun hq => ?nA2)
   case yA2 => simp at hq
   case nA2 =>
    refine wp_skip (nT (wS (wS (wR ?_))))
    revert a; (iterate 2 refine wo rfl rfl (by decide) (fun ev e h => by simp [go_sem, h] <;> rfl) ?_); intro a hA
    refine wl_call hA rfl rfl (by decide) (fun ev h => exec_call Tryz.func64 (by kernel_rfl) rfl (h.f _) (by first | (simp only [mL, h.get 21 rfl, h.c] <;> rfl) | (simp [mL, h.get 21 rfl, h.c] <;> rfl))) (file_any kLog (by decide) n hn _) ?_
    rintro e w2 ⟨rfl, hb2⟩
    refine ⟨_, rfl, fun a hA => ?_⟩
    revert a; refine wo rfl rfl (by decide) (fun ev e h => by simp [go_sem, h] <;> rfl) ?_; intro a hA
    refine wl_call hA rfl rfl (by decide) (fun ev h => exec_call Tryz.func75 (by kernel_rfl) rfl (h.f _) (by first | (simp only [mL, h.get 20 rfl, h.get 22 rfl, h.get 23 rfl, h.c] <;> rfl) | (simp [mL, h.get 20 rfl, h.get 22 rfl, h.get 23 rfl, h.c] <;> rfl))) ((hD1.below hb2).append (by omega) (fileK kLog n) (fileK_small (by decide) hn) Ar F.length cr F rfl (by omega) hcr ((hrr.below hb2).more hb2.size)) ?_
    rintro e w3 ⟨rfl, h3, hb3⟩
    refine ⟨_, rfl, fun a hA => ?_⟩
    have hrr3 := (hD1.below hb2).reads hb3 ((hrr.below hb2).more hb2.size)
    have HB3 := (But.of_below (hb1.trans (hb2.mono hb1.size)) (p := p) (m := mb)).trans hb3
    obtain ⟨r3, hr3⟩ : ∃ r, dAppend d (fileK kLog n) F = r := ⟨_, rfl⟩
    obtain ⟨e3, d3⟩ := r3
    rw [hr3] at hA h3 hbd
    simp only at h3
    revert a; refine wo rfl rfl (by decide) (fun ev e h => by simp [go_sem, h] <;> rfl) ?_; intro a hA
    replace hA := hA.keepN [0, 1, 7, 9]
    refine wN (nT (wS (wR ?_)))
    revert a; (iterate 2 refine wo rfl rfl (by decide) (fun ev e h => by simp [go_sem, h] <;> rfl) ?_); intro a hA
    replace hA := hA.keepN [0, 1, 7, 9, 26]
    refine wN (nT ?_)
    refine wp_if hA 26 _ rfl (fun hq3 => ?yB) (fun hq3 => ?nB)
    case yB =>
     have hne : ¬ e3 = 0 := by simpa using hq3
     refine wS (wR ?_)
     revert a; (iterate 2 refine wo rfl rfl (by decide) (fun ev e h => by simp [go_sem, h] <;> rfl) ?_); intro a hA
     replace hA := hA.keepN [6]
     refine wN (nT (wp_ret (rT ?_)))
     refine ret_1 hA 6 rfl rfl ?_
     rw [hbd, then_stop hne]
     exact ⟨rfl, h3.more (by omega), HB3⟩
    case nB =>
     have hne : e3 = 0 := by simpa using hq3
     rw [then_go hne] at hbd
     refine wp_skip (nT (wS (wS (wR ?_))))
     revert a; (iterate 2 refine wo rfl rfl (by decide) (fun ev e h => by simp [go_sem, h] <;> rfl) ?_); intro a hA
     refine wl_call hA rfl rfl (by decide) (fun ev h => exec_call Tryz.func64 (by kernel_rfl) rfl (h.f _) (by first | (simp only [mL, h.get 29 rfl, h.c] <;> rfl) | (simp [mL, h.get 29 rfl, h.c] <;> rfl))) (file_any kLog (by decide) n hn _) ?_
     rintro e w4 ⟨rfl, hb4⟩
     refine ⟨_, rfl, fun a hA => ?_⟩
     refine wl_call hA rfl rfl (by decide) (fun ev h => exec_call Tryz.func76 (by kernel_rfl) rfl (h.f _) (by first | (simp only [mL, h.get 28 rfl, h.get 30 rfl, h.c] <;> rfl) | (simp [mL, h.get 28 rfl, h.get 30 rfl, h.c] <;> rfl))) ((h3.below hb4).sync (by omega) (fileK kLog n) (fileK_small (by decide) hn)) ?_
     rintro e w5 ⟨rfl, h5, hb5⟩
     refine ⟨_, rfl, fun a hA => ?_⟩
     have hrr5 := (h3.below hb4).reads hb5 ((hrr3.below hb4).more hb4.size)
     have HB5 := (HB3.below hb4).trans hb5
     obtain ⟨r5, hr5⟩ : ∃ r, dSync d3 (fileK kLog n) = r := ⟨_, rfl⟩
     obtain ⟨e5, d5⟩ := r5
     simp only at hbd
     rw [hr5] at hA h5 hbd
     simp only at h5
     revert a; refine wo rfl rfl (by decide) (fun ev e h => by simp [go_sem, h] <;> rfl) ?_; intro a hA
     replace hA := hA.keepN [0, 1, 7, 10]
     refine wN (nT (wS (wR ?_)))
     revert a; (iterate 2 refine wo rfl rfl (by decide) (fun ev e h => by simp [go_sem, h] <;> rfl) ?_); intro a hA
     replace hA := hA.keepN [0, 1, 7, 10, 33]
     refine wN (nT ?_)
     refine wp_if hA 33 _ rfl (fun hq5 => ?yC) (fun hq5 => ?nC)
     case yC =>
      have hne5 : ¬ e5 = 0 := by simpa using hq5
      refine wS (wR ?_)
      revert a; (iterate 2 refine wo rfl rfl (by decide) (fun ev e h => by simp [go_sem, h] <;> rfl) ?_); intro a hA
      replace hA := hA.keepN [6]
      refine wN (nT (wp_ret (rT ?_)))
      refine ret_1 hA 6 rfl rfl ?_
      rw [hbd, then_stop hne5]
      exact ⟨rfl, h5.more (by omega), HB5⟩
     case nC =>
      have hne5 : e5 = 0 := by simpa using hq5
      rw [then_go hne5] at hbd
      refine wp_skip (nT (wS (wR ?_)))
      revert a; (iterate 3 refine wo rfl rfl (by decide) (fun ev e h => by simp [go_sem, h] <;> rfl) ?_); intro a hA
      refine wl_call hA rfl rfl (by decide) (fun ev h => exec_call Tryz.func59 (by kernel_rfl) rfl (h.f _) (by first | (simp only [mL, h.get 37 rfl, h.c] <;> rfl) | (simp [mL, h.get 37 rfl, h.c] <;> rfl))) (readL_any Ar F.length cr F rfl hcr (by omega) _ h5.env hrr5) ?_
      rintro e w6 ⟨V, rfl, hV, hb6⟩
      refine ⟨_, rfl, fun a hA => ?_⟩
      have hpg := pagesD_at (h5.below hb6) (by omega) n hn hV none 0 [] (RowR.nil _) (by decide)
      refine wl_call hA rfl rfl (by decide) (fun ev h => exec_call Tryz.func63 (by kernel_rfl) rfl (h.f _) (by first | (simp only [mL, h.get 35 rfl, h.get 36 rfl, h.get 38 rfl, h.c] <;> rfl) | (simp [mL, h.get 35 rfl, h.get 36 rfl, h.get 38 rfl, h.c] <;> rfl))) (hpg) ?_
      rintro e w7 ⟨rfl, h7, hb7⟩
      refine ⟨_, rfl, fun a hA => ?_⟩
      revert a; refine wo rfl rfl (by decide) (fun ev e h => by simp [go_sem, h] <;> rfl) ?_; intro a hA
      replace hA := hA.keepN [6]
      refine wN (nT (wp_ret ?_))
      refine ret_1 hA 6 rfl rfl ?_
      rw [hbd]
      exact ⟨rfl, h7, (HB5.below hb6).trans hb7⟩
def plSh : Sh PlaceM := ⟨152, 147, 2, 24, .agg #[.int .i64 0, .string ⟨#[]⟩], pcell, fun _ => [], fun _ => rfl, fun q u hu => by
 unfold pcell at hu
 simp only [List.mem_cons, List.not_mem_nil, or_false] at hu
 rcases hu with rfl | rfl <;> rfl, Tryz.underlying147, by kernel_rfl, rfl, by decide, by decide⟩
theorem readL_nm (b : List UInt8) : (readL b).s.nm.size ≤ 60 := takeAll_nm _ (notesB_nm b)
set_option maxRecDepth 100000 in
set_option maxHeartbeats 4000000 in
theorem places_at {w : World} {p mb N : Nat} {d : DiskM} (h : Dk w p mb d N) (hN : N < 900000) :
 Calls Tryz.prog 89 #[.pointer (some ⟨p, 0, none⟩)] w fun ev w' => ∃ V, ev = .returned V ∧ OwnR plSh w.heap.size w' V (placesD d) ∧ Below w.heap.size w w' := by
 refine calls_at 32 Tryz.func89 rfl rfl (Nat.le_of_ble_eq_true rfl) ?_
 intro a hA; replace hA := hA.norm
 refine wS (wR ?_)
 revert a; refine wo rfl rfl (by decide) (fun ev e h => by simp [go_sem, h] <;> rfl) ?_; intro a hA
 replace hA := hA.keepN [0]
 refine wN (nT (wS (wR ?_)))
 revert a; refine wo rfl rfl (by decide) (fun ev e h => by simp [go_sem, h] <;> rfl) ?_; intro a hA
 replace hA := hA.keepN [0, 3]
 refine wN (nT (wS (wS (wR ?_))))
 revert a; refine wo rfl rfl (by decide) (fun ev e h => by simp [go_sem, h] <;> rfl) ?_; intro a hA
 refine wl_call hA rfl rfl (by decide) (fun ev h => exec_call Tryz.func143 (by kernel_rfl) rfl (h.f _) (by first | (simp only [mL, h.get 8 rfl, h.c] <;> rfl) | (simp [mL, h.get 8 rfl, h.c] <;> rfl))) (logs_at h hN) ?_
 rintro e w1 ⟨V, rfl, hoL, hb1⟩
 refine ⟨_, rfl, fun a hA => ?_⟩
 obtain ⟨L, hL⟩ : ∃ L, logsD d = L := ⟨_, rfl⟩
 have hL16 : L.length ≤ 16 ∧ ∀ x ∈ L, x < 16 := by
  rw [← hL]
  unfold logsD
  refine ⟨?_, fun x hx => List.mem_range.1 (List.mem_filter.1 hx).1⟩
  have := List.length_filter_le (fun n => hasD d (fileK kLog n)) (List.range 16)
  rwa [List.length_range] at this
 have hpl : placesD d = L.map fun (n : Nat) => ((n : Int), (readL (fileD d kLog n).1).s.nm) := by rw [← hL]; rfl
 rw [hL] at hoL
 obtain ⟨A, c, rfl, hrL, -⟩ := hoL.reads
 rw [List.length_map] at hA
 obtain ⟨q, hq0⟩ : ∃ q, L.length = q := ⟨_, rfl⟩
 rw [hq0] at hA hL16
 revert a; (iterate 2 refine wo rfl rfl (by decide) (fun ev e h => by simp [go_sem, h] <;> rfl) ?_); intro a hA
 replace hA := hA.keepN [0, 3, 9, 10, 11]
 refine wN (nT (wB ?_))
 refine wp_loop_at (fun f a wx => ∃ (j : Nat) (V : Value), j + f = q ∧ OwnR plSh w1.heap.size wx V ((L.take j).map fun (n : Nat) => ((n : Int), (readL (fileD d kLog n).1).s.nm)) ∧ Below w1.heap.size w1 wx ∧ At 32 [(0, .pointer (some ⟨p, 0, none⟩)), (3, V), (9, .slice A q c), (10, .int .i64 (q : Nat)), (11, .int .i64 (j : Nat))] a) (q) ?_ ?_
 ·exact ⟨0, _, by omega, OwnR.nil _ _, Below.refl _ _, hA⟩
 clear hA
 rintro f a wx ⟨j, V, hjf, ho, HX, hA⟩
 have jw : IntKind.i64.wrap ((j : Int) + 1) = ((j + 1 : Nat) : Int) := IntWalk.i64_in _ (by omega)
 refine wS (wR ?_)
 revert a; refine wo rfl rfl (by decide) (fun ev e h => by simp [go_sem, h] <;> rfl) ?_; intro a hA
 replace hA := hA.keepN [0, 3, 9, 10, 11, 12]
 refine wN (nT (wS ?_))
 refine wp_if hA 12 _ rfl (fun hq => ?yA) (fun hq => ?nA)
 case nA =>
  have hj : j = q := by simp at hq; omega
  rw [hj, ← hq0, List.take_length] at ho
  replace hA := hA.keepN [3]
  refine wp_exit (xT (xT (xB (nT (wS (wR ?_))))))
  revert a; (iterate 2 refine wo rfl rfl (by decide) (fun ev e h => by simp [go_sem, h] <;> rfl) ?_); intro a hA
  replace hA := hA.keepN [2]
  refine wN (nT (wp_ret ?_))
  refine ret_1 hA 2 rfl rfl ?_
  rw [hpl]
  exact ⟨V, rfl, ho.mono hb1.size, hb1.trans (HX.mono hb1.size)⟩
 case yA =>
  have hj : j < q := by simp at hq; omega
  have jj0 : (0 : Int) ≤ (j : Int) := by omega
  have jj1 : (j : Int) < (q : Int) := by omega
  obtain ⟨n, hn⟩ : ∃ n, L[j]? = some n := ⟨_, List.getElem?_eq_getElem (by omega)⟩
  have hn16 := hL16.2 n (List.mem_of_getElem? hn)
  have hni : (L.map fun n => ((n : Nat) : Int))[j]? = some (n : Int) := by rw [List.getElem?_map, hn]; rfl
  obtain ⟨ad, hA9, hadb, q0, -⟩ := (hrL.below HX).cell hni
  have z0 : wx.cell? (ad.add j) = some (.int .i64 (n : Nat)) := by
   have h1 : wx.cell? (ad.add (j * 1)) = some (.int .i64 (n : Nat)) := q0 _ rfl
   rwa [Nat.mul_one] at h1
  have HWx := hb1.trans (HX.mono hb1.size)
  refine wp_skip (nT (wS (wB (wS (wR ?_)))))
  revert a; (iterate 3 refine wo rfl rfl (by decide) (fun ev e h => by simp [go_sem, h, hA9, z0, jj0, jj1, hj] <;> rfl) ?_); intro a hA
  replace hA := hA.keepN [0, 3, 5, 9, 10, 11]
  refine wN (nT (wS (wR ?_)))
  revert a; (iterate 2 refine wo rfl rfl (by decide) (fun ev e h => by simp [go_sem, h, hA9, z0, jj0, jj1, hj] <;> rfl) ?_); intro a hA
  refine wl_call hA rfl rfl (by decide) (fun ev h => exec_call Tryz.func64 (by kernel_rfl) rfl (h.f _) (by first | (simp only [mL, h.get 17 rfl, h.c] <;> rfl) | (simp [mL, h.get 17 rfl, h.c, hA9, z0, jj0, jj1, hj] <;> rfl))) (file_any kLog (by decide) n (by omega) _) ?_
  rintro e w2 ⟨rfl, hb2⟩
  refine ⟨_, rfl, fun a hA => ?_⟩
  have HX2 := HX.trans (hb2.mono HX.size)
  refine wl_call hA rfl rfl (by decide) (fun ev h => exec_call Tryz.func29 (by kernel_rfl) rfl (h.f _) (by first | (simp only [mL, h.get 16 rfl, h.get 18 rfl, h.c] <;> rfl) | (simp [mL, h.get 16 rfl, h.get 18 rfl, h.c, hA9, z0, jj0, jj1, hj] <;> rfl))) (((h.below HWx).below hb2).read (fileK kLog n) (fileK_small (by decide) (by omega))) ?_
  rintro e w3 ⟨Ab, cb, rfl, hrb, hcb, hb3⟩
  refine ⟨_, rfl, fun a hA => ?_⟩
  have HX3 := HX2.trans (hb3.mono HX2.size)
  have hbl := read_lenD h.wf (fileK kLog n)
  obtain ⟨bl, hbl9⟩ : ∃ x, (dRead d (fileK kLog n)).1 = x := ⟨_, rfl⟩
  obtain ⟨be, hbe9⟩ : ∃ x, (dRead d (fileK kLog n)).2 = x := ⟨_, rfl⟩
  have hfl : (fileD d kLog n).1 = bl := hbl9
  rw [hbl9] at hA hrb hcb hbl
  rw [hbe9] at hA
  revert a; (iterate 5 refine wo rfl rfl (by decide) (fun ev e h => by simp [go_sem, h, hA9, z0, jj0, jj1, hj] <;> rfl) ?_); intro a hA
  replace hA := hA.keepN [0, 3, 5, 6, 9, 10, 11]
  refine wN (nT (wR ?_))
  revert a; (iterate 3 refine wo rfl rfl (by decide) (fun ev e h => by simp [go_sem, h, hA9, z0, jj0, jj1, hj] <;> rfl) ?_); intro a hA
  refine wl_call hA rfl rfl (by decide) (fun ev h => exec_call Tryz.func59 (by kernel_rfl) rfl (h.f _) (by first | (simp only [mL, h.get 24 rfl, h.c] <;> rfl) | (simp [mL, h.get 24 rfl, h.c, hA9, z0, jj0, jj1, hj] <;> rfl))) (readL_any Ab bl.length cb bl rfl hcb hbl _ (((h.below HWx).below hb2).below hb3).env hrb) ?_
  rintro e w4 ⟨VL, rfl, hV, hb4⟩
  refine ⟨_, rfl, fun a hA => ?_⟩
  have HX4 := HX3.trans (hb4.mono HX3.size)
  obtain ⟨l, hl⟩ : ∃ l, readL bl = l := ⟨_, rfl⟩
  rw [hl] at hV
  obtain ⟨A5, c5, L5, rfl, -, -⟩ := hV.ex
  have ho4 := ((ho.below hb2).below hb3).below hb4
  revert a; (iterate 2 refine wo rfl rfl (by decide) (fun ev e h => by simp [go_sem, h, hA9, z0, jj0, jj1, hj] <;> rfl) ?_); intro a hA
  refine wl_new hA rfl rfl (by decide) (fun ev h => by simp [go_sem, h.get 27 rfl, hA9, z0, jj0, jj1, hj]; try first | exact ⟨rfl, rfl⟩ | rfl) fun w5 a (K5 : Blk _ _ _ _) hz5 hb5 hA => ?_
  have hrow5 : RowR plSh w5 _ [((n : Int), l.s.nm)] := rowR_blk (s := plSh) (x := ((n : Int), l.s.nm)) K5 (fun p hp => (by cases hp))
  obtain ⟨r6, w6, hrun, ho6, hg6, -⟩ := run_appR (s := plSh) (c := 1) (ho4.below hb5) hrow5 (fun _ _ m _ p hp => (by cases hp)) (by rw [List.length_map, List.length_take, List.length_singleton]; omega) (HX4.trans (hb5.mono HX4.size)).size
  refine wl_op hA rfl rfl (by decide) (fun ev h => exec_append rfl (h.get 22 rfl) (h.get 28 rfl) hrun) fun a hA => ?_
  have HX6 := below_appR (HX4.trans (hb5.mono HX4.size)) (ho4.below hb5) hg6 (Nat.le_refl _) (HX4.trans (hb5.mono HX4.size)).size
  revert a; refine wo rfl rfl (by decide) (fun ev e h => by simp [go_sem, h, jw] <;> rfl) ?_; intro a hA
  replace hA := hA.keepN [0, 3, 9, 10, 11]
  refine wN (nB (nT (wR ?_)))
  revert a; (iterate 2 refine wo rfl rfl (by decide) (fun ev e h => by simp [go_sem, h, jw] <;> rfl) ?_); intro a hA
  replace hA := hA.keepN [0, 3, 9, 10, 11]
  refine wN (nT ?_)
  refine ⟨f - 1, by omega, j + 1, r6, by omega, ?_, HX6, hA⟩
  rw [List.take_add_one, hn, List.map_append]
  show OwnR plSh _ _ _ (_ ++ [((n : Int), (readL (fileD d kLog n).1).s.nm)])
  rw [hfl, hl]
  exact ho6
theorem placesD_bd (d : DiskM) : (placesD d).length ≤ 16 ∧ ∀ q ∈ placesD d, q.2.size ≤ 60 := by
 unfold placesD
 refine ⟨?_, fun q hq => ?_⟩
 ·rw [List.length_map]
  unfold logsD
  have := List.length_filter_le (fun n => hasD d (fileK kLog n)) (List.range 16)
  rwa [List.length_range] at this
 ·obtain ⟨n, _, rfl⟩ := List.mem_map.1 hq
  exact readL_nm _
set_option maxRecDepth 100000 in
theorem tree_at {w : World} {p mb N : Nat} {d : DiskM} (h : Dk w p mb d N) (hN : N < 900000) :
 Calls Tryz.prog 149 #[.pointer (some ⟨p, 0, none⟩)] w fun ev w' => ∃ r, ev = .returned (.tuple #[r, .int .i64 (treeErr (placesD d))]) ∧ Own8 w.heap.size w' r (treePage (placesD d)) ∧ Below w.heap.size w w' := by
 have hbd := placesD_bd d
 refine calls_at 9 Tryz.func149 rfl rfl (Nat.le_of_ble_eq_true rfl) ?_
 intro a hA; replace hA := hA.norm
 refine wS (wR ?_)
 revert a; (iterate 2 refine wo rfl rfl (by decide) (fun ev e h => by simp [go_sem, h] <;> rfl) ?_); intro a hA
 replace hA := hA.keepN [0]
 refine wN (nT (wS (wR ?_)))
 revert a; refine wo rfl rfl (by decide) (fun ev e h => by simp [go_sem, h] <;> rfl) ?_; intro a hA
 refine wl_call hA rfl rfl (by decide) (fun ev h => exec_call Tryz.func89 (by kernel_rfl) rfl (h.f _) (by first | (simp only [mL, h.get 4 rfl, h.c] <;> rfl) | (simp [mL, h.get 4 rfl, h.c] <;> rfl))) (places_at h hN) ?_
 rintro e w1 ⟨V, rfl, ho, hb1⟩
 refine ⟨_, rfl, fun a hA => ?_⟩
 obtain ⟨A, c, rfl, hr, hc⟩ := ho.reads
 obtain ⟨P, hP⟩ : ∃ P, placesD d = P := ⟨_, rfl⟩
 rw [hP] at hA hr hc hbd ⊢
 have he := (h.below hb1).env
 refine wl_call hA rfl rfl (by decide) (fun ev h => exec_call Tryz.func152 (by kernel_rfl) rfl (h.f _) (by first | (simp only [mL, h.get 5 rfl, h.c] <;> rfl) | (simp [mL, h.get 5 rfl, h.c] <;> rfl))) (putTree_any A c P.length P w1 he.max he.big.2.2 (fun q hq => by have := hbd.2 q hq; omega) rfl (by omega) hc hr.row) ?_
 rintro e w2 ⟨r, rfl, hor, hb2⟩
 refine ⟨_, rfl, fun a hA => ?_⟩
 revert a; (iterate 4 refine wo rfl rfl (by decide) (fun ev e h => by simp [go_sem, h] <;> rfl) ?_); intro a hA
 replace hA := hA.keepN [2, 3]
 refine wN (nT (wp_ret ?_))
 refine ret_2 hA 2 3 rfl rfl rfl ?_
 exact ⟨r, rfl, own_mono hor hb1.size, hb1.trans (hb2.mono hb1.size)⟩
theorem treePage_len (l : List PlaceM) (h : l.length ≤ 16 ∧ ∀ q ∈ l, q.2.size ≤ 60) : (treePage l).length ≤ 100000 := by
 unfold treePage
 split
 ·rename_i hrt
  clear hrt
  rw [pageB_length]
  unfold treeB
  have hm : (l.flatMap placeB).length ≤ 63 * l.length := by
   have h2 := h.2
   clear h
   induction l with
   | nil => exact Nat.zero_le _
   | cons x r ih =>
     have h3 := ih fun q hq => h2 q (List.mem_cons_of_mem _ hq)
     have h4 := h2 x List.mem_cons_self
     rw [List.flatMap_cons, List.length_append, List.length_cons]
     have : (placeB x).length = 3 + x.2.size := by unfold placeB; rw [List.length_append, be_length, textB_len]; omega
     omega
  rw [List.length_append, be_length]
  omega
 ·exact Nat.zero_le _
set_option maxRecDepth 100000 in
theorem plant_at {w : World} {p mb N : Nat} {d : DiskM} (h : Dk w p mb d N) (hN : N < 800000) :
 Calls Tryz.prog 151 #[.pointer (some ⟨p, 0, none⟩)] w fun ev w' => ev = .returned (.int .i64 (plantD d).1) ∧ Dk w' p mb (plantD d).2 (N + 3) ∧ But p mb w w' := by
 have hpd : plantD d = if treeErr (placesD d) = 0 then layD d kTree (treePage (placesD d)) else (treeErr (placesD d), d) := rfl
 have hlen := treePage_len _ (placesD_bd d)
 refine calls_at 16 Tryz.func151 rfl rfl (Nat.le_of_ble_eq_true rfl) ?_
 intro a hA; replace hA := hA.norm
 refine wS (wR ?_)
 revert a; refine wo rfl rfl (by decide) (fun ev e h => by simp [go_sem, h] <;> rfl) ?_; intro a hA
 replace hA := hA.keepN [0]
 refine wN (nT (wS (wR ?_)))
 revert a; refine wo rfl rfl (by decide) (fun ev e h => by simp [go_sem, h] <;> rfl) ?_; intro a hA
 refine wl_call hA rfl rfl (by decide) (fun ev h => exec_call Tryz.func149 (by kernel_rfl) rfl (h.f _) (by first | (simp only [mL, h.get 6 rfl, h.c] <;> rfl) | (simp [mL, h.get 6 rfl, h.c] <;> rfl))) (tree_at h (by omega)) ?_
 rintro e w1 ⟨r, rfl, hor, hb1⟩
 refine ⟨_, rfl, fun a hA => ?_⟩
 obtain ⟨te, hte⟩ : ∃ e, treeErr (placesD d) = e := ⟨_, rfl⟩
 obtain ⟨T, hT⟩ : ∃ T, treePage (placesD d) = T := ⟨_, rfl⟩
 rw [hte] at hA hpd
 rw [hT] at hor hpd hlen
 obtain ⟨Ar, cr, rfl, hrr, hcr⟩ := own8_cap hor
 have hD1 := h.below hb1
 revert a; (iterate 5 refine wo rfl rfl (by decide) (fun ev e h => by simp [go_sem, h] <;> rfl) ?_); intro a hA
 replace hA := hA.keepN [0, 3, 4]
 refine wN (nT (wS (wS (wR ?_))))
 revert a; (iterate 2 refine wo rfl rfl (by decide) (fun ev e h => by simp [go_sem, h] <;> rfl) ?_); intro a hA
 replace hA := hA.keepN [0, 3, 4, 11]
 refine wN (nT ?_)
 refine wp_if hA 11 _ rfl (fun hq => ?yA) (fun hq => ?nA)
 case yA =>
  have hne : ¬ te = 0 := by simpa using hq
  refine wS (wR ?_)
  revert a; (iterate 2 refine wo rfl rfl (by decide) (fun ev e h => by simp [go_sem, h] <;> rfl) ?_); intro a hA
  replace hA := hA.keepN [2]
  refine wN (nT (wp_ret (rT ?_)))
  refine ret_1 hA 2 rfl rfl ?_
  rw [hpd, if_neg hne]
  exact ⟨rfl, hD1.more (by omega), But.of_below hb1⟩
 case nA =>
  have hne : te = 0 := by simpa using hq
  rw [if_pos hne] at hpd
  refine wp_skip (nT (wS (wR ?_)))
  revert a; (iterate 2 refine wo rfl rfl (by decide) (fun ev e h => by simp [go_sem, h] <;> rfl) ?_); intro a hA
  refine wl_call hA rfl rfl (by decide) (fun ev h => exec_call Tryz.func26 (by kernel_rfl) rfl (h.f _) (by first | (simp only [mL, h.get 13 rfl, h.get 14 rfl, h.c] <;> rfl) | (simp [mL, h.get 13 rfl, h.get 14 rfl, h.c] <;> rfl))) (lay_at hD1 (by omega) kTree (by decide) Ar T.length cr T rfl (by omega) hcr hrr) ?_
  rintro e w2 ⟨rfl, h2, hb2⟩
  refine ⟨_, rfl, fun a hA => ?_⟩
  revert a; refine wo rfl rfl (by decide) (fun ev e h => by simp [go_sem, h] <;> rfl) ?_; intro a hA
  replace hA := hA.keepN [2]
  refine wN (nT (wp_ret ?_))
  refine ret_1 hA 2 rfl rfl ?_
  rw [hpd]
  exact ⟨rfl, h2, (But.of_below hb1).trans hb2⟩
set_option maxRecDepth 100000 in
theorem made_at {w : World} {p mb N : Nat} {d : DiskM} (h : Dk w p mb d N) (hN : N < 600000) :
 Calls Tryz.prog 86 #[.pointer (some ⟨p, 0, none⟩)] w fun ev w' => ev = .returned (.int .i64 (madeD d).1) ∧ Dk w' p mb (madeD d).2 (N + 11) ∧ But p mb w w' := by
 have hmd : madeD d = thenD (beginD d 0 sInbox) plantD := rfl
 refine calls_at 11 Tryz.func86 rfl rfl (Nat.le_of_ble_eq_true rfl) ?_
 intro a hA; replace hA := hA.norm
 refine wS (wR ?_)
 revert a; refine wo rfl rfl (by decide) (fun ev e h => by simp [go_sem, h] <;> rfl) ?_; intro a hA
 replace hA := hA.keepN [0]
 refine wN (nT (wS (wS (wR ?_))))
 revert a; refine wo rfl rfl (by decide) (fun ev e h => by simp [go_sem, h] <;> rfl) ?_; intro a hA
 refine wl_call hA rfl rfl (by decide) (fun ev h => exec_call Tryz.func150 (by kernel_rfl) rfl (h.f _) (by first | (simp only [mL, h.get 4 rfl, h.c] <;> rfl) | (simp [mL, h.get 4 rfl, h.c] <;> rfl))) (begin_at h (by omega) 0 (by decide) sInbox (by decide)) ?_
 rintro e w1 ⟨rfl, h1, hb1⟩
 refine ⟨_, rfl, fun a hA => ?_⟩
 obtain ⟨r1, hr1⟩ : ∃ r, beginD d 0 sInbox = r := ⟨_, rfl⟩
 obtain ⟨e1, d1⟩ := r1
 rw [hr1] at hA h1 hmd
 simp only at h1
 revert a; refine wo rfl rfl (by decide) (fun ev e h => by simp [go_sem, h] <;> rfl) ?_; intro a hA
 replace hA := hA.keepN [0, 3]
 refine wN (nT (wS (wR ?_)))
 revert a; (iterate 2 refine wo rfl rfl (by decide) (fun ev e h => by simp [go_sem, h] <;> rfl) ?_); intro a hA
 replace hA := hA.keepN [0, 3, 7]
 refine wN (nT ?_)
 refine wp_if hA 7 _ rfl (fun hq => ?yA) (fun hq => ?nA)
 case yA =>
  have hne : ¬ e1 = 0 := by simpa using hq
  refine wS (wR ?_)
  revert a; (iterate 2 refine wo rfl rfl (by decide) (fun ev e h => by simp [go_sem, h] <;> rfl) ?_); intro a hA
  replace hA := hA.keepN [2]
  refine wN (nT (wp_ret (rT ?_)))
  refine ret_1 hA 2 rfl rfl ?_
  rw [hmd, then_stop hne]
  exact ⟨rfl, h1.more (by omega), hb1⟩
 case nA =>
  have hne : e1 = 0 := by simpa using hq
  rw [then_go hne] at hmd
  refine wp_skip (nT (wS (wR ?_)))
  revert a; refine wo rfl rfl (by decide) (fun ev e h => by simp [go_sem, h] <;> rfl) ?_; intro a hA
  refine wl_call hA rfl rfl (by decide) (fun ev h => exec_call Tryz.func151 (by kernel_rfl) rfl (h.f _) (by first | (simp only [mL, h.get 9 rfl, h.c] <;> rfl) | (simp [mL, h.get 9 rfl, h.c] <;> rfl))) (plant_at h1 (by omega)) ?_
  rintro e w2 ⟨rfl, h2, hb2⟩
  refine ⟨_, rfl, fun a hA => ?_⟩
  revert a; refine wo rfl rfl (by decide) (fun ev e h => by simp [go_sem, h] <;> rfl) ?_; intro a hA
  replace hA := hA.keepN [2]
  refine wN (nT (wp_ret ?_))
  refine ret_1 hA 2 rfl rfl ?_
  rw [hmd]
  exact ⟨rfl, h2, hb1.trans hb2⟩
end Go.Proofs.YtkljkbeahdipfaaGreatDoor
/-
  Walk: repair.Aside.
-/
namespace Go.Proofs.YtkljkbeahdipfaaGreatDoor
open Go.RowKit
set_option linter.unusedSimpArgs false
set_option linter.unusedVariables false
set_option linter.unusedSimpArgs false
set_option linter.unusedVariables false
/-- the place of a text in a row -/
def idxV (L : List (List UInt8)) (s : List UInt8) : Int := match L.findIdx? (· == s) with
 | some i => (i : Int)
 | none => -1
theorem idxV_at {L : List (List UInt8)} {s : List UInt8} {j : Nat} (hj : L[j]? = some s) (h : ∀ i, i < j → L[i]? ≠ some s) : idxV L s = (j : Int) := by
 unfold idxV
 obtain ⟨hlt, he⟩ := List.getElem?_eq_some_iff.1 hj
 rw [show L.findIdx? (· == s) = some j from List.findIdx?_eq_some_iff_getElem.2 ⟨hlt, by simp [he], fun i hi => by
  have := h i hi
  have hl : i < L.length := by omega
  rw [List.getElem?_eq_getElem hl] at this
  simpa using this⟩]
theorem idxV_none {L : List (List UInt8)} {s : List UInt8} (h : ∀ i, i < L.length → L[i]? ≠ some s) : idxV L s = -1 := by
 unfold idxV
 rw [show L.findIdx? (· == s) = none from List.findIdx?_eq_none_iff.2 fun x hx => by
  obtain ⟨i, hi, rfl⟩ := List.getElem_of_mem hx
  have := h i hi
  rw [List.getElem?_eq_getElem hi] at this
  simpa using this]
set_option maxRecDepth 100000 in
set_option maxHeartbeats 4000000 in
theorem indexR_any (L : List (List UInt8)) (s : List UInt8) (A : Option Addr) (c : Nat) (w : World) (hr : Reads w w.heap.size 1 A L.length (L.map fun t => Value.string (St t))) (hl : L.length ≤ 1000000) : Calls Tryz.prog 166 #[.slice A L.length c, .string (St s)] w fun ev w' => ev = .returned (.int .i64 (idxV L s)) ∧ w' = w := by
 refine calls_at 19 Tryz.func166 rfl rfl (Nat.le_of_ble_eq_true rfl) ?_
 intro a hA; replace hA := hA.norm
 refine wS (wR ?_)
 revert a; refine wo rfl rfl (by decide) (fun ev e h => by simp [go_sem, h] <;> rfl) ?_; intro a hA
 replace hA := hA.keepN [0, 1]
 refine wN (nT (wS (wS (wR ?_))))
 revert a; (iterate 3 refine wo rfl rfl (by decide) (fun ev e h => by simp [go_sem, h] <;> rfl) ?_); intro a hA
 replace hA := hA.keepN [0, 1, 7, 8]
 refine wN (nT (wB ?_))
 refine wp_loop_at (fun k a wx => ∃ j : Nat, j + k = L.length ∧ (∀ i, i < j → L[i]? ≠ some s) ∧ w = wx ∧ At 19 [(0, .slice A L.length c), (1, .string (St s)), (7, .int .i64 (L.length : Nat)), (8, .int .i64 (j : Nat))] a) (L.length) ?_ ?_
 ·exact ⟨0, by omega, fun i hi => absurd hi (Nat.not_lt_zero _), rfl, hA⟩
 clear hA
 rintro k a wx ⟨j, hjk, hno, rfl, hA⟩
 refine wS (wR ?_)
 revert a; refine wo rfl rfl (by decide) (fun ev e h => by simp [go_sem, h] <;> rfl) ?_; intro a hA
 replace hA := hA.keepN [0, 1, 7, 8, 9]
 refine wN (nT (wS ?_))
 refine wp_if hA 9 _ rfl (fun hq => ?yA) (fun hq => ?nA)
 case nA =>
  have hjn : L.length ≤ j := by simp at hq; omega
  replace hA := hA.keepN []
  refine wp_exit (xT (xT (xB (nT (wS (wR ?_))))))
  revert a; refine wo rfl rfl (by decide) (fun ev e h => by simp [go_sem, h] <;> rfl) ?_; intro a hA
  replace hA := hA.keepN [4]
  refine wN (nT (wp_ret ?_))
  refine ret_1 hA 4 rfl rfl ?_
  exact ⟨by rw [idxV_none fun i hi => hno i (by omega)], rfl⟩
 case yA =>
  have hjn : j < L.length := by simp at hq; omega
  obtain ⟨x, hx⟩ : ∃ x, L[j]? = some x := ⟨_, List.getElem?_eq_getElem hjn⟩
  obtain ⟨ad, rfl, _, hcl⟩ := hr.2 (by omega)
  have hcell := hcl j (.string (St x)) (by rw [List.getElem?_map, hx]; rfl)
  have jj0 : (0 : Int) ≤ (j : Int) := by omega
  have jj1 : (j : Int) < (L.length : Int) := by omega
  have i3 : IntKind.i64.wrap (((j : Nat) : Int) + 1) = ((j + 1 : Nat) : Int) := by rw [IntWalk.i64_in _ (by omega)]; omega
  refine wp_skip (nT (wS (wB (wS (wR ?_)))))
  revert a; (iterate 2 refine wo rfl rfl (by decide) (fun ev e h => by simp [go_sem, h, hcell, jj0, jj1] <;> rfl) ?_); intro a hA
  replace hA := hA.keepN [0, 1, 5, 7, 8]
  refine wN (nT (wS (wR ?_)))
  revert a; (iterate 6 refine wo rfl rfl (by decide) (fun ev e h => by simp [go_sem, h, hcell, jj0, jj1] <;> rfl) ?_); intro a hA
  replace hA := hA.keepN [0, 1, 5, 7, 8, 16]
  refine wN (nT ?_)
  refine wp_if hA 16 _ rfl (fun hq2 => ?yB) (fun hq2 => ?nB)
  case nB =>
   have hn : x ≠ s := by rintro rfl; simp at hq2
   refine wp_skip (nB (nT (wR ?_)))
   revert a; (iterate 2 refine wo rfl rfl (by decide) (fun ev e h => by simp [go_sem, h, i3] <;> rfl) ?_); intro a hA
   replace hA := hA.keepN [0, 1, 7, 8]
   refine wN (nT ?_)
   refine ⟨k - 1, by omega, j + 1, by omega, fun i hi => ?_, rfl, hA⟩
   by_cases e : i = j
   ·subst e
    rw [hx]
    intro e
    injection e with e
    exact hn e
   ·exact hno i (by omega)
  case yB =>
   have hn : x = s := (by simpa using hq2 : s = x).symm
   subst hn
   refine wS (wR ?_)
   revert a; (iterate 2 refine wo rfl rfl (by decide) (fun ev e h => by simp [go_sem, h, hcell, jj0, jj1] <;> rfl) ?_); intro a hA
   replace hA := hA.keepN [4]
   refine wN (nT (wp_ret (rB (rT (rT (rB (rT ?_)))))))
   refine ret_1 hA 4 rfl rfl ?_
   exact ⟨by rw [idxV_at hx hno], rfl⟩
theorem idxV_has (L : List (List UInt8)) (s : List UInt8) : decide (0 ≤ idxV L s) = decide (s ∈ L) := by
 unfold idxV
 cases h : L.findIdx? (· == s) with
 | none =>
   have h0 := List.findIdx?_eq_none_iff.1 h
   have hn : s ∉ L := fun hm => by have := h0 s hm; simp at this
   simp [hn]
 | some i =>
   obtain ⟨hlt, he, _⟩ := List.findIdx?_eq_some_iff_getElem.1 h
   have hm : s ∈ L := by
    have : L[i] = s := by simpa using he
    rw [← this]; exact List.getElem_mem hlt
   simp [hm]
theorem fget_some {k : Key} : ∀ {l : List (Key × FileM)}, (fget k l).isSome = decide (k ∈ l.map (·.1))
 | [] => rfl
 | (y, u) :: r => by
   rw [fget_cons]
   by_cases h : y = k
   ·rw [if_pos h, h]; simp
   ·rw [if_neg h, fget_some]
    have h2 : ¬ k = y := fun e => h e.symm
    simp [h2]
set_option maxRecDepth 100000 in
/-- is there a file? -/
theorem hasKey_any (A : Option Addr) (c : Nat) (l : List (Key × FileM)) (x : List UInt8) (w : World) (hl : l.length ≤ 1000000) (hr : Reads w w.heap.size 1 A l.length (keyCells l)) : Calls Tryz.prog 105 #[.slice A l.length c, .string (St x)] w fun ev w' => ev = .returned (.bool (fget x l).isSome) ∧ Below w.heap.size w w' := by
 have hr2 : Reads w w.heap.size 1 A (l.map (·.1)).length ((l.map (·.1)).map fun t => Value.string (St t)) := by
  rw [List.length_map, List.map_map]
  exact hr
 have hlm : (l.map (·.1)).length = l.length := List.length_map ..
 rw [← hlm]
 refine calls_at 9 Tryz.func105 rfl rfl (Nat.le_of_ble_eq_true rfl) ?_
 intro a hA; replace hA := hA.norm
 refine wS (wR ?_)
 revert a; refine wo rfl rfl (by decide) (fun ev e h => by simp [go_sem, h] <;> rfl) ?_; intro a hA
 replace hA := hA.keepN [0, 1]
 refine wN (nT (wS (wR ?_)))
 revert a; (iterate 2 refine wo rfl rfl (by decide) (fun ev e h => by simp [go_sem, h] <;> rfl) ?_); intro a hA
 refine wl_call hA rfl rfl (by decide) (fun ev h => exec_call Tryz.func166 (by kernel_rfl) rfl (h.f _) (by first | (simp only [mL, h.get 5 rfl, h.get 6 rfl, h.c] <;> rfl) | (simp [mL, h.get 5 rfl, h.get 6 rfl, h.c] <;> rfl))) (indexR_any (l.map (·.1)) x A c w hr2 (by omega)) ?_
 rintro e w1 ⟨rfl, rfl⟩
 refine ⟨_, rfl, fun a hA => ?_⟩
 revert a; (iterate 2 refine wo rfl rfl (by decide) (fun ev e h => by simp [go_sem, h] <;> rfl) ?_); intro a hA
 replace hA := hA.keepN [4]
 refine wN (nT (wp_ret ?_))
 refine ret_1 hA 4 rfl rfl ?_
 exact ⟨ret_bool (by rw [idxV_has, fget_some]), Below.refl _ _⟩
end Go.Proofs.YtkljkbeahdipfaaGreatDoor
/-
  Walks: is a number among some, are two rows of places the same; store.stray.
-/
namespace Go.Proofs.YtkljkbeahdipfaaGreatDoor
open Go.RowKit
set_option linter.unusedSimpArgs false
set_option linter.unusedVariables false
set_option linter.unusedSimpArgs false
set_option linter.unusedVariables false
set_option maxRecDepth 100000 in
set_option maxHeartbeats 4000000 in
theorem indexI_any (l : List Int) (v : Int) (A : Option Addr) (c : Nat) (w : World) (hr : RowR intsSh w A l) (hl : l.length ≤ 1000000) : Calls Tryz.prog 200 #[.slice A l.length c, .int .i64 v] w fun ev w' => ∃ i : Int, ev = .returned (.int .i64 i) ∧ decide (0 ≤ i) = decide (v ∈ l) ∧ Below w.heap.size w w' := by
 obtain ⟨q, hq0⟩ : ∃ q, l.length = q := ⟨_, rfl⟩
 rw [hq0] at hl ⊢
 refine calls_at 19 Tryz.func200 rfl rfl (Nat.le_of_ble_eq_true rfl) ?_
 intro a hA; replace hA := hA.norm
 refine wS (wR ?_)
 revert a; refine wo rfl rfl (by decide) (fun ev e h => by simp [go_sem, h] <;> rfl) ?_; intro a hA
 replace hA := hA.keepN [0, 1]
 refine wN (nT (wS (wS (wR ?_))))
 revert a; (iterate 3 refine wo rfl rfl (by decide) (fun ev e h => by simp [go_sem, h] <;> rfl) ?_); intro a hA
 replace hA := hA.keepN [0, 1, 7, 8]
 refine wN (nT (wB ?_))
 refine wp_loop_at (fun k a wx => ∃ j : Nat, j + k = q ∧ (∀ x ∈ l.take j, x ≠ v) ∧ w = wx ∧ At 19 [(0, .slice A q c), (1, .int .i64 v), (7, .int .i64 (q : Nat)), (8, .int .i64 (j : Nat))] a) (q) ?_ ?_
 ·exact ⟨0, by omega, fun x hx => (by cases hx), rfl, hA⟩
 clear hA
 rintro k a wx ⟨j, hjk, hno, rfl, hA⟩
 refine wS (wR ?_)
 revert a; refine wo rfl rfl (by decide) (fun ev e h => by simp [go_sem, h] <;> rfl) ?_; intro a hA
 replace hA := hA.keepN [0, 1, 7, 8, 9]
 refine wN (nT (wS ?_))
 refine wp_if hA 9 _ rfl (fun hq => ?yA) (fun hq => ?nA)
 case nA =>
  have hjn : j = q := by simp at hq; omega
  rw [hjn, ← hq0, List.take_length] at hno
  replace hA := hA.keepN []
  refine wp_exit (xT (xT (xB (nT (wS (wR ?_))))))
  revert a; refine wo rfl rfl (by decide) (fun ev e h => by simp [go_sem, h] <;> rfl) ?_; intro a hA
  replace hA := hA.keepN [4]
  refine wN (nT (wp_ret ?_))
  refine ret_1 hA 4 rfl rfl ?_
  refine ⟨-1, rfl, ?_, Below.refl _ _⟩
  have : v ∉ l := fun h => hno v h rfl
  simp [this]
 case yA =>
  have hjn : j < q := by simp at hq; omega
  obtain ⟨x, hx⟩ : ∃ x, l[j]? = some x := ⟨_, List.getElem?_eq_getElem (by omega)⟩
  obtain ⟨ad, hA9, _, q0, -⟩ := hr.cell hx
  have hcell : w.cell? (ad.add j) = some (.int .i64 x) := by
   have h1 : w.cell? (ad.add (j * 1)) = some (.int .i64 x) := q0 _ rfl
   rwa [Nat.mul_one] at h1
  have jj0 : (0 : Int) ≤ (j : Int) := by omega
  have jj1 : (j : Int) < (q : Int) := by omega
  have i3 : IntKind.i64.wrap (((j : Nat) : Int) + 1) = ((j + 1 : Nat) : Int) := by rw [IntWalk.i64_in _ (by omega)]; omega
  refine wp_skip (nT (wS (wB (wS (wR ?_)))))
  revert a; (iterate 2 refine wo rfl rfl (by decide) (fun ev e h => by simp [go_sem, h, hA9, hcell, jj0, jj1, hjn] <;> rfl) ?_); intro a hA
  replace hA := hA.keepN [0, 1, 5, 7, 8]
  refine wN (nT (wS (wR ?_)))
  revert a; (iterate 6 refine wo rfl rfl (by decide) (fun ev e h => by simp [go_sem, h, hA9, hcell, jj0, jj1, hjn] <;> rfl) ?_); intro a hA
  replace hA := hA.keepN [0, 1, 5, 7, 8, 16]
  refine wN (nT ?_)
  refine wp_if hA 16 _ rfl (fun hq2 => ?yB) (fun hq2 => ?nB)
  case nB =>
   have hn : x ≠ v := by rintro rfl; simp at hq2
   refine wp_skip (nB (nT (wR ?_)))
   revert a; (iterate 2 refine wo rfl rfl (by decide) (fun ev e h => by simp [go_sem, h, i3] <;> rfl) ?_); intro a hA
   replace hA := hA.keepN [0, 1, 7, 8]
   refine wN (nT ?_)
   refine ⟨k - 1, by omega, j + 1, by omega, fun y hy => ?_, rfl, hA⟩
   rw [List.take_add_one, hx] at hy
   rcases List.mem_append.1 hy with h | h
   ·exact hno y h
   ·rw [List.mem_singleton.1 h]; exact hn
  case yB =>
   have hn : x = v := (by simpa using hq2 : v = x).symm
   refine wS (wR ?_)
   revert a; (iterate 2 refine wo rfl rfl (by decide) (fun ev e h => by simp [go_sem, h, hA9, hcell, jj0, jj1, hjn] <;> rfl) ?_); intro a hA
   replace hA := hA.keepN [4]
   refine wN (nT (wp_ret (rB (rT (rT (rB (rT ?_)))))))
   refine ret_1 hA 4 rfl rfl ?_
   refine ⟨(j : Int), rfl, ?_, Below.refl _ _⟩
   have : v ∈ l := by rw [← hn]; exact List.mem_of_getElem? hx
   rw [decide_eq_true jj0, decide_eq_true this]
set_option maxRecDepth 100000 in
theorem containsI_any (l : List Int) (v : Int) (A : Option Addr) (c : Nat) (w : World) (hr : RowR intsSh w A l) (hl : l.length ≤ 1000000) : Calls Tryz.prog 146 #[.slice A l.length c, .int .i64 v] w fun ev w' => ev = .returned (.bool (decide (v ∈ l))) ∧ Below w.heap.size w w' := by
 refine calls_at 9 Tryz.func146 rfl rfl (Nat.le_of_ble_eq_true rfl) ?_
 intro a hA; replace hA := hA.norm
 refine wS (wR ?_)
 revert a; refine wo rfl rfl (by decide) (fun ev e h => by simp [go_sem, h] <;> rfl) ?_; intro a hA
 replace hA := hA.keepN [0, 1]
 refine wN (nT (wS (wR ?_)))
 revert a; (iterate 2 refine wo rfl rfl (by decide) (fun ev e h => by simp [go_sem, h] <;> rfl) ?_); intro a hA
 refine wl_call hA rfl rfl (by decide) (fun ev h => exec_call Tryz.func200 (by kernel_rfl) rfl (h.f _) (by first | (simp only [mL, h.get 5 rfl, h.get 6 rfl, h.c] <;> rfl) | (simp [mL, h.get 5 rfl, h.get 6 rfl, h.c] <;> rfl))) (indexI_any l v A c w hr hl) ?_
 rintro e w1 ⟨i, rfl, hi, hb⟩
 refine ⟨_, rfl, fun a hA => ?_⟩
 revert a; (iterate 2 refine wo rfl rfl (by decide) (fun ev e h => by simp [go_sem, h] <;> rfl) ?_); intro a hA
 replace hA := hA.keepN [4]
 refine wN (nT (wp_ret ?_))
 refine ret_1 hA 4 rfl rfl ?_
 exact ⟨ret_bool (by rw [← hi]), hb⟩
theorem sameP_at {l m : List PlaceM} {j : Nat} {x y : PlaceM} (hx : l[j]? = some x) (hy : m[j]? = some y) : decide (l.drop j = m.drop j) = (decide (x = y) && decide (l.drop (j + 1) = m.drop (j + 1))) := by
 have hj := (List.getElem?_eq_some_iff.1 hx).1
 have hj2 := (List.getElem?_eq_some_iff.1 hy).1
 rw [List.drop_eq_getElem_cons hj, (List.getElem?_eq_some_iff.1 hx).2, List.drop_eq_getElem_cons hj2, (List.getElem?_eq_some_iff.1 hy).2]
 simp only [List.cons.injEq, Bool.decide_and]
theorem bytes_ne {a b : ByteArray} (h : a ≠ b) : ¬ a.toList = b.toList := fun e => h (by
 rw [ByteArray.toList_eq, ByteArray.toList_eq] at e
 exact ByteArray.ext (Array.ext' e))
set_option maxRecDepth 100000 in
set_option maxHeartbeats 4000000 in
theorem eqP_any (A A2 : Option Addr) (c c2 : Nat) (l l2 : List PlaceM) (w : World) (hn : l.length ≤ 100000000) (hr : RowR plSh w A l) (hr2 : RowR plSh w A2 l2) :
 Calls Tryz.prog 88 #[.slice A l.length c, .slice A2 l2.length c2] w fun ev w' => ev = .returned (.bool (decide (l = l2))) ∧ Below w.heap.size w w' := by
 obtain ⟨n, hl⟩ : ∃ n, l.length = n := ⟨_, rfl⟩
 obtain ⟨n2, hl2⟩ : ∃ n, l2.length = n := ⟨_, rfl⟩
 rw [hl] at hn ⊢
 rw [hl2]
 have HB := Below.refl w.heap.size w
 refine calls_at 26 Tryz.func88 rfl rfl (Nat.le_of_ble_eq_true rfl) ?_
 intro a hA; replace hA := hA.norm
 refine wS (wR ?_)
 revert a; refine wo rfl rfl (by decide) (fun ev e h => by simp [go_sem, h] <;> rfl) ?_; intro a hA
 replace hA := hA.keepN [0, 1]
 refine wN (nT (wS (wS (wR ?_))))
 revert a; (iterate 5 refine wo rfl rfl (by decide) (fun ev e h => by simp [go_sem, h] <;> rfl) ?_); intro a hA
 replace hA := hA.keepN [0, 1, 10]
 refine wN (nT ?_)
 refine wp_if hA 10 _ rfl (fun hq0 => ?yE) (fun hq0 => ?nE)
 case yE =>
  have hne : ¬ n = n2 := by simp at hq0; omega
  refine wS (wR ?_)
  revert a; refine wo rfl rfl (by decide) (fun ev e h => by simp [go_sem, h] <;> rfl) ?_; intro a hA
  replace hA := hA.keepN [4]
  refine wN (nT (wp_ret (rT ?_)))
  refine ret_1 hA 4 rfl rfl ?_
  refine ⟨ret_bool (Eq.symm (decide_eq_false fun e => hne ?_)), HB⟩
  rw [← hl, ← hl2, e]
 case nE =>
  obtain rfl : n = n2 := by simp at hq0; omega
  refine wp_skip (nT (wS (wS (wR ?_))))
  revert a; (iterate 3 refine wo rfl rfl (by decide) (fun ev e h => by simp [go_sem, h] <;> rfl) ?_); intro a hA
  replace hA := hA.keepN [0, 1, 12, 13]
  refine wN (nT (wB ?_))
  refine wp_loop_at (fun k a wx => ∃ (j : Nat), j + k = n ∧ decide (l = l2) = decide (l.drop j = l2.drop j) ∧ Below w.heap.size w wx ∧ At 26 [(0, .slice A n c), (1, .slice A2 n c2), (12, .int .i64 (n : Nat)), (13, .int .i64 (j : Nat))] a) (n) ?_ ?_
  ·exact ⟨0, by omega, rfl, HB, hA⟩
  clear HB hA
  rintro k a wx ⟨j, hjk, hall, HB, hA⟩
  have hwj : IntKind.i64.wrap ((j : Int) + 1) = ((j + 1 : Nat) : Int) := by rw [IntWalk.i64_in _ (by omega)]; omega
  refine wS (wR ?_)
  revert a; refine wo rfl rfl (by decide) (fun ev e h => by simp [go_sem, h] <;> rfl) ?_; intro a hA
  replace hA := hA.keepN [0, 1, 12, 13, 14]
  refine wN (nT (wS ?_))
  refine wp_if hA 14 _ rfl (fun hq => ?yL) (fun hq => ?nL)
  case yL =>
   have hlt : j < n := by simp at hq; omega
   obtain ⟨x, hx⟩ : ∃ x, l[j]? = some x := ⟨_, List.getElem?_eq_getElem (by omega)⟩
   obtain ⟨y, hy⟩ : ∃ y, l2[j]? = some y := ⟨_, List.getElem?_eq_getElem (by omega)⟩
   rw [sameP_at hx hy] at hall
   obtain ⟨ad, hA9, hadl, k0, k1⟩ := (hr.below HB).cell hx
   obtain ⟨ad2, hA29, hadl2, l0, l1⟩ := (hr2.below HB).cell hy
   have z0 : wx.cell? (ad.add (j * 2)) = some (.int .i64 x.1) := k0 _ rfl
   have z1 : wx.cell? ⟨(ad.add (j * 2)).block, (ad.add (j * 2)).off + 1, none⟩ = some (.string x.2) := k1 1 _ (by decide) rfl
   have y0 : wx.cell? (ad2.add (j * 2)) = some (.int .i64 y.1) := l0 _ rfl
   have y1 : wx.cell? ⟨(ad2.add (j * 2)).block, (ad2.add (j * 2)).off + 1, none⟩ = some (.string y.2) := l1 1 _ (by decide) rfl
   have jj0 : (0 : Int) ≤ (j : Int) := by omega
   have jj1 : (j : Int) < (n : Int) := by omega
   have hb1 : ∀ i, (⟨(ad.add (j * 2)).block, i, none⟩ : Addr).block < wx.heap.size := fun i => by show (ad.add (j * 2)).block < _; rw [block_of_add]; exact hadl
   have hb2 : ∀ i, (⟨(ad2.add (j * 2)).block, i, none⟩ : Addr).block < wx.heap.size := fun i => by show (ad2.add (j * 2)).block < _; rw [block_of_add]; exact hadl2
   refine wp_skip (nT (wS (wB (wS (wR ?_)))))
   revert a; (iterate 2 refine wo rfl rfl (by decide) (fun ev e h => by simp [go_sem, h] <;> rfl) ?_); intro a hA
   replace hA := hA.keepN [0, 1, 5, 12, 13]
   refine wN (nT (wS ?_))
   by_cases hxy : x = y
   ·have e1 : x.1 = y.1 := by rw [hxy]
    have e2 : x.2.toList = y.2.toList := by rw [hxy]
    have pRa := fun (wo : World) (hC : (fun wy => Below wx.heap.size wx wy) wo) => have v0 := (hC.cell (p := ad.add (j * 2)) (by rw [block_of_add]; exact hadl)).trans z0; have v1 := (hC.cell (p := ⟨(ad.add (j * 2)).block, (ad.add (j * 2)).off + 1, none⟩) (hb1 _)).trans z1; have v2 := (hC.cell (p := ad2.add (j * 2)) (by rw [block_of_add]; exact hadl2)).trans y0; have v3 := (hC.cell (p := ⟨(ad2.add (j * 2)).block, (ad2.add (j * 2)).off + 1, none⟩) (hb2 _)).trans y1; And.intro (v0) (And.intro (v1) (And.intro (v2) (v3)))
    refine wp_any_at hA [(.det ?dRa0), (.det ?dRa1), (.det ?dRa2), (.det ?dRa3), (.det ?dRa4), (.det ?dRa5), (.det ?dRa6), (.det ?dRa7), (.det ?dRa8)] [] (fun wy => Below wx.heap.size wx wy) (TSp [] Grows) (by kernel_rfl) rfl (by kernel_rfl) (by kernel_rfl) rfl ((Below.refl _ _).drew) (stab_sp [] [true, true, true, true, true, true, true, true, true] [true, true, true, true, true, true, true, true, true] [] rfl rfl rfl (by kernel_rfl) ⟨trivial, trivial, trivial, trivial, trivial, trivial, trivial, trivial, trivial, trivial⟩ trivial) (fun _ h => by cases h) (fun _ _ _ _ _ h => by cases h) (fun _ h => by cases h) ⟨?oRa0, ?oRa1, ?oRa2, ?oRa3, ?oRa4, ?oRa5, ?oRa6, ?oRa7, ?oRa8, trivial⟩ (by kernel_rfl) ?fRa
    case oRa0 => intro ev wo hev hC hs hph; have x0 := se hA hs 0; exact od rfl rfl (by kernel_rfl) hC (TSp.of rfl (Grows.refl _)) (by simp [go_sem, x0] <;> rfl)
    case oRa1 => intro ev wo hev hC hs hph; have x0 := se hA hs 5; exact od rfl rfl (by kernel_rfl) hC (TSp.of rfl (Grows.refl _)) (by simp [go_sem, x0] <;> rfl)
    case oRa2 => intro ev wo hev hC hs hph; have x0 := sd hs 16 0; have x1 := sd hs 17 1; exact od rfl rfl (by kernel_rfl) hC (TSp.of rfl (Grows.refl _)) (by simp [go_sem, x0, x1, hA9, jj0, jj1, hlt] <;> rfl)
    case oRa3 => intro ev wo hev hC hs hph; have x0 := sd hs 18 2; exact od rfl rfl (by kernel_rfl) hC (TSp.of rfl (Grows.refl _)) (by simp [go_sem, x0, pRa _ hC] <;> rfl)
    case oRa4 => intro ev wo hev hC hs hph; have x0 := se hA hs 1; exact od rfl rfl (by kernel_rfl) hC (TSp.of rfl (Grows.refl _)) (by simp [go_sem, x0] <;> rfl)
    case oRa5 => intro ev wo hev hC hs hph; have x0 := se hA hs 5; exact od rfl rfl (by kernel_rfl) hC (TSp.of rfl (Grows.refl _)) (by simp [go_sem, x0] <;> rfl)
    case oRa6 => intro ev wo hev hC hs hph; have x0 := sd hs 20 4; have x1 := sd hs 21 5; exact od rfl rfl (by kernel_rfl) hC (TSp.of rfl (Grows.refl _)) (by simp [go_sem, x0, x1, hA29, jj0, jj1, hlt] <;> rfl)
    case oRa7 => intro ev wo hev hC hs hph; have x0 := sd hs 22 6; exact od rfl rfl (by kernel_rfl) hC (TSp.of rfl (Grows.refl _)) (by simp [go_sem, x0, pRa _ hC] <;> rfl)
    case oRa8 => intro ev wo hev hC hs hph; have x0 := sd hs 19 3; have x1 := sd hs 23 7; exact od rfl rfl (by kernel_rfl) hC (TSp.of rfl (Grows.refl _)) (by simp [go_sem, x0, x1, e1, e2] <;> rfl)
    intro sg wf hC hph
    intro a hA
    replace hA := hA.keepN [0, 1, 12, 13, 24]
    refine nT ?_
    refine wp_if hA 24 _ rfl (fun hq2 => ?yTa) (fun hq2 => ?nTa)
    case yTa => cases hq2
    case nTa =>
     refine wp_skip (nB (nT (wR ?_)))
     revert a; (iterate 2 refine wo rfl rfl (by decide) (fun ev e h => by simp [go_sem, h, hwj] <;> rfl) ?_); intro a hA
     replace hA := hA.keepN [0, 1, 12, 13]
     refine wN (nT ?_)
     rw [decide_eq_true hxy, Bool.true_and] at hall
     exact ⟨k - 1, by omega, j + 1, by omega, hall, HB.trans (hC.mono HB.size), hA⟩
   ·by_cases e1 : x.1 = y.1
    ·have e2 : ¬ x.2.toList = y.2.toList := bytes_ne fun e => hxy (Prod.ext e1 e)
     have pRb := fun (wo : World) (hC : (fun wy => Below wx.heap.size wx wy) wo) => have v0 := (hC.cell (p := ad.add (j * 2)) (by rw [block_of_add]; exact hadl)).trans z0; have v1 := (hC.cell (p := ⟨(ad.add (j * 2)).block, (ad.add (j * 2)).off + 1, none⟩) (hb1 _)).trans z1; have v2 := (hC.cell (p := ad2.add (j * 2)) (by rw [block_of_add]; exact hadl2)).trans y0; have v3 := (hC.cell (p := ⟨(ad2.add (j * 2)).block, (ad2.add (j * 2)).off + 1, none⟩) (hb2 _)).trans y1; And.intro (v0) (And.intro (v1) (And.intro (v2) (v3)))
     refine wp_any_at hA [(.det ?dRb0), (.det ?dRb1), (.det ?dRb2), (.det ?dRb3), (.det ?dRb4), (.det ?dRb5), (.det ?dRb6), (.det ?dRb7), (.det ?dRb8)] [] (fun wy => Below wx.heap.size wx wy) (TSp [] Grows) (by kernel_rfl) rfl (by kernel_rfl) (by kernel_rfl) rfl ((Below.refl _ _).drew) (stab_sp [] [true, true, true, true, true, true, true, true, true] [true, true, true, true, true, true, true, true, true] [] rfl rfl rfl (by kernel_rfl) ⟨trivial, trivial, trivial, trivial, trivial, trivial, trivial, trivial, trivial, trivial⟩ trivial) (fun _ h => by cases h) (fun _ _ _ _ _ h => by cases h) (fun _ h => by cases h) ⟨?oRb0, ?oRb1, ?oRb2, ?oRb3, ?oRb4, ?oRb5, ?oRb6, ?oRb7, ?oRb8, trivial⟩ (by kernel_rfl) ?fRb
     case oRb0 => intro ev wo hev hC hs hph; have x0 := se hA hs 0; exact od rfl rfl (by kernel_rfl) hC (TSp.of rfl (Grows.refl _)) (by simp [go_sem, x0] <;> rfl)
     case oRb1 => intro ev wo hev hC hs hph; have x0 := se hA hs 5; exact od rfl rfl (by kernel_rfl) hC (TSp.of rfl (Grows.refl _)) (by simp [go_sem, x0] <;> rfl)
     case oRb2 => intro ev wo hev hC hs hph; have x0 := sd hs 16 0; have x1 := sd hs 17 1; exact od rfl rfl (by kernel_rfl) hC (TSp.of rfl (Grows.refl _)) (by simp [go_sem, x0, x1, hA9, jj0, jj1, hlt] <;> rfl)
     case oRb3 => intro ev wo hev hC hs hph; have x0 := sd hs 18 2; exact od rfl rfl (by kernel_rfl) hC (TSp.of rfl (Grows.refl _)) (by simp [go_sem, x0, pRb _ hC, hwj] <;> rfl)
     case oRb4 => intro ev wo hev hC hs hph; have x0 := se hA hs 1; exact od rfl rfl (by kernel_rfl) hC (TSp.of rfl (Grows.refl _)) (by simp [go_sem, x0] <;> rfl)
     case oRb5 => intro ev wo hev hC hs hph; have x0 := se hA hs 5; exact od rfl rfl (by kernel_rfl) hC (TSp.of rfl (Grows.refl _)) (by simp [go_sem, x0] <;> rfl)
     case oRb6 => intro ev wo hev hC hs hph; have x0 := sd hs 20 4; have x1 := sd hs 21 5; exact od rfl rfl (by kernel_rfl) hC (TSp.of rfl (Grows.refl _)) (by simp [go_sem, x0, x1, hA29, jj0, jj1, hlt] <;> rfl)
     case oRb7 => intro ev wo hev hC hs hph; have x0 := sd hs 22 6; exact od rfl rfl (by kernel_rfl) hC (TSp.of rfl (Grows.refl _)) (by simp [go_sem, x0, pRb _ hC, hwj] <;> rfl)
     case oRb8 => intro ev wo hev hC hs hph; have x0 := sd hs 19 3; have x1 := sd hs 23 7; exact od rfl rfl (by kernel_rfl) hC (TSp.of rfl (Grows.refl _)) (by simp [go_sem, x0, x1, e1, e2] <;> rfl)
     intro sg wf hC hph
     intro a hA
     replace hA := hA.keepN [0, 1, 12, 13, 24]
     refine nT ?_
     refine wp_if hA 24 _ rfl (fun hq2 => ?yTb) (fun hq2 => ?nTb)
     case nTb => cases hq2
     case yTb =>
      refine wS (wR ?_)
      revert a; refine wo rfl rfl (by decide) (fun ev e h => by simp [go_sem, h, hwj] <;> rfl) ?_; intro a hA
      replace hA := hA.keepN [4]
      refine wN (nT (wp_ret (rB (rT (rT (rB (rT ?_)))))))
      refine ret_1 hA 4 rfl rfl ?_
      rw [decide_eq_false hxy, Bool.false_and] at hall
      exact ⟨by rw [hall], HB.trans (hC.mono HB.size)⟩
    ·have e0 : True := trivial
     have pRc := fun (wo : World) (hC : (fun wy => Below wx.heap.size wx wy) wo) => have v0 := (hC.cell (p := ad.add (j * 2)) (by rw [block_of_add]; exact hadl)).trans z0; have v1 := (hC.cell (p := ⟨(ad.add (j * 2)).block, (ad.add (j * 2)).off + 1, none⟩) (hb1 _)).trans z1; have v2 := (hC.cell (p := ad2.add (j * 2)) (by rw [block_of_add]; exact hadl2)).trans y0; have v3 := (hC.cell (p := ⟨(ad2.add (j * 2)).block, (ad2.add (j * 2)).off + 1, none⟩) (hb2 _)).trans y1; And.intro (v0) (And.intro (v1) (And.intro (v2) (v3)))
     refine wp_any_at hA [(.det ?dRc0), (.det ?dRc1), (.det ?dRc2), (.det ?dRc3), (.det ?dRc4), (.det ?dRc5), (.det ?dRc6), (.det ?dRc7), (.det ?dRc8)] [] (fun wy => Below wx.heap.size wx wy) (TSp [] Grows) (by kernel_rfl) rfl (by kernel_rfl) (by kernel_rfl) rfl ((Below.refl _ _).drew) (stab_sp [] [true, true, true, true, true, true, true, true, true] [true, true, true, true, true, true, true, true, true] [] rfl rfl rfl (by kernel_rfl) ⟨trivial, trivial, trivial, trivial, trivial, trivial, trivial, trivial, trivial, trivial⟩ trivial) (fun _ h => by cases h) (fun _ _ _ _ _ h => by cases h) (fun _ h => by cases h) ⟨?oRc0, ?oRc1, ?oRc2, ?oRc3, ?oRc4, ?oRc5, ?oRc6, ?oRc7, ?oRc8, trivial⟩ (by kernel_rfl) ?fRc
     case oRc0 => intro ev wo hev hC hs hph; have x0 := se hA hs 0; exact od rfl rfl (by kernel_rfl) hC (TSp.of rfl (Grows.refl _)) (by simp [go_sem, x0] <;> rfl)
     case oRc1 => intro ev wo hev hC hs hph; have x0 := se hA hs 5; exact od rfl rfl (by kernel_rfl) hC (TSp.of rfl (Grows.refl _)) (by simp [go_sem, x0] <;> rfl)
     case oRc2 => intro ev wo hev hC hs hph; have x0 := sd hs 16 0; have x1 := sd hs 17 1; exact od rfl rfl (by kernel_rfl) hC (TSp.of rfl (Grows.refl _)) (by simp [go_sem, x0, x1, hA9, jj0, jj1, hlt] <;> rfl)
     case oRc3 => intro ev wo hev hC hs hph; have x0 := sd hs 18 2; exact od rfl rfl (by kernel_rfl) hC (TSp.of rfl (Grows.refl _)) (by simp [go_sem, x0, pRc _ hC, hwj] <;> rfl)
     case oRc4 => intro ev wo hev hC hs hph; have x0 := se hA hs 1; exact od rfl rfl (by kernel_rfl) hC (TSp.of rfl (Grows.refl _)) (by simp [go_sem, x0] <;> rfl)
     case oRc5 => intro ev wo hev hC hs hph; have x0 := se hA hs 5; exact od rfl rfl (by kernel_rfl) hC (TSp.of rfl (Grows.refl _)) (by simp [go_sem, x0] <;> rfl)
     case oRc6 => intro ev wo hev hC hs hph; have x0 := sd hs 20 4; have x1 := sd hs 21 5; exact od rfl rfl (by kernel_rfl) hC (TSp.of rfl (Grows.refl _)) (by simp [go_sem, x0, x1, hA29, jj0, jj1, hlt] <;> rfl)
     case oRc7 => intro ev wo hev hC hs hph; have x0 := sd hs 22 6; exact od rfl rfl (by kernel_rfl) hC (TSp.of rfl (Grows.refl _)) (by simp [go_sem, x0, pRc _ hC, hwj] <;> rfl)
     case oRc8 => intro ev wo hev hC hs hph; have x0 := sd hs 19 3; have x1 := sd hs 23 7; exact od rfl rfl (by kernel_rfl) hC (TSp.of rfl (Grows.refl _)) (by simp [go_sem, x0, x1, e1] <;> rfl)
     intro sg wf hC hph
     intro a hA
     replace hA := hA.keepN [0, 1, 12, 13, 24]
     refine nT ?_
     refine wp_if hA 24 _ rfl (fun hq2 => ?yTc) (fun hq2 => ?nTc)
     case nTc => cases hq2
     case yTc =>
      refine wS (wR ?_)
      revert a; refine wo rfl rfl (by decide) (fun ev e h => by simp [go_sem, h, hwj] <;> rfl) ?_; intro a hA
      replace hA := hA.keepN [4]
      refine wN (nT (wp_ret (rB (rT (rT (rB (rT ?_)))))))
      refine ret_1 hA 4 rfl rfl ?_
      rw [decide_eq_false hxy, Bool.false_and] at hall
      exact ⟨by rw [hall], HB.trans (hC.mono HB.size)⟩
  case nL =>
   have hjn : j = n := by simp at hq; omega
   rw [hjn, List.drop_of_length_le (by omega), List.drop_of_length_le (by omega)] at hall
   replace hA := hA.keepN []
   refine wp_exit (xT (xT (xB (nT (wS (wR ?_))))))
   revert a; refine wo rfl rfl (by decide) (fun ev e h => by simp [go_sem, h] <;> rfl) ?_; intro a hA
   replace hA := hA.keepN [4]
   refine wN (nT (wp_ret ?_))
   refine ret_1 hA 4 rfl rfl ?_
   exact ⟨by rw [hall]; rfl, HB⟩
theorem logs_mem (d : DiskM) (n : Nat) (hn : n < 16) : decide ((n : Int) ∈ (logsD d).map fun n => ((n : Nat) : Int)) = hasD d (fileK kLog n) := by
 rw [Bool.eq_iff_iff, decide_eq_true_eq, List.mem_map]
 unfold logsD
 constructor
 ·rintro ⟨m, hm, e⟩
  have : m = n := by omega
  subst this
  exact (List.mem_filter.1 hm).2
 ·intro h
  exact ⟨n, List.mem_filter.2 ⟨List.mem_range.2 hn, h⟩, rfl⟩
theorem any_range_succ (f : Nat → Bool) (j : Nat) : (List.range (j + 1)).any f = ((List.range j).any f || f j) := by
 rw [List.range_succ, List.any_append]
 simp
theorem any_range_yes {f : Nat → Bool} {j n : Nat} (hj : j < n) (h : f j = true) : (List.range n).any f = true := List.any_eq_true.2 ⟨j, List.mem_range.2 hj, h⟩
/-- is a page there without its log? -/
def strayN (d : DiskM) (n : Nat) : Bool := !hasD d (fileK kLog n) && (hasD d (fileK kIdx n) || hasD d (fileK kFlg n))
set_option maxRecDepth 100000 in
set_option maxHeartbeats 8000000 in
theorem stray_at {w : World} {p mb N : Nat} {d : DiskM} (h : Dk w p mb d N) (hN : N < 900000) :
 Calls Tryz.prog 90 #[.pointer (some ⟨p, 0, none⟩)] w fun ev w' => ev = .returned (.bool (strayD d)) ∧ Below w.heap.size w w' := by
 have hsd : strayD d = ((List.range 16).any (strayN d) || hasD d kNew) := rfl
 have hfew := h.few
 refine calls_at 32 Tryz.func90 rfl rfl (Nat.le_of_ble_eq_true rfl) ?_
 intro a hA; replace hA := hA.norm
 refine wS (wR ?_)
 revert a; refine wo rfl rfl (by decide) (fun ev e h => by simp [go_sem, h] <;> rfl) ?_; intro a hA
 replace hA := hA.keepN [0]
 refine wN (nT (wS (wR ?_)))
 revert a; refine wo rfl rfl (by decide) (fun ev e h => by simp [go_sem, h] <;> rfl) ?_; intro a hA
 refine wl_call hA rfl rfl (by decide) (fun ev h => exec_call Tryz.func143 (by kernel_rfl) rfl (h.f _) (by first | (simp only [mL, h.get 5 rfl, h.c] <;> rfl) | (simp [mL, h.get 5 rfl, h.c] <;> rfl))) (logs_at h hN) ?_
 rintro e w1 ⟨V, rfl, hoL, hb1⟩
 refine ⟨_, rfl, fun a hA => ?_⟩
 obtain ⟨A, c, rfl, hrL, -⟩ := hoL.reads
 obtain ⟨L, hL⟩ : ∃ L, ((logsD d).map fun n => ((n : Nat) : Int)) = L := ⟨_, rfl⟩
 have hmem := logs_mem d
 have hLl : L.length ≤ 16 := by
  rw [← hL, List.length_map]
  unfold logsD
  have := List.length_filter_le (fun n => hasD d (fileK kLog n)) (List.range 16)
  rwa [List.length_range] at this
 rw [hL] at hA hrL hmem
 revert a; refine wo rfl rfl (by decide) (fun ev e h => by simp [go_sem, h] <;> rfl) ?_; intro a hA
 replace hA := hA.keepN [0, 3]
 refine wN (nT (wS (wS (wR ?_))))
 revert a; refine wo rfl rfl (by decide) (fun ev e h => by simp [go_sem, h] <;> rfl) ?_; intro a hA
 replace hA := hA.keepN [0, 3, 7]
 refine wN (nT (wB ?_))
 refine wp_loop_at (fun f a wx => ∃ j : Nat, j + f = 16 ∧ (List.range j).any (strayN d) = false ∧ Below w1.heap.size w1 wx ∧ At 32 [(0, .pointer (some ⟨p, 0, none⟩)), (3, .slice A L.length c), (7, .int .i64 (j : Nat))] a) (16) ?_ ?_
 ·exact ⟨0, by omega, rfl, Below.refl _ _, hA⟩
 clear hA
 rintro f a wx ⟨j, hjf, hno, HX, hA⟩
 have jw : IntKind.i64.wrap ((j : Int) + 1) = ((j + 1 : Nat) : Int) := IntWalk.i64_in _ (by omega)
 have HW := hb1.trans (HX.mono hb1.size)
 have hD := h.below HW
 refine wS (wR ?_)
 revert a; refine wo rfl rfl (by decide) (fun ev e h => by simp [go_sem, h] <;> rfl) ?_; intro a hA
 replace hA := hA.keepN [0, 3, 7, 8]
 refine wN (nT (wS ?_))
 refine wp_if hA 8 _ rfl (fun hq => ?yA) (fun hq => ?nA)
 case nA =>
  have hj : j = 16 := by simp at hq; omega
  rw [hj] at hno
  replace hA := hA.keepN [0]
  refine wp_exit (xT (xT (xB (nT (wS (wR ?_))))))
  revert a; refine wo rfl rfl (by decide) (fun ev e h => by simp [go_sem, h] <;> rfl) ?_; intro a hA
  refine wl_call hA rfl rfl (by decide) (fun ev h => exec_call Tryz.func78 (by kernel_rfl) rfl (h.f _) (by first | (simp only [mL, h.get 29 rfl, h.c] <;> rfl) | (simp [mL, h.get 29 rfl, h.c] <;> rfl))) (hD.names (by omega)) ?_
  rintro e w2 ⟨An, cn, rfl, hrn, hb2⟩
  refine ⟨_, rfl, fun a hA => ?_⟩
  have hk := hasKey_any An cn d.files kNew w2 (by omega) hrn
  obtain ⟨q9, hq9⟩ : ∃ x, d.files.length = x := ⟨_, rfl⟩
  rw [hq9] at hA hk
  refine wl_call hA rfl rfl (by decide) (fun ev h => exec_call Tryz.func105 (by kernel_rfl) rfl (h.f _) (by first | (simp only [mL, h.get 30 rfl, h.c] <;> rfl) | (simp [mL, h.get 30 rfl, h.c] <;> rfl))) (hk) ?_
  rintro e w3 ⟨rfl, hb3⟩
  refine ⟨_, rfl, fun a hA => ?_⟩
  revert a; refine wo rfl rfl (by decide) (fun ev e h => by simp [go_sem, h] <;> rfl) ?_; intro a hA
  replace hA := hA.keepN [2]
  refine wN (nT (wp_ret ?_))
  refine ret_1 hA 2 rfl rfl ?_
  rw [hsd, hno, Bool.false_or]
  exact ⟨rfl, (HW.trans (hb2.mono HW.size)).trans (hb3.mono (HW.trans (hb2.mono HW.size)).size)⟩
 case yA =>
  have hj : j < 16 := by simp at hq; omega
  refine wp_skip (nT (wS (wB (wS (wR ?_)))))
  revert a; (iterate 2 refine wo rfl rfl (by decide) (fun ev e h => by simp [go_sem, h] <;> rfl) ?_); intro a hA
  replace hA := hA.keepN [0, 3, 4, 7]
  refine wN (nT (wS (wR ?_)))
  revert a; (iterate 2 refine wo rfl rfl (by decide) (fun ev e h => by simp [go_sem, h] <;> rfl) ?_); intro a hA
  refine wl_call hA rfl rfl (by decide) (fun ev h => exec_call Tryz.func146 (by kernel_rfl) rfl (h.f _) (by first | (simp only [mL, h.get 10 rfl, h.get 11 rfl, h.c] <;> rfl) | (simp [mL, h.get 10 rfl, h.get 11 rfl, h.c] <;> rfl))) (containsI_any L (j : Int) A c _ (hrL.below HX) (by omega)) ?_
  rintro e w2 ⟨rfl, hb2⟩
  refine ⟨_, rfl, fun a hA => ?_⟩
  rw [hmem j hj] at hA
  obtain ⟨b1, hb1'⟩ : ∃ b, hasD d (fileK kLog j) = b := ⟨_, rfl⟩
  rw [hb1'] at hA
  have HX2 := HX.trans (hb2.mono HX.size)
  have HW2 := HW.trans (hb2.mono HW.size)
  have hD2 := hD.below hb2
  have hsn : strayN d j = (!b1 && (hasD d (fileK kIdx j) || hasD d (fileK kFlg j))) := by unfold strayN; rw [hb1']
  obtain ⟨q9, hq9⟩ : ∃ x, d.files.length = x := ⟨_, rfl⟩
  cases b1 with
  | true =>
    revert a; (iterate 2 refine wo rfl rfl (by decide) (fun ev e h => by simp [go_sem, h] <;> rfl) ?_); intro a hA
    refine wl_guard _ (v := .bool false) hA rfl rfl rfl rfl (by decide) (fun hq ev h => by first | (cases hq; done) | (cases hr; done)) fun a hA => ?_
    refine wl_guard _ (v := .bool false) hA rfl rfl rfl rfl (by decide) (fun hq ev h => by first | (cases hq; done) | (cases hr; done)) fun a hA => ?_
    refine wl_guard _ (v := .bool false) hA rfl rfl rfl rfl (by decide) (fun hq ev h => by first | (cases hq; done) | (cases hr; done)) fun a hA => ?_
    refine wl_guard _ (v := .bool false) hA rfl rfl rfl rfl (by decide) (fun hq ev h => by first | (cases hq; done) | (cases hr; done)) fun a hA => ?_
    refine wl_guard _ (v := .bool false) hA rfl rfl rfl rfl (by decide) (fun hq ev h => by first | (cases hq; done) | (cases hr; done)) fun a hA => ?_
    refine wl_guard _ (v := .bool false) hA rfl rfl rfl rfl (by decide) (fun hq ev h => by first | (cases hq; done) | (cases hr; done)) fun a hA => ?_
    replace hA := hA.keepN [0, 3, 4, 7, 14, 20]
    refine wl_guard2 _ _ (v := .bool false) hA rfl rfl rfl rfl (by decide) (fun hq hr ev h => by first | (cases hq; done) | (cases hr; done)) fun a hA => ?_
    refine wl_guard2 _ _ (v := .bool false) hA rfl rfl rfl rfl (by decide) (fun hq hr ev h => by first | (cases hq; done) | (cases hr; done)) fun a hA => ?_
    refine wl_guard2 _ _ (v := .bool false) hA rfl rfl rfl rfl (by decide) (fun hq hr ev h => by first | (cases hq; done) | (cases hr; done)) fun a hA => ?_
    refine wl_guard2 _ _ (v := .bool false) hA rfl rfl rfl rfl (by decide) (fun hq hr ev h => by first | (cases hq; done) | (cases hr; done)) fun a hA => ?_
    refine wl_guard2 _ _ (v := .bool false) hA rfl rfl rfl rfl (by decide) (fun hq hr ev h => by first | (cases hq; done) | (cases hr; done)) fun a hA => ?_
    refine wl_guard _ (v := .bool false) hA rfl rfl rfl rfl (by decide) (fun hq ev h => by first | (cases hq; done) | (cases hr; done)) fun a hA => ?_
    revert a; (first | refine wka rfl rfl (by decide) rfl rfl rfl ?_ | refine wo rfl rfl (by decide) (fun ev e h => by simp [go_sem, h, gv_or, gv_and] <;> rfl) ?_); intro a hA
    replace hA := hA.keepN [0, 3, 7, 27]
    refine wN (nT ?_)
    refine wp_if hA 27 _ rfl (fun hq2 => ?yB) (fun hq2 => ?nB)
    case yB => cases hq2
    case nB =>
     refine wp_skip (nB (nT (wR ?_)))
     revert a; (iterate 2 refine wo rfl rfl (by decide) (fun ev e h => by simp [go_sem, h, jw] <;> rfl) ?_); intro a hA
     replace hA := hA.keepN [0, 3, 7]
     refine wN (nT ?_)
     exact ⟨f - 1, by omega, j + 1, by omega, by rw [any_range_succ, hno, hsn]; rfl, HX2, hA⟩
  | false =>
    revert a; (iterate 2 refine wo rfl rfl (by decide) (fun ev e h => by simp [go_sem, h, jw] <;> rfl) ?_); refine wg _ rfl rfl rfl rfl (by decide) (fun hq ev e h => by simp [go_sem, h, ↓gw_t (beq_t hq), jw] <;> rfl) ?_; intro a hA
    refine wl_kcall hA rfl rfl rfl rfl (by decide) (fun ev h => exec_call Tryz.func78 (by kernel_rfl) rfl (h.f _) (by first | (simp only [mL, h.get 15 rfl, h.c] <;> rfl) | (simp [mL, h.get 15 rfl, h.c, jw] <;> rfl))) (hD2.names (by omega)) ?_
    rintro e w3 ⟨An, cn, rfl, hrn, hb3⟩
    refine ⟨_, rfl, fun a hA => ?_⟩
    rw [hq9] at hA hrn
    have hD3 := hD2.below hb3
    have HX3 := HX2.trans (hb3.mono HX2.size)
    have HW3 := HW2.trans (hb3.mono HW2.size)
    revert a; refine wg _ rfl rfl rfl rfl (by decide) (fun hq ev e h => by simp [go_sem, h, ↓gw_t (beq_t hq), jw] <;> rfl) ?_; intro a hA
    refine wl_kcall hA rfl rfl rfl rfl (by decide) (fun ev h => exec_call Tryz.func64 (by kernel_rfl) rfl (h.f _) (by first | (simp only [mL, h.get 17 rfl, h.c] <;> rfl) | (simp [mL, h.get 17 rfl, h.c, jw] <;> rfl))) (file_any kIdx (by decide) j (by omega) _) ?_
    rintro e w4 ⟨rfl, hb4⟩
    refine ⟨_, rfl, fun a hA => ?_⟩
    have hD4 := hD3.below hb4
    have HX4 := HX3.trans (hb4.mono HX3.size)
    have HW4 := HW3.trans (hb4.mono HW3.size)
    have hk := hasKey_any An cn d.files (fileK kIdx j) w4 (by omega) (by rw [hq9]; exact (hrn.below hb4).more hb4.size)
    rw [hq9] at hk
    refine wl_kcall hA rfl rfl rfl rfl (by decide) (fun ev h => exec_call Tryz.func105 (by kernel_rfl) rfl (h.f _) (by first | (simp only [mL, h.get 16 rfl, h.get 18 rfl, h.c] <;> rfl) | (simp [mL, h.get 16 rfl, h.get 18 rfl, h.c, jw] <;> rfl))) (hk) ?_
    rintro e w5 ⟨rfl, hb5⟩
    refine ⟨_, rfl, fun a hA => ?_⟩
    have hD5 := hD4.below hb5
    have HX5 := HX4.trans (hb5.mono HX4.size)
    have HW5 := HW4.trans (hb5.mono HW4.size)
    obtain ⟨b2, hb2'⟩ : ∃ b, hasD d (fileK kIdx j) = b := ⟨_, rfl⟩
    have hb2'' : (fget (fileK kIdx j) d.files).isSome = b2 := hb2'
    rw [hb2''] at hA
    rw [hb2'] at hsn
    cases b2 with
    | true =>
      revert a; refine wg _ rfl rfl rfl rfl (by decide) (fun hq ev e h => by simp [go_sem, h, ↓gw_t (beq_t hq), jw] <;> rfl) ?_; intro a hA
      refine wl_guard2 _ _ (v := .bool false) hA rfl rfl rfl rfl (by decide) (fun hq hr ev h => by first | (cases hq; done) | (cases hr; done)) fun a hA => ?_
      refine wl_guard2 _ _ (v := .bool false) hA rfl rfl rfl rfl (by decide) (fun hq hr ev h => by first | (cases hq; done) | (cases hr; done)) fun a hA => ?_
      refine wl_guard2 _ _ (v := .bool false) hA rfl rfl rfl rfl (by decide) (fun hq hr ev h => by first | (cases hq; done) | (cases hr; done)) fun a hA => ?_
      refine wl_guard2 _ _ (v := .bool false) hA rfl rfl rfl rfl (by decide) (fun hq hr ev h => by first | (cases hq; done) | (cases hr; done)) fun a hA => ?_
      refine wl_guard2 _ _ (v := .bool false) hA rfl rfl rfl rfl (by decide) (fun hq hr ev h => by first | (cases hq; done) | (cases hr; done)) fun a hA => ?_
      replace hA := hA.keepN [0, 3, 7, 14, 20, 25]
      refine wl_guard _ hA rfl rfl rfl rfl (by decide) (fun hq ev h => by exact pick_or rfl (((h.get 20 rfl).trans (gw_t (beq_t hq)))) (h.c _) (((h.get 25 rfl).trans (gw_a (beq_t hq))))) fun a hA => ?_
      revert a; (first | refine wka rfl rfl (by decide) rfl rfl rfl ?_ | refine wo rfl rfl (by decide) (fun ev e h => by simp [go_sem, h, gv_or, gv_and, jw] <;> rfl) ?_); intro a hA
      replace hA := hA.keepN [0, 3, 7, 27]
      refine wN (nT ?_)
      refine wp_if hA 27 _ rfl (fun hq2 => ?yB2) (fun hq2 => ?nB2)
      case nB2 => cases hq2
      case yB2 =>
       refine wS (wR ?_)
       revert a; refine wo rfl rfl (by decide) (fun ev e h => by simp [go_sem, h, jw] <;> rfl) ?_; intro a hA
       replace hA := hA.keepN [2]
       refine wN (nT (wp_ret (rB (rT (rT (rB (rT ?_)))))))
       refine ret_1 hA 2 rfl rfl ?_
       rw [hsd, any_range_yes hj (by rw [hsn]; rfl)]
       exact ⟨rfl, HW5⟩
    | false =>
      revert a; refine wg _ rfl rfl rfl rfl (by decide) (fun hq ev e h => by simp [go_sem, h, ↓gw_t (beq_t hq), jw] <;> rfl) ?_; refine wg2 _ _ rfl rfl rfl rfl (by decide) (fun hq hr ev e h => by simp [go_sem, h, ↓gw_t (and_beq hq hr), ↓gw_t hq, jw] <;> rfl) ?_; intro a hA
      refine wl_kcall hA rfl rfl rfl rfl (by decide) (fun ev h => exec_call Tryz.func78 (by kernel_rfl) rfl (h.f _) (by first | (simp only [mL, h.get 21 rfl, h.c] <;> rfl) | (simp [mL, h.get 21 rfl, h.c, jw] <;> rfl))) (hD5.names (by omega)) ?_
      rintro e w6 ⟨Am, cm, rfl, hrm, hb6⟩
      refine ⟨_, rfl, fun a hA => ?_⟩
      rw [hq9] at hA hrm
      have HX6 := HX5.trans (hb6.mono HX5.size)
      have HW6 := HW5.trans (hb6.mono HW5.size)
      revert a; refine wg2 _ _ rfl rfl rfl rfl (by decide) (fun hq hr ev e h => by simp [go_sem, h, ↓gw_t (and_beq hq hr), ↓gw_t hq, jw] <;> rfl) ?_; intro a hA
      refine wl_kcall hA rfl rfl rfl rfl (by decide) (fun ev h => exec_call Tryz.func64 (by kernel_rfl) rfl (h.f _) (by first | (simp only [mL, h.get 23 rfl, h.c] <;> rfl) | (simp [mL, h.get 23 rfl, h.c, jw] <;> rfl))) (file_any kFlg (by decide) j (by omega) _) ?_
      rintro e w7 ⟨rfl, hb7⟩
      refine ⟨_, rfl, fun a hA => ?_⟩
      have HX7 := HX6.trans (hb7.mono HX6.size)
      have HW7 := HW6.trans (hb7.mono HW6.size)
      have hk2 := hasKey_any Am cm d.files (fileK kFlg j) w7 (by omega) (by rw [hq9]; exact (hrm.below hb7).more hb7.size)
      rw [hq9] at hk2
      refine wl_gcallv2 _ _ hA rfl rfl rfl rfl (by decide) (fun hq hr ev h => exec_call Tryz.func105 (by kernel_rfl) rfl (h.f _) (by first | (simp only [mL, ((h.get 22 rfl).trans (gw_t (and_beq hq hr))), ((h.get 24 rfl).trans (gw_t (and_beq hq hr))), h.c] <;> rfl) | (simp [mL, ((h.get 22 rfl).trans (gw_t (and_beq hq hr))), ((h.get 24 rfl).trans (gw_t (and_beq hq hr))), h.c, jw] <;> rfl))) (fun hq hr => hk2) fun a w8 hb8 hA => ?_
      have HX8 := HX7.trans (hb8.mono HX7.size)
      have HW8 := HW7.trans (hb8.mono HW7.size)
      obtain ⟨b3, hb3'⟩ : ∃ b, hasD d (fileK kFlg j) = b := ⟨_, rfl⟩
      have hb3'' : (fget (fileK kFlg j) d.files).isSome = b3 := hb3'
      rw [hb3''] at hA
      rw [hb3'] at hsn
      refine wl_guard _ hA rfl rfl rfl rfl (by decide) (fun hq ev h => by exact pick_or rfl (((h.get 20 rfl).trans (gw_t (beq_t hq)))) (h.c _) (((h.get 25 rfl).trans (gw_a (beq_t hq))))) fun a hA => ?_
      revert a; (first | refine wka rfl rfl (by decide) rfl rfl rfl ?_ | refine wo rfl rfl (by decide) (fun ev e h => by simp [go_sem, h, gv_or, gv_and, jw] <;> rfl) ?_); intro a hA
      replace hA := hA.keepN [0, 3, 7, 27]
      refine wN (nT ?_)
      refine wp_if hA 27 _ rfl (fun hq2 => ?yB3) (fun hq2 => ?nB3)
      case yB3 =>
       have hb9 : b3 = true := by simpa using hq2
       refine wS (wR ?_)
       revert a; refine wo rfl rfl (by decide) (fun ev e h => by simp [go_sem, h, jw] <;> rfl) ?_; intro a hA
       replace hA := hA.keepN [2]
       refine wN (nT (wp_ret (rB (rT (rT (rB (rT ?_)))))))
       refine ret_1 hA 2 rfl rfl ?_
       rw [hsd, any_range_yes hj (by rw [hsn, hb9]; rfl)]
       exact ⟨rfl, HW8⟩
      case nB3 =>
       have hb9 : b3 = false := by simpa using hq2
       refine wp_skip (nB (nT (wR ?_)))
       revert a; (iterate 2 refine wo rfl rfl (by decide) (fun ev e h => by simp [go_sem, h, jw] <;> rfl) ?_); intro a hA
       replace hA := hA.keepN [0, 3, 7]
       refine wN (nT ?_)
       exact ⟨f - 1, by omega, j + 1, by omega, by rw [any_range_succ, hno, hsn, hb9]; rfl, HX8, hA⟩
end Go.Proofs.YtkljkbeahdipfaaGreatDoor
/-
  A store in memory: its record, and the map of its names.
-/
namespace Go.Proofs.YtkljkbeahdipfaaGreatDoor
open Go.RowKit Go.Maps
def heldN (n : Nat) : DataW Value := .held (.int .i64 (n : Nat))
theorem own_map_block {w w' : World} {mn k : Nat} {D : DataW Value} (h : w.ownsMap Tryz.prog 9 heldR mn k D) (hb : w'.heap[mn]? = w.heap[mn]?) : w'.ownsMap Tryz.prog 9 heldR mn k D := by
 obtain ⟨a, c, hh, r⟩ := h
 exact ⟨a, c, hb.trans hh, r⟩
/-- the names in memory -/
structure NamesAt (w : World) (mn : Nat) (es : NamesM) : Prop where
 map : ∃ k, k ≤ 100000 ∧ w.ownsMap Tryz.prog 9 heldR mn k (dmap heldN es)
 up : Up es
/-- a name is put -/
theorem names_put {w : World} {mn k : Nat} {es : NamesM} (h : w.ownsMap Tryz.prog 9 heldR mn k (dmap heldN es)) (hup : Up es) (hn : k < maxLen) (s : ByteArray) (hs : s.size ≤ maxLen) (v : Nat) :
 ∃ w', (Instr.mapUpdate 154 (.map (some mn)) (.string s) (.int .i64 (v : Nat))).run Tryz.prog w = .ok () w' ∧ w'.ownsMap Tryz.prog 9 heldR mn (k + 1) (dmap heldN (fput s.data.toList v es)) ∧ w.mapTurned w' mn := by
 obtain ⟨w', h1, h2, h3⟩ := h.store string_key Tryz.underlying154 hn (key_of s hs) (val := .int .i64 (v : Nat)) (d := heldN v) (ps := []) rfl
 rw [dmap_put heldN hup] at h2
 exact ⟨w', h1, h2, h3⟩
/-- a store in memory -/
structure StoreAt (w : World) (ps p mn : Nat) (es : NamesM) : Prop where
 cells : Blk w ps 156 #[.pointer (some ⟨p, 0, none⟩), .map (some mn)]
 names : NamesAt w mn es
end Go.Proofs.YtkljkbeahdipfaaGreatDoor
/-
  slices.Sort of one's own row of strings.
-/
namespace Go.Proofs.YtkljkbeahdipfaaGreatDoor
open Go.RowKit
def strSh : Sh (List UInt8) := ⟨9, 55, 1, 16, .string ⟨#[]⟩, fun x => [.string (St x)], fun _ => [], fun _ => rfl, fun x u hu => by
 rw [List.mem_singleton.1 hu]
 rfl, Tryz.underlying55, by kernel_rfl, rfl, by decide, by decide⟩
theorem str_flat (l : List (List UInt8)) : l.flatMap strSh.f = l.map encStr := by
 induction l with
 | nil => rfl
 | cons x r ih => rw [List.flatMap_cons, ih]; rfl
theorem sortS_any {B : Nat} {w : World} {V : Value} {l : List (List UInt8)} (h : OwnR strSh B w V l) (hl : l.length ≤ 1000000) :
 Calls Tryz.prog 104 #[V] w fun ev w' => ev = .returned (.tuple #[]) ∧ OwnR strSh B w' V (l.mergeSort fun x y => decide (x ≤ y)) ∧ w.grownBy w' V.ownBlock := by
 obtain ⟨A, c, rfl, hr, hlc⟩ := h.reads
 rcases Nat.eq_zero_or_pos l.length with h0 | h0
 ·have hl0 := List.eq_nil_of_length_eq_zero h0
  subst hl0
  refine (Go.Proofs.AnyM.slices_Sort_string_none Tryz.sort104 A c w).mono ?_
  rintro e w' ⟨rfl, rfl⟩
  exact ⟨rfl, by simpa using h, ⟨rfl, rfl, rfl, Nat.le_refl _, fun _ _ _ => rfl⟩⟩
 ·have hrow := h.row
  rw [str_flat] at hrow
  rcases hrow.2 with ⟨h1, h2⟩ | ⟨g, cap, cur, hv, hg, hb, hn, hcap, hsz, htk⟩
  ·exfalso
   omega
  ·have hA : A = some ⟨g, 0, none⟩ ∧ c = cap := by injection hv with a b c; exact ⟨a, c⟩
   obtain ⟨rfl, rfl⟩ := hA
   have hgl : g < w.heap.size := (Array.getElem?_eq_some_iff.1 hb).1
   rw [show strSh.k = 1 from rfl, Nat.mul_one] at htk
   have hms := List.length_mergeSort (le := fun x y : List UInt8 => decide (x ≤ y)) l
   refine (Go.Proofs.AnyM.slices_Sort_string Tryz.sort104 g 0 c l w (Go.holds_of_block hb htk) hgl (by omega)).mono ?_
   rintro e w' ⟨rfl, n, os, rfl⟩
   refine ⟨rfl, ⟨?_, fun _ _ p hp => (by cases hp), fun _ _ _ _ p hp => (by cases hp)⟩, Go.grownBy_sorted _⟩
   rw [str_flat, hms]
   exact Go.ownsRow_sorted hms hg hb hn hcap hsz
end Go.Proofs.YtkljkbeahdipfaaGreatDoor
/-
  'range' over a map, in the At-style.
-/
namespace Go.Proofs.YtkljkbeahdipfaaGreatDoor
open Go.Maps
section
variable {H : Type} {P : Program} {Q : Exit → Act → World → Prop} {n : Nat} {Γ : Env} {a : Act} {w : World} {l rest : List Oper} {o : Oper} {t : Nat}
theorem wl_range {m : Operand} {T k e : TypeId} {R : Value → Option (DataW H × List MemPlace)} {b c : Nat} {D : DataW H} (hA : At n Γ a) (hg : o.guard = none) (hd : o.dst = some t) (ht : t < n) (hop : o.op = Op.range T m) (K : Keyed P k) (hT : P.underlying T = some (.map k e))
 (hm : ∀ ev, EvIn Γ ev → ev m = .map (some b)) (hown : w.ownsMap P k R b c D)
 (hk : ∀ w', w'.ranges P k R b w.heap.size c D (Maps.has D) (Maps.size D) → w.grownBy w' none → w'.heap.size = w.heap.size + 1 → ∀ a', At n ((t, .pointer (some ⟨w.heap.size, 0, none⟩)) :: Γ) a' → wpList P l.toArray Q rest a' w') : wpList P l.toArray Q (o :: rest) a w :=
 wpList_range_own w hg m T hop k e K hT R b c D (hm _ hA.evin) hown fun w' h1 h2 h3 => hk w' h1 h2 h3 _ (by rw [hd]; exact hA.put ht _)
/-- the next of a map whose keys are texts and whose elements are whole numbers -/
theorem wl_next {β : Type} {it : Operand} {k : TypeId} {R : Value → Option (DataW H × List MemPlace)} {b r c : Nat} {D : DataW H} {left : Lit → Bool} {cnt : Nat} (mkV : β → Value) (hA : At n Γ a) (hg : o.guard = none) (hd : o.dst = some t) (ht : t < n) (hop : o.op = Op.next it false) (K : Keyed P k) (hks : P.underlying k = some .string)
 (invV : ∀ v y, R v = some y → ∃ c, v = mkV c) (hit : ∀ ev, EvIn Γ ev → ev it = .pointer (some ⟨r, 0, none⟩)) (h : w.ranges P k R b r c D left cnt) (ss : List (List UInt8)) (hC : Collected D left ss)
 (hDone : ∀ a', cnt = 0 → (∀ kl, left kl = false) → At n ((t, .tuple #[.bool false]) :: Γ) a' → wpList P l.toArray Q rest a' w)
 (hMore : ∀ (x : List UInt8) (v : β) (w' : World) (cnt' : Nat) (left' : Lit → Bool) a', x.length ≤ maxLen → w'.ranges P k R b r c D left' cnt' → Collected D left' (ss ++ [x]) → cnt' < cnt → w.grownBy w' (some r) → w'.heap.size = w.heap.size →
  (Instr.entry (.pointer (some ⟨r, 0, none⟩))).run P w' = .ok (.tuple #[encStr x, mkV v]) w' → At n ((t, .tuple #[.bool true, encStr x, mkV v]) :: Γ) a' → wpList P l.toArray Q rest a' w') : wpList P l.toArray Q (o :: rest) a w :=
 wpList_next_ranges w hg it hop k K R encStr mkV (fun key kl hkey => by obtain ⟨x, hx, _⟩ := Maps.keyOf_str hks hkey; exact ⟨x, hx⟩) invV b r c D left cnt (hit _ hA.evin) h
  (fun h0 hl => hDone _ h0 hl (by rw [hd]; exact hA.put ht _)) fun x v kl y w' cnt' hkey hlk hv hat hrg hlt hgr hsz hen => by
   obtain ⟨x', ex, rfl, hx'⟩ := Maps.keyOf_str hks hkey
   have e : x = x' := encStr_inj ex
   subst e
   exact hMore x v w' cnt' _ _ hx' hrg (hC.step hlk hat) hlt hgr hsz hen (by rw [hd]; exact hA.put ht _)
theorem wl_next1 {β : Type} {it : Operand} {k : TypeId} {R : Value → Option (DataW H × List MemPlace)} {b r c : Nat} {D : DataW H} {left : Lit → Bool} {cnt : Nat} (mkV : β → Value) (hA : At n Γ a) (hg : o.guard = none) (hd : o.dst = some t) (ht : t < n) (hop : o.op = Op.next it false) (K : Keyed P k) (hks : P.underlying k = some .string)
 (invV : ∀ v y, R v = some y → ∃ c, v = mkV c) (hit : ∀ ev, EvIn Γ ev → ev it = .pointer (some ⟨r, 0, none⟩)) (h : w.ranges P k R b r c D left cnt) (ss : List (List UInt8)) (hC : Collected D left ss)
 (hk : ∀ (q : Bool) (arr : Array Value) (w' : World), arr[0]? = some (.bool q) → (q = false → w' = w ∧ cnt = 0 ∧ ∀ kl, left kl = false) →
  (q = true → ∃ (x : List UInt8) (v : β) (cnt' : Nat) (left' : Lit → Bool), x.length ≤ maxLen ∧ w'.ranges P k R b r c D left' cnt' ∧ Collected D left' (ss ++ [x]) ∧ cnt' < cnt ∧ w.grownBy w' (some r) ∧ w'.heap.size = w.heap.size ∧ (Instr.entry (.pointer (some ⟨r, 0, none⟩))).run P w' = .ok (.tuple #[encStr x, mkV v]) w') →
  ∀ a', At n ((t, .tuple arr) :: Γ) a' → wpList P l.toArray Q rest a' w') : wpList P l.toArray Q (o :: rest) a w :=
 wl_next mkV hA hg hd ht hop K hks invV hit h ss hC (fun a' h0 h1 hA' => hk false _ w rfl (fun _ => ⟨rfl, h0, h1⟩) (fun e => by cases e) a' hA')
  fun x v w' cnt' left' a' h1 h2 h3 h4 h5 h6 h7 hA' => hk true _ w' rfl (fun e => by cases e) (fun _ => ⟨x, v, cnt', left', h1, h2, h3, h4, h5, h6, h7⟩) a' hA'
end
end Go.Proofs.YtkljkbeahdipfaaGreatDoor
/-
  Walk: (*Store).Names.
-/
namespace Go.Proofs.YtkljkbeahdipfaaGreatDoor
open Go.RowKit Go.Maps
set_option linter.unusedSimpArgs false
set_option linter.unusedVariables false
set_option maxRecDepth 100000 in
set_option maxHeartbeats 8000000 in
theorem names_any {w : World} {ps p mn : Nat} {es : NamesM} (h : StoreAt w ps p mn es) (hN : es.length ≤ 100000) :
 Calls Tryz.prog 45 #[.pointer (some ⟨ps, 0, none⟩)] w fun ev w' => ∃ V, ev = .returned V ∧ OwnR strSh w.heap.size w' V (es.map (·.1)) ∧ Below w.heap.size w w' := by
 obtain ⟨k, hk, hm⟩ := h.names.map
 have hup := h.names.up
 have K := h.cells
 have hmn := hm.lt
 have c1 : w.cell? ⟨ps, 1, none⟩ = some (.map (some mn)) := K.cell 1
 clear h
 refine calls_at 23 Tryz.func45 rfl rfl (Nat.le_of_ble_eq_true rfl) ?_
 intro a hA; replace hA := hA.norm
 refine wS (wR ?_)
 revert a; refine wo rfl rfl (by decide) (fun ev e h => by simp [go_sem, h, c1] <;> rfl) ?_; intro a hA
 replace hA := hA.keepN [0]
 refine wN (nT (wS (wS (wR ?_))))
 revert a; (iterate 2 refine wo rfl rfl (by decide) (fun ev e h => by simp [go_sem, h, c1] <;> rfl) ?_); intro a hA
 replace hA := hA.keepN [0, 6]
 refine wN (nT ?_)
 refine wp_if hA 6 _ rfl (fun hq0 => ?yZ) (fun hq0 => ?nZ)
 case yZ => cases hq0
 case nZ =>
  refine wp_skip (nT (wS (wR ?_)))
  revert a; refine wo rfl rfl (by decide) (fun ev e h => by simp [go_sem, h, c1] <;> rfl) ?_; intro a hA
  replace hA := hA.keepN [0, 3]
  refine wN (nT (wS (wS (wR ?_))))
  revert a; (iterate 4 refine wo rfl rfl (by decide) (fun ev e h => by simp [go_sem, h, c1] <;> rfl) ?_); intro a hA
  refine wl_range hA rfl rfl (by decide) rfl string_key Tryz.underlying154 (fun ev h => h.get 10 rfl) hm fun w1 hr1 hg1 hz1 a hA => ?_
  have hb1 : Below w.heap.size w w1 := ⟨hg1.os, hg1.tape, hg1.output, hg1.size, fun i hi => hg1.block i hi (by simp)⟩
  replace hA := hA.keepN [3, 11]
  refine wN (nT (wB ?_))
  refine wp_loop_at (fun f a wx => ∃ (V : Value) (left : Lit → Bool) (cnt : Nat) (ss : List (List UInt8)), cnt ≤ f ∧ ss.length + cnt ≤ 100000 ∧ wx.ranges Tryz.prog 9 heldR mn w.heap.size k (dmap heldN es) left cnt ∧ Collected (dmap heldN es) left ss ∧ OwnR strSh w1.heap.size wx V ss ∧ Below w.heap.size w wx ∧ w1.heap.size ≤ wx.heap.size ∧ At 23 [(3, V), (11, .pointer (some ⟨w.heap.size, 0, none⟩))] a) ((Maps.size (dmap heldN es))) ?_ ?_
  ·exact ⟨_, _, _, [], Nat.le_refl _, by rw [dmap_size]; simpa using hN, hr1, Collected.start _, OwnR.nil _ _, hb1, Nat.le_refl _, hA⟩
  clear hA
  rintro f a wx ⟨V, left, cnt, ss, hcf, hsc, hr, hC, ho, HB, hsz, hA⟩
  have hown : ∀ g, V.ownBlock = some g → w1.heap.size ≤ g := fun g e => (ho.row.lt g e).1
  refine wS (wR ?_)
  refine wl_next1 id hA rfl rfl (by decide) rfl string_key Tryz.underlying9 (fun v y _ => ⟨v, rfl⟩) (fun ev h => h.get 11 rfl) hr ss hC fun q arr w2 harr hF hT a hA => ?_
  revert a; refine wo rfl rfl (by decide) (fun ev e h => by simp [go_sem, h, harr] <;> rfl) ?_; intro a hA
  replace hA := hA.keepN [3, 11, 13]
  refine wN (nT (wS ?_))
  refine wp_if hA 13 _ rfl (fun hq1 => ?yN) (fun hq1 => ?nN)
  case nN =>
   obtain ⟨rfl, h0, hl0⟩ := hF hq1
   have hp := hC.perm hm string_key Tryz.underlying9 hl0
   rw [dmap_keys] at hp
   replace hA := hA.keepN [3]
   refine wp_exit (xT (xT (xB (nT (wS (wR ?_))))))
   revert a; refine wo rfl rfl (by decide) (fun ev e h => by simp [go_sem, h, harr] <;> rfl) ?_; intro a hA
   have hs := sortS_any ho (by omega)
   rw [show ss.mergeSort (fun x y => decide (x ≤ y)) = es.map (·.1) from sorted_names hup hp] at hs
   refine wl_call hA rfl rfl (by decide) (fun ev h => exec_call Tryz.func104 (by kernel_rfl) rfl (h.f _) (by first | (simp only [mL, h.get 20 rfl, h.c] <;> rfl) | (simp [mL, h.get 20 rfl, h.c, harr] <;> rfl))) (hs) ?_
   rintro e w3 ⟨rfl, ho3, hg3⟩
   refine ⟨_, rfl, fun a hA => ?_⟩
   replace hA := hA.keepN [3]
   refine wN (nT (wS (wR ?_)))
   revert a; (iterate 2 refine wo rfl rfl (by decide) (fun ev e h => by simp [go_sem, h, harr] <;> rfl) ?_); intro a hA
   replace hA := hA.keepN [2]
   refine wN (nT (wp_ret ?_))
   refine ret_1 hA 2 rfl rfl ?_
   exact ⟨V, rfl, ho3.mono (by omega), HB.grown hg3 HB.size fun g e => by have := hown g e; omega⟩
  case yN =>
   obtain ⟨x, v, cnt', left', hx, hr2, hC2, hlt, hg2, hz2, hen⟩ := hT hq1
   have hO2 : Only w.heap.size wx w2 := ⟨hg2.os, hg2.tape, hg2.output, hz2, fun i hi => by
    rcases Nat.lt_or_ge i wx.heap.size with h1 | h1
    ·exact hg2.block i h1 (fun e => hi (Option.some.inj e))
    ·rw [Array.getElem?_eq_none h1, Array.getElem?_eq_none (by omega)]⟩
   have ho2 := ho.only hO2 (fun g e => by have := hown g e; omega) (fun _ _ p hp => (by cases hp))
   have HB2 : Below w.heap.size w w2 := ⟨hg2.os.trans HB.os, hg2.tape.trans HB.tape, hg2.output.trans HB.output, by have := HB.size; omega, fun i hi => (hO2.block i (by omega)).trans (HB.block i hi)⟩
   have hsz2 : w1.heap.size ≤ w2.heap.size := by omega
   refine wp_skip (nT (wB (wS (wR ?_))))
   refine wl_op hA rfl rfl (by decide) (fun ev h => by simp [go_sem, h.get 11 rfl, harr, hen]; try first | exact ⟨rfl, rfl⟩ | rfl) fun a hA => ?_
   revert a; (iterate 2 refine wo rfl rfl (by decide) (fun ev e h => by simp [go_sem, h, harr] <;> rfl) ?_); intro a hA
   replace hA := hA.keepN [3, 4, 11]
   refine wN (nT (wR ?_))
   revert a; (iterate 2 refine wo rfl rfl (by decide) (fun ev e h => by simp [go_sem, h, harr] <;> rfl) ?_); intro a hA
   refine wl_new hA rfl rfl (by decide) (fun ev h => by simp [go_sem, h.get 17 rfl, harr]; try first | exact ⟨rfl, rfl⟩ | rfl) fun w5 a (K5 : Blk _ _ _ _) hz5 hb5 hA => ?_
   have ho5 := ho2.below hb5
   have HX5 := HB2.trans (hb5.mono HB2.size)
   have hr5 := hr2.kept (row := none) ⟨hb5.os, hb5.tape, hb5.output, hb5.size, fun i hi _ => hb5.block i hi⟩ (by simp) (by simp)
   have hsz5 : w1.heap.size ≤ w5.heap.size := by omega
   have hrow : RowR strSh w5 _ [x] := rowR_blk (s := strSh) (x := x) K5 (fun p hp => (by cases hp))
   obtain ⟨r, w6, hrun, ho6, hg6, -⟩ := run_appR (s := strSh) (c := 1) ho5 hrow (fun _ _ m _ p hp => (by cases hp)) (by simp <;> omega) hsz5
   refine wl_op hA rfl rfl (by decide) (fun ev h => exec_append rfl (h.get 16 rfl) (h.get 18 rfl) hrun) fun a hA => ?_
   have HX6 := below_appR HX5 ho5 hg6 (by omega) HX5.size
   have hr6 := hr5.kept hg6 (fun e => by have := hown _ e.symm; omega) (fun e => by have := hown _ e.symm; omega)
   revert a; refine wo rfl rfl (by decide) (fun ev e h => by simp [go_sem, h, harr] <;> rfl) ?_; intro a hA
   replace hA := hA.keepN [3, 11]
   refine wN (nB (nT ?_))
   exact ⟨f - 1, by omega, _, left', cnt', ss ++ [x], by omega, by simp; omega, hr6, hC2, ho6, HX6, by have := hg6.size; omega, hA⟩
end Go.Proofs.YtkljkbeahdipfaaGreatDoor
/-
  Walk: store.Open.
-/
namespace Go.Proofs.YtkljkbeahdipfaaGreatDoor
open Go.RowKit
set_option linter.unusedSimpArgs false
set_option linter.unusedVariables false
set_option linter.unusedSimpArgs false
set_option linter.unusedVariables false
/-- what Open leaves of a disk -/
def openTo (d : DiskM) : DiskM := if d.files = [] then (madeD d).2 else d
theorem open_lost {d : DiskM} (h : d.lost = true) : openD d = (6, d, []) := by unfold openD; rw [if_pos h]
theorem open_full {d : DiskM} (h : d.lost = false) (h2 : d.files = []) (h3 : ¬ (madeD d).1 = 0) : openD d = ((madeD d).1, (madeD d).2, []) := by
 unfold openD
 rw [h, if_neg (by decide), if_pos ⟨h2, h3⟩]
theorem open_bad {d : DiskM} (h : d.lost = false) (h2 : ¬ (d.files = [] ∧ ¬ (madeD d).1 = 0)) (h3 : openOk (openTo d) = false) : openD d = (9, openTo d, []) := by
 unfold openD
 rw [h, if_neg (by decide), if_neg h2]
 show (if openOk (openTo d) = true then _ else _) = _
 rw [if_neg (by rw [h3]; decide)]
 rfl
theorem open_fine {d : DiskM} (h : d.lost = false) (h2 : ¬ (d.files = [] ∧ ¬ (madeD d).1 = 0)) (h3 : openOk (openTo d) = true) : openD d = (0, openTo d, namesP (placesD (openTo d))) := by
 unfold openD
 rw [h, if_neg (by decide), if_neg h2]
 show (if openOk (openTo d) = true then _ else _) = _
 rw [if_pos h3]
 rfl
/-- what Open answers -/
def OpenIs (B : Nat) (w : World) (p : Nat) (ev : Ending) (r : Int × NamesM) : Prop := (¬ r.1 = 0 → ev = .returned (.tuple #[.pointer none, .int .i64 r.1])) ∧ (r.1 = 0 → ∃ ps mn, ev = .returned (.tuple #[.pointer (some ⟨ps, 0, none⟩), .int .i64 0]) ∧ StoreAt w ps p mn r.2 ∧ B ≤ ps ∧ B ≤ mn)
theorem OpenIs.no {B : Nat} {w : World} {p : Nat} {e : Int} {n : NamesM} (h : ¬ e = 0) : OpenIs B w p (.returned (.tuple #[.pointer none, .int .i64 e])) (e, n) := ⟨fun _ => rfl, fun h2 => absurd h2 h⟩
theorem namesP_snoc (l : List PlaceM) (x : PlaceM) : namesP (l ++ [x]) = fput x.2.data.toList x.1.toNat (namesP l) := by unfold namesP; rw [List.foldl_append]; rfl
theorem tree_few (b : List UInt8) : ((getTreeV b).getD []).length ≤ b.length := by
 unfold getTreeV
 cases pageGet 3 b with
 | none => exact Nat.zero_le _
 | some q =>
   show (Option.getD (if rightTreeV (readTree q) = true ∧ pageB 3 (treeB (readTree q)) = b then some (readTree q) else none) []).length ≤ _
   split
   ·rename_i h
    have h1 := congrArg List.length h.2
    rw [pageB_length] at h1
    have h2 : ∀ l : List PlaceM, l.length ≤ (treeB l).length := fun l => by
     unfold treeB
     rw [List.length_append]
     have h3 : l.length ≤ (l.flatMap placeB).length := by
      induction l with
      | nil => exact Nat.le_refl _
      | cons x r ih =>
        rw [List.flatMap_cons, List.length_append, List.length_cons]
        have : (placeB x).length = 3 + x.2.size := by unfold placeB; rw [List.length_append, be_length, textB_len]; omega
        omega
     omega
    have := h2 (readTree q)
    show (readTree q).length ≤ _
    omega
   ·exact Nat.zero_le _
set_option maxRecDepth 100000 in
set_option maxHeartbeats 16000000 in
theorem open_at {w : World} {p mb N : Nat} {d : DiskM} (h : Dk w p mb d N) (hN : N < 500000) :
 Calls Tryz.prog 33 #[.pointer (some ⟨p, 0, none⟩)] w fun ev w' => OpenIs w.heap.size w' p ev ((openD d).1, (openD d).2.2) ∧ Dk w' p mb (openD d).2.1 (N + 11) ∧ But p mb w w' := by
 have hfew := h.few
 refine calls_at 81 Tryz.func33 rfl rfl (Nat.le_of_ble_eq_true rfl) ?_
 intro a hA; replace hA := hA.norm
 refine wS (wR ?_)
 revert a; (iterate 2 refine wo rfl rfl (by decide) (fun ev e h => by simp [go_sem, h] <;> rfl) ?_); intro a hA
 replace hA := hA.keepN [0]
 refine wN (nT (wS (wB (wS (wR ?_)))))
 revert a; (iterate 3 refine wo rfl rfl (by decide) (fun ev e h => by simp [go_sem, h] <;> rfl) ?_); intro a hA
 replace hA := hA.keepN [0, 14]
 refine wN (nT ?_)
 refine wp_if hA 14 _ rfl (fun hq => ?yA) (fun hq => ?nA)
 case yA => cases hq
 case nA =>
  refine wS (wR ?_)
  revert a; refine wo rfl rfl (by decide) (fun ev e h => by simp [go_sem, h] <;> rfl) ?_; intro a hA
  refine wl_call hA rfl rfl (by decide) (fun ev h => exec_call Tryz.func81 (by kernel_rfl) rfl (h.f _) (by first | (simp only [mL, h.get 18 rfl, h.c] <;> rfl) | (simp [mL, h.get 18 rfl, h.c] <;> rfl))) (h.lost) ?_
  rintro e w1 ⟨rfl, hb1⟩
  refine ⟨_, rfl, fun a hA => ?_⟩
  obtain ⟨lo, hlo⟩ : ∃ b, d.lost = b := ⟨_, rfl⟩
  rw [hlo] at hA
  have hD1 := h.below hb1
  revert a; refine wo rfl rfl (by decide) (fun ev e h => by simp [go_sem, h] <;> rfl) ?_; intro a hA
  replace hA := hA.keepN [0, 17]
  refine wN (nT ?_)
  refine wp_if hA 17 _ rfl (fun hq1 => ?yB) (fun hq1 => ?nB)
  case yB =>
   have hl1 : lo = true := by simpa using hq1
   refine wS (wR ?_)
   revert a; (iterate 2 refine wo rfl rfl (by decide) (fun ev e h => by simp [go_sem, h] <;> rfl) ?_); intro a hA
   replace hA := hA.keepN [2, 3]
   refine wN (nT (wp_ret (rB (rT ?_))))
   refine ret_2 hA 2 3 rfl rfl rfl ?_
   rw [open_lost (by rw [hlo, hl1])]
   exact ⟨OpenIs.no (by decide), hD1.more (by omega), But.of_below hb1⟩
  case nB =>
   have hl0 : d.lost = false := by rw [hlo]; simpa using hq1
   refine wp_skip (nB (nT (wS (wS (wR ?_)))))
   revert a; refine wo rfl rfl (by decide) (fun ev e h => by simp [go_sem, h] <;> rfl) ?_; intro a hA
   refine wl_call hA rfl rfl (by decide) (fun ev h => exec_call Tryz.func78 (by kernel_rfl) rfl (h.f _) (by first | (simp only [mL, h.get 20 rfl, h.c] <;> rfl) | (simp [mL, h.get 20 rfl, h.c] <;> rfl))) (hD1.names (by omega)) ?_
   rintro e w2 ⟨An, cn, rfl, -, hb2⟩
   refine ⟨_, rfl, fun a hA => ?_⟩
   have hD2 := hD1.below hb2
   have HB2 := hb1.trans (hb2.mono hb1.size)
   revert a; (iterate 2 refine wo rfl rfl (by decide) (fun ev e h => by simp [go_sem, h] <;> rfl) ?_); intro a hA
   replace hA := hA.keepN [0, 23]
   refine wN (nT ?_)
   refine wp_join (fun a wx => Dk wx p mb (openTo d) (N + 11) ∧ ¬ (d.files = [] ∧ ¬ (madeD d).1 = 0) ∧ But p mb w wx ∧ At 81 [(0, .pointer (some ⟨p, 0, none⟩))] a) ?jfT ?jrT
   refine wp_if hA 23 _ rfl (fun hq2 => ?yC) (fun hq2 => ?nC)
   case yC =>
    have hf0 : d.files = [] := by
     have h9 : ((d.files.length : Nat) : Int) = 0 := beq_iff_eq.1 hq2
     exact List.eq_nil_of_length_eq_zero (by omega)
    refine wS (wR ?_)
    revert a; refine wo rfl rfl (by decide) (fun ev e h => by simp [go_sem, h] <;> rfl) ?_; intro a hA
    refine wl_call hA rfl rfl (by decide) (fun ev h => exec_call Tryz.func86 (by kernel_rfl) rfl (h.f _) (by first | (simp only [mL, h.get 24 rfl, h.c] <;> rfl) | (simp [mL, h.get 24 rfl, h.c] <;> rfl))) (made_at hD2 (by omega)) ?_
    rintro e w3 ⟨rfl, h3, hb3⟩
    refine ⟨_, rfl, fun a hA => ?_⟩
    obtain ⟨me, hme⟩ : ∃ e, (madeD d).1 = e := ⟨_, rfl⟩
    rw [hme] at hA
    have HB3 := (But.of_below HB2 (p := p) (m := mb)).trans hb3
    revert a; refine wo rfl rfl (by decide) (fun ev e h => by simp [go_sem, h] <;> rfl) ?_; intro a hA
    replace hA := hA.keepN [0, 4]
    refine wN (nT (wS (wR ?_)))
    revert a; (iterate 2 refine wo rfl rfl (by decide) (fun ev e h => by simp [go_sem, h] <;> rfl) ?_); intro a hA
    replace hA := hA.keepN [0, 4, 27]
    refine wN (nT ?_)
    refine wp_if hA 27 _ rfl (fun hq3 => ?yD) (fun hq3 => ?nD)
    case yD =>
     have hne : ¬ me = 0 := by simpa using hq3
     refine wS (wR ?_)
     revert a; (iterate 3 refine wo rfl rfl (by decide) (fun ev e h => by simp [go_sem, h] <;> rfl) ?_); intro a hA
     replace hA := hA.keepN [2, 3]
     refine wN (nT (wp_ret (rT ?_)))
     refine ret_2 hA 2 3 rfl rfl rfl ?_
     rw [open_full hl0 hf0 (by rw [hme]; exact hne), hme]
     exact ⟨OpenIs.no hne, h3, HB3⟩
    case nD =>
     have hne : me = 0 := by simpa using hq3
     replace hA := hA.keepN [0]
     refine wp_skip (nT ?_)
     refine ⟨?_, fun h9 => h9.2 (by rw [hme, hne]), HB3, hA⟩
     unfold openTo
     rw [if_pos hf0]
     exact h3
   case nC =>
    have hf0 : ¬ d.files = [] := fun e => by
     rw [e] at hq2
     simp at hq2
    replace hA := hA.keepN [0]
    refine wp_skip (nT ?_)
    refine ⟨?_, fun h9 => hf0 h9.1, But.of_below HB2, hA⟩
    unfold openTo
    rw [if_neg hf0]
    exact hD2.more (by omega)
   clear hA
   rintro a wx ⟨hD, hmo, HB, hA⟩
   obtain ⟨d2, hd2⟩ : ∃ x, openTo d = x := ⟨_, rfl⟩
   have hbad := fun h => open_bad hl0 hmo h
   have hfine := fun h => open_fine hl0 hmo h
   rw [hd2] at hD hbad hfine
   have hok : openOk d2 = ((getTreeV (dRead d2 kTree).1).isSome && decide ((getTreeV (dRead d2 kTree).1).getD [] = placesD d2) && !strayD d2 && (placesD d2).all fun p => (wholeD d2 p.1.toNat).2 == 0) := rfl
   have hszw := HB.size
   refine wS (wR ?_)
   revert a; refine wo rfl rfl (by decide) (fun ev e h => by simp [go_sem, h] <;> rfl) ?_; intro a hA
   refine wl_call hA rfl rfl (by decide) (fun ev h => exec_call Tryz.func29 (by kernel_rfl) rfl (h.f _) (by first | (simp only [mL, h.get 30 rfl, h.c] <;> rfl) | (simp [mL, h.get 30 rfl, h.c] <;> rfl))) (hD.read kTree (by decide)) ?_
   rintro e w4 ⟨At9, ct, rfl, hrt, hct, hb4⟩
   refine ⟨_, rfl, fun a hA => ?_⟩
   have hD4 := hD.below hb4
   have htl := read_lenD hD.wf kTree
   obtain ⟨tb, htb⟩ : ∃ x, (dRead d2 kTree).1 = x := ⟨_, rfl⟩
   obtain ⟨te, hte⟩ : ∃ x, (dRead d2 kTree).2 = x := ⟨_, rfl⟩
   rw [htb] at hA hrt hct htl hok
   rw [hte] at hA
   have he4 := hD4.env
   revert a; (iterate 5 refine wo rfl rfl (by decide) (fun ev e h => by simp [go_sem, h] <;> rfl) ?_); intro a hA
   replace hA := hA.keepN [0, 5]
   refine wN (nT (wS (wR ?_)))
   revert a; refine wo rfl rfl (by decide) (fun ev e h => by simp [go_sem, h] <;> rfl) ?_; intro a hA
   refine wl_call hA rfl rfl (by decide) (fun ev h => exec_call Tryz.func87 (by kernel_rfl) rfl (h.f _) (by first | (simp only [mL, h.get 35 rfl, h.c] <;> rfl) | (simp [mL, h.get 35 rfl, h.c] <;> rfl))) (getTree_any At9 ct tb.length tb w4 he4.max he4.big.2.2 rfl (by omega) hct hrt) ?_
   rintro e w5 ⟨r, rfl, hor, hb5⟩
   refine ⟨_, rfl, fun a hA => ?_⟩
   have hD5 := hD4.below hb5
   have H5 := hb4.trans (hb5.mono hb4.size)
   obtain ⟨o, ho⟩ : ∃ o, getTreeV tb = o := ⟨_, rfl⟩
   rw [ho] at hA hor hok
   obtain ⟨l, hl⟩ : ∃ l, o.getD [] = l := ⟨_, rfl⟩
   rw [hl] at hor hok
   have hoP : OwnR plSh w4.heap.size w5 r l := ⟨hor, fun _ _ p hp => (by cases hp), fun _ _ _ _ p hp => (by cases hp)⟩
   obtain ⟨Al, cl, rfl, hrl, -⟩ := hoP.reads
   obtain ⟨ge, hge⟩ : ∃ e, getErr o = e := ⟨_, rfl⟩
   rw [hge] at hA
   revert a; (iterate 5 refine wo rfl rfl (by decide) (fun ev e h => by simp [go_sem, h] <;> rfl) ?_); intro a hA
   replace hA := hA.keepN [0, 7, 8]
   refine wN (nT (wS (wS (wR ?_))))
   revert a; (iterate 3 refine wo rfl rfl (by decide) (fun ev e h => by simp [go_sem, h] <;> rfl) ?_); (iterate 2 refine wg _ rfl rfl rfl rfl (by decide) (fun hq ev e h => by simp [go_sem, h, ↓gw_t (beq_t hq)] <;> rfl) ?_); intro a hA
   by_cases hge0 : ge = 0
   ·have hgz := hge0
    rw [hge0] at hA
    refine wl_kcall hA rfl rfl rfl rfl (by decide) (fun ev h => exec_call Tryz.func89 (by kernel_rfl) rfl (h.f _) (by first | (simp only [mL, h.get 43 rfl, h.c] <;> rfl) | (simp [mL, h.get 43 rfl, h.c] <;> rfl))) (places_at hD5 (by omega)) ?_
    rintro e w6 ⟨V, rfl, hoV, hb6⟩
    refine ⟨_, rfl, fun a hA => ?_⟩
    have hD6 := hD5.below hb6
    have H6 := H5.trans (hb6.mono H5.size)
    obtain ⟨A2, c2, rfl, hr2, -⟩ := hoV.reads
    obtain ⟨P, hP⟩ : ∃ P, placesD d2 = P := ⟨_, rfl⟩
    have hPb := placesD_bd d2
    rw [hP] at hA hr2 hok hPb hfine
    have hll : l.length ≤ 100000000 := by
     have := tree_few tb
     rw [ho, hl] at this
     omega
    obtain ⟨lq, hlq⟩ : ∃ x, l.length = x := ⟨_, rfl⟩
    obtain ⟨pq, hpq⟩ : ∃ x, P.length = x := ⟨_, rfl⟩
    have heq := eqP_any Al A2 cl c2 l P w6 hll (hrl.below hb6) hr2
    rw [hlq, hpq] at heq
    rw [hlq, hpq] at hA
    refine wl_kcall hA rfl rfl rfl rfl (by decide) (fun ev h => exec_call Tryz.func88 (by kernel_rfl) rfl (h.f _) (by first | (simp only [mL, h.get 42 rfl, h.get 44 rfl, h.c] <;> rfl) | (simp [mL, h.get 42 rfl, h.get 44 rfl, h.c] <;> rfl))) (heq) ?_
    rintro e w7 ⟨rfl, hb7⟩
    refine ⟨_, rfl, fun a hA => ?_⟩
    have hD7 := hD6.below hb7
    have H7 := H6.trans (hb7.mono H6.size)
    obtain ⟨b1, hb1'⟩ : ∃ b, decide (l = P) = b := ⟨_, rfl⟩
    rw [hb1'] at hA hok
    cases b1 with
    | false =>
      have hokf : openOk d2 = false := by rw [hok]; simp
      revert a; refine wg _ rfl rfl rfl rfl (by decide) (fun hq ev e h => by simp [go_sem, h, ↓gw_t (beq_t hq)] <;> rfl) ?_; (first | refine wko rfl rfl (by decide) rfl rfl rfl ?_ | refine wo rfl rfl (by decide) (fun ev e h => by simp [go_sem, h, gv_or, gv_and] <;> rfl) ?_); refine wo rfl rfl (by decide) (fun ev e h => by simp [go_sem, h] <;> rfl) ?_; intro a hA
      refine wl_guard _ (v := .bool false) hA rfl rfl rfl rfl (by decide) (fun hq ev h => by first | (cases hq; done) | (cases hr; done)) fun a hA => ?_
      refine wl_guard _ (v := .bool false) hA rfl rfl rfl rfl (by decide) (fun hq ev h => by first | (cases hq; done) | (cases hr; done)) fun a hA => ?_
      replace hA := hA.keepN [0, 7, 48, 50]
      revert a; (first | refine wko rfl rfl (by decide) rfl rfl rfl ?_ | refine wo rfl rfl (by decide) (fun ev e h => by simp [go_sem, h, gv_or, gv_and] <;> rfl) ?_); intro a hA
      replace hA := hA.keepN [0, 7, 51]
      refine wN (nT ?_)
      refine wp_if hA 51 _ rfl (fun hq5 => ?yF) (fun hq5 => ?nF)
      case nF => cases hq5
      case yF =>
       refine wS (wR ?_)
       revert a; (iterate 2 refine wo rfl rfl (by decide) (fun ev e h => by simp [go_sem, h] <;> rfl) ?_); intro a hA
       replace hA := hA.keepN [2, 3]
       refine wN (nT (wp_ret (rT ?_)))
       refine ret_2 hA 2 3 rfl rfl rfl ?_
       rw [hbad hokf]
       exact ⟨OpenIs.no (by decide), hD7, HB.below H7⟩
    | true =>
      revert a; refine wg _ rfl rfl rfl rfl (by decide) (fun hq ev e h => by simp [go_sem, h, ↓gw_t (beq_t hq)] <;> rfl) ?_; (first | refine wko rfl rfl (by decide) rfl rfl rfl ?_ | refine wo rfl rfl (by decide) (fun ev e h => by simp [go_sem, h, gv_or, gv_and] <;> rfl) ?_); refine wo rfl rfl (by decide) (fun ev e h => by simp [go_sem, h] <;> rfl) ?_; refine wg _ rfl rfl rfl rfl (by decide) (fun hq ev e h => by simp [go_sem, h, ↓gw_t (beq_t hq)] <;> rfl) ?_; intro a hA
      refine wl_kcall hA rfl rfl rfl rfl (by decide) (fun ev h => exec_call Tryz.func90 (by kernel_rfl) rfl (h.f _) (by first | (simp only [mL, h.get 49 rfl, h.c] <;> rfl) | (simp [mL, h.get 49 rfl, h.c] <;> rfl))) (stray_at hD7 (by omega)) ?_
      rintro e w8 ⟨rfl, hb8⟩
      refine ⟨_, rfl, fun a hA => ?_⟩
      have hD8 := hD7.below hb8
      have H8 := H7.trans (hb8.mono H7.size)
      obtain ⟨b2, hb2'⟩ : ∃ b, strayD d2 = b := ⟨_, rfl⟩
      rw [hb2'] at hA hok
      revert a; (first | refine wko rfl rfl (by decide) rfl rfl rfl ?_ | refine wo rfl rfl (by decide) (fun ev e h => by simp [go_sem, h, gv_or, gv_and] <;> rfl) ?_); intro a hA
      replace hA := hA.keepN [0, 7, 51]
      refine wN (nT ?_)
      refine wp_if hA 51 _ rfl (fun hq4 => ?yE) (fun hq4 => ?nE)
      case yE =>
       have hbt : b2 = true := by simpa using hq4
       have hokf : openOk d2 = false := by rw [hok, hbt]; simp
       refine wS (wR ?_)
       revert a; (iterate 2 refine wo rfl rfl (by decide) (fun ev e h => by simp [go_sem, h] <;> rfl) ?_); intro a hA
       replace hA := hA.keepN [2, 3]
       refine wN (nT (wp_ret (rT ?_)))
       refine ret_2 hA 2 3 rfl rfl rfl ?_
       rw [hbad hokf]
       exact ⟨OpenIs.no (by decide), hD8, HB.below H8⟩
      case nE =>
       have hbt : b2 = false := by simpa using hq4
       have hlP : l = P := of_decide_eq_true hb1'
       have hos : o.isSome = true := by
        cases hs : o.isSome with
        | true => rfl
        | false =>
          rw [hge0] at hge
          unfold getErr at hge
          rw [hs] at hge
          revert hge
          decide
       have hok2 : openOk d2 = l.all fun p => (wholeD d2 p.1.toNat).2 == 0 := by rw [hok, hos, hbt, hlP]; rfl
       have hlb : ∀ x ∈ l, ∃ n : Nat, x.1 = (n : Int) ∧ n < 16 := fun x hx => by
        rw [hlP, ← hP] at hx
        obtain ⟨n, hn, rfl⟩ := List.mem_map.1 hx
        exact ⟨n, rfl, List.mem_range.1 (List.mem_filter.1 hn).1⟩
       have hlsz : ∀ x ∈ l, x.2.size ≤ 60 := fun x hx => hPb.2 x (hlP ▸ hx)
       have hl16 : lq ≤ 16 := by rw [← hlq, hlP]; exact hPb.1
       have hrl8 := ((hrl.below hb6).below hb7).below hb8
       have HB8 := HB.below H8
       have hsz8 := HB8.size
       refine wp_skip (nT (wS (wR ?_)))
       revert a; refine wo rfl rfl (by decide) (fun ev e h => by simp [go_sem, h] <;> rfl) ?_; intro a hA
       refine wl_op hA rfl rfl (by decide) (fun ev h => by simp [go_sem, run_makeMap]; try first | exact ⟨rfl, rfl⟩ | rfl) fun a hA => ?_
       obtain ⟨wm, hwm⟩ : ∃ x, w8.alloc (.map #[] 0) = x := ⟨_, rfl⟩
       rw [hwm]
       have hbm : Below w8.heap.size w8 wm := by rw [← hwm]; exact (Below.refl _ _).alloc (Nat.le_refl _) _
       have hzm : wm.heap.size = w8.heap.size + 1 := by rw [← hwm]; exact World.size_alloc _ _
       have hmap0 : wm.ownsMap Tryz.prog 9 heldR w8.heap.size 0 (dmap heldN []) := by rw [← hwm]; exact World.ownsMap_made w8 _ _ _
       revert a; refine wo rfl rfl (by decide) (fun ev e h => by simp [go_sem, h] <;> rfl) ?_; intro a hA
       refine wl_new hA rfl rfl (by decide) (fun ev h => by simp [go_sem, h.get 54 rfl]; try first | exact ⟨rfl, rfl⟩ | rfl) fun w9 a (K9 : Blk _ _ _ _) hz9 hb9 hA => ?_
       have H9 := hbm.trans (hb9.mono hbm.size)
       have hmap9 := own_map_block hmap0 (hb9.block _ (by omega))
       revert a; refine wo rfl rfl (by decide) (fun ev e h => by simp [go_sem, h] <;> rfl) ?_; intro a hA
       replace hA := hA.keepN [0, 7, 9]
       refine wN (nT (wS (wS (wR ?_))))
       revert a; (iterate 3 refine wo rfl rfl (by decide) (fun ev e h => by simp [go_sem, h] <;> rfl) ?_); intro a hA
       replace hA := hA.keepN [0, 9, 56, 57, 58]
       refine wN (nT (wB ?_))
       refine wp_loop_at (fun f a wy => ∃ (j k : Nat), j + f = lq ∧ k ≤ j ∧ wy.ownsMap Tryz.prog 9 heldR w8.heap.size k (dmap heldN (namesP (l.take j))) ∧ Up (namesP (l.take j)) ∧ (∀ q ∈ l.take j, (wholeD d2 q.1.toNat).2 = 0) ∧ Blk wy wm.heap.size 156 #[.pointer (some ⟨p, 0, none⟩), .map (some w8.heap.size)] ∧ Below w8.heap.size w8 wy ∧ At 81 [(0, .pointer (some ⟨p, 0, none⟩)), (9, .pointer (some ⟨wm.heap.size, 0, none⟩)), (56, .slice Al lq cl), (57, .int .i64 (lq : Nat)), (58, .int .i64 (j : Nat))] a) (lq) ?_ ?_
       ·exact ⟨0, 0, by omega, Nat.le_refl _, hmap9, up_nil, fun q hq => (by cases hq), K9, H9, hA⟩
       clear hA K9 H9 hmap9
       rintro f a wy ⟨j, k, hjf, hkj, hmap, hup, hall, K9, H9, hA⟩
       have jw : IntKind.i64.wrap ((j : Int) + 1) = ((j + 1 : Nat) : Int) := IntWalk.i64_in _ (by omega)
       refine wS (wR ?_)
       revert a; refine wo rfl rfl (by decide) (fun ev e h => by simp [go_sem, h] <;> rfl) ?_; intro a hA
       replace hA := hA.keepN [0, 9, 56, 57, 58, 59]
       refine wN (nT (wS ?_))
       refine wp_if hA 59 _ rfl (fun hq5 => ?yI) (fun hq5 => ?nI)
       case nI =>
        have hj : j = lq := by simp at hq5; omega
        rw [hj, ← hlq, List.take_length] at hmap hup hall
        have hokt : openOk d2 = true := by
         rw [hok2, List.all_eq_true]
         intro q hq
         rw [hall q hq]
         rfl
        replace hA := hA.keepN [9]
        refine wp_exit (xT (xT (xB (nT (wS (wR ?_))))))
        revert a; (iterate 3 refine wo rfl rfl (by decide) (fun ev e h => by simp [go_sem, h] <;> rfl) ?_); intro a hA
        replace hA := hA.keepN [2, 3]
        refine wN (nT (wp_ret ?_))
        refine ret_2 hA 2 3 rfl rfl rfl ?_
        rw [hfine hokt]
        refine ⟨⟨fun h9 => absurd rfl h9, fun _ => ⟨_, w8.heap.size, rfl, ⟨K9, ⟨⟨k, by omega, ?_⟩, ?_⟩⟩, by omega, by omega⟩⟩, hD8.below H9, HB8.below H9⟩
        ·rw [← hlP]; exact hmap
        ·rw [← hlP]; exact hup
       case yI =>
        have hj : j < lq := by simp at hq5; omega
        have jj0 : (0 : Int) ≤ (j : Int) := by omega
        have jj1 : (j : Int) < (lq : Int) := by omega
        obtain ⟨x, hx⟩ : ∃ x, l[j]? = some x := ⟨_, List.getElem?_eq_getElem (by omega)⟩
        have hxm := List.mem_of_getElem? hx
        obtain ⟨n, hxn, hn16⟩ := hlb x hxm
        have hxs := hlsz x hxm
        obtain ⟨ad, hAl, hadb, q0, q1⟩ := (hrl8.below H9).cell hx
        have z0 : wy.cell? (ad.add (j * 2)) = some (.int .i64 x.1) := q0 _ rfl
        have z1 : wy.cell? ⟨(ad.add (j * 2)).block, (ad.add (j * 2)).off + 1, none⟩ = some (.string x.2) := q1 1 _ (by decide) rfl
        rw [hxn] at z0
        have s9 := H9.size
        refine wp_skip (nT (wS (wB (wS (wR ?_)))))
        revert a; (iterate 2 refine wo rfl rfl (by decide) (fun ev e h => by simp [go_sem, h, hAl, z0, z1, jj0, jj1, hj] <;> rfl) ?_); intro a hA
        refine wl_local [.int .i64 (n : Nat), .string x.2] hA rfl rfl (by decide) (fun ev h => by simp [go_sem, hAl, z0, z1, jj0, jj1, hj]; try first | exact ⟨rfl, rfl⟩ | rfl) rfl rfl (by rfl) (fun w1 g ev hb h => by simp [go_sem, h.get 11 rfl, h.get 61 rfl, hAl, z0, z1, jj0, jj1, hj, setAll, hb.cell, hb.frozen]) fun w10 a (K10 : Blk _ _ _ _) hz10 hb10 hA => ?_
        have hmapb := own_map_block hmap (hb10.block _ hmap.lt)
        have K9b := K9.below hb10 K9.lt
        have H10 := H9.trans (hb10.mono s9)
        replace hA := hA.keepN [0, 9, 11, 56, 57, 58]
        refine wN (nT (wS (wS (wR ?_))))
        revert a; (iterate 3 refine wo rfl rfl (by decide) (fun ev e h => by simp [go_sem, h, K10.cell] <;> rfl) ?_); intro a hA
        refine wl_call hA rfl rfl (by decide) (fun ev h => exec_call Tryz.func22 (by kernel_rfl) rfl (h.f _) (by first | (simp only [mL, h.get 63 rfl, h.get 65 rfl, h.c] <;> rfl) | (simp [mL, h.get 63 rfl, h.get 65 rfl, h.c, K10.cell] <;> rfl))) (whole_at (hD8.below H10) n (by omega)) ?_
        rintro e w11 ⟨v, rfl, hv, hb11⟩
        refine ⟨_, rfl, fun a hA => ?_⟩
        have hmapc := own_map_block hmapb (hb11.block _ hmapb.lt)
        have K9c := K9b.below hb11 K9b.lt
        have K10c := K10.below hb11 K10.lt
        have H11 := H10.trans (hb11.mono H10.size)
        obtain ⟨V9, M9, rfl, hoM9, -⟩ := hv.ex
        obtain ⟨A9, c9, rfl, -, -⟩ := hoM9.reads
        obtain ⟨we, hwe⟩ : ∃ e, (wholeD d2 n).2 = e := ⟨_, rfl⟩
        rw [hwe] at hA
        revert a; (iterate 3 refine wo rfl rfl (by decide) (fun ev e h => by simp [go_sem, h, K10.cell] <;> rfl) ?_); intro a hA
        refine wl_local [.string (wholeD d2 n).1.nm, .int .u32 ((wholeD d2 n).1.ep : Nat), .int .u32 ((wholeD d2 n).1.nx : Nat), .slice A9 M9.length c9] hA rfl rfl (by decide) (fun ev h => by simp [go_sem, K10.cell]; try first | exact ⟨rfl, rfl⟩ | rfl) rfl rfl (by rfl) (fun w1 g ev hb h => by simp [go_sem, h.get 12 rfl, h.get 67 rfl, K10.cell, setAll, hb.cell, hb.frozen]) fun w12 a (K12 : Blk _ _ _ _) hz12 hb12 hA => ?_
        have hmapd := own_map_block hmapc (hb12.block _ hmapc.lt)
        have K9d := K9c.below hb12 K9c.lt
        have K10d := K10c.below hb12 K10c.lt
        have H12 := H11.trans (hb12.mono H11.size)
        revert a; refine wo rfl rfl (by decide) (fun ev e h => by simp [go_sem, h, K10.cell] <;> rfl) ?_; intro a hA
        replace hA := hA.keepN [0, 9, 11, 13, 56, 57, 58]
        refine wN (nT (wS (wR ?_)))
        revert a; (iterate 2 refine wo rfl rfl (by decide) (fun ev e h => by simp [go_sem, h, K10.cell] <;> rfl) ?_); intro a hA
        replace hA := hA.keepN [0, 9, 11, 56, 57, 58, 70]
        refine wN (nT ?_)
        refine wp_if hA 70 _ rfl (fun hq6 => ?yJ) (fun hq6 => ?nJ)
        case yJ =>
         have hne : ¬ we = 0 := by simpa using hq6
         have hokf : openOk d2 = false := by
          rw [hok2, List.all_eq_false]
          refine ⟨x, hxm, ?_⟩
          rw [hxn, Int.toNat_natCast, hwe]
          simpa using hne
         refine wS (wR ?_)
         revert a; (iterate 2 refine wo rfl rfl (by decide) (fun ev e h => by simp [go_sem, h, K10.cell] <;> rfl) ?_); intro a hA
         replace hA := hA.keepN [2, 3]
         refine wN (nT (wp_ret (rT (rB (rT (rT (rB (rT ?_))))))))
         refine ret_2 hA 2 3 rfl rfl rfl ?_
         rw [hbad hokf]
         exact ⟨OpenIs.no (by decide), hD8.below H12, HB8.below H12⟩
        case nJ =>
         have hwe0 : we = 0 := by simpa using hq6
         have pR20 := fun (wo : World) (hC : (fun wo => Below w12.heap.size w12 wo) wo) => have Ky := K9d.below hC K9d.lt; have Kz := K10d.below hC K10d.lt; And.intro (Ky.cell) (Kz.cell)
         refine wp_skip (nT ?_)
         refine wp_region_split 8 ?_
         simp only [List.take_succ_cons, List.take_zero, List.drop_succ_cons, List.drop_zero]
         refine wp_any_split_at hA [(.det ?dR200), (.det ?dR201), (.det ?dR202), (.det ?dR203), (.det ?dR204), (.det ?dR205), (.det ?dR206), (.det ?dR207)] [] (fun wo => Below w12.heap.size w12 wo) (TSp [] Grows) (by kernel_rfl) rfl (by kernel_rfl) (by kernel_rfl) rfl (by kernel_rfl) (by kernel_rfl) (by kernel_rfl) (by kernel_rfl) ((Below.refl _ _).drew) (stab_sp [] [true, true, true, true, true, true, true, true] [true, true, true, true, true, true, true, true] [] rfl rfl rfl (by kernel_rfl) ⟨trivial, trivial, trivial, trivial, trivial, trivial, trivial, trivial, trivial⟩ trivial) (fun _ h => by cases h) (fun _ _ _ _ _ h => by cases h) (fun _ h => by cases h) ⟨?oR200, ?oR201, ?oR202, ?oR203, ?oR204, ?oR205, ?oR206, ?oR207, trivial⟩ (by kernel_rfl) ?fR20
         case oR200 => intro ev wo hev hC hs hph; have x0 := se hA hs 9; exact od rfl rfl (by kernel_rfl) hC (TSp.of rfl (Grows.refl _)) (by simp [go_sem, x0] <;> rfl)
         case oR201 => intro ev wo hev hC hs hph; have x0 := sd hs 71 0; exact od rfl rfl (by kernel_rfl) hC (TSp.of rfl (Grows.refl _)) (by simp [go_sem, x0] <;> rfl)
         case oR202 => intro ev wo hev hC hs hph; have x0 := sd hs 72 1; exact od rfl rfl (by kernel_rfl) hC (TSp.of rfl (Grows.refl _)) (by simp [go_sem, x0] <;> rfl)
         case oR203 => intro ev wo hev hC hs hph; have x0 := sd hs 73 2; exact od rfl rfl (by kernel_rfl) hC (TSp.of rfl (Grows.refl _)) (by simp [go_sem, x0, pR20 _ hC, K10.cell] <;> rfl)
         case oR204 => intro ev wo hev hC hs hph; have x0 := se hA hs 11; exact od rfl rfl (by kernel_rfl) hC (TSp.of rfl (Grows.refl _)) (by simp [go_sem, x0] <;> rfl)
         case oR205 => intro ev wo hev hC hs hph; have x0 := sd hs 75 4; exact od rfl rfl (by kernel_rfl) hC (TSp.of rfl (Grows.refl _)) (by simp [go_sem, x0, pR20 _ hC, K10.cell] <;> rfl)
         case oR206 => intro ev wo hev hC hs hph; have x0 := se hA hs 11; exact od rfl rfl (by kernel_rfl) hC (TSp.of rfl (Grows.refl _)) (by simp [go_sem, x0] <;> rfl)
         case oR207 => intro ev wo hev hC hs hph; have x0 := sd hs 77 6; exact od rfl rfl (by kernel_rfl) hC (TSp.of rfl (Grows.refl _)) (by simp [go_sem, x0, pR20 _ hC, K10.cell] <;> rfl)
         intro sg wf hC hph
         intro a hA
         replace hA := hA.keepN [0, 9, 56, 57, 58, 74, 76, 78]
         have hmape := own_map_block hmapd (hC.block _ hmapd.lt)
         have K9e := K9d.below hC K9d.lt
         have H13 := H12.trans (hC.mono H12.size)
         obtain ⟨w14, hrun, hmapf, hturn⟩ := names_put hmape hup (by unfold maxLen; omega) x.2 (by unfold maxLen; omega) n
         refine wl_skip hA rfl rfl (fun ev h => by simp [go_sem, h.get 74 rfl, h.get 76 rfl, h.get 78 rfl, hrun]; try first | exact ⟨rfl, rfl⟩ | rfl) ?_
         replace hA := hA.keepN [0, 9, 56, 57, 58]
         refine wN (nB (nT (wR ?_)))
         revert a; (iterate 2 refine wo rfl rfl (by decide) (fun ev e h => by simp [go_sem, h, jw] <;> rfl) ?_); intro a hA
         replace hA := hA.keepN [0, 9, 56, 57, 58]
         refine wN (nT ?_)
         have htk : namesP (l.take (j + 1)) = fput x.2.data.toList n (namesP (l.take j)) := by
          rw [List.take_add_one, hx]
          show namesP (_ ++ [x]) = _
          rw [namesP_snoc, hxn, Int.toNat_natCast]
         refine ⟨f - 1, by omega, j + 1, k + 1, by omega, by omega, ?_, ?_, fun q hq => ?_, K9e.grown hturn.grown (fun e => ?_), H13.grown hturn.grown H13.size (fun g e => ?_), hA⟩
         ·rw [htk]; exact hmapf
         ·rw [htk]; exact up_fput hup
         ·rw [List.take_add_one, hx] at hq
          rcases List.mem_append.1 hq with h9 | h9
          ·exact hall q h9
          ·rw [List.mem_singleton.1 h9, hxn, Int.toNat_natCast, hwe, hwe0]
         ·injection e with e
          omega
         ·injection e with e
          omega
   ·have hos : o.isSome = false := by
     cases hs : o.isSome with
     | false => rfl
     | true => exfalso; apply hge0; rw [← hge]; unfold getErr; rw [hs]; rfl
    have hokf : openOk d2 = false := by rw [hok, hos]; rfl
    have hge9 : ge = 9 := by rw [← hge]; unfold getErr; rw [hos]; rfl
    rw [hge9] at hA
    refine wl_guard _ (v := .bool false) hA rfl rfl rfl rfl (by decide) (fun hq ev h => by first | (cases hq; done) | (cases hr; done)) fun a hA => ?_
    refine wl_guard _ (v := .bool false) hA rfl rfl rfl rfl (by decide) (fun hq ev h => by first | (cases hq; done) | (cases hr; done)) fun a hA => ?_
    refine wl_guard _ (v := .bool false) hA rfl rfl rfl rfl (by decide) (fun hq ev h => by first | (cases hq; done) | (cases hr; done)) fun a hA => ?_
    revert a; (first | refine wko rfl rfl (by decide) rfl rfl rfl ?_ | refine wo rfl rfl (by decide) (fun ev e h => by simp [go_sem, h, gv_or, gv_and] <;> rfl) ?_); intro a hA
    refine wl_op hA rfl rfl (by decide) (fun ev h => by simp [go_sem, h.get 47 rfl]; try first | exact ⟨rfl, rfl⟩ | rfl) fun a hA => ?_
    revert a; refine wg _ rfl rfl rfl rfl (by decide) (fun hq ev e h => by simp [go_sem, h, ↓gw_t (beq_t hq)] <;> rfl) ?_; intro a hA
    refine wl_guard _ (v := .bool false) hA rfl rfl rfl rfl (by decide) (fun hq ev h => by first | (cases hq; done) | (cases hr; done)) fun a hA => ?_
    revert a; (first | refine wko rfl rfl (by decide) rfl rfl rfl ?_ | refine wo rfl rfl (by decide) (fun ev e h => by simp [go_sem, h, gv_or, gv_and] <;> rfl) ?_); intro a hA
    replace hA := hA.keepN [0, 7, 51]
    refine wN (nT ?_)
    refine wp_if hA 51 _ rfl (fun hq6 => ?yG) (fun hq6 => ?nG)
    case nG => cases hq6
    case yG =>
     refine wS (wR ?_)
     revert a; (iterate 2 refine wo rfl rfl (by decide) (fun ev e h => by simp [go_sem, h] <;> rfl) ?_); intro a hA
     replace hA := hA.keepN [2, 3]
     refine wN (nT (wp_ret (rT ?_)))
     refine ret_2 hA 2 3 rfl rfl rfl ?_
     rw [hbad hokf]
     exact ⟨OpenIs.no (by decide), hD5, HB.below H5⟩
end Go.Proofs.YtkljkbeahdipfaaGreatDoor
/-
  A mailbox's log, plainly: its notes; they are read back as the mailbox.
-/
namespace Go.Proofs.YtkljkbeahdipfaaGreatDoor
open Go.RowKit
def msgBare (u : Nat) : MsgV := ⟨u, 0, 0, none, 0, []⟩
def boxNote (nm : ByteArray) (ep : Nat) : NoteV := ⟨1, ep, nm, msgBare 0⟩
end Go.Proofs.YtkljkbeahdipfaaGreatDoor
/-
  Plainly: a file that is laid has these bytes, or those that it had, wherever the power goes.
-/
namespace Go.Proofs.YtkljkbeahdipfaaGreatDoor
theorem awayD_no {d : DiskM} {k : Key} (hl : d.lost = false) (h : fget k d.files = none) : awayD d k = (0, d) := by
 have e : dRemove d k = (7, d) := by
  unfold dRemove
  rw [hl, if_neg (by decide), h]
 unfold awayD
 rw [e, if_pos rfl]
theorem right_new : right kNew = true := by decide
/-- the first file of all -/
theorem lay_first (a : List UInt8) (ha : a.length ≤ 5000) : layD ⟨1048576, [], -1, false⟩ kTree a = (0, ⟨1048576, [(kTree, ⟨a, a.length, true⟩)], -1, false⟩) := by
 have e1 : dAppend ⟨1048576, [], -1, false⟩ kNew a = (0, ⟨1048576, [(kNew, ⟨a, 0, false⟩)], -1, false⟩) := by
  unfold dAppend
  rw [if_neg (fun h => by cases h), if_neg (by rw [right_new]; decide), if_neg (by show ¬ 1048576 - 0 < a.length; omega), if_neg (fun h => absurd h.1 (by decide))]
  rfl
 have e2 : dSync ⟨1048576, [(kNew, ⟨a, 0, false⟩)], -1, false⟩ kNew = (0, ⟨1048576, [(kNew, ⟨a, a.length, true⟩)], -1, false⟩) := rfl
 have e3 : dRename ⟨1048576, [(kNew, ⟨a, a.length, true⟩)], -1, false⟩ kNew kTree = (0, ⟨1048576, [(kTree, ⟨a, a.length, true⟩)], -1, false⟩) := by
  unfold dRename
  rw [if_neg (fun h => by cases h), if_neg (by decide)]
  show (if FileM.whole ⟨a, a.length, true⟩ = false then _ else _) = _
  rw [if_neg (by simp [FileM.whole]), if_neg (by show ¬ (-1 : Int) = 0; decide)]
  rfl
 unfold layD
 rw [awayD_no rfl rfl, then_go rfl, e1, then_go rfl, e2, then_go rfl]
 exact e3
theorem whole_same (a : List UInt8) : FileM.whole ⟨a, a.length, true⟩ = true := by simp [FileM.whole]
/-- whatever is kept: a file that is whole stays as it is -/
theorem restart_two (keep : List Int) (c : Nat) (x : List (Key × FileM)) (fu : Int) (lo : Bool) (a : List UInt8) (hx : ∀ q ∈ x, q.1 = kNew) : dRead (dRestart ⟨c, x ++ [(kTree, ⟨a, a.length, true⟩)], fu, lo⟩ keep) kTree = (a, 0) := by
 have key : ∀ (x : List (Key × FileM)) (i : Nat), (∀ q ∈ x, q.1 = kNew) → fget kTree (restartL keep i (x ++ [(kTree, ⟨a, a.length, true⟩)])) = some ⟨a, a.length, true⟩ := by
  intro x
  induction x with
  | nil =>
    intro i _
    show fget kTree (if FileM.whole ⟨a, a.length, true⟩ = true then _ else _) = _
    rw [if_pos (whole_same a)]
    exact if_pos rfl
  | cons q r ih =>
    intro i h
    have hq : ¬ q.1 = kTree := by rw [h q List.mem_cons_self]; decide
    have ih' := fun i => ih i fun y hy => h y (List.mem_cons_of_mem _ hy)
    rw [List.cons_append]
    unfold restartL
    split
    ·obtain ⟨y, u⟩ := q
     rw [fget_cons, if_neg hq]
     exact ih' _
    ·split
     ·exact ih' _
     ·rw [fget_cons, if_neg hq]
      exact ih' _
 unfold dRead
 rw [if_neg (fun h => by cases h), show (dRestart ⟨c, x ++ [(kTree, ⟨a, a.length, true⟩)], fu, lo⟩ keep).files = restartL keep 0 (x ++ [(kTree, ⟨a, a.length, true⟩)]) from rfl, key x 0 hx]
/-- laid again -/
theorem lay_again (a b : List UInt8) (f : Nat) (hab : a.length + b.length ≤ 5000) (keep : List Int) :
 let r := layD ⟨1048576, [(kTree, ⟨a, a.length, true⟩)], (f : Int), false⟩ kTree b
 dRead (dRestart r.2 keep) kTree = (b, 0) ∧ r.1 = 0 ∨ dRead (dRestart r.2 keep) kTree = (a, 0) ∧ r.1 = 6 := by
 intro r
 have er : r = thenD (dAppend ⟨1048576, [(kTree, ⟨a, a.length, true⟩)], (f : Int), false⟩ kNew b) fun d => thenD (dSync d kNew) fun d => dRename d kNew kTree := by
  show layD _ _ _ = _
  unfold layD
  rw [awayD_no rfl rfl, then_go rfl]
 have hroom : ¬ DiskM.room ⟨1048576, [(kTree, ⟨a, a.length, true⟩)], (f : Int), false⟩ < b.length := by
  show ¬ 1048576 - (a.length + 0) < b.length
  omega
 match f with
 | 0 =>
   right
   by_cases hb : (b.take (b.length / 2)).length = 0
   ·have e1 : dAppend ⟨1048576, [(kTree, ⟨a, a.length, true⟩)], ((0 : Nat) : Int), false⟩ kNew b = (6, ⟨1048576, [(kTree, ⟨a, a.length, true⟩)], 0, true⟩) := by
     unfold dAppend
     rw [if_neg (fun h => by cases h), if_neg (by rw [right_new]; decide), if_neg hroom, if_pos ⟨rfl, rfl, hb⟩]
     rfl
    rw [er, e1]
    exact ⟨restart_two keep _ [] _ _ a (fun q hq => by cases hq), rfl⟩
   ·have e1 : dAppend ⟨1048576, [(kTree, ⟨a, a.length, true⟩)], ((0 : Nat) : Int), false⟩ kNew b = (6, ⟨1048576, [(kNew, ⟨b.take (b.length / 2), 0, false⟩)] ++ [(kTree, ⟨a, a.length, true⟩)], 0, true⟩) := by
     unfold dAppend
     rw [if_neg (fun h => by cases h), if_neg (by rw [right_new]; decide), if_neg hroom, if_neg (fun h => hb h.2.2)]
     rfl
    rw [er, e1]
    exact ⟨restart_two keep _ [_] _ _ a (fun q hq => by rw [List.mem_singleton.1 hq]), rfl⟩
 | g + 1 =>
   have e1 : dAppend ⟨1048576, [(kTree, ⟨a, a.length, true⟩)], ((g + 1 : Nat) : Int), false⟩ kNew b = (0, ⟨1048576, [(kNew, ⟨b, 0, false⟩)] ++ [(kTree, ⟨a, a.length, true⟩)], (g : Int), false⟩) := by
    have h1 : ¬ ((g + 1 : Nat) : Int) = 0 := by omega
    unfold dAppend
    rw [if_neg (fun h => by cases h), if_neg (by rw [right_new]; decide), if_neg hroom, if_neg (fun h => h1 h.1)]
    unfold halved DiskM.burn DiskM.gone
    simp only [h1, decide_false, if_false, Bool.false_eq_true]
    rw [if_pos (by omega), show ((g + 1 : Nat) : Int) - 1 = (g : Int) by omega]
    rfl
   rw [er, e1, then_go rfl]
   match g with
   | 0 =>
     right
     have e2 : dSync ⟨1048576, [(kNew, ⟨b, 0, false⟩)] ++ [(kTree, ⟨a, a.length, true⟩)], ((0 : Nat) : Int), false⟩ kNew = (6, ⟨1048576, [(kNew, ⟨b, 0, false⟩)] ++ [(kTree, ⟨a, a.length, true⟩)], 0, true⟩) := rfl
     rw [e2]
     exact ⟨restart_two keep _ [_] _ _ a (fun q hq => by rw [List.mem_singleton.1 hq]), rfl⟩
   | h + 1 =>
     have e2 : dSync ⟨1048576, [(kNew, ⟨b, 0, false⟩)] ++ [(kTree, ⟨a, a.length, true⟩)], ((h + 1 : Nat) : Int), false⟩ kNew = (0, ⟨1048576, [(kNew, ⟨b, b.length, true⟩)] ++ [(kTree, ⟨a, a.length, true⟩)], (h : Int), false⟩) := by
      have h1 : ¬ ((h + 1 : Nat) : Int) = 0 := by omega
      unfold dSync
      rw [if_neg (fun h => by cases h)]
      show (if ((h + 1 : Nat) : Int) = 0 then _ else _) = _
      rw [if_neg h1]
      unfold DiskM.burn
      simp only [h1, decide_false]
      rw [if_pos (by omega), show ((h + 1 : Nat) : Int) - 1 = (h : Int) by omega]
      rfl
     rw [e2, then_go rfl]
     match h with
     | 0 =>
       right
       have e3 : dRename ⟨1048576, [(kNew, ⟨b, b.length, true⟩)] ++ [(kTree, ⟨a, a.length, true⟩)], ((0 : Nat) : Int), false⟩ kNew kTree = (6, ⟨1048576, [(kNew, ⟨b, b.length, true⟩)] ++ [(kTree, ⟨a, a.length, true⟩)], 0, true⟩) := by
        unfold dRename
        rw [if_neg (fun h => by cases h), if_neg (by decide)]
        show (if FileM.whole ⟨b, b.length, true⟩ = false then _ else _) = _
        rw [if_neg (by rw [whole_same]; decide)]
        rfl
       rw [e3]
       exact ⟨restart_two keep _ [_] _ _ a (fun q hq => by rw [List.mem_singleton.1 hq]), rfl⟩
     | k + 1 =>
       left
       have e3 : dRename ⟨1048576, [(kNew, ⟨b, b.length, true⟩)] ++ [(kTree, ⟨a, a.length, true⟩)], ((k + 1 : Nat) : Int), false⟩ kNew kTree = (0, ⟨1048576, [] ++ [(kTree, ⟨b, b.length, true⟩)], (k : Int), false⟩) := by
        have h1 : ¬ ((k + 1 : Nat) : Int) = 0 := by omega
        unfold dRename
        rw [if_neg (fun h => by cases h), if_neg (by decide)]
        show (if FileM.whole ⟨b, b.length, true⟩ = false then _ else _) = _
        rw [if_neg (by rw [whole_same]; decide), if_neg h1]
        unfold DiskM.burn
        simp only [h1, decide_false]
        rw [if_pos (by omega), show ((k + 1 : Nat) : Int) - 1 = (k : Int) by omega]
        rfl
       rw [e3]
       exact ⟨restart_two keep _ [] _ _ b (fun q hq => by cases hq), rfl⟩
end Go.Proofs.YtkljkbeahdipfaaGreatDoor
/-
  Plainly: a store that is opened on an empty disk.
-/
namespace Go.Proofs.YtkljkbeahdipfaaGreatDoor
open Go.RowKit
theorem readL_first (nm : ByteArray) (h : firstOk nm = true) : readL (firstV nm) = ⟨⟨nm, 1, 1, []⟩, (firstV nm).length⟩ := by
 have hf : firstV nm = framesB [boxNote nm 1] := by
  unfold firstV
  rw [show formedV 1 1 nm ⟨0, 0, 0, none, 0, []⟩ = true from h, cond_true]
  unfold framesB
  simp
  rfl
 have hs := scan_all [boxNote nm 1] (fun n hn => by rw [List.mem_singleton.1 hn]; exact ⟨h, (by show 1 < 4294967296; decide), (by show 0 < 4294967296; decide)⟩)
 unfold readL
 rw [hf, hs.1, hs.2]
 rfl
-- disks whose power stays
theorem calm_append {c : Nat} {l : List (Key × FileM)} {k : Key} {b : List UInt8} (hr : right k = true) (hroom : b.length ≤ c - used l) : dAppend ⟨c, l, -1, false⟩ k b = (0, ⟨c, fput k ⟨((fget k l).getD FileM.none_).b ++ b, ((fget k l).getD FileM.none_).safe, ((fget k l).getD FileM.none_).ever⟩ l, -1, false⟩) := by
 unfold dAppend
 rw [if_neg (fun h => by cases h), if_neg (by rw [hr]; decide), if_neg (by show ¬ c - used l < _; omega), if_neg (fun hh => absurd hh.1 (by show ¬ (-1 : Int) = 0; decide))]
 rfl
theorem calm_sync {c : Nat} {l : List (Key × FileM)} {k : Key} {f : FileM} (hg : fget k l = some f) : dSync ⟨c, l, -1, false⟩ k = (0, ⟨c, fput k ⟨f.b, f.b.length, true⟩ l, -1, false⟩) := by
 unfold dSync
 rw [if_neg (fun h => by cases h)]
 show (match fget k l with | none => _ | some f => _) = _
 rw [hg]
 rfl
theorem calm_rename {c : Nat} {l : List (Key × FileM)} {a b : Key} {f : FileM} (hr : right b = true) (hne : a ≠ b) (hg : fget a l = some f) (hw : f.whole = true) : dRename ⟨c, l, -1, false⟩ a b = (0, ⟨c, fdel a (fput b f l), -1, false⟩) := by
 unfold dRename
 rw [if_neg (fun h => by cases h), if_neg (fun hh => by
  rcases hh with hh | hh
  ·rw [hr] at hh; cases hh
  ·exact hne hh)]
 show (match fget a l with | none => _ | some f => _) = _
 rw [hg]
 show (if f.whole = false then _ else _) = _
 rw [if_neg (by rw [hw]; decide)]
 rfl
/-- a file that is laid while the power stays -/
theorem calm_lay {c : Nat} {l : List (Key × FileM)} {k : Key} {b : List UInt8} (hup : Up l) (hn : fget kNew l = none) (hr : right k = true) (hk : kNew ≠ k) (hroom : b.length ≤ c - used l) : layD ⟨c, l, -1, false⟩ k b = (0, ⟨c, fput k ⟨b, b.length, true⟩ l, -1, false⟩) := by
 unfold layD
 rw [awayD_no rfl hn, then_go rfl]
 show thenD (dAppend ⟨c, l, -1, false⟩ kNew b) _ = _
 rw [calm_append right_new hroom, hn, then_go rfl]
 show thenD (dSync ⟨c, fput kNew ⟨b, 0, false⟩ l, -1, false⟩ kNew) _ = _
 rw [calm_sync (f := ⟨b, 0, false⟩) (by rw [fget_fput, if_pos rfl]), then_go rfl]
 show dRename ⟨c, fput kNew ⟨b, b.length, true⟩ (fput kNew ⟨b, 0, false⟩ l), -1, false⟩ kNew k = _
 rw [calm_rename hr hk (f := ⟨b, b.length, true⟩) (by rw [fget_fput, if_pos rfl]) (by simp [FileM.whole])]
 have e : fdel kNew (fput k ⟨b, b.length, true⟩ (fput kNew ⟨b, b.length, true⟩ (fput kNew ⟨b, 0, false⟩ l))) = fput k ⟨b, b.length, true⟩ l := by
  refine up_ext (up_fdel (up_fput (up_fput (up_fput hup))) _) (up_fput hup) fun j => ?_
  rw [fget_fdel, fget_fput, fget_fput, fget_fput, fget_fput]
  by_cases h1 : j = kNew
  ·subst h1
   rw [if_pos rfl, if_neg hk, hn]
  ·rw [if_neg h1, if_neg h1, if_neg h1]
 rw [e]
end Go.Proofs.YtkljkbeahdipfaaGreatDoor
/-
  Plainly: what is made of an empty disk.
-/
namespace Go.Proofs.YtkljkbeahdipfaaGreatDoor
open Go.RowKit
theorem inbox_first : firstOk sInbox = true := by decide +kernel
theorem inbox_len : (firstV sInbox).length = 55 := by decide +kernel
def logI : LogT := ⟨⟨sInbox, 1, 1, []⟩, 55⟩
theorem inbox_log : readL (firstV sInbox) = logI := by rw [readL_first _ inbox_first, inbox_len]; rfl
theorem inbox_pages : (pagesL logI []).e = 0 := by decide +kernel
theorem inbox_flg : (pagesL logI []).b.length ≤ 100 := by decide +kernel
theorem inbox_idx : (pagesL logI []).c.length ≤ 100 := by decide +kernel
theorem inbox_tree : treeErr [((0 : Int), sInbox)] = 0 := by decide +kernel
theorem inbox_tlen : (treePage [((0 : Int), sInbox)]).length ≤ 100 := by decide +kernel
abbrev kL0 : Key := [108, 111, 103, 46, 48]
abbrev kI0 : Key := [105, 100, 120, 46, 48]
abbrev kF0 : Key := [102, 108, 103, 46, 48]
theorem kL0_is : fileK kLog 0 = kL0 := by decide +kernel
theorem kI0_is : fileK kIdx 0 = kI0 := by decide +kernel
theorem kF0_is : fileK kFlg 0 = kF0 := by decide +kernel
/-- a file that was laid -/
abbrev safeF (b : List UInt8) : FileM := ⟨b, b.length, true⟩
theorem begin_first {c : Nat} (hc : 1000 ≤ c) : beginD ⟨c, [], -1, false⟩ 0 sInbox = (0, ⟨c, [(kF0, safeF (pagesL logI []).b), (kI0, safeF (pagesL logI []).c), (kL0, safeF (firstV sInbox))], -1, false⟩) := by
 unfold beginD
 rw [if_pos inbox_first, kL0_is, calm_append (by decide) (by rw [inbox_len]; show 55 ≤ c - 0; omega), then_go rfl]
 show thenD (dSync ⟨c, [(kL0, ⟨firstV sInbox, 0, false⟩)], -1, false⟩ kL0) _ = _
 rw [calm_sync (f := ⟨firstV sInbox, 0, false⟩) rfl, then_go rfl]
 show pagesD ⟨c, [(kL0, safeF (firstV sInbox))], -1, false⟩ 0 (readL (firstV sInbox)) [] = _
 have hf := inbox_flg
 have hi := inbox_idx
 have hl := inbox_len
 unfold pagesD
 rw [inbox_log, if_pos inbox_pages, kF0_is, kI0_is, calm_lay (List.pairwise_singleton _ _) rfl (by decide) (by decide) (by show _ ≤ c - ((firstV sInbox).length + 0); omega), then_go rfl]
 show layD ⟨c, [(kF0, safeF (pagesL logI []).b), (kL0, safeF (firstV sInbox))], -1, false⟩ kI0 (pagesL logI []).c = _
 rw [calm_lay (List.pairwise_cons.2 ⟨fun q hq => by rw [List.mem_singleton.1 hq]; decide, List.pairwise_singleton _ _⟩) rfl (by decide) (by decide) (by show _ ≤ c - ((pagesL logI []).b.length + ((firstV sInbox).length + 0)); omega)]
 rfl
theorem logs_of {c : Nat} {l : List (Key × FileM)} {fu : Int} {lo : Bool} : logsD ⟨c, l, fu, lo⟩ = (List.range 16).filter fun n => decide (fileK kLog n ∈ l.map (·.1)) := by
 unfold logsD
 refine List.filter_congr fun n _ => ?_
 rw [Bool.eq_iff_iff, decide_eq_true_iff]
 exact mem_names.symm
theorem places_first {c : Nat} {x : List (Key × FileM)} {fu : Int} {a b : FileM} (hx : x.map (·.1) = [] ∨ x.map (·.1) = [kTree]) : placesD ⟨c, (kF0, a) :: (kI0, b) :: (kL0, safeF (firstV sInbox)) :: x, fu, false⟩ = [((0 : Int), sInbox)] := by
 have e : logsD ⟨c, (kF0, a) :: (kI0, b) :: (kL0, safeF (firstV sInbox)) :: x, fu, false⟩ = [0] := by
  rw [logs_of, List.map_cons, List.map_cons, List.map_cons]
  rcases hx with hx | hx
  ·rw [hx]
   show (List.range 16).filter (fun n => decide (fileK kLog n ∈ [kF0, kI0, kL0])) = [0]
   decide +kernel
  ·rw [hx]
   show (List.range 16).filter (fun n => decide (fileK kLog n ∈ [kF0, kI0, kL0, kTree])) = [0]
   decide +kernel
 unfold placesD
 rw [e]
 show [((0 : Int), (readL (fileD _ kLog 0).1).s.nm)] = _
 unfold fileD
 rw [kL0_is]
 show [((0 : Int), (readL (firstV sInbox)).s.nm)] = _
 rw [inbox_log]
 rfl
abbrev firstFiles : List (Key × FileM) := [(kF0, safeF (pagesL logI []).b), (kI0, safeF (pagesL logI []).c), (kL0, safeF (firstV sInbox)), (kTree, safeF (treePage [((0 : Int), sInbox)]))]
theorem made_first {c : Nat} (hc : 1000 ≤ c) : madeD ⟨c, [], -1, false⟩ = (0, ⟨c, firstFiles, -1, false⟩) := by
 unfold madeD
 rw [begin_first hc, then_go rfl]
 unfold plantD
 have hf := inbox_flg
 have hi := inbox_idx
 have hl := inbox_len
 have ht := inbox_tlen
 rw [places_first (Or.inl rfl), if_pos inbox_tree]
 rw [calm_lay (List.pairwise_cons.2 ⟨fun q hq => by
  rcases List.mem_cons.1 hq with rfl | hq
  ·decide
  ·rw [List.mem_singleton.1 hq]; decide, List.pairwise_cons.2 ⟨fun q hq => by rw [List.mem_singleton.1 hq]; decide, List.pairwise_singleton _ _⟩⟩) rfl (by decide) (by decide) (by show _ ≤ c - ((pagesL logI []).b.length + ((pagesL logI []).c.length + ((firstV sInbox).length + 0))); omega)]
 rfl
theorem first_tree : getTreeV (treePage [((0 : Int), sInbox)]) = some [((0 : Int), sInbox)] := by decide +kernel
theorem first_flags : getFlagsV (pagesL logI []).b = some (1, []) := by decide +kernel
theorem first_idx : (idxL logI).err = 0 ∧ (idxL logI).page = (pagesL logI []).c := by decide +kernel
theorem first_whole {c : Nat} {fu : Int} : (wholeD ⟨c, firstFiles, fu, false⟩ 0).2 = 0 := by
 have e1 : fileD ⟨c, firstFiles, fu, false⟩ kLog 0 = (firstV sInbox, 0) := by unfold fileD; rw [kL0_is]; rfl
 have e2 : fileD ⟨c, firstFiles, fu, false⟩ kIdx 0 = ((pagesL logI []).c, 0) := by unfold fileD; rw [kI0_is]; rfl
 have e3 : flagsD ⟨c, firstFiles, fu, false⟩ 0 = some (1, []) := by unfold flagsD fileD; rw [kF0_is]; exact first_flags
 have h1 : wholeOk ⟨c, firstFiles, fu, false⟩ 0 = true := by
  unfold wholeOk
  rw [e1, e2, e3, inbox_log, first_idx.1, first_idx.2, inbox_len]
  simp
  decide +kernel
 have h2 : rightB (boxF logI []) = true := by decide +kernel
 unfold wholeD
 rw [e1, e3, inbox_log, if_pos rfl, if_pos ⟨h1, h2⟩]
theorem first_stray {c : Nat} {fu : Int} : strayD ⟨c, firstFiles, fu, false⟩ = false := by
 have h : ∀ k, hasD ⟨c, firstFiles, fu, false⟩ k = decide (k ∈ [kF0, kI0, kL0, kTree]) := fun k => by
  rw [Bool.eq_iff_iff, decide_eq_true_iff]
  exact mem_names.symm
 unfold strayD
 simp only [h]
 decide +kernel
/-- a store on an empty disk -/
theorem open_first {c : Nat} (hc : 1000 ≤ c) : openD ⟨c, [], -1, false⟩ = (0, ⟨c, firstFiles, -1, false⟩, [(sInbox.data.toList, 0)]) := by
 have hp : placesD ⟨c, firstFiles, -1, false⟩ = [((0 : Int), sInbox)] := places_first (Or.inr rfl)
 have ho : openOk ⟨c, firstFiles, -1, false⟩ = true := by
  unfold openOk
  have et : (dRead ⟨c, firstFiles, -1, false⟩ kTree).1 = treePage [((0 : Int), sInbox)] := rfl
  rw [et, first_tree, hp, first_stray]
  have := first_whole (c := c) (fu := -1)
  simp [this]
 unfold openD
 rw [if_neg (fun h => by cases h), if_neg (by rw [made_first hc]; exact fun h => h.2 rfl)]
 show (if openOk (madeD ⟨c, [], -1, false⟩).2 = true then _ else _) = _
 rw [made_first hc, if_pos ho]
 show (0, _, namesP (placesD ⟨c, firstFiles, -1, false⟩)) = _
 rw [hp]
 rfl
end Go.Proofs.YtkljkbeahdipfaaGreatDoor
/-
  Walk: cubbylaw19.awake.
-/
namespace Go.Proofs.YtkljkbeahdipfaaGreatDoor
open Go.RowKit Go.Maps
set_option linter.unusedSimpArgs false
set_option linter.unusedVariables false
theorem wfd_first (c : Nat) (hc : c ≤ 4194304) : WFD ⟨c, [], -1, false⟩ := ⟨up_nil, Nat.zero_le _, hc, by show (-1 : Int) ≤ -1; omega, by show (-1 : Int) ≤ _; omega, fun q hq => by cases hq⟩
/-- a store on an empty disk -/
theorem open_first_at {w : World} {p mb N c : Nat} (h : Dk w p mb ⟨c, [], -1, false⟩ N) (hN : N < 500000) (hc : 1000 ≤ c) :
 Calls Tryz.prog 33 #[.pointer (some ⟨p, 0, none⟩)] w fun ev w' => ∃ ps mn, ev = .returned (.tuple #[.pointer (some ⟨ps, 0, none⟩), .int .i64 0]) ∧ StoreAt w' ps p mn [(sInbox.data.toList, 0)] ∧ w.heap.size ≤ ps ∧ w.heap.size ≤ mn ∧ Dk w' p mb ⟨c, firstFiles, -1, false⟩ (N + 11) ∧ But p mb w w' := by
 refine (open_at h hN).mono ?_
 rw [open_first hc]
 rintro ev w' ⟨ho, hD, hB⟩
 obtain ⟨ps, mn, h1, h2, h3, h4⟩ := ho.2 rfl
 exact ⟨ps, mn, h1, h2, h3, h4, hD, hB⟩
set_option maxRecDepth 100000 in
set_option maxHeartbeats 8000000 in
theorem awake19_any (w : World) (he : EnvS w) :
 Calls Tryz.prog 25 #[] w fun ev w' => ev = .returned (.bool true) ∧ Below w.heap.size w w' := by
 refine calls_at 26 Tryz.func25 rfl rfl (Nat.le_of_ble_eq_true rfl) ?_
 intro a hA; replace hA := hA.norm
 refine wS (wR ?_)
 revert a; refine wo rfl rfl (by decide) (fun ev e h => by simp [go_sem, h] <;> rfl) ?_; intro a hA
 replace hA := hA.keepN []
 refine wN (nT (wS (wR ?_)))
 refine wl_call hA rfl rfl (by decide) (fun ev h => exec_call Tryz.func16 (by kernel_rfl) rfl (h.f _) (by first | (simp only [mL, h.c] <;> rfl) | (simp [mL, h.c] <;> rfl))) (new_at 1000 (by omega) w) ?_
 rintro e w1 ⟨p, mb, rfl, hd, hp, hmb, hb1⟩
 refine ⟨_, rfl, fun a hA => ?_⟩
 have hD : Dk w1 p mb ⟨1000, [], -1, false⟩ 0 := ⟨⟨[], rfl, hd⟩, wfd_first 1000 (by omega), Nat.le_refl _, ⟨w, he, hb1, hp, hmb⟩⟩
 revert a; (iterate 5 refine wo rfl rfl (by decide) (fun ev e h => by simp [go_sem, h] <;> rfl) ?_); intro a hA
 replace hA := hA.keepN [1]
 refine wN (nT (wS (wR ?_)))
 revert a; refine wo rfl rfl (by decide) (fun ev e h => by simp [go_sem, h] <;> rfl) ?_; intro a hA
 refine wl_call hA rfl rfl (by decide) (fun ev h => exec_call Tryz.func33 (by kernel_rfl) rfl (h.f _) (by first | (simp only [mL, h.get 10 rfl, h.c] <;> rfl) | (simp [mL, h.get 10 rfl, h.c] <;> rfl))) (open_first_at hD (by omega) (by omega)) ?_
 rintro e w2 ⟨ps, mn, rfl, hS, hps, hmn, hD2, hB2⟩
 refine ⟨_, rfl, fun a hA => ?_⟩
 have HB2 := hb1.trans (hB2.toBelow hb1.size hp hmb)
 revert a; (iterate 5 refine wo rfl rfl (by decide) (fun ev e h => by simp [go_sem, h] <;> rfl) ?_); intro a hA
 replace hA := hA.keepN [3, 4]
 refine wN (nT (wS (wR ?_)))
 revert a; (iterate 3 refine wo rfl rfl (by decide) (fun ev e h => by simp [go_sem, h] <;> rfl) ?_); (iterate 2 refine wg _ rfl rfl rfl rfl (by decide) (fun hq ev e h => by simp [go_sem, h, ↓gw_t (beq_t hq)] <;> rfl) ?_); refine wka rfl rfl (by decide) rfl rfl rfl ?_; refine wo rfl rfl (by decide) (fun ev e h => by simp [go_sem, h] <;> rfl) ?_; refine wg _ rfl rfl rfl rfl (by decide) (fun hq ev e h => by simp [go_sem, h, ↓gw_t (beq_t hq)] <;> rfl) ?_; intro a hA
 refine wl_kcall hA rfl rfl rfl rfl (by decide) (fun ev h => exec_call Tryz.func45 (by kernel_rfl) rfl (h.f _) (by first | (simp only [mL, h.get 21 rfl, h.c] <;> rfl) | (simp [mL, h.get 21 rfl, h.c] <;> rfl))) (names_any hS (by simp)) ?_
 rintro e w3 ⟨V, rfl, ho3, hb3⟩
 refine ⟨_, rfl, fun a hA => ?_⟩
 obtain ⟨A, c, rfl, hr3, hc3⟩ := ho3.reads
 revert a; (iterate 2 refine wg _ rfl rfl rfl rfl (by decide) (fun hq ev e h => by simp [go_sem, h, ↓gw_t (beq_t hq)] <;> rfl) ?_); intro a hA
 replace hA := hA.keepN [20, 24]
 revert a; refine wka rfl rfl (by decide) rfl rfl rfl ?_; refine wo rfl rfl (by decide) (fun ev e h => by simp [go_sem, h] <;> rfl) ?_; intro a hA
 replace hA := hA.keepN [0]
 refine wN (nT (wp_ret ?_))
 refine ret_1 hA 0 rfl rfl ?_
 exact ⟨rfl, HB2.trans (hb3.mono HB2.size)⟩
end Go.Proofs.YtkljkbeahdipfaaGreatDoor
/-
  Walk of the disk's Restart.
-/
namespace Go.Proofs.YtkljkbeahdipfaaGreatDoor
open Go.RowKit Go.Maps
theorem restartL_cons (keep : List Int) (i : Nat) (q : Key × FileM) (r : List (Key × FileM)) : restartL keep i (q :: r) = if q.2.whole = true then q :: restartL keep i r else if q.2.ever = false ∧ (cutF keep i q.2).b = [] then restartL keep (i + 1) r else (q.1, cutF keep i q.2) :: restartL keep (i + 1) r := rfl
theorem restartN_cons (q : Key × FileM) (r : List (Key × FileM)) : restartN (q :: r) = if q.2.whole = true then restartN r else restartN r + 1 := rfl
theorem restartL_append (keep : List Int) : ∀ (l m : List (Key × FileM)) (i : Nat), restartL keep i (l ++ m) = restartL keep i l ++ restartL keep (i + restartN l) m
 | [], m, i => rfl
 | q :: r, m, i => by
   rw [List.cons_append, restartL_cons, restartL_cons, restartN_cons]
   by_cases h : q.2.whole = true
   ·rw [if_pos h, if_pos h, if_pos h, restartL_append keep r m i]; rfl
   ·rw [if_neg h, if_neg h, if_neg h]
    have e : i + 1 + restartN r = i + (restartN r + 1) := by omega
    by_cases h2 : q.2.ever = false ∧ (cutF keep i q.2).b = []
    ·rw [if_pos h2, if_pos h2, restartL_append keep r m (i + 1), e]
    ·rw [if_neg h2, if_neg h2, restartL_append keep r m (i + 1), e]; rfl
theorem restartN_append : ∀ (l m : List (Key × FileM)), restartN (l ++ m) = restartN l + restartN m
 | [], m => by simp [restartN]
 | q :: r, m => by
   rw [List.cons_append, restartN_cons, restartN_cons, restartN_append r m]
   split <;> omega
theorem restartN_le : ∀ l : List (Key × FileM), restartN l ≤ l.length
 | [] => Nat.le_refl _
 | q :: r => by
   have := restartN_le r
   rw [restartN_cons]
   split <;> simp only [List.length_cons] <;> omega
theorem restart_whole (keep : List Int) (i : Nat) (q : Key × FileM) (h : q.2.whole = true) : restartL keep i [q] = [q] ∧ restartN [q] = 0 := by
 simp [restartL, restartN, h]
theorem restart_gone (keep : List Int) (i : Nat) (q : Key × FileM) (h : q.2.whole = false) (h2 : q.2.ever = false) (h3 : (cutF keep i q.2).b = []) : restartL keep i [q] = [] ∧ restartN [q] = 1 := by
 simp [restartL, restartN, h, h2, h3]
theorem restart_cut (keep : List Int) (i : Nat) (q : Key × FileM) (h : q.2.whole = false) (h2 : ¬ (q.2.ever = false ∧ (cutF keep i q.2).b = [])) : restartL keep i [q] = [(q.1, cutF keep i q.2)] ∧ restartN [q] = 1 := by
 refine ⟨?_, ?_⟩
 ·rw [restartL_cons, if_neg (by rw [h]; simp), if_neg h2]; rfl
 ·rw [restartN_cons, if_neg (by rw [h]; simp)]; rfl
theorem str_away {w : World} {p mb cap : Nat} {fuse : Int} {lost : Bool} {t : TypeId} (h : Blk w p t (dcells mb cap fuse lost)) {ad : Addr} {x : ByteArray} (hc : w.cell? ad = some (.string x)) : ad.block ≠ p := by
 intro e
 unfold Blk at h
 unfold World.cell? at hc
 rw [e, h] at hc
 simp only [dcells] at hc
 split at hc
 ·cases hc
 ·rcases ho : ad.off with _ | _ | _ | _ | n <;> rw [ho] at hc <;> simp at hc
/-- a row of names, while a disk turns -/
theorem DiskAt.names_but {V : Type} {w w' : World} {p mb cap : Nat} {es : List (Key × FV)} {fuse : Int} {lost : Bool} (hd : DiskAt w p mb es cap fuse lost) (hb : But p mb w w') {A : Option Addr} {n : Nat} {l : List (Key × V)} (h : Reads w w.heap.size 1 A n (keyCells l)) : Reads w' w'.heap.size 1 A n (keyCells l) := by
 refine ⟨h.1, fun hn => ?_⟩
 obtain ⟨ad, rfl, hlt, hc⟩ := h.2 hn
 have hl : 0 < l.length := by have := h.1; simp [keyCells] at this; omega
 have h0 := hc 0 _ (by unfold keyCells; rw [List.getElem?_map, List.getElem?_eq_getElem hl]; rfl)
 have a1 := str_away hd.cells h0
 have a2 := map_away hd.map h0
 rw [block_of_add] at a1 a2
 refine ⟨ad, rfl, Nat.lt_of_lt_of_le hlt hb.size, fun j u hu => ?_⟩
 have hk := hb.block ad.block hlt a1 a2
 exact (World.cell?_of_block (by rw [block_of_add]; exact hk)).trans (hc j u hu)
def i64s (l : List Int) : List Value := l.map fun v => Value.int .i64 v
theorem fmap_append {V U : Type} (g : V → U) (l m : List (Key × V)) : fmap g (l ++ m) = fmap g l ++ fmap g m := by simp [fmap]
set_option maxHeartbeats 1600000 in
set_option maxRecDepth 100000 in
theorem restart_at {w : World} {p mb : Nat} {d : DiskM} (h : Disk w p mb d) (hf : WFD d) (hN : d.files.length < 1000000) (B : Nat) (K : Option Addr) (n c : Nat) (keep : List Int) (hn : keep.length = n) (hn2 : n ≤ 10000000) (hk : ∀ v ∈ keep, -9223372036854775808 ≤ v ∧ v ≤ 9223372036854775807) (hr : Reads w B 1 K n (i64s keep)) (hB : B ≤ w.heap.size) (hBp : B ≤ p) (hBm : B ≤ mb) :
 Calls Tryz.prog 28 #[.pointer (some ⟨p, 0, none⟩), .slice K n c] w fun e w' => e = .returned (.tuple #[]) ∧ Disk w' p mb (dRestart d keep) ∧ But p mb w w' := by
 have Hnm := Lib.hid (names_at h hN)
 obtain ⟨cap, files, fuse, lost⟩ := d
 obtain ⟨es, hfi, h⟩ := h
 obtain rfl : files = fmap FV.m es := hfi
 have hN' : es.length < 1000000 := by simpa [fmap] using hN
 have heach : ∀ q ∈ es, q.2.m.safe ≤ q.2.m.b.length ∧ q.1.length ≤ 40 ∧ q.2.m.b.length ≤ 4194304 := fun q hq => by
  have hm : (q.1, q.2.m) ∈ fmap FV.m es := List.mem_map.2 ⟨q, hq, rfl⟩
  have h1 := hf.each _ hm
  have h2 := used_get (k := q.1) (f := q.2.m) (l := fmap FV.m es) (fget_of_mem hf.up hm)
  have h3 := hf.room
  have h4 := hf.cap
  simp only at h1 h3 h4
  exact ⟨h1.1, h1.2, by omega⟩
 have HE : Hid (∀ q ∈ es, q.2.m.safe ≤ q.2.m.b.length ∧ q.1.length ≤ 40 ∧ q.2.m.b.length ≤ 4194304) := heach
 have H := Lib.hid h
 have HR := Lib.hid hr
 have HK := Lib.hid hk
 have HU := Lib.hid h.up
 have ef : (fmap FV.m es).length = es.length := by simp [fmap]
 simp only [ef, keyCells_fmap] at Hnm
 clear h hf hN heach hr hk ef
 go_enter Tryz.func28, Tryz.ntmps28
 go_wp2_with fail
 refine Hnm.out.mono ?_
 rintro e w1 ⟨A, cc, rfl, hrn, hb1⟩
 have H1 := Lib.hid (H.out.below hb1)
 have HB1 := Lib.hid (But.of_below (p := p) (m := mb) hb1)
 have HRN := Lib.hid hrn
 have HR1 := Lib.hid (HR.out.below (hb1.mono hB))
 have HS1 := Lib.hid hb1.size
 clear hb1 hrn
 go_wp2
 go_loopw [4, 15] (fun u v wr => ∃ (j : Nat) (E1 E2 : List (Key × FV)), v = .int .i64 j ∧ j ≤ es.length ∧ u = .int .i64 (restartN (fmap FV.m (es.take j)) : Nat) ∧ Hid (fmap FV.m E1 = restartL keep 0 (fmap FV.m (es.take j))) ∧ Hid (E2 = es.drop j) ∧ Hid (DiskAt wr p mb (E1 ++ E2) cap fuse lost) ∧ Hid (But p mb w1 wr)) (fun _ v _ => es.length - (intOf v).toNat)
 case atStart => exact ⟨0, [], es, rfl, by omega, rfl, rfl, rfl, H1, But.refl _ _ _⟩
 case round =>
  obtain ⟨j, E1, E2, rfl, hj, rfl, he1, he2, hd, hb⟩ := hrel
  by_cases hlt : j < es.length
  ·obtain ⟨q, hq⟩ : ∃ q, es[j]? = some q := ⟨_, List.getElem?_eq_getElem hlt⟩
   have hqm : q ∈ es := List.mem_of_getElem? hq
   have hdr : es.drop j = q :: es.drop (j + 1) := by
    rw [List.drop_eq_getElem_cons hlt]
    rw [List.getElem?_eq_getElem hlt] at hq
    injection hq with hq
    rw [hq]
   have htk : es.take (j + 1) = es.take j ++ [q] := by rw [List.take_add_one, hq]; rfl
   obtain ⟨x, ⟨⟨b, sf, ev⟩, A2, c2⟩⟩ := q
   have hqe := HE.out _ hqm
   simp only at hqe
   have hkc : (keyCells es)[j]? = some (.string ⟨x.toArray⟩) := by unfold keyCells; rw [List.getElem?_map, hq]; rfl
   obtain ⟨ad, rfl, hab, hcs⟩ := (H1.out.names_but hb.out HRN.out).2 (by omega)
   have hcx := hcs _ _ hkc
   have he2' : E2 = (x, ⟨⟨b, sf, ev⟩, A2, c2⟩) :: es.drop (j + 1) := he2.out.trans hdr
   subst he2'
   have hks : (⟨x.toArray⟩ : ByteArray).size ≤ maxLen := by
    have : (⟨x.toArray⟩ : ByteArray).size = x.length := by simp [ByteArray.size]
    rw [this]; unfold maxLen; omega
   have hgx : fget (⟨x.toArray⟩ : ByteArray).data.toList (E1 ++ (x, ⟨⟨b, sf, ev⟩, A2, c2⟩) :: es.drop (j + 1)) = some ⟨⟨b, sf, ev⟩, A2, c2⟩ := by
    have e : (⟨x.toArray⟩ : ByteArray).data.toList = x := by simp
    rw [e]; exact fget_at hd.out.up
   have hl := look1_some hd.out.map ⟨x.toArray⟩ hks hgx
   have c1 := hd.out.c1
   obtain ⟨bw, hbw⟩ : ∃ bw, (ev && decide (sf = b.length)) = bw := ⟨_, rfl⟩
   have hF := Blk.new wr 103 #[.slice A2 b.length c2, .int .i64 (sf : Nat), .bool ev]
   have hd2 := hd.out.below ((Below.refl _ _).alloc (Nat.le_refl _) (.cells #[.slice A2 b.length c2, .int .i64 (sf : Nat), .bool ev] 103))
   have hb2 := hb.out.alloc (.cells #[.slice A2 b.length c2, .int .i64 (sf : Nat), .bool ev] 103)
   have Hw := Lib.hid (whole_any A2 b.length c2 sf ev (wr.alloc (.cells #[.slice A2 b.length c2, .int .i64 (sf : Nat), .bool ev] 103)))
   rw [hbw] at Hw
   have hpg : p ≠ wr.heap.size := Nat.ne_of_lt hd.out.cells.lt
   have hmg : mb ≠ wr.heap.size := Nat.ne_of_lt hd.out.map.lt
   have HTK := Lib.hid htk
   have HBW := Lib.hid hbw
   have HKS := Lib.hid hks
   have HF := Lib.hid hF
   have HD2 := Lib.hid hd2
   have HB2 := Lib.hid hb2
   have HPG : Hid (p ≠ wr.heap.size ∧ mb ≠ wr.heap.size) := ⟨hpg, hmg⟩
   have HSZ : Hid (w1.heap.size ≤ wr.heap.size) := hb.out.size
   have HGW : Hid (wr.heap.size ≤ wr.heap.size) := Nat.le_refl _
   have HBW2 := Lib.hid ((But.refl p mb wr).alloc (.cells #[.slice A2 b.length c2, .int .i64 (sf : Nat), .bool ev] 103))
   clear hq hqm hdr htk hkc hcs he2 hks hgx hbw hF hd2 hb2 hpg hmg
   go_wp2_with fail
   refine Hw.out.mono ?_
   rintro e w3 ⟨rfl, hb3⟩
   have HF3 := Lib.hid (HF.out.below hb3 HF.out.lt)
   have HD3 := Lib.hid (HD2.out.below hb3)
   have HB3 := Lib.hid (HB2.out.below hb3)
   have HBW3 := Lib.hid (HBW2.out.below hb3)
   clear hb3 hcx c1 hl hab
   obtain ⟨gf, hgf⟩ : ∃ gf, wr.heap.size = gf := ⟨_, rfl⟩
   have HGW' : Hid (wr.heap.size ≤ gf) := by show _ ≤ _; omega
   clear HGW HBW2
   rw [hgf] at HF3 HPG HSZ ⊢
   clear hgf HF HB2 HD2 Hw
   cases bw with
   | true =>
     obtain ⟨r1, r2⟩ := restart_whole keep (0 + restartN (fmap FV.m (es.take j))) (x, ⟨b, sf, ev⟩) HBW.out
     have hu : restartN (fmap FV.m (es.take (j + 1))) = restartN (fmap FV.m (es.take j)) := by
      rw [HTK.out, fmap_append, restartN_append]
      show _ + restartN [(x, ⟨b, sf, ev⟩)] = _
      rw [r2]; rfl
     have hn1 : fmap FV.m (E1 ++ [(x, ⟨⟨b, sf, ev⟩, A2, c2⟩)]) = restartL keep 0 (fmap FV.m (es.take (j + 1))) := by
      rw [HTK.out, fmap_append, fmap_append, restartL_append, he1.out]
      show _ ++ [(x, ⟨b, sf, ev⟩)] = _ ++ restartL keep _ [(x, ⟨b, sf, ev⟩)]
      rw [r1]
     have HN1 := Lib.hid hn1
     have HU1 := Lib.hid hu
     clear hu hn1 r1 r2
     go_wp2
     go_roundw
     case rel => exact ⟨j + 1, E1 ++ [(x, ⟨⟨b, sf, ev⟩, A2, c2⟩)], es.drop (j + 1), by go_num, by omega, by rw [HU1.out], HN1, rfl, by rw [List.append_assoc]; exact HD3, HB3⟩
     case measure => simp [intOf]; omega
   | false =>
     obtain ⟨ri, hri⟩ : ∃ ri, restartN (fmap FV.m (es.take j)) = ri := ⟨_, rfl⟩
     have hri2 : ri ≤ 1000000 := by
      have := restartN_le (fmap FV.m (es.take j))
      rw [hri] at this
      simp only [fmap, List.length_map, List.length_take] at this
      omega
     obtain ⟨N, hN1⟩ : ∃ N, b.length - sf + 1 = N := ⟨_, rfl⟩
     obtain ⟨mo, hmo⟩ : ∃ mo, keepN keep ri N = mo := ⟨_, rfl⟩
     have hmN : mo < N := by rw [← hmo]; exact keepN_lt keep ri N (by omega)
     have hc2 : b.length ≤ c2 := (hd.out.bytes (x, ⟨⟨b, sf, ev⟩, A2, c2⟩) (by simp)).2
     have hNI : (b.length : Int) - (sf : Nat) + 1 = (N : Nat) := by omega
     obtain ⟨kk, hkk⟩ : ∃ kk, sf + mo = kk := ⟨_, rfl⟩
     have hkI : (sf : Int) + (mo : Nat) = (kk : Nat) := by omega
     have hkb : kk ≤ b.length := by omega
     have hkc2 : kk ≤ c2 := by omega
     have hbl : (b.take kk).length = kk := by rw [List.length_take]; omega
     have hcut : cutF keep (0 + restartN (fmap FV.m (es.take j))) ⟨b, sf, ev⟩ = ⟨b.take kk, kk, true⟩ := by unfold cutF; simp only; rw [Nat.zero_add, hri, hN1, hmo, hkk, hbl]
     have hll : (E1 ++ (x, (⟨⟨b, sf, ev⟩, A2, c2⟩ : FV)) :: es.drop (j + 1)).length < maxLen := by
      have e1 : E1.length = (fmap FV.m E1).length := by simp [fmap]
      have e2 := length_restartL keep (fmap FV.m (es.take j)) 0
      rw [← he1.out, ← e1] at e2
      simp only [fmap, List.length_map, List.length_take] at e2
      rw [List.length_append, List.length_cons, List.length_drop]
      unfold maxLen; omega
     have hwn : FileM.whole ⟨b, sf, ev⟩ = false := HBW.out
     have HLL : Hid (_ < maxLen) := hll
     have HWN := Lib.hid hwn
     have HCUT := Lib.hid hcut
     have HBL := Lib.hid hbl
     have HRI := Lib.hid hri
     clear hcut hbl hll hwn
     have y0 : w3.cell? ⟨gf, 0, none⟩ = some (.slice A2 b.length c2) := by rw [HF3.out.cell]; rfl
     have y1 : w3.cell? ⟨gf, 1, none⟩ = some (.int .i64 (sf : Nat)) := by rw [HF3.out.cell]; rfl
     have y2 : w3.cell? ⟨gf, 2, none⟩ = some (.bool ev) := by rw [HF3.out.cell]; rfl
     have f0 := HF3.out.frozen 0
     have f1 := HF3.out.frozen 1
     have f2 := HF3.out.frozen 2
     rw [hri]
     by_cases hn0 : n = 0
     ·subst hn0
      have hm0 : mo = 0 := by
       rw [← hmo, List.length_eq_zero_iff.1 hn]; rfl
      subst hm0
      clear hmo hri hN1 hNI
      obtain rfl : kk = sf := by omega
      cases ev with
      | true =>
        obtain ⟨w4, hw4⟩ : ∃ w4, w4 = ((w3.setCell ⟨gf, 0, none⟩ (.slice A2 kk c2)).setCell ⟨gf, 1, none⟩ (.int .i64 (kk : Nat))).setCell ⟨gf, 2, none⟩ (.bool true) := ⟨_, rfl⟩
        have hF4 : Blk w4 gf 103 #[.slice A2 kk c2, .int .i64 (kk : Nat), .bool true] := by rw [hw4]; exact ((HF3.out.set_ 0 _).set_ 1 _).set_ 2 _
        have hb4 : But p mb wr w4 := by rw [hw4]; exact ((HBW3.out.setNew (q := ⟨gf, 0, none⟩) HGW'.out _).setNew (q := ⟨gf, 1, none⟩) HGW'.out _).setNew (q := ⟨gf, 2, none⟩) HGW'.out _
        have hb4' : But p mb w1 w4 := by rw [hw4]; exact ((HB3.out.setNew (q := ⟨gf, 0, none⟩) HSZ.out _).setNew (q := ⟨gf, 1, none⟩) HSZ.out _).setNew (q := ⟨gf, 2, none⟩) HSZ.out _
        have hc4 : Blk w4 p 100 (dcells mb cap fuse lost) := by rw [hw4]; exact ((HD3.out.cells.far (p := ⟨gf, 0, none⟩) HPG.out.1 _).far (p := ⟨gf, 1, none⟩) HPG.out.1 _).far (p := ⟨gf, 2, none⟩) HPG.out.1 _
        have hm4 : w4.ownsMap Tryz.prog 9 heldR mb (E1 ++ (x, (⟨⟨b, kk, true⟩, A2, c2⟩ : FV)) :: es.drop (j + 1)).length (dmap heldF (E1 ++ (x, (⟨⟨b, kk, true⟩, A2, c2⟩ : FV)) :: es.drop (j + 1))) := by rw [hw4]; exact ((HD3.out.map.setCell (a := ⟨gf, 0, none⟩) HPG.out.2 _).setCell (a := ⟨gf, 1, none⟩) HPG.out.2 _).setCell (a := ⟨gf, 2, none⟩) HPG.out.2 _
        have h4 := hd.out.turn hb4 hc4 hm4 hd.out.up (fun q hq => .inl hq)
        have hrd := (h4.bytes (x, (⟨⟨b, kk, true⟩, A2, c2⟩ : FV)) (by simp)).1.take hkb
        obtain ⟨w5, hrun, hm5, ht5⟩ := store_some (w := w4.drew) hm4.drew h4.up HLL.out ⟨x.toArray⟩ HKS.out (b.take kk) kk true A2 c2
        rw [HBL.out] at hrun
        have ex : (⟨x.toArray⟩ : ByteArray).data.toList = x := by simp
        rw [ex] at hm5
        have hrd2 : Reads w5 w5.heap.size 1 A2 kk (u8s (b.take kk)) := h4.reads_but (((But.refl _ _ _).drew).turned ht5) hrd
        obtain ⟨h5, hb5⟩ := h4.store ((But.refl _ _ _).drew) hc4.drew x ⟨⟨b.take kk, kk, true⟩, A2, c2⟩ hm5 ht5 ⟨by show Reads w5 w5.heap.size 1 A2 (b.take kk).length _; rw [HBL.out]; exact hrd2, by show (b.take kk).length ≤ c2; rw [HBL.out]; exact hkc2⟩
        rw [fput_at h4.up] at h5
        have z0 : w4.cell? ⟨gf, 0, none⟩ = some (.slice A2 kk c2) := by rw [hF4.cell]; rfl
        have z1 : w4.cell? ⟨gf, 1, none⟩ = some (.int .i64 (kk : Nat)) := by rw [hF4.cell]; rfl
        have z2 : w4.cell? ⟨gf, 2, none⟩ = some (.bool true) := by rw [hF4.cell]; rfl
        have z3 : w4.cell? ⟨p, 1, none⟩ = some (.map (some mb)) := h4.c1
        have hbb := hb4'.trans hb5
        obtain ⟨r1, r2⟩ := restart_cut keep (0 + restartN (fmap FV.m (es.take j))) (x, ⟨b, kk, true⟩) HWN.out (fun h => by cases h.1)
        have hu : restartN (fmap FV.m (es.take (j + 1))) = ri + 1 := by
         rw [HTK.out, fmap_append, restartN_append, HRI.out]
         show _ + restartN [(x, ⟨b, kk, true⟩)] = _
         rw [r2]
        have hn1 : fmap FV.m (E1 ++ [(x, ⟨⟨b.take kk, kk, true⟩, A2, c2⟩)]) = restartL keep 0 (fmap FV.m (es.take (j + 1))) := by
         rw [HTK.out, fmap_append, fmap_append, restartL_append, he1.out]
         show _ ++ [(x, ⟨b.take kk, kk, true⟩)] = _ ++ restartL keep _ [(x, ⟨b, kk, true⟩)]
         rw [r1]
         show _ = _ ++ [(x, cutF keep _ ⟨b, kk, true⟩)]
         rw [HCUT.out]
        have h5' : DiskAt w5 p mb ((E1 ++ [(x, ⟨⟨b.take kk, kk, true⟩, A2, c2⟩)]) ++ es.drop (j + 1)) cap fuse lost := by rw [List.append_assoc]; exact h5
        have HN1 := Lib.hid hn1
        have HU1 := Lib.hid hu
        have H5 := Lib.hid h5'
        have HB5 := Lib.hid hbb
        have HW4 := Lib.hid hw4
        clear hu hn1 r1 r2 h4 h5 h5' hb5 hbb hm5 ht5 hc4 hm4 hb4 hb4' ex hrd hrd2 hF4 hw4
        go_upto_region 16 with (fail)
        rw [← HW4.out]
        clear y0 y1 y2 f0 f1 f2
        go_region
        go_wp2
        go_roundw
        case rel => exact ⟨j + 1, E1 ++ [(x, ⟨⟨b.take kk, kk, true⟩, A2, c2⟩)], es.drop (j + 1), by go_num, by omega, by rw [HU1.out]; go_num, HN1, rfl, H5, HB5⟩
        case measure => simp [intOf]; omega
      | false =>
        by_cases hk0 : kk = 0
        ·have HK0 := Lib.hid hk0
         clear hk0
         have hc4 : Blk (w3.setCell ⟨gf, 0, none⟩ (.slice A2 0 c2)) p 100 (dcells mb cap fuse lost) := HD3.out.cells.far (p := ⟨gf, 0, none⟩) HPG.out.1 _
         have hm4 : (w3.setCell ⟨gf, 0, none⟩ (.slice A2 0 c2)).ownsMap Tryz.prog 9 heldR mb (E1 ++ (x, (⟨⟨b, kk, false⟩, A2, c2⟩ : FV)) :: es.drop (j + 1)).length (dmap heldF (E1 ++ (x, (⟨⟨b, kk, false⟩, A2, c2⟩ : FV)) :: es.drop (j + 1))) := HD3.out.map.setCell (a := ⟨gf, 0, none⟩) HPG.out.2 _
         have hb4 : But p mb wr (w3.setCell ⟨gf, 0, none⟩ (.slice A2 0 c2)) := HBW3.out.setNew HGW'.out _
         have h4 := hd.out.turn hb4 hc4 hm4 hd.out.up (fun q hq => .inl hq)
         obtain ⟨w5, hrun, hm5, ht5⟩ := drop_run h4.map ⟨x.toArray⟩ HKS.out 0
         have ex : (⟨x.toArray⟩ : ByteArray).data.toList = x := by simp
         rw [ex] at hm5
         obtain ⟨h5, hb5⟩ := h4.drop x hm5 ht5
         rw [fdel_at h4.up] at h5
         have c4 := h4.c1
         have hbb := (HB3.out.setNew (q := ⟨gf, 0, none⟩) HSZ.out (.slice A2 0 c2)).trans hb5
         obtain ⟨r1, r2⟩ := restart_gone keep (0 + restartN (fmap FV.m (es.take j))) (x, ⟨b, kk, false⟩) HWN.out rfl (by rw [HCUT.out]; show b.take kk = []; rw [HK0.out]; rfl)
         have hu : restartN (fmap FV.m (es.take (j + 1))) = ri + 1 := by
          rw [HTK.out, fmap_append, restartN_append, HRI.out]
          show _ + restartN [(x, ⟨b, kk, false⟩)] = _
          rw [r2]
         have hn1 : fmap FV.m E1 = restartL keep 0 (fmap FV.m (es.take (j + 1))) := by
          rw [HTK.out, fmap_append, restartL_append, he1.out]
          show _ = _ ++ restartL keep _ [(x, ⟨b, kk, false⟩)]
          rw [r1, List.append_nil]
         have HN1 := Lib.hid hn1
         have HU1 := Lib.hid hu
         have H5 := Lib.hid h5
         have HB5 := Lib.hid hbb
         have hk0 := HK0.out
         clear hu hn1 r1 r2 h4 h5 hb5 hbb hm5 ht5 hc4 hm4 hb4 ex
         go_wp2
         go_roundw
         case rel => exact ⟨j + 1, E1, es.drop (j + 1), by go_num, by omega, by rw [HU1.out]; go_num, HN1, rfl, H5, HB5⟩
         case measure => simp [intOf]; omega
        ·have hk1 : ((kk : Nat) : Int) ≠ 0 := by omega
         have hk2 : (((kk : Nat) : Int) == 0) = false := by simpa using hk1
         obtain ⟨w4, hw4⟩ : ∃ w4, w4 = ((w3.setCell ⟨gf, 0, none⟩ (.slice A2 kk c2)).setCell ⟨gf, 1, none⟩ (.int .i64 (kk : Nat))).setCell ⟨gf, 2, none⟩ (.bool true) := ⟨_, rfl⟩
         have hF4 : Blk w4 gf 103 #[.slice A2 kk c2, .int .i64 (kk : Nat), .bool true] := by rw [hw4]; exact ((HF3.out.set_ 0 _).set_ 1 _).set_ 2 _
         have hb4 : But p mb wr w4 := by rw [hw4]; exact ((HBW3.out.setNew (q := ⟨gf, 0, none⟩) HGW'.out _).setNew (q := ⟨gf, 1, none⟩) HGW'.out _).setNew (q := ⟨gf, 2, none⟩) HGW'.out _
         have hb4' : But p mb w1 w4 := by rw [hw4]; exact ((HB3.out.setNew (q := ⟨gf, 0, none⟩) HSZ.out _).setNew (q := ⟨gf, 1, none⟩) HSZ.out _).setNew (q := ⟨gf, 2, none⟩) HSZ.out _
         have hc4 : Blk w4 p 100 (dcells mb cap fuse lost) := by rw [hw4]; exact ((HD3.out.cells.far (p := ⟨gf, 0, none⟩) HPG.out.1 _).far (p := ⟨gf, 1, none⟩) HPG.out.1 _).far (p := ⟨gf, 2, none⟩) HPG.out.1 _
         have hm4 : w4.ownsMap Tryz.prog 9 heldR mb (E1 ++ (x, (⟨⟨b, kk, false⟩, A2, c2⟩ : FV)) :: es.drop (j + 1)).length (dmap heldF (E1 ++ (x, (⟨⟨b, kk, false⟩, A2, c2⟩ : FV)) :: es.drop (j + 1))) := by rw [hw4]; exact ((HD3.out.map.setCell (a := ⟨gf, 0, none⟩) HPG.out.2 _).setCell (a := ⟨gf, 1, none⟩) HPG.out.2 _).setCell (a := ⟨gf, 2, none⟩) HPG.out.2 _
         have h4 := hd.out.turn hb4 hc4 hm4 hd.out.up (fun q hq => .inl hq)
         have hrd := (h4.bytes (x, (⟨⟨b, kk, false⟩, A2, c2⟩ : FV)) (by simp)).1.take hkb
         obtain ⟨w5, hrun, hm5, ht5⟩ := store_some (w := w4.drew) hm4.drew h4.up HLL.out ⟨x.toArray⟩ HKS.out (b.take kk) kk true A2 c2
         rw [HBL.out] at hrun
         have ex : (⟨x.toArray⟩ : ByteArray).data.toList = x := by simp
         rw [ex] at hm5
         have hrd2 : Reads w5 w5.heap.size 1 A2 kk (u8s (b.take kk)) := h4.reads_but (((But.refl _ _ _).drew).turned ht5) hrd
         obtain ⟨h5, hb5⟩ := h4.store ((But.refl _ _ _).drew) hc4.drew x ⟨⟨b.take kk, kk, true⟩, A2, c2⟩ hm5 ht5 ⟨by show Reads w5 w5.heap.size 1 A2 (b.take kk).length _; rw [HBL.out]; exact hrd2, by show (b.take kk).length ≤ c2; rw [HBL.out]; exact hkc2⟩
         rw [fput_at h4.up] at h5
         have z0 : w4.cell? ⟨gf, 0, none⟩ = some (.slice A2 kk c2) := by rw [hF4.cell]; rfl
         have z1 : w4.cell? ⟨gf, 1, none⟩ = some (.int .i64 (kk : Nat)) := by rw [hF4.cell]; rfl
         have z2 : w4.cell? ⟨gf, 2, none⟩ = some (.bool true) := by rw [hF4.cell]; rfl
         have z3 : w4.cell? ⟨p, 1, none⟩ = some (.map (some mb)) := h4.c1
         have hbb := hb4'.trans hb5
         obtain ⟨r1, r2⟩ := restart_cut keep (0 + restartN (fmap FV.m (es.take j))) (x, ⟨b, kk, false⟩) HWN.out (fun h => hk0 (by have h2 := h.2; rw [HCUT.out] at h2; have h3 := congrArg List.length h2; simp only at h3; rw [HBL.out] at h3; simpa using h3))
         have hu : restartN (fmap FV.m (es.take (j + 1))) = ri + 1 := by
          rw [HTK.out, fmap_append, restartN_append, HRI.out]
          show _ + restartN [(x, ⟨b, kk, false⟩)] = _
          rw [r2]
         have hn1 : fmap FV.m (E1 ++ [(x, ⟨⟨b.take kk, kk, true⟩, A2, c2⟩)]) = restartL keep 0 (fmap FV.m (es.take (j + 1))) := by
          rw [HTK.out, fmap_append, fmap_append, restartL_append, he1.out]
          show _ ++ [(x, ⟨b.take kk, kk, true⟩)] = _ ++ restartL keep _ [(x, ⟨b, kk, false⟩)]
          rw [r1]
          show _ = _ ++ [(x, cutF keep _ ⟨b, kk, false⟩)]
          rw [HCUT.out]
         have h5' : DiskAt w5 p mb ((E1 ++ [(x, ⟨⟨b.take kk, kk, true⟩, A2, c2⟩)]) ++ es.drop (j + 1)) cap fuse lost := by rw [List.append_assoc]; exact h5
         have HN1 := Lib.hid hn1
         have HU1 := Lib.hid hu
         have H5 := Lib.hid h5'
         have HB5 := Lib.hid hbb
         have HW4 := Lib.hid hw4
         clear hu hn1 r1 r2 h4 h5 h5' hb5 hbb hm5 ht5 hc4 hm4 hb4 hb4' ex hrd hrd2 hF4 hw4
         go_upto_region 16 with (fail)
         rw [← HW4.out]
         clear y0 y1 y2 f0 f1 f2
         go_region
         go_wp2
         go_roundw
         case rel => exact ⟨j + 1, E1 ++ [(x, ⟨⟨b.take kk, kk, true⟩, A2, c2⟩)], es.drop (j + 1), by go_num, by omega, by rw [HU1.out]; go_num, HN1, rfl, H5, HB5⟩
         case measure => simp [intOf]; omega
     ·have hmi : ((ri : Int)).tmod (n : Int) = ((ri % n : Nat) : Int) := (Int.ofNat_tmod _ _).symm
      have hmlt : ri % n < n := Nat.mod_lt _ (by omega)
      obtain ⟨v, hv⟩ : ∃ v, keep[ri % n]? = some v := ⟨_, List.getElem?_eq_getElem (by omega)⟩
      have hv2 := HK.out v (List.mem_of_getElem? hv)
      have hB3 : Below B w1 w3 := HB3.out.toBelow (Nat.le_trans hB HS1.out) hBp hBm
      obtain ⟨kd, rfl, _, hkc⟩ := (HR1.out.below hB3).2 (by omega)
      have hkv := hkc (ri % n) (.int .i64 v) (by unfold i64s; rw [List.getElem?_map, hv]; rfl)
      have hmo2 : ((v.tmod N + N).tmod N).toNat = mo := by rw [← hmo]; unfold keepN; rw [hn, hv]
      have hp1 : -(N : Int) < v.tmod N := Int.lt_tmod_of_pos v (by omega)
      have hp2 : v.tmod N < N := Int.tmod_lt_of_pos v (by omega)
      have hp3 : (v.tmod N + N).tmod N = (mo : Nat) := by
       have : 0 ≤ (v.tmod N + N).tmod N := Int.tmod_nonneg _ (by omega)
       omega
      obtain ⟨v1, hv1⟩ : ∃ v1, v.tmod (N : Int) = v1 := ⟨_, rfl⟩
      rw [hv1] at hp1 hp2 hp3
      have hmlt2 : ((ri % n : Nat) : Int) < n := by omega
      clear hmo2 hmo hkc hv hri hN1 hB3
      generalize ri % n = mi at *
      cases ev with
      | true =>
        obtain ⟨w4, hw4⟩ : ∃ w4, w4 = ((w3.setCell ⟨gf, 0, none⟩ (.slice A2 kk c2)).setCell ⟨gf, 1, none⟩ (.int .i64 (kk : Nat))).setCell ⟨gf, 2, none⟩ (.bool true) := ⟨_, rfl⟩
        have hF4 : Blk w4 gf 103 #[.slice A2 kk c2, .int .i64 (kk : Nat), .bool true] := by rw [hw4]; exact ((HF3.out.set_ 0 _).set_ 1 _).set_ 2 _
        have hb4 : But p mb wr w4 := by rw [hw4]; exact ((HBW3.out.setNew (q := ⟨gf, 0, none⟩) HGW'.out _).setNew (q := ⟨gf, 1, none⟩) HGW'.out _).setNew (q := ⟨gf, 2, none⟩) HGW'.out _
        have hb4' : But p mb w1 w4 := by rw [hw4]; exact ((HB3.out.setNew (q := ⟨gf, 0, none⟩) HSZ.out _).setNew (q := ⟨gf, 1, none⟩) HSZ.out _).setNew (q := ⟨gf, 2, none⟩) HSZ.out _
        have hc4 : Blk w4 p 100 (dcells mb cap fuse lost) := by rw [hw4]; exact ((HD3.out.cells.far (p := ⟨gf, 0, none⟩) HPG.out.1 _).far (p := ⟨gf, 1, none⟩) HPG.out.1 _).far (p := ⟨gf, 2, none⟩) HPG.out.1 _
        have hm4 : w4.ownsMap Tryz.prog 9 heldR mb (E1 ++ (x, (⟨⟨b, sf, true⟩, A2, c2⟩ : FV)) :: es.drop (j + 1)).length (dmap heldF (E1 ++ (x, (⟨⟨b, sf, true⟩, A2, c2⟩ : FV)) :: es.drop (j + 1))) := by rw [hw4]; exact ((HD3.out.map.setCell (a := ⟨gf, 0, none⟩) HPG.out.2 _).setCell (a := ⟨gf, 1, none⟩) HPG.out.2 _).setCell (a := ⟨gf, 2, none⟩) HPG.out.2 _
        have h4 := hd.out.turn hb4 hc4 hm4 hd.out.up (fun q hq => .inl hq)
        have hrd := (h4.bytes (x, (⟨⟨b, sf, true⟩, A2, c2⟩ : FV)) (by simp)).1.take hkb
        obtain ⟨w5, hrun, hm5, ht5⟩ := store_some (w := w4.drew) hm4.drew h4.up HLL.out ⟨x.toArray⟩ HKS.out (b.take kk) kk true A2 c2
        rw [HBL.out] at hrun
        have ex : (⟨x.toArray⟩ : ByteArray).data.toList = x := by simp
        rw [ex] at hm5
        have hrd2 : Reads w5 w5.heap.size 1 A2 kk (u8s (b.take kk)) := h4.reads_but (((But.refl _ _ _).drew).turned ht5) hrd
        obtain ⟨h5, hb5⟩ := h4.store ((But.refl _ _ _).drew) hc4.drew x ⟨⟨b.take kk, kk, true⟩, A2, c2⟩ hm5 ht5 ⟨by show Reads w5 w5.heap.size 1 A2 (b.take kk).length _; rw [HBL.out]; exact hrd2, by show (b.take kk).length ≤ c2; rw [HBL.out]; exact hkc2⟩
        rw [fput_at h4.up] at h5
        have z0 : w4.cell? ⟨gf, 0, none⟩ = some (.slice A2 kk c2) := by rw [hF4.cell]; rfl
        have z1 : w4.cell? ⟨gf, 1, none⟩ = some (.int .i64 (kk : Nat)) := by rw [hF4.cell]; rfl
        have z2 : w4.cell? ⟨gf, 2, none⟩ = some (.bool true) := by rw [hF4.cell]; rfl
        have z3 : w4.cell? ⟨p, 1, none⟩ = some (.map (some mb)) := h4.c1
        have hbb := hb4'.trans hb5
        obtain ⟨r1, r2⟩ := restart_cut keep (0 + restartN (fmap FV.m (es.take j))) (x, ⟨b, sf, true⟩) HWN.out (fun h => by cases h.1)
        have hu : restartN (fmap FV.m (es.take (j + 1))) = ri + 1 := by
         rw [HTK.out, fmap_append, restartN_append, HRI.out]
         show _ + restartN [(x, ⟨b, sf, true⟩)] = _
         rw [r2]
        have hn1 : fmap FV.m (E1 ++ [(x, ⟨⟨b.take kk, kk, true⟩, A2, c2⟩)]) = restartL keep 0 (fmap FV.m (es.take (j + 1))) := by
         rw [HTK.out, fmap_append, fmap_append, restartL_append, he1.out]
         show _ ++ [(x, ⟨b.take kk, kk, true⟩)] = _ ++ restartL keep _ [(x, ⟨b, sf, true⟩)]
         rw [r1]
         show _ = _ ++ [(x, cutF keep _ ⟨b, sf, true⟩)]
         rw [HCUT.out]
        have h5' : DiskAt w5 p mb ((E1 ++ [(x, ⟨⟨b.take kk, kk, true⟩, A2, c2⟩)]) ++ es.drop (j + 1)) cap fuse lost := by rw [List.append_assoc]; exact h5
        have HN1 := Lib.hid hn1
        have HU1 := Lib.hid hu
        have H5 := Lib.hid h5'
        have HB5 := Lib.hid hbb
        have HW4 := Lib.hid hw4
        clear hu hn1 r1 r2 h4 h5 h5' hb5 hbb hm5 ht5 hc4 hm4 hb4 hb4' ex hrd hrd2 hF4 hw4
        go_upto_region 16 with (fail)
        rw [← HW4.out]
        clear y0 y1 y2 f0 f1 f2
        go_region
        go_wp2
        go_roundw
        case rel => exact ⟨j + 1, E1 ++ [(x, ⟨⟨b.take kk, kk, true⟩, A2, c2⟩)], es.drop (j + 1), by go_num, by omega, by rw [HU1.out]; go_num, HN1, rfl, H5, HB5⟩
        case measure => simp [intOf]; omega
      | false =>
        by_cases hk0 : kk = 0
        ·have HK0 := Lib.hid hk0
         clear hk0
         have hc4 : Blk (w3.setCell ⟨gf, 0, none⟩ (.slice A2 0 c2)) p 100 (dcells mb cap fuse lost) := HD3.out.cells.far (p := ⟨gf, 0, none⟩) HPG.out.1 _
         have hm4 : (w3.setCell ⟨gf, 0, none⟩ (.slice A2 0 c2)).ownsMap Tryz.prog 9 heldR mb (E1 ++ (x, (⟨⟨b, sf, false⟩, A2, c2⟩ : FV)) :: es.drop (j + 1)).length (dmap heldF (E1 ++ (x, (⟨⟨b, sf, false⟩, A2, c2⟩ : FV)) :: es.drop (j + 1))) := HD3.out.map.setCell (a := ⟨gf, 0, none⟩) HPG.out.2 _
         have hb4 : But p mb wr (w3.setCell ⟨gf, 0, none⟩ (.slice A2 0 c2)) := HBW3.out.setNew HGW'.out _
         have h4 := hd.out.turn hb4 hc4 hm4 hd.out.up (fun q hq => .inl hq)
         obtain ⟨w5, hrun, hm5, ht5⟩ := drop_run h4.map ⟨x.toArray⟩ HKS.out 0
         have ex : (⟨x.toArray⟩ : ByteArray).data.toList = x := by simp
         rw [ex] at hm5
         obtain ⟨h5, hb5⟩ := h4.drop x hm5 ht5
         rw [fdel_at h4.up] at h5
         have c4 := h4.c1
         have hbb := (HB3.out.setNew (q := ⟨gf, 0, none⟩) HSZ.out (.slice A2 0 c2)).trans hb5
         obtain ⟨r1, r2⟩ := restart_gone keep (0 + restartN (fmap FV.m (es.take j))) (x, ⟨b, sf, false⟩) HWN.out rfl (by rw [HCUT.out]; show b.take kk = []; rw [HK0.out]; rfl)
         have hu : restartN (fmap FV.m (es.take (j + 1))) = ri + 1 := by
          rw [HTK.out, fmap_append, restartN_append, HRI.out]
          show _ + restartN [(x, ⟨b, sf, false⟩)] = _
          rw [r2]
         have hn1 : fmap FV.m E1 = restartL keep 0 (fmap FV.m (es.take (j + 1))) := by
          rw [HTK.out, fmap_append, restartL_append, he1.out]
          show _ = _ ++ restartL keep _ [(x, ⟨b, sf, false⟩)]
          rw [r1, List.append_nil]
         have HN1 := Lib.hid hn1
         have HU1 := Lib.hid hu
         have H5 := Lib.hid h5
         have HB5 := Lib.hid hbb
         have hk0 := HK0.out
         clear hu hn1 r1 r2 h4 h5 hb5 hbb hm5 ht5 hc4 hm4 hb4 ex
         go_wp2
         go_roundw
         case rel => exact ⟨j + 1, E1, es.drop (j + 1), by go_num, by omega, by rw [HU1.out]; go_num, HN1, rfl, H5, HB5⟩
         case measure => simp [intOf]; omega
        ·have hk1 : ((kk : Nat) : Int) ≠ 0 := by omega
         have hk2 : (((kk : Nat) : Int) == 0) = false := by simpa using hk1
         obtain ⟨w4, hw4⟩ : ∃ w4, w4 = ((w3.setCell ⟨gf, 0, none⟩ (.slice A2 kk c2)).setCell ⟨gf, 1, none⟩ (.int .i64 (kk : Nat))).setCell ⟨gf, 2, none⟩ (.bool true) := ⟨_, rfl⟩
         have hF4 : Blk w4 gf 103 #[.slice A2 kk c2, .int .i64 (kk : Nat), .bool true] := by rw [hw4]; exact ((HF3.out.set_ 0 _).set_ 1 _).set_ 2 _
         have hb4 : But p mb wr w4 := by rw [hw4]; exact ((HBW3.out.setNew (q := ⟨gf, 0, none⟩) HGW'.out _).setNew (q := ⟨gf, 1, none⟩) HGW'.out _).setNew (q := ⟨gf, 2, none⟩) HGW'.out _
         have hb4' : But p mb w1 w4 := by rw [hw4]; exact ((HB3.out.setNew (q := ⟨gf, 0, none⟩) HSZ.out _).setNew (q := ⟨gf, 1, none⟩) HSZ.out _).setNew (q := ⟨gf, 2, none⟩) HSZ.out _
         have hc4 : Blk w4 p 100 (dcells mb cap fuse lost) := by rw [hw4]; exact ((HD3.out.cells.far (p := ⟨gf, 0, none⟩) HPG.out.1 _).far (p := ⟨gf, 1, none⟩) HPG.out.1 _).far (p := ⟨gf, 2, none⟩) HPG.out.1 _
         have hm4 : w4.ownsMap Tryz.prog 9 heldR mb (E1 ++ (x, (⟨⟨b, sf, false⟩, A2, c2⟩ : FV)) :: es.drop (j + 1)).length (dmap heldF (E1 ++ (x, (⟨⟨b, sf, false⟩, A2, c2⟩ : FV)) :: es.drop (j + 1))) := by rw [hw4]; exact ((HD3.out.map.setCell (a := ⟨gf, 0, none⟩) HPG.out.2 _).setCell (a := ⟨gf, 1, none⟩) HPG.out.2 _).setCell (a := ⟨gf, 2, none⟩) HPG.out.2 _
         have h4 := hd.out.turn hb4 hc4 hm4 hd.out.up (fun q hq => .inl hq)
         have hrd := (h4.bytes (x, (⟨⟨b, sf, false⟩, A2, c2⟩ : FV)) (by simp)).1.take hkb
         obtain ⟨w5, hrun, hm5, ht5⟩ := store_some (w := w4.drew) hm4.drew h4.up HLL.out ⟨x.toArray⟩ HKS.out (b.take kk) kk true A2 c2
         rw [HBL.out] at hrun
         have ex : (⟨x.toArray⟩ : ByteArray).data.toList = x := by simp
         rw [ex] at hm5
         have hrd2 : Reads w5 w5.heap.size 1 A2 kk (u8s (b.take kk)) := h4.reads_but (((But.refl _ _ _).drew).turned ht5) hrd
         obtain ⟨h5, hb5⟩ := h4.store ((But.refl _ _ _).drew) hc4.drew x ⟨⟨b.take kk, kk, true⟩, A2, c2⟩ hm5 ht5 ⟨by show Reads w5 w5.heap.size 1 A2 (b.take kk).length _; rw [HBL.out]; exact hrd2, by show (b.take kk).length ≤ c2; rw [HBL.out]; exact hkc2⟩
         rw [fput_at h4.up] at h5
         have z0 : w4.cell? ⟨gf, 0, none⟩ = some (.slice A2 kk c2) := by rw [hF4.cell]; rfl
         have z1 : w4.cell? ⟨gf, 1, none⟩ = some (.int .i64 (kk : Nat)) := by rw [hF4.cell]; rfl
         have z2 : w4.cell? ⟨gf, 2, none⟩ = some (.bool true) := by rw [hF4.cell]; rfl
         have z3 : w4.cell? ⟨p, 1, none⟩ = some (.map (some mb)) := h4.c1
         have hbb := hb4'.trans hb5
         obtain ⟨r1, r2⟩ := restart_cut keep (0 + restartN (fmap FV.m (es.take j))) (x, ⟨b, sf, false⟩) HWN.out (fun h => hk0 (by have h2 := h.2; rw [HCUT.out] at h2; have h3 := congrArg List.length h2; simp only at h3; rw [HBL.out] at h3; simpa using h3))
         have hu : restartN (fmap FV.m (es.take (j + 1))) = ri + 1 := by
          rw [HTK.out, fmap_append, restartN_append, HRI.out]
          show _ + restartN [(x, ⟨b, sf, false⟩)] = _
          rw [r2]
         have hn1 : fmap FV.m (E1 ++ [(x, ⟨⟨b.take kk, kk, true⟩, A2, c2⟩)]) = restartL keep 0 (fmap FV.m (es.take (j + 1))) := by
          rw [HTK.out, fmap_append, fmap_append, restartL_append, he1.out]
          show _ ++ [(x, ⟨b.take kk, kk, true⟩)] = _ ++ restartL keep _ [(x, ⟨b, sf, false⟩)]
          rw [r1]
          show _ = _ ++ [(x, cutF keep _ ⟨b, sf, false⟩)]
          rw [HCUT.out]
         have h5' : DiskAt w5 p mb ((E1 ++ [(x, ⟨⟨b.take kk, kk, true⟩, A2, c2⟩)]) ++ es.drop (j + 1)) cap fuse lost := by rw [List.append_assoc]; exact h5
         have HN1 := Lib.hid hn1
         have HU1 := Lib.hid hu
         have H5 := Lib.hid h5'
         have HB5 := Lib.hid hbb
         have HW4 := Lib.hid hw4
         clear hu hn1 r1 r2 h4 h5 h5' hb5 hbb hm5 ht5 hc4 hm4 hb4 hb4' ex hrd hrd2 hF4 hw4
         go_upto_region 16 with (fail)
         rw [← HW4.out]
         clear y0 y1 y2 f0 f1 f2
         go_region
         go_wp2
         go_roundw
         case rel => exact ⟨j + 1, E1 ++ [(x, ⟨⟨b.take kk, kk, true⟩, A2, c2⟩)], es.drop (j + 1), by go_num, by omega, by rw [HU1.out]; go_num, HN1, rfl, H5, HB5⟩
         case measure => simp [intOf]; omega
  ·obtain rfl : j = es.length := by omega
   have f2 := hd.out.cells.frozen 2
   have f3 := hd.out.cells.frozen 3
   have c2 := hd.out.c2
   have c3 := hd.out.c3
   go_wp2
   go_end0
   have hb2 := (hb.out.set_ 3 (.bool false)).set_ 2 (.int .i64 (-1))
   have hb3 : But p mb wr _ := ((But.refl p mb wr).set_ 3 (.bool false)).set_ 2 (.int .i64 (-1))
   have hd2 := hd.out.turn hb3 ((hd.out.cells.set_ 3 (.bool false)).set_ 2 (.int .i64 (-1))) ((hd.out.map.setCell (fun e => hd.out.ne e.symm) _).setCell (fun e => hd.out.ne e.symm) _) hd.out.up (fun q hq => .inl hq)
   refine ⟨rfl, ⟨E1 ++ E2, ?_, hd2⟩, HB1.out.trans hb2⟩
   show restartL keep 0 (fmap FV.m es) = _
   rw [fmap_append, he1.out, he2.out, List.take_of_length_le (Nat.le_refl _), List.drop_eq_nil_of_le (Nat.le_refl _)]
   simp [fmap]
end Go.Proofs.YtkljkbeahdipfaaGreatDoor
/-
  Walk: cubbylaw19.StoreLays.
-/
namespace Go.Proofs.YtkljkbeahdipfaaGreatDoor
open Go.RowKit
set_option linter.unusedSimpArgs false
set_option linter.unusedVariables false
set_option linter.unusedSimpArgs false
set_option linter.unusedVariables false
theorem fuse_files (d : DiskM) (n : Int) : (dFuse d n).2.files = d.files := by
 unfold dFuse
 split
 ·rfl
 ·split <;> rfl
theorem Dk.fuse {w : World} {p mb N : Nat} {d : DiskM} (h : Dk w p mb d N) (n : Int) (hn : n ≤ 9223372036854775807) :
 Calls Tryz.prog 27 #[.pointer (some ⟨p, 0, none⟩), .int .i64 n] w fun e w' => e = .returned (.int .i64 (dFuse d n).1) ∧ Dk w' p mb (dFuse d n).2 N ∧ But p mb w w' :=
 (fuse_at h.disk n).mono fun e w' ⟨h1, h2, h3⟩ => ⟨h1, ⟨h2, h.wf.fuse n hn, by rw [fuse_files]; exact h.few, h.ctx.but h3⟩, h3⟩
theorem restartL_len (keep : List Int) : ∀ (l : List (Key × FileM)) (i : Nat), (restartL keep i l).length ≤ l.length
 | [], _ => Nat.le_refl _
 | q :: r, i => by
   unfold restartL
   split
   ·have := restartL_len keep r i
    simp only [List.length_cons]
    omega
   ·split
    ·have := restartL_len keep r (i + 1)
     simp only [List.length_cons]
     omega
    ·have := restartL_len keep r (i + 1)
     simp only [List.length_cons]
     omega
theorem Dk.restart {w : World} {p mb N : Nat} {d : DiskM} (h : Dk w p mb d N) (hN : N < 1000000) (B : Nat) (K : Option Addr) (n c : Nat) (keep : List Int) (hn : keep.length = n) (hn2 : n ≤ 10000000) (hk : ∀ v ∈ keep, -9223372036854775808 ≤ v ∧ v ≤ 9223372036854775807) (hr : Reads w B 1 K n (i64s keep)) (hB : B ≤ w.heap.size) (hBp : B ≤ p) (hBm : B ≤ mb) :
 Calls Tryz.prog 28 #[.pointer (some ⟨p, 0, none⟩), .slice K n c] w fun e w' => e = .returned (.tuple #[]) ∧ Dk w' p mb (dRestart d keep) N ∧ But p mb w w' :=
 (restart_at h.disk h.wf (by have := h.few; omega) B K n c keep hn hn2 hk hr hB hBp hBm).mono fun e w' ⟨h1, h2, h3⟩ => ⟨h1, ⟨h2, h.wf.restart keep, Nat.le_trans (restartL_len keep d.files 0) h.few, h.ctx.but h3⟩, h3⟩
set_option maxRecDepth 100000 in
set_option maxHeartbeats 16000000 in
theorem storeLays_any (A A2 K : Option Addr) (c c2 ck : Nat) (x y : List UInt8) (f : Nat) (keep : List Int) (w : World) (he : EnvS w) (hx : x.length ≤ c) (hy : y.length ≤ c2) (hxl : x.length ≤ 140737488355328) (hyl : y.length ≤ 140737488355328) (hf : f < 256) (hkl : keep.length ≤ 140737488355328) (hk : ∀ v ∈ keep, -9223372036854775808 ≤ v ∧ v ≤ 9223372036854775807)
 (hrx : Reads w w.heap.size 1 A x.length (u8s x)) (hry : Reads w w.heap.size 1 A2 y.length (u8s y)) (hrk : Reads w w.heap.size 1 K keep.length (i64s keep)) :
 Calls Tryz.prog 4 #[.slice A x.length c, .slice A2 y.length c2, .int .u8 (f : Nat), .slice K keep.length ck] w fun ev w' => ev = .returned (.bool true) ∧ Below w.heap.size w w' := by
 refine calls_at 81 Tryz.func4 rfl rfl (Nat.le_of_ble_eq_true rfl) ?_
 intro a hA; replace hA := hA.norm
 refine wS (wR ?_)
 revert a; refine wo rfl rfl (by decide) (fun ev e h => by simp [go_sem, h] <;> rfl) ?_; intro a hA
 replace hA := hA.keepN [0, 1, 2, 3]
 refine wN (nT (wS (wS (wR ?_))))
 refine wl_call hA rfl rfl (by decide) (fun ev h => exec_call Tryz.func25 (by kernel_rfl) rfl (h.f _) (by first | (simp only [mL, h.c] <;> rfl) | (simp [mL, h.c] <;> rfl))) (awake19_any w he) ?_
 rintro e w1 ⟨rfl, hb1⟩
 refine ⟨_, rfl, fun a hA => ?_⟩
 have q1 : IntKind.i64.wrap ((x.length : Int) + (y.length : Int)) = ((x.length + y.length : Nat) : Int) := by rw [IntWalk.i64_in _ (by omega)]; omega
 revert a; (iterate 2 refine wo rfl rfl (by decide) (fun ev e h => by simp [go_sem, h, q1] <;> rfl) ?_); (iterate 6 refine wg _ rfl rfl rfl rfl (by decide) (fun hq ev e h => by simp [go_sem, h, ↓gw_t (beq_t hq), q1] <;> rfl) ?_); refine wko rfl rfl (by decide) rfl rfl rfl ?_; refine wo rfl rfl (by decide) (fun ev e h => by simp [go_sem, h, q1] <;> rfl) ?_; intro a hA
 replace hA := hA.keepN [0, 1, 2, 3, 24]
 revert a; (iterate 3 refine wg _ rfl rfl rfl rfl (by decide) (fun hq ev e h => by simp [go_sem, h, ↓gw_t (beq_t hq), q1] <;> rfl) ?_); refine wko rfl rfl (by decide) rfl rfl rfl ?_; intro a hA
 replace hA := hA.keepN [0, 1, 2, 3, 28]
 refine wN (nT ?_)
 refine wp_if hA 28 _ rfl (fun hq => ?yA) (fun hq => ?nA)
 case yA =>
  refine wS (wR ?_)
  refine wl_call hA rfl rfl (by decide) (fun ev h => exec_call Tryz.func25 (by kernel_rfl) rfl (h.f _) (by first | (simp only [mL, h.c] <;> rfl) | (simp [mL, h.c, q1] <;> rfl))) (awake19_any _ (he.below hb1)) ?_
  rintro e w2 ⟨rfl, hb2⟩
  refine ⟨_, rfl, fun a hA => ?_⟩
  revert a; refine wo rfl rfl (by decide) (fun ev e h => by simp [go_sem, h, q1] <;> rfl) ?_; intro a hA
  replace hA := hA.keepN [8]
  refine wN (nT (wp_ret (rT ?_)))
  refine ret_1 hA 8 rfl rfl ?_
  exact ⟨rfl, hb1.trans (hb2.mono hb1.size)⟩
 case nA =>
  have hxy : x.length + y.length ≤ 5000 := by simp at hq; omega
  have hk50 : keep.length ≤ 50 := by simp at hq; omega
  clear hq
  refine wp_skip (nT (wS (wR ?_)))
  refine wl_call hA rfl rfl (by decide) (fun ev h => exec_call Tryz.func16 (by kernel_rfl) rfl (h.f _) (by first | (simp only [mL, h.c] <;> rfl) | (simp [mL, h.c, q1] <;> rfl))) (new_at 1048576 (by omega) w1) ?_
  rintro e w2 ⟨p, mb, rfl, hd, hp0, hm0, hb2⟩
  refine ⟨_, rfl, fun a hA => ?_⟩
  have HB2 := hb1.trans (hb2.mono hb1.size)
  have hp : w.heap.size ≤ p := Nat.le_trans hb1.size hp0
  have hm : w.heap.size ≤ mb := Nat.le_trans hb1.size hm0
  have hD : Dk w2 p mb ⟨1048576, [], -1, false⟩ 0 := ⟨⟨[], rfl, hd⟩, wfd_first 1048576 (by omega), Nat.le_refl _, ⟨w, he, HB2, hp, hm⟩⟩
  revert a; (iterate 5 refine wo rfl rfl (by decide) (fun ev e h => by simp [go_sem, h, q1] <;> rfl) ?_); intro a hA
  replace hA := hA.keepN [0, 1, 2, 3, 9]
  refine wN (nT (wS (wS (wR ?_))))
  revert a; (iterate 2 refine wo rfl rfl (by decide) (fun ev e h => by simp [go_sem, h, q1] <;> rfl) ?_); intro a hA
  refine wl_call hA rfl rfl (by decide) (fun ev h => exec_call Tryz.func26 (by kernel_rfl) rfl (h.f _) (by first | (simp only [mL, h.get 34 rfl, h.get 35 rfl, h.c] <;> rfl) | (simp [mL, h.get 34 rfl, h.get 35 rfl, h.c, q1] <;> rfl))) (lay_at hD (by omega) kTree (by decide) A x.length c x rfl (by omega) hx ((hrx.below HB2).more HB2.size)) ?_
  rintro e w3 ⟨rfl, hD3, hB3⟩
  refine ⟨_, rfl, fun a hA => ?_⟩
  rw [lay_first x (by omega)] at hD3 hA
  have HB3 := HB2.trans (hB3.toBelow HB2.size hp hm)
  obtain ⟨z, hz⟩ : ∃ z : Nat, z = f % 6 := ⟨_, rfl⟩
  have q4 : IntKind.i64.wrap ((f : Int).tmod 6) = (z : Int) := by rw [Int.tmod_eq_emod_of_nonneg (by omega), IntWalk.i64_in _ (by omega)]; omega
  revert a; (iterate 2 refine wo rfl rfl (by decide) (fun ev e h => by simp [go_sem, h, q4] <;> rfl) ?_); (iterate 3 refine wg _ rfl rfl rfl rfl (by decide) (fun hq ev e h => by simp [go_sem, h, ↓gw_t (beq_t hq), q4] <;> rfl) ?_); intro a hA
  refine wl_guard _ hA rfl rfl rfl rfl (by decide) (fun hq ev h => by simp [go_sem, ((h.get 41 rfl).trans (gw_t (beq_t hq))), q4]; try first | exact ⟨rfl, rfl⟩ | rfl) fun a hA => ?_
  refine wl_kcall hA rfl rfl rfl rfl (by decide) (fun ev h => exec_call Tryz.func27 (by kernel_rfl) rfl (h.f _) (by first | (simp only [mL, h.get 39 rfl, h.get 42 rfl, h.c] <;> rfl) | (simp [mL, h.get 39 rfl, h.get 42 rfl, h.c, q4] <;> rfl))) (hD3.fuse (z : Int) (by omega)) ?_
  rintro e w4 ⟨rfl, hD4, hB4⟩
  refine ⟨_, rfl, fun a hA => ?_⟩
  have hfu : dFuse ⟨1048576, [(kTree, ⟨x, x.length, true⟩)], -1, false⟩ (z : Int) = (0, ⟨1048576, [(kTree, ⟨x, x.length, true⟩)], (z : Int), false⟩) := by
   unfold dFuse
   rw [if_neg (fun h => by cases h), if_neg (by omega)]
  rw [hfu] at hD4 hA
  have HB4 := HB3.trans (hB4.toBelow HB3.size hp hm)
  revert a; refine wg _ rfl rfl rfl rfl (by decide) (fun hq ev e h => by simp [go_sem, h, ↓gw_t (beq_t hq), q4] <;> rfl) ?_; refine wko rfl rfl (by decide) rfl rfl rfl ?_; intro a hA
  replace hA := hA.keepN [0, 1, 3, 9, 45]
  refine wN (nT ?_)
  refine wp_if hA 45 _ rfl (fun hq2 => ?yB) (fun hq2 => ?nB)
  case yB => simp at hq2
  case nB =>
   refine wp_skip (nT (wS (wR ?_)))
   revert a; (iterate 2 refine wo rfl rfl (by decide) (fun ev e h => by simp [go_sem, h, q4] <;> rfl) ?_); intro a hA
   refine wl_call hA rfl rfl (by decide) (fun ev h => exec_call Tryz.func26 (by kernel_rfl) rfl (h.f _) (by first | (simp only [mL, h.get 46 rfl, h.get 47 rfl, h.c] <;> rfl) | (simp [mL, h.get 46 rfl, h.get 47 rfl, h.c, q4] <;> rfl))) (lay_at hD4 (by omega) kTree (by decide) A2 y.length c2 y rfl (by omega) hy ((hry.below HB4).more HB4.size)) ?_
   rintro e w5 ⟨rfl, hD5, hB5⟩
   refine ⟨_, rfl, fun a hA => ?_⟩
   have HB5 := HB4.trans (hB5.toBelow HB4.size hp hm)
   have hlaw := lay_again x y z hxy keep
   obtain ⟨r, hr⟩ : ∃ r, layD ⟨1048576, [(kTree, ⟨x, x.length, true⟩)], (z : Int), false⟩ kTree y = r := ⟨_, rfl⟩
   rw [hr] at hD5 hA hlaw
   obtain ⟨e, d5⟩ := r
   simp only at hD5 hlaw hA
   revert a; refine wo rfl rfl (by decide) (fun ev e h => by simp [go_sem, h, q4] <;> rfl) ?_; intro a hA
   replace hA := hA.keepN [0, 1, 3, 9, 11]
   refine wN (nT (wS (wR ?_)))
   revert a; (iterate 2 refine wo rfl rfl (by decide) (fun ev e h => by simp [go_sem, h, q4] <;> rfl) ?_); intro a hA
   refine wl_call hA rfl rfl (by decide) (fun ev h => exec_call Tryz.func28 (by kernel_rfl) rfl (h.f _) (by first | (simp only [mL, h.get 49 rfl, h.get 50 rfl, h.c] <;> rfl) | (simp [mL, h.get 49 rfl, h.get 50 rfl, h.c, q4] <;> rfl))) (hD5.restart (by omega) w.heap.size K keep.length ck keep rfl (by omega) hk (hrk.below HB5) HB5.size hp hm) ?_
   rintro e w6 ⟨rfl, hD6, hB6⟩
   refine ⟨_, rfl, fun a hA => ?_⟩
   have HB6 := HB5.trans (hB6.toBelow HB5.size hp hm)
   replace hA := hA.keepN [0, 1, 9, 11]
   refine wN (nT (wS (wR ?_)))
   revert a; refine wo rfl rfl (by decide) (fun ev e h => by simp [go_sem, h, q4] <;> rfl) ?_; intro a hA
   refine wl_call hA rfl rfl (by decide) (fun ev h => exec_call Tryz.func29 (by kernel_rfl) rfl (h.f _) (by first | (simp only [mL, h.get 53 rfl, h.c] <;> rfl) | (simp [mL, h.get 53 rfl, h.c, q4] <;> rfl))) (hD6.read kTree (by decide)) ?_
   rintro e w7 ⟨Ar, cr, rfl, hrr, hcr, hb7⟩
   refine ⟨_, rfl, fun a hA => ?_⟩
   obtain ⟨rd, hrd⟩ : ∃ r, dRead (dRestart d5 keep) kTree = r := ⟨_, rfl⟩
   rw [hrd] at hlaw hA hrr hcr
   obtain ⟨z, ze⟩ := rd
   simp only at hlaw hA hrr hcr
   have HB7 := HB6.trans (hb7.mono HB6.size)
   have c1 := conv_reads (c := cr) rfl hrr
   have c2' := conv_reads (c := c) rfl (hrx.below HB7)
   have c3 := conv_reads (c := c2) rfl (hry.below HB7)
   revert a; (iterate 5 refine wo rfl rfl (by decide) (fun ev e h => by simp [go_sem, h, c1, c2', c3] <;> rfl) ?_); intro a hA
   replace hA := hA.keepN [0, 1, 11, 12, 13]
   refine wN (nT (wS (wR ?_)))
   revert a; (iterate 3 refine wo rfl rfl (by decide) (fun ev e h => by simp [go_sem, h, c1, c2', c3] <;> rfl) ?_); (iterate 3 refine wg _ rfl rfl rfl rfl (by decide) (fun hq ev e h => by simp [go_sem, h, ↓gw_t (beq_t hq), c1, c2', c3] <;> rfl) ?_); refine wg2 _ _ rfl rfl rfl rfl (by decide) (fun hq hr ev e h => by simp [go_sem, h, ↓gw_t (and_beq hq hr), ↓gw_t hq, c1, c2', c3] <;> rfl) ?_; intro a hA
   refine wl_guard2 _ _ hA rfl rfl rfl rfl (by decide) (fun hq hr ev h => by simp [go_sem, ((h.get 63 rfl).trans (gw_t (and_beq hq hr))), c1, c2', c3]; try first | exact ⟨rfl, rfl⟩ | rfl) fun a hA => ?_
   revert a; refine wg2 _ _ rfl rfl rfl rfl (by decide) (fun hq hr ev e h => by simp [go_sem, h, ↓gw_t (and_beq hq hr), ↓gw_t hq, c1, c2', c3] <;> rfl) ?_; intro a hA
   refine wl_guard2 _ _ hA rfl rfl rfl rfl (by decide) (fun hq hr ev h => by simp [go_sem, ((h.get 65 rfl).trans (gw_t (and_beq hq hr))), c1, c2', c3]; try first | exact ⟨rfl, rfl⟩ | rfl) fun a hA => ?_
   replace hA := hA.keepN [0, 11, 12, 59, 62, 64, 66]
   revert a; refine wg2 _ _ rfl rfl rfl rfl (by decide) (fun hq hr ev e h => by simp [go_sem, h, ↓gw_t (and_beq hq hr), ↓gw_t hq, c1, c2', c3] <;> rfl) ?_; intro a hA
   refine wl_guard _ hA rfl rfl rfl rfl (by decide) (fun hq ev h => by exact pick_and rfl (((h.get 62 rfl).trans (gw_t (beq_t hq)))) (((h.get 67 rfl).trans (gw_a (beq_t hq)))) (h.c _)) fun a hA => ?_
   revert a; refine wg _ rfl rfl rfl rfl (by decide) (fun hq ev e h => by simp [go_sem, h, ↓gw_t (beq_t hq), c1, c2', c3] <;> rfl) ?_; (iterate 3 refine wg2 _ _ rfl rfl rfl rfl (by decide) (fun hq hr ev e h => by simp [go_sem, h, ↓gw_t (and_beq hq hr), ↓gw_t hq, c1, c2', c3] <;> rfl) ?_); refine wg2 _ _ rfl rfl rfl rfl (by decide) (fun hq hr ev e h => by simp [go_sem, h, ↓gw_t (and_beq hq hr), ↓gw_t hq, ↓gw_t (and_l hq), c1, c2', c3] <;> rfl) ?_; intro a hA
   refine wl_guard2 _ _ hA rfl rfl rfl rfl (by decide) (fun hq hr ev h => by simp [go_sem, ((h.get 73 rfl).trans (gw_t (and_beq hq hr))), c1, c2', c3]; try first | exact ⟨rfl, rfl⟩ | rfl) fun a hA => ?_
   revert a; refine wg2 _ _ rfl rfl rfl rfl (by decide) (fun hq hr ev e h => by simp [go_sem, h, ↓gw_t (and_beq hq hr), ↓gw_t hq, ↓gw_t (and_l hq), c1, c2', c3] <;> rfl) ?_; intro a hA
   refine wl_guard2 _ _ hA rfl rfl rfl rfl (by decide) (fun hq hr ev h => by simp [go_sem, ((h.get 75 rfl).trans (gw_t (and_beq hq hr))), c1, c2', c3]; try first | exact ⟨rfl, rfl⟩ | rfl) fun a hA => ?_
   replace hA := hA.keepN [59, 69, 72, 74, 76]
   revert a; refine wg2 _ _ rfl rfl rfl rfl (by decide) (fun hq hr ev e h => by simp [go_sem, h, ↓gw_t (and_beq hq hr), ↓gw_t hq, ↓gw_t (and_l hq), c1, c2', c3] <;> rfl) ?_; intro a hA
   refine wl_guard2 _ _ hA rfl rfl rfl rfl (by decide) (fun hq hr ev h => by exact pick_and rfl (((h.get 72 rfl).trans (gw_t (and_beq hq hr)))) (((h.get 77 rfl).trans (gw_a (and_beq hq hr)))) (h.c _)) fun a hA => ?_
   refine wl_guard _ hA rfl rfl rfl rfl (by decide) (fun hq ev h => by exact pick_or rfl (((h.get 69 rfl).trans (gw_t (beq_t hq)))) (h.c _) (((h.get 78 rfl).trans (gw_a (beq_t hq))))) fun a hA => ?_
   revert a; refine wka rfl rfl (by decide) rfl rfl rfl ?_; refine wo rfl rfl (by decide) (fun ev e h => by simp [go_sem, h, c1, c2', c3] <;> rfl) ?_; intro a hA
   replace hA := hA.keepN [8]
   refine wN (nT (wp_ret ?_))
   refine ret_1 hA 8 rfl rfl ?_
   refine ⟨ret_bool ?_, HB7⟩
   rcases hlaw with ⟨h1, h2⟩ | ⟨h1, h2⟩
   ·simp only [Prod.mk.injEq] at h1
    obtain ⟨rfl, rfl⟩ := h1
    -- the answer
    subst h2
    simp
   ·simp only [Prod.mk.injEq] at h1
    obtain ⟨rfl, rfl⟩ := h1
    -- the answer
    subst h2
    simp
end Go.Proofs.YtkljkbeahdipfaaGreatDoor
/-
  Arguments, opened by their types: numbers, texts, structs of one-cell fields, slices of what reads.
-/
namespace Go.Proofs.YtkljkbeahdipfaaGreatDoor
open Go.ChangeShapes Go.WideShapes Go.Deep Go.RowKit
theorem cell_lt' {w : World} {a : Addr} {v : Value} (h : w.cell? a = some v) : a.block < w.heap.size := by
 rcases Nat.lt_or_ge a.block w.heap.size with hlt | hge
 ·exact hlt
 ·unfold World.cell? at h
  simp [Array.getElem?_eq_none hge] at h
/-- cells that read at a type -/
def Fits {H : Type} (enc : TypeId × Value → H) (P : Program) (w : World) (t : TypeId) (cs : List Value) : Prop := ∃ base spare held fuel x, DataW.trod enc P w base spare held fuel t cs = some x
section
variable {H : Type} {enc : TypeId × Value → H} {P : Program} {w : World} {t e : TypeId} {cs : List Value}
theorem fits_int {k : IntKind} (h : Fits enc P w t cs) (ht : P.underlying t = some (.int k)) : ∃ n, cs = [.int k n] ∧ (Lit.int k n).wf = true := by
 obtain ⟨_, _, _, _, _, h⟩ := h
 obtain ⟨n, e, _, hw⟩ := DataW.trod_int ht h
 exact ⟨n, e, hw⟩
theorem rows_at (k : Nat) : ∀ (L : List (List Value)) (i j : Nat) (x : List Value), (∀ x ∈ L, x.length = k) → L[i]? = some x → j < k → L.flatten[i * k + j]? = x[j]?
 | y :: r, 0, j, x, hL, h, hj => by
   have e : y = x := by simpa using h
   subst e
   have := hL y List.mem_cons_self
   rw [List.flatten_cons, Nat.zero_mul, Nat.zero_add, List.getElem?_append_left (by omega)]
 | y :: r, i + 1, j, x, hL, h, hj => by
   have ih := rows_at k r i j x (fun z hz => hL z (List.mem_cons_of_mem _ hz)) (by simpa using h) hj
   have := hL y List.mem_cons_self
   have hm : k ≤ (i + 1) * k + j := by rw [Nat.succ_mul]; omega
   rw [List.flatten_cons, List.getElem?_append_right (by omega)]
   have e : (i + 1) * k + j - y.length = i * k + j := by rw [Nat.succ_mul]; omega
   rw [e]; exact ih
theorem rows_len (k : Nat) : ∀ (L : List (List Value)), (∀ x ∈ L, x.length = k) → L.flatten.length = L.length * k
 | [], _ => by simp
 | y :: r, h => by
   have := rows_len k r fun z hz => h z (List.mem_cons_of_mem _ hz)
   rw [List.flatten_cons, List.length_append, this, h y List.mem_cons_self, List.length_cons, Nat.succ_mul]; omega
theorem choose_list {M : Type} {f : M → List Value} {Q : M → Prop} : ∀ {L : List (List Value)}, (∀ x ∈ L, ∃ m, x = f m ∧ Q m) → ∃ l : List M, L = l.map f ∧ ∀ m ∈ l, Q m
 | [], _ => ⟨[], rfl, by simp⟩
 | x :: r, h => by
   obtain ⟨m, rfl, hm⟩ := h x List.mem_cons_self
   obtain ⟨l, rfl, hl⟩ := choose_list (L := r) fun y hy => h y (List.mem_cons_of_mem _ hy)
   exact ⟨m :: l, rfl, fun y hy => by
    rcases List.mem_cons.1 hy with e | e
    ·subst e; exact hm
    ·exact hl y e⟩
/-- all arguments stay behind a call that writes below nothing -/
theorem args_stay (hl : laidOutB P = true) {W W' : World} {sp : Nat → Bool} : ∀ {ts : List TypeId} {vs : List Value} {ds : List (DataW H)} {ps : List MemPlace}, (ts.all fun t => P.readableRec t && decide (t < P.types.size)) = true →
 DataW.TrodAll enc P W 0 (fun _ => true) true ts vs ds ps → (∀ x ∈ ps, W.sameAt W' x) → (∀ x ∈ ps, sp x.block = true) → DataW.TrodAll enc P W' 0 sp true ts vs ds ps
 | [], [], [], _, _, h, _, _ => h
 | _ :: _, _ :: _, _ :: _, _, ha, ⟨p, q, h1, h2, e⟩, hsame, hs => by
   rw [List.all_cons, Bool.and_eq_true, Bool.and_eq_true, decide_eq_true_eq] at ha
   subst e
   exact ⟨p, q, WideElems.Trod_stays hl ha.1.1 ha.1.2 h1 (fun x hx => hsame x (List.mem_append_left _ hx)) (fun x hx => hs x (List.mem_append_left _ hx)),
    args_stay hl ha.2 h2 (fun x hx => hsame x (List.mem_append_right _ hx)) (fun x hx => hs x (List.mem_append_right _ hx)), rfl⟩
end
end Go.Proofs.YtkljkbeahdipfaaGreatDoor
/-
  Arguments, opened by their types, with a bound on their sizes.
-/
namespace Go.Proofs.YtkljkbeahdipfaaGreatDoor
open Go.ChangeShapes Go.WideShapes Go.Deep Go.RowKit
/-- cells that read at a type; no part is longer than R -/
def FitsZ {H : Type} (R : Nat) (enc : TypeId × Value → H) (P : Program) (w : World) (t : TypeId) (cs : List Value) : Prop := ∃ base spare held fuel d ps, DataW.trod enc P w base spare held fuel t cs = some (d, ps) ∧ ∀ k ∈ d.weights P t, k ≤ R
section
variable {H : Type} {enc : TypeId × Value → H} {P : Program} {w : World} {t e : TypeId} {cs : List Value} {R : Nat}
theorem FitsZ.fits (h : FitsZ R enc P w t cs) : Fits enc P w t cs := by
 obtain ⟨b, s, hd, f, d, ps, h, _⟩ := h
 exact ⟨b, s, hd, f, _, h⟩
theorem mem_weightsAll {e : TypeId} {dd : DataW H} {k : Nat} : ∀ {l : List (DataW H)}, dd ∈ l → k ∈ dd.weights P e → k ∈ DataW.weightsAll P e l
 | y :: r, h, hk => by
   unfold DataW.weightsAll
   rw [List.mem_append]
   rcases List.mem_cons.1 h with rfl | h
   ·exact .inl hk
   ·exact .inr (mem_weightsAll h hk)
theorem fitsZ_slice (h : FitsZ R enc P w t cs) (ht : P.underlying t = some (.slice e)) (hk : 0 < P.cellsOf e) (heb : 1 ≤ P.bytesOf e) :
 ∃ (A : Option Addr) (n c : Nat) (L : List (List Value)), cs = [.slice A n c] ∧ n ≤ c ∧ c ≤ maxLen ∧ n ≤ R ∧ L.length = n ∧ (∀ x ∈ L, x.length = P.cellsOf e ∧ FitsZ R enc P w e x) ∧ Reads w w.heap.size (P.cellsOf e) A n L.flatten := by
 obtain ⟨base, spare, held, fuel, d, ps, hf, hz⟩ := h
 rcases open_slice ht hf with ⟨hcs, _⟩ | ⟨a, len, cap, m, n0, D, Pl, hcs, _, hl, hm, hmm, hdx, hx⟩
 ·exact ⟨none, 0, 0, [], hcs, Nat.le_refl _, Nat.zero_le _, Nat.zero_le _, rfl, fun x hx => (by cases hx), by simp, fun hn => absurd hn (by simp)⟩
 ·have hml : len ≤ m := by rw [hmm]; split <;> omega
  have hdw : d = .slice ((List.range len).map D) ((List.range (m - len)).map fun j => D (len + j)) := congrArg Prod.fst hdx
  have hall : ∀ n, n ≤ len → ∃ L : List (List Value), L.length = n ∧ (∀ x ∈ L, x.length = P.cellsOf e ∧ FitsZ R enc P w e x) ∧ ∀ i x, L[i]? = some x → ∀ j u, x[j]? = some u → w.cell? (a.add (i * P.cellsOf e + j)) = some u := by
   intro n
   induction n with
   | zero => intro _; exact ⟨[], rfl, by simp, by simp⟩
   | succ n ih =>
     intro hnl
     obtain ⟨L, hl1, hl2, hl3⟩ := ih (by omega)
     obtain ⟨cs', hcc, htr⟩ := hx n (by omega)
     obtain ⟨_, hlen, hat⟩ := World.cells?_some hcc
     refine ⟨L ++ [cs'], by simp [hl1], ?_, ?_⟩
     ·intro y hy
      rcases List.mem_append.1 hy with h | h
      ·exact hl2 y h
      ·rw [List.mem_singleton] at h
       subst h
       refine ⟨hlen, base, spare, held, n0, _, _, htr, fun k hk' => hz k ?_⟩
       rw [hdw]
       unfold DataW.weights
       rw [ht]
       simp only [List.mem_cons, List.mem_append]
       exact .inr (.inl (mem_weightsAll (List.mem_map.2 ⟨n, List.mem_range.2 (by omega), rfl⟩) hk'))
     ·intro i y hi' j u hj
      rcases Nat.lt_or_ge i L.length with h | h
      ·rw [List.getElem?_append_left h] at hi'; exact hl3 i y hi' j u hj
      ·rw [List.getElem?_append_right h] at hi'
       have h0 : i - L.length = 0 := by
        rcases Nat.eq_zero_or_pos (i - L.length) with h' | h'
        ·exact h'
        ·rw [List.getElem?_eq_none (by simp; omega)] at hi'; cases hi'
       rw [h0] at hi'
       have hy : cs' = y := by simpa using hi'
       subst hy
       obtain rfl : i = n := by omega
       have hj2 : j < P.cellsOf e := by
        have := (List.getElem?_eq_some_iff.1 hj).1
        omega
       have := hat j hj2
       rw [hj, Go.Deep.add_add] at this
       exact this
  obtain ⟨L, hL1, hL2, hL3⟩ := hall len (Nat.le_refl _)
  refine ⟨some a, len, cap, L, hcs, hl, hm, ?_, hL1, hL2, ?_, fun hn => ⟨a, rfl, ?_, ?_⟩⟩
  ·have hq := hz ((len + (m - len)) * P.bytesOf e) (by rw [hdw]; simp [DataW.weights, ht])
   have e2 : (len + (m - len)) * 1 ≤ (len + (m - len)) * P.bytesOf e := Nat.mul_le_mul_left _ heb
   omega
  ·rw [rows_len _ L fun x hx => (hL2 x hx).1, hL1]
  ·obtain ⟨x, hx0⟩ : ∃ x, L[0]? = some x := ⟨_, List.getElem?_eq_getElem (by omega)⟩
   have hxl := (hL2 x (List.mem_of_getElem? hx0)).1
   obtain ⟨u, hu⟩ : ∃ u, x[0]? = some u := ⟨_, List.getElem?_eq_getElem (by omega)⟩
   have := cell_lt' (hL3 0 x hx0 0 u hu)
   rwa [block_of_add] at this
  ·intro j u hj
   have hjl := (List.getElem?_eq_some_iff.1 hj).1
   rw [rows_len _ L fun x hx => (hL2 x hx).1] at hjl
   have hq : j / P.cellsOf e < L.length := Nat.div_lt_of_lt_mul (by rw [Nat.mul_comm]; exact hjl)
   have he2 : j / P.cellsOf e * P.cellsOf e + j % P.cellsOf e = j := by rw [Nat.mul_comm]; exact Nat.div_add_mod j _
   have hp := rows_at (P.cellsOf e) L (j / P.cellsOf e) (j % P.cellsOf e) _ (fun x hx => (hL2 x hx).1) (List.getElem?_eq_getElem hq) (Nat.mod_lt _ hk)
   rw [he2, hj] at hp
   have := hL3 _ _ (List.getElem?_eq_getElem hq) _ u hp.symm
   rw [he2] at this
   exact this
theorem sized_at {ts : List TypeId} {ds : List (DataW H)} (h : (DataW.weightsEach P ts ds).all (· ≤ reachBytes) = true) {j : Nat} {t : TypeId} {d : DataW H} (ht : ts[j]? = some t) (hd : ds[j]? = some d) : ∀ k ∈ d.weights P t, k ≤ 140737488355328 := by
 intro k hk
 have := List.all_eq_true.1 h _ (DataW.weights_mem_each ht hd k hk)
 have h2 : reachBytes < 2 ^ 47 := reachBytes_lt
 simp only [decide_eq_true_eq] at this
 omega
theorem fitsZ_top {base0 : Nat} {spare : Nat → Bool} {held : Bool} {v : Value} {d : DataW H} {ps : List MemPlace} (h : DataW.Trod enc P w base0 spare held t v d ps) (hz : ∀ k ∈ d.weights P t, k ≤ R) : FitsZ R enc P w t v.cells.toList := by
 obtain ⟨fuel, hf⟩ := h
 exact ⟨_, _, _, fuel, _, _, hf, hz⟩
theorem fitsZ_plain {base0 : Nat} {spare : Nat → Bool} {held : Bool} {v : Value} {d : DataW H} {ps : List MemPlace} (h : DataW.Trod enc P w base0 spare held t v d ps) (hc : v.cells = #[v]) (hz : ∀ k ∈ d.weights P t, k ≤ R) : FitsZ R enc P w t [v] := by
 have := fitsZ_top h hz
 rwa [hc] at this
end
end Go.Proofs.YtkljkbeahdipfaaGreatDoor
/-
  Arguments that are messages, mailboxes, numbers, opened.
-/
namespace Go.Proofs.YtkljkbeahdipfaaGreatDoor
open Go.RowKit
theorem u8_range {n : Int} (h : (Lit.int .u8 n).wf = true) : ∃ k : UInt8, n = (k.toNat : Nat) := by
 simp [Lit.wf, IntKind.min, IntKind.max, IntKind.signed, IntKind.bits] at h
 refine ⟨UInt8.ofNat n.toNat, ?_⟩
 rw [UInt8.toNat_ofNat']
 omega
theorem flat_one {M : Type} (f : M → Value) (l : List M) : (l.map fun x => [f x]).flatten = l.map f := by
 induction l with
 | nil => rfl
 | cons x r ih => rw [List.map_cons, List.flatten_cons, ih]; rfl
theorem list1 {α : Type} {x : List α} (h : x.length = 1) : ∃ a, x = [a] := by
 match x, h with
 | [a], _ => exact ⟨a, rfl⟩
section
variable {H : Type} {enc : TypeId × Value → H} {w : World} {R : Nat}
theorem open_bytesZ {c1 : Value} (h : FitsZ R enc Tryz.prog w 22 [c1]) : ∃ (A : Option Addr) (c : Nat) (l : List UInt8), c1 = .slice A l.length c ∧ l.length ≤ c ∧ c ≤ maxLen ∧ l.length ≤ R ∧ Reads w w.heap.size 1 A l.length (u8s l) := by
 have hk : Tryz.prog.cellsOf 5 = 1 := by kernel_rfl
 obtain ⟨A, n, c, L, hcs, hn, hc, hR, hl, hL, hr⟩ := fitsZ_slice h Tryz.underlying22 (by rw [hk]; omega) (Nat.le_of_ble_eq_true (by kernel_rfl))
 rw [hk] at hr
 obtain ⟨l, rfl, _⟩ := choose_list (f := fun b : UInt8 => [.int .u8 ((b.toNat : Nat) : Int)]) (Q := fun _ => True) fun x hx => by
  obtain ⟨hx1, hx2⟩ := hL x hx
  rw [hk] at hx1
  obtain ⟨a, rfl⟩ := list1 hx1
  obtain ⟨u, e0, hu⟩ := fits_int hx2.fits Tryz.underlying5
  obtain ⟨k, rfl⟩ := u8_range hu
  exact ⟨k, e0, trivial⟩
 rw [List.length_map] at hl
 rw [flat_one (fun b : UInt8 => .int .u8 ((b.toNat : Nat) : Int))] at hr
 subst hl
 simp only [List.cons.injEq, and_true] at hcs
 exact ⟨A, c, l, hcs, hn, hc, hR, hr⟩
end
end Go.Proofs.YtkljkbeahdipfaaGreatDoor
/-
  Arguments, opened: numbers, truths, bytes.
-/
namespace Go.Proofs.YtkljkbeahdipfaaGreatDoor
open Go.RowKit Go.ChangeShapes Go.WideShapes
section
variable {H : Type} {enc : TypeId × Value → H} {w : World} {R : Nat}
end
section
variable {H : Type} {enc : TypeId × Value → H} {W : World} {base0 b0 : Nat} {spare : Nat → Bool} {held : Bool} {r : Reach} {R : Nat}
set_option maxRecDepth 100000 in
theorem bytes_arg {v : Value} {d : DataW H} {ps : List MemPlace} (hv : Value.okWide Tryz.prog W r b0 22 v) (h : DataW.Trod enc Tryz.prog W base0 spare held 22 v d ps) (hz : ∀ k ∈ d.weights Tryz.prog 22, k ≤ R) :
 ∃ (A : Option Addr) (c : Nat) (l : List UInt8), v = .slice A l.length c ∧ l.length ≤ c ∧ c ≤ maxLen ∧ l.length ≤ R ∧ Reads W W.heap.size 1 A l.length (u8s l) := by
 obtain ⟨A, n, c, rfl⟩ := okWide_slice Tryz.underlying22 hv
 obtain ⟨A', c', l, e, b⟩ := open_bytesZ (fitsZ_plain h rfl hz)
 exact ⟨A', c', l, e, b⟩
end
end Go.Proofs.YtkljkbeahdipfaaGreatDoor
/-
  Arguments that are small numbers.
-/
namespace Go.Proofs.YtkljkbeahdipfaaGreatDoor
open Go.RowKit Go.ChangeShapes Go.WideShapes
section
variable {H : Type} {enc : TypeId × Value → H} {W : World} {base0 b0 : Nat} {spare : Nat → Bool} {held : Bool} {r : Reach}
set_option maxRecDepth 100000 in
theorem u8_argN {v : Value} {d : DataW H} {ps : List MemPlace} (hv : Value.okWide Tryz.prog W r b0 5 v) (h : DataW.Trod enc Tryz.prog W base0 spare held 5 v d ps) : ∃ k : Nat, v = .int .u8 (k : Nat) ∧ k < 256 := by
 obtain ⟨x0, rfl, _, _, h0⟩ := open_int Tryz.underlying5 hv h
 obtain ⟨k, rfl⟩ := u8_range h0
 exact ⟨k.toNat, rfl, k.toNat_lt⟩
end
end Go.Proofs.YtkljkbeahdipfaaGreatDoor
/-
  Arguments that are disk acts, opened; all arguments stay behind a call that writes below nothing.
-/
namespace Go.Proofs.YtkljkbeahdipfaaGreatDoor
open Go.ChangeShapes Go.WideShapes Go.Deep Go.RowKit
section
variable {H : Type} {enc : TypeId × Value → H} {P : Program} {W W' : World}
variable {w : World} {base : Nat} {spare : Nat → Bool} {held : Bool}
end
theorem cell_lt {w : World} {a : Addr} {v : Value} (h : w.cell? a = some v) : a.block < w.heap.size := by
 rcases Nat.lt_or_ge a.block w.heap.size with hlt | hge
 ·exact hlt
 ·unfold World.cell? at h
  simp [Array.getElem?_eq_none hge] at h
section
variable {H : Type} {enc : TypeId × Value → H} {P : Program} {w : World} {base : Nat} {spare : Nat → Bool} {held : Bool}
theorem open_u8row {t e : TypeId} {fuel : Nat} {v : Value} {x : DataW H × List MemPlace} (ht : P.underlying t = some (.slice e)) (he : P.underlying e = some (.int .u8)) (hc : P.cellsOf e = 1) (hby : 1 ≤ P.bytesOf e) (h : DataW.trod enc P w base spare held fuel t [v] = some x) :
 ∃ (A : Option Addr) (l : List UInt8) (c : Nat), v = .slice A l.length c ∧ l.length ≤ c ∧ c ≤ maxLen ∧ Reads w w.heap.size 1 A l.length (u8s l) ∧ ∀ R, (∀ k ∈ x.1.weights P t, k ≤ R) → l.length ≤ R := by
 rcases open_ints ht he hc h with ⟨hcs, _⟩ | ⟨a, len, cap, zs, hcs, _, hl, hm, hz, hx, hcell, hwf⟩
 ·injection hcs with h1 _
  exact ⟨none, [], 0, h1, Nat.le_refl _, Nat.zero_le _, Reads.none_, fun R _ => Nat.zero_le _⟩
 ·injection hcs with h1 _
  have hlen : len ≤ zs.length := by rw [hz]; split <;> omega
  have hll : ((zs.take len).map fun z => UInt8.ofNat z.toNat).length = len := by simp; omega
  refine ⟨some a, (zs.take len).map fun z => UInt8.ofNat z.toNat, cap, by rw [hll]; exact h1, by omega, hm, ⟨by rw [u8s_length]; omega, fun hn => ⟨a, rfl, ?_, ?_⟩⟩, fun R hR => ?_⟩
  ·rw [hll] at hn
   have := cell_lt (hcell 0 (by omega))
   rwa [block_of_add] at this
  ·intro j u hj
   rw [u8s_get, List.getElem?_map] at hj
   rcases Nat.lt_or_ge j len with h | h
   ·have hq : (zs.take len)[j]? = some (zs[j]'(by omega)) := by rw [List.getElem?_take, if_pos h, List.getElem?_eq_getElem (by omega)]
    rw [hq] at hj
    simp only [Option.map_some, Option.some.injEq] at hj
    subst hj
    have hb := hwf _ (List.getElem_mem (l := zs) (n := j) (by omega))
    simp only [Lit.wf, Bool.and_eq_true, decide_eq_true_eq] at hb
    have hb' : 0 ≤ zs[j] ∧ zs[j] ≤ 255 := hb
    rw [u8_nat _ (by omega), Int.toNat_of_nonneg hb'.1, hcell j (by omega), List.getD_eq_getElem?_getD, List.getElem?_eq_getElem (by omega)]
    rfl
   ·rw [List.getElem?_eq_none (by simp; omega)] at hj; cases hj
  ·rw [hll]
   have hq := hR ((zs.take len).length * P.bytesOf e + (zs.drop len).length * P.bytesOf e) (by
    rw [hx]
    simp [DataW.weights, ht, lits, Nat.add_mul])
   have e1 : (zs.take len).length = len := by rw [List.length_take]; omega
   have e2 : (zs.take len).length * 1 ≤ (zs.take len).length * P.bytesOf e := Nat.mul_le_mul_left _ hby
   omega
theorem open_i64row {t e : TypeId} {fuel : Nat} {v : Value} {x : DataW H × List MemPlace} (ht : P.underlying t = some (.slice e)) (he : P.underlying e = some (.int .i64)) (hc : P.cellsOf e = 1) (hby : 1 ≤ P.bytesOf e) (h : DataW.trod enc P w base spare held fuel t [v] = some x) :
 ∃ (A : Option Addr) (l : List Int) (c : Nat), v = .slice A l.length c ∧ l.length ≤ c ∧ c ≤ maxLen ∧ (∀ v ∈ l, -9223372036854775808 ≤ v ∧ v ≤ 9223372036854775807) ∧ Reads w w.heap.size 1 A l.length (i64s l) ∧ ∀ R, (∀ k ∈ x.1.weights P t, k ≤ R) → l.length ≤ R := by
 rcases open_ints ht he hc h with ⟨hcs, _⟩ | ⟨a, len, cap, zs, hcs, _, hl, hm, hz, hx, hcell, hwf⟩
 ·injection hcs with h1 _
  exact ⟨none, [], 0, h1, Nat.le_refl _, Nat.zero_le _, fun v hv => (by cases hv), Reads.none_, fun R _ => Nat.zero_le _⟩
 ·injection hcs with h1 _
  have hlen : len ≤ zs.length := by rw [hz]; split <;> omega
  have hll : (zs.take len).length = len := by simp; omega
  refine ⟨some a, zs.take len, cap, by rw [hll]; exact h1, by omega, hm, fun v hv => ?_, ⟨by simp [i64s], fun hn => ⟨a, rfl, ?_, ?_⟩⟩, fun R hR => ?_⟩
  ·have := hwf v (List.mem_of_mem_take hv)
   simp only [Lit.wf, Bool.and_eq_true, decide_eq_true_eq] at this
   exact this
  ·rw [hll] at hn
   have := cell_lt (hcell 0 (by omega))
   rwa [block_of_add] at this
  ·intro j u hj
   unfold i64s at hj
   rw [List.getElem?_map] at hj
   rcases Nat.lt_or_ge j len with h | h
   ·have hq : (zs.take len)[j]? = some (zs[j]'(by omega)) := by rw [List.getElem?_take, if_pos h, List.getElem?_eq_getElem (by omega)]
    rw [hq] at hj
    simp only [Option.map_some, Option.some.injEq] at hj
    subst hj
    rw [hcell j (by omega), List.getD_eq_getElem?_getD, List.getElem?_eq_getElem (by omega)]
    rfl
   ·rw [List.getElem?_eq_none (by simp; omega)] at hj; cases hj
  ·rw [hll]
   have hq := hR ((zs.take len).length * P.bytesOf e + (zs.drop len).length * P.bytesOf e) (by
    rw [hx]
    simp [DataW.weights, ht, lits, Nat.add_mul])
   have e1 : (zs.take len).length = len := by rw [List.length_take]; omega
   have e2 : (zs.take len).length * 1 ≤ (zs.take len).length * P.bytesOf e := Nat.mul_le_mul_left _ hby
   omega
end
end Go.Proofs.YtkljkbeahdipfaaGreatDoor
/-
  An argument that is a row of ints, opened.
-/
namespace Go.Proofs.YtkljkbeahdipfaaGreatDoor
open Go.ChangeShapes Go.WideShapes Go.Deep Go.RowKit
theorem open_i64s {H : Type} {enc : TypeId × Value → H} {P : Program} {w : World} {base : Nat} {spare : Nat → Bool} {held : Bool} {r : Reach} {b0 : Nat} {t e : TypeId} {v : Value} {d : DataW H} {ps : List MemPlace} (ht : P.underlying t = some (.slice e)) (he : P.underlying e = some (.int .i64)) (hc : P.cellsOf e = 1) (hby : 1 ≤ P.bytesOf e)
 (hv : Value.okWide P w r b0 t v) (h : DataW.Trod enc P w base spare held t v d ps) :
 ∃ (A : Option Addr) (c : Nat) (l : List Int), v = .slice A l.length c ∧ Reads w w.heap.size 1 A l.length (i64s l) ∧ (∀ v ∈ l, -9223372036854775808 ≤ v ∧ v ≤ 9223372036854775807) ∧ ∀ R, (∀ k ∈ d.weights P t, k ≤ R) → l.length ≤ R := by
 obtain ⟨A, len, cap, rfl⟩ := okWide_slice ht hv
 obtain ⟨fuel, hf⟩ := h
 obtain ⟨A', l, c, e1, _, _, hvl, hr, hs⟩ := open_i64row ht he hc hby hf
 exact ⟨A', c, l, e1, hr, hvl, hs⟩
end Go.Proofs.YtkljkbeahdipfaaGreatDoor
/-
  What a row says of the first world: what the walks of the store need (turned from FineMet).
-/
namespace Go.Proofs.YtkljkbeahdipfaaGreatDoor
open Go.RowKit
theorem tabF_met {l : List (String × DataW Unit)} {W : World} (h : laidMetH Tryz.prog l W) (hl : l.filter (fun x => x.1 == "internal/strconv.uint64pow10") = [("internal/strconv.uint64pow10", Lib.tabData .u64 Lib.pow10Tab)]) :
 Lib.TabIs Tryz.prog W "internal/strconv.uint64pow10" .u64 Lib.pow10Tab := by
 have h1 := laidMetH.filter (fun x => x.1 == "internal/strconv.uint64pow10") h
 rw [hl, MakeChecks.laidMetH_plain _ _ _ (by kernel_rfl)] at h1
 exact Lib.tabIs_of_head (g := 1) (t := 363) (e := 175) (n := 20) (by kernel_rfl) (by kernel_rfl) Tryz.underlying363 Tryz.underlying175 (by kernel_rfl) (by kernel_rfl) h1
theorem star_eq : "*" ++ "errors.errorString" = "*errors.errorString" := by decide
theorem err_row (u : TypeId) (h : Tryz.prog.typeName? 3 u = some "*errors.errorString") : u = 391 :=
 typeName_ptr_named (nm := "errors.errorString") (by rw [star_eq]; kernel_rfl) (by kernel_rfl) (by decide) u (by rw [star_eq]; exact h)
theorem err_met {l : List (String × DataW Unit)} {W : World} (n : String) (text : List UInt8) (g : Nat) (h : laidMetH Tryz.prog l W) (hl : l.filter (fun x => x.1 == n) = [(n, .iface "*errors.errorString" (.ptr (.agg [.lit (.string text)])))])
 (hp : ([(n, (.iface "*errors.errorString" (.ptr (.agg [.lit (.string text)])) : DataW Unit))].all fun x => x.2.handleName?.isNone) = true)
 (hg : Tryz.prog.globalNamed n = some g) (ht : (Tryz.prog.globals[g]?).map (·.type) = some 270) : ∃ ev, W.cell? ⟨g, 0, none⟩ = some ev ∧ (ev = .nilIface ∨ ∃ te pe, ev = .iface te pe) := by
 have h1 := laidMetH.filter (fun x => x.1 == n) h
 rw [hl, MakeChecks.laidMetH_plain _ _ _ hp] at h1
 obtain ⟨a, s, hv, _⟩ := laid_sentinel h1 hg ht Tryz.underlying270 err_row Tryz.underlying391 Tryz.underlying393 rfl rfl Tryz.underlying9 (by kernel_rfl) (by kernel_rfl)
 exact ⟨_, by simpa using World.var?_cell hg hv 0, .inr ⟨_, _, rfl⟩⟩
theorem env_met {l : List (String × DataW Unit)} {W : World} (h : laidMetH Tryz.prog l W) (hsh : W.ShapedOpen Tryz.prog)
 (hl : l.filter (fun x => x.1 == "internal/strconv.uint64pow10") = [("internal/strconv.uint64pow10", Lib.tabData .u64 Lib.pow10Tab)])
 (h5 : l.filter (fun x => x.1 == "strconv.ErrSyntax") = [("strconv.ErrSyntax", .iface "*errors.errorString" (.ptr (.agg [.lit (.string [105, 110, 118, 97, 108, 105, 100, 32, 115, 121, 110, 116, 97, 120])])))])
 (h6 : l.filter (fun x => x.1 == "strconv.ErrRange") = [("strconv.ErrRange", .iface "*errors.errorString" (.ptr (.agg [.lit (.string [118, 97, 108, 117, 101, 32, 111, 117, 116, 32, 111, 102, 32, 114, 97, 110, 103, 101])])))]) : EnvS W := by
 have e6 := err_met "strconv.ErrRange" _ 4 h h6 rfl (by kernel_rfl) (by kernel_rfl)
 have e5 := err_met "strconv.ErrSyntax" _ 3 h h5 rfl (by kernel_rfl) (by kernel_rfl)
 obtain ⟨mx, hm⟩ := Go.Proofs.cell_of_shapedOpen_int (zero := #[.int .i64 0]) (t := 3) (g := 0) hsh (of_decide_eq_true (by kernel_rfl)) (by kernel_rfl) rfl (by kernel_rfl) (by kernel_rfl) Tryz.underlying3
 have q5 := e5
 have q6 := e6
 obtain ⟨v5, hc5, _⟩ := q5
 obtain ⟨v6, hc6, _⟩ := q6
 exact ⟨tabF_met h hl, ⟨mx, hm⟩, e5, e6, block_lt_of_cell hc6, block_lt_of_cell hc5, block_lt_of_cell hm⟩
end Go.Proofs.YtkljkbeahdipfaaGreatDoor
