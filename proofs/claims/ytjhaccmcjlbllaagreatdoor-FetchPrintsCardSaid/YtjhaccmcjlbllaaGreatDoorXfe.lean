/-
  Walks: cubbyref06.Flag, Flags.
-/
import Derived.Test.YtjhaccmcjlbllaaGreatDoorXfd
import Derived.Deep.Slices
import Derived.Deep.Fields
import Derived.ChangeSame
import Derived.ChangeSlices
import Derived.Carry
import Derived.SizedLaws
import Derived.Lib.SmallJoins
import Derived.Deep.DeepHandedRow
import Derived.LaidSub
import Derived.Lib.LaidTab
import Derived.MakeChecks
import Derived.Test.YtjhaccmcjlbllaaGreatDoorRows
import Derived.Stop.LaidErr
import Derived.Test.YtjhaccmcjlbllaaGreatDoorCards
import Derived.Test.YtjhaccmcjlbllaaGreatDoorTie
import Derived.SevenTiedAt
namespace Go.Proofs.YtjhaccmcjlbllaaGreatDoor
open Go.RowKit
set_option linter.unusedSimpArgs false
set_option linter.unusedVariables false
set_option linter.unusedSimpArgs false
set_option linter.unusedVariables false
set_option maxRecDepth 100000 in
set_option maxHeartbeats 8000000 in
theorem refFlag_any (j : Nat) (hj : j < 5) (w : World) : Calls Tryz.prog 33 #[.int .i64 (j : Nat)] w fun ev w' => ev = .returned (.string (St (flagNs[j]?.getD []))) ∧ Below w.heap.size w w' := by
  rcases (by omega : j = 0 ∨ j = 1 ∨ j = 2 ∨ j = 3 ∨ j = 4) with rfl | rfl | rfl | rfl | rfl
  all_goals
    refine calls_at 6 Tryz.func33 rfl rfl (Nat.le_of_ble_eq_true rfl) ?_
    intro a hA; replace hA := hA.norm
    refine wS (wR ?_)
    revert a; refine wo rfl rfl (by decide) (fun ev e h => by simp [go_sem, h] <;> rfl) ?_; intro a hA
    replace hA := hA.keepN [0]
    refine wN (nT (wS (wR ?_)))
    revert a; (iterate 4 refine wo rfl rfl (by decide) (fun ev e h => by simp [go_sem, h] <;> rfl) ?_); intro a hA
    replace hA := hA.keepN [2]
    refine wN (nT (wp_ret ?_))
    refine ret_1 hA 2 rfl rfl ?_
    exact ⟨rfl, Below.refl _ _⟩
set_option maxRecDepth 100000 in
set_option maxHeartbeats 8000000 in
theorem refFlags_any (f : Int) (w : World) : Calls Tryz.prog 12 #[.int .i64 f] w fun ev w' => ev = .returned (.string (St (flagsT f))) ∧ Below w.heap.size w w' := by
  refine calls_at 26 Tryz.func12 rfl rfl (Nat.le_of_ble_eq_true rfl) ?_
  intro a hA; replace hA := hA.norm
  refine wS (wR ?_)
  revert a; refine wo rfl rfl (by decide) (fun ev e h => by simp [go_sem, h] <;> rfl) ?_; intro a hA
  replace hA := hA.keepN [0]
  refine wN (nT (wS (wR ?_)))
  revert a; refine wo rfl rfl (by decide) (fun ev e h => by simp [go_sem, h] <;> rfl) ?_; intro a hA
  replace hA := hA.keepN [0, 3]
  refine wN (nT (wS (wS (wR ?_))))
  revert a; refine wo rfl rfl (by decide) (fun ev e h => by simp [go_sem, h] <;> rfl) ?_; intro a hA
  replace hA := hA.keepN [0, 3, 5]
  refine wN (nT (wB ?_))
  refine wp_loop_at (fun g a wx => ∃ (j : Nat), j + g = 5 ∧ Below w.heap.size w wx ∧ At 26 [(0, .int .i64 f), (3, .string (St (joinS (flagsL f j)))), (5, .int .i64 (j : Nat))] a) (5) ?_ ?_
  · exact ⟨0, by omega, Below.refl _ _, hA⟩
  clear hA
  rintro g a wx ⟨j, hjg, HB, hA⟩
  refine wS (wR ?_)
  revert a; refine wo rfl rfl (by decide) (fun ev e h => by simp [go_sem, h] <;> rfl) ?_; intro a hA
  replace hA := hA.keepN [0, 3, 5, 6]
  refine wN (nT (wS ?_))
  have hfl := flagsL_len f j
  refine wp_if hA 6 _ rfl (fun hq => ?yA) (fun hq => ?nA)
  case nA =>
    have hj5 : j = 5 := by simp at hq; omega
    subst hj5
    have hjl := flagsJ_len f 5 (Nat.le_refl _)
    obtain ⟨J, hJ⟩ : ∃ J, joinS (flagsL f 5) = J := ⟨_, rfl⟩
    rw [hJ] at hjl hA
    have ka := st_app [40] J
    have kb := st_app (40 :: J) [41]
    rw [show [40] ++ J = 40 :: J from rfl] at ka
    have kz1 : ¬ 9223372036854775807 < J.length + 1 := by omega
    have kz2 : ¬ 9223372036854775807 < J.length + 1 + 1 := by omega
    have kz3 : ¬ 9223372036854775807 < 1 + J.length := by omega
    have kz4 : ¬ 9223372036854775807 < 1 + J.length + 1 := by omega
    replace hA := hA.keepN [3]
    refine wp_exit (xT (xT (xB (nT (wS (wR ?_))))))
    revert a; (iterate 4 refine wo rfl rfl (by decide) (fun ev e h => by simp [go_sem, h, ka, kb, kz1, kz2, kz3, kz4] <;> rfl) ?_); intro a hA
    replace hA := hA.keepN [2]
    refine wN (nT (wp_ret ?_))
    refine ret_1 hA 2 rfl rfl ?_
    refine ⟨?_, HB⟩
    unfold flagsT
    rw [hJ]
    rfl
  case yA =>
    have hj5 : j < 5 := by simp at hq; omega
    have jj0 : (0 : Int) ≤ (j : Int) := by omega
    have jj1 : (j : Int) < 5 := by omega
    have jw : IntKind.i64.wrap ((j : Int) + 1) = ((j + 1 : Nat) : Int) := IntWalk.i64_in _ (by omega)
    have ju : IntKind.u64.wrap (j : Int) = (j : Int) := IntWalk.u64_in _ (by omega)
    refine wp_skip (nT (wS (wB (wS (wR ?_)))))
    revert a; (iterate 2 refine wo rfl rfl (by decide) (fun ev e h => by simp [go_sem, h, add0, jj0, jj1, jw, ju] <;> rfl) ?_); intro a hA
    replace hA := hA.keepN [0, 3, 4, 5]
    refine wN (nT (wS (wR ?_)))
    revert a; (iterate 2 refine wo rfl rfl (by decide) (fun ev e h => by simp [go_sem, h, add0, jj0, jj1, jw, ju] <;> rfl) ?_); intro a hA
    refine wl_op hA rfl rfl (by decide) (fun ev h => by simp [go_sem, h.get 9 rfl, add0, jj0, jj1, jw, ju]; try first | exact ⟨rfl, rfl⟩ | rfl) fun a hA => ?_
    revert a; (iterate 3 refine wo rfl rfl (by decide) (fun ev e h => by simp [go_sem, h, add0, jj0, jj1, jw, ju] <;> rfl) ?_); intro a hA
    replace hA := hA.keepN [0, 3, 4, 5, 13]
    refine wN (nT ?_)
    refine wp_joinb (fun a wx => Below w.heap.size w wx ∧ At 26 [(0, .int .i64 f), (3, .string (St (joinS (flagsL f (j + 1))))), (5, .int .i64 (j : Nat))] a) ?jfR ?jrR
    refine wp_if hA 13 _ rfl (fun hq2 => ?yB) (fun hq2 => ?nB)
    case yB =>
      have hq3 : bitF f j = true := by simpa [bitF] using hq2
      obtain ⟨nm, hnm⟩ : ∃ nm, flagNs[j]?.getD [] = nm := ⟨_, rfl⟩
      have e : flagsL f (j + 1) = flagsL f j ++ [nm] := by
        show (if bitF f j then _ else _) = _
        rw [if_pos hq3, hnm]
      rw [e, joinS_snoc]
      have hne := joinS_nil (L := flagsL f j) fun x hx => (flagsL_mem f j (by omega) x hx).1
      have hjl := flagsJ_len f j (by omega)
      have hl1 := flagsJ_len f (j + 1) (by omega)
      rw [e, joinS_snoc] at hl1
      obtain ⟨J, hJ⟩ : ∃ J, joinS (flagsL f j) = J := ⟨_, rfl⟩
      rw [hJ] at hjl hA hne hl1 ⊢
      refine wS (wS (wR ?_))
      revert a; (iterate 2 refine wo rfl rfl (by decide) (fun ev e h => by simp [go_sem, h, add0, jj0, jj1, jw, ju] <;> rfl) ?_); intro a hA
      replace hA := hA.keepN [0, 3, 4, 5, 15]
      refine wN (nT ?_)
      refine wp_join (fun a wx => Below w.heap.size w wx ∧ At 26 [(0, .int .i64 f), (3, .string (St (if flagsL f j = [] then [] else J ++ [32]))), (4, .int .i64 (j : Nat)), (5, .int .i64 (j : Nat))] a) ?jfS ?jrS
      refine wp_if hA 15 _ rfl (fun hq4 => ?yC) (fun hq4 => ?nC)
      case yC =>
        have hJ0 : ¬ flagsL f j = [] := fun h => by rw [hne.2 h] at hq4; simp at hq4
        rw [if_neg hJ0]
        have ka := st_app J [32]
        have kz : ¬ 9223372036854775807 < J.length + 1 := by omega
        refine wR ?_
        revert a; (iterate 3 refine wo rfl rfl (by decide) (fun ev e h => by simp [go_sem, h, ka, kz] <;> rfl) ?_); intro a hA
        replace hA := hA.keepN [0, 3, 4, 5]
        refine wN (nT ?_)
        exact ⟨HB, hA⟩
      case nC =>
        have hJ0 : flagsL f j = [] := hne.1 (by simpa using hq4)
        have hJ1 : J = [] := hne.2 hJ0
        subst hJ1
        rw [if_pos hJ0]
        replace hA := hA.keepN [0, 3, 4, 5]
        refine wp_skip (nT ?_)
        exact ⟨HB, hA⟩
      clear hA
      rintro a wx ⟨HB, hA⟩
      obtain ⟨J2, hJ2⟩ : ∃ J2, (if flagsL f j = [] then [] else J ++ [32]) = J2 := ⟨_, rfl⟩
      rw [hJ2] at hA
      have e2 : (if flagsL f j = [] then nm else J ++ [32] ++ nm) = J2 ++ nm := by rw [← hJ2]; split <;> rfl
      rw [e2] at hl1 ⊢
      rw [List.length_append] at hl1
      have ka := st_app J2 nm
      have kz : ¬ 9223372036854775807 < J2.length + nm.length := by omega
      have hcf := refFlag_any j hj5 wx
      rw [hnm] at hcf
      refine wR ?_
      revert a; (iterate 2 refine wo rfl rfl (by decide) (fun ev e h => by simp [go_sem, h, add0, jj0, jj1, jw, ju] <;> rfl) ?_); intro a hA
      refine wl_call hA rfl rfl (by decide) (fun ev h => exec_call Tryz.func33 (by kernel_rfl) rfl (h.f _) (by first | (simp only [mL, h.get 19 rfl, h.c] <;> rfl) | (simp [mL, h.get 19 rfl, h.c, add0, jj0, jj1, jw, ju] <;> rfl))) (hcf) ?_
      rintro e w5 ⟨rfl, hb5⟩
      refine ⟨_, rfl, fun a hA => ?_⟩
      revert a; (iterate 2 refine wo rfl rfl (by decide) (fun ev e h => by simp [go_sem, h, ka, kz] <;> rfl) ?_); intro a hA
      replace hA := hA.keepN [0, 3, 5]
      refine wN (nB (nT ?_))
      exact ⟨HB.trans (hb5.mono HB.size), hA⟩
    case nB =>
      have hq3 : bitF f j = false := by simpa [bitF] using hq2
      have e : flagsL f (j + 1) = flagsL f j := by
        show (if bitF f j then _ else _) = _
        rw [if_neg (by simp [hq3])]
      rw [e]
      replace hA := hA.keepN [0, 3, 5]
      refine wp_skip (nB (nT ?_))
      exact ⟨HB, hA⟩
    clear hA
    rintro a wx ⟨HB, hA⟩
    refine wR ?_
    revert a; (iterate 2 refine wo rfl rfl (by decide) (fun ev e h => by simp [go_sem, h, jw] <;> rfl) ?_); intro a hA
    replace hA := hA.keepN [0, 3, 5]
    refine wN (nT ?_)
    exact ⟨g - 1, by omega, j + 1, by omega, HB, hA⟩
end Go.Proofs.YtjhaccmcjlbllaaGreatDoor
/-
  Walk: cubbylaw18.FetchPrints.
-/
namespace Go.Proofs.YtjhaccmcjlbllaaGreatDoor
open Go.RowKit
set_option linter.unusedSimpArgs false
set_option linter.unusedVariables false
set_option linter.unusedSimpArgs false
set_option linter.unusedVariables false
theorem take_of {a b o : List UInt8} (h : a ++ b = o) : o.take a.length = a := by subst h; exact List.take_left
theorem drop_of {a b o : List UInt8} (h : a ++ b = o) : o.drop a.length = b := by subst h; exact List.drop_left
theorem markB_int (x : ItemI) : (decide ((5 : Int) < x.k) && decide (x.k < 9) && !x.p) = markB x := by
  unfold markB
  have h1 : decide ((5 : Int) < x.k) = decide (6 ≤ x.k) := decide_eq_decide.2 (by omega)
  have h2 : decide (x.k < 9) = decide (x.k ≤ 8) := decide_eq_decide.2 (by omega)
  rw [h1, h2]
/-- what is told of the first so many items -/
def toldJ (u : Nat) (t f : Int) (o : List UInt8) (l : List ItemI) : List UInt8 := 40 :: joinS (itemsL u t f o l)
set_option maxRecDepth 100000 in
set_option maxHeartbeats 16000000 in
theorem fprints_law (mm : MsgV) (A2 : Option Addr) (c2 : Nat) (l : List ItemI) (m : Int) (w : World) (hm : w.cell? ⟨0, 0, none⟩ = some (.int .i64 m)) (hnc : mm.b.length ≤ mm.c) (hc : mm.c ≤ maxLen) (hu : mm.uid < 4294967296) (hft : -9223372036854775808 ≤ mm.date ∧ mm.date ≤ 9223372036854775807) (hr : Reads w w.heap.size 1 mm.a mm.b.length (u8s mm.b)) (htab : Lib.TabIs Tryz.prog w "internal/strconv.uint64pow10" .u64 Lib.pow10Tab) (hl : RowR itemSh w A2 l) (hlc : l.length ≤ c2) (hlx : l.length ≤ maxLen) : Calls Tryz.prog 3 #[.agg (msgC mm).toArray, .slice A2 l.length c2] w fun ev w' => ev = .returned (.bool true) ∧ Below w.heap.size w w' := by
  obtain ⟨u, t, f, A, c, o⟩ := mm
  simp only at hnc hc hu hft hr
  show Calls Tryz.prog _ #[.agg #[.int .u32 (u : Nat), .int .i64 t, .int .i64 f, .slice A o.length c], _] _ _
  have HB := Below.refl w.heap.size w
  have hm0 := block_lt_of_cell hm
  have Ht := Lib.tabBelow_of_tabIs htab
  obtain ⟨n, hon⟩ : ∃ n, o.length = n := ⟨_, rfl⟩
  obtain ⟨q, hlq⟩ : ∃ q, l.length = q := ⟨_, rfl⟩
  rw [hlq] at hlx
  refine calls_at 163 Tryz.func3 rfl rfl (Nat.le_of_ble_eq_true rfl) ?_
  intro a hA; replace hA := hA.norm
  rw [hlq, hon] at hA
  refine wS (wR ?_)
  refine wl_new hA rfl rfl (by decide) (fun ev h => by simp [go_sem, h.get 0 rfl]; try first | exact ⟨rfl, rfl⟩ | rfl) fun w1 a (K1 : Blk _ _ _ _) hz1 hb1 hA => ?_
  replace HB := HB.trans (hb1.mono HB.size)
  revert a; refine wo rfl rfl (by decide) (fun ev e h => by simp [go_sem, h] <;> rfl) ?_; intro a hA
  replace hA := hA.keepN [1, 2]
  refine wN (nT (wS (wS (wR ?_))))
  refine wl_call hA rfl rfl (by decide) (fun ev h => exec_call Tryz.func8 (by kernel_rfl) rfl (h.f _) (by first | (simp only [mL, h.c] <;> rfl) | (simp [mL, h.c] <;> rfl))) (awake18_any m w1 ((HB.cell hm0).trans hm) (Ht _ HB)) ?_
  rintro e w2 ⟨rfl, hb2⟩
  refine ⟨_, rfl, fun a hA => ?_⟩
  replace K1 := K1.below hb2 K1.lt
  replace HB := HB.trans (hb2.mono HB.size)
  revert a; (iterate 2 refine wo rfl rfl (by decide) (fun ev e h => by simp [go_sem, h, K1.cell] <;> rfl) ?_); (iterate 2 refine wg _ rfl rfl rfl rfl (by decide) (fun hq ev e h => by simp [go_sem, h, ↓gw_t (beq_t hq), K1.cell] <;> rfl) ?_); intro a hA
  refine wl_gcallv _ hA rfl rfl rfl rfl (by decide) (fun hq ev h => exec_call Tryz.func9 (by kernel_rfl) rfl (h.f _) (by first | (simp only [mL, ((h.get 14 rfl).trans (gw_t (beq_t hq))), ((h.get 15 rfl).trans (gw_t (beq_t hq))), h.c] <;> rfl) | (simp [mL, ((h.get 14 rfl).trans (gw_t (beq_t hq))), ((h.get 15 rfl).trans (gw_t (beq_t hq))), h.c, K1.cell] <;> rfl))) (fun hq => lfew_any u t f A n c A2 q c2 _) fun a w3 hb3 hA => ?_
  replace K1 := K1.below hb3 K1.lt
  replace HB := HB.trans (hb3.mono HB.size)
  revert a; refine wg _ rfl rfl rfl rfl (by decide) (fun hq ev e h => by simp [go_sem, h, ↓gw_t (beq_t hq), K1.cell] <;> rfl) ?_; refine wko rfl rfl (by decide) rfl rfl rfl ?_; refine wo rfl rfl (by decide) (fun ev e h => by simp [go_sem, h, K1.cell] <;> rfl) ?_; (iterate 3 refine wg _ rfl rfl rfl rfl (by decide) (fun hq ev e h => by simp [go_sem, h, ↓gw_t (beq_t hq), K1.cell] <;> rfl) ?_); intro a hA
  replace hA := hA.keepN [1, 2, 19, 22]
  revert a; refine wko rfl rfl (by decide) rfl rfl rfl ?_; refine wo rfl rfl (by decide) (fun ev e h => by simp [go_sem, h, K1.cell] <;> rfl) ?_; (iterate 3 refine wg _ rfl rfl rfl rfl (by decide) (fun hq ev e h => by simp [go_sem, h, ↓gw_t (beq_t hq), K1.cell] <;> rfl) ?_); refine wko rfl rfl (by decide) rfl rfl rfl ?_; intro a hA
  replace hA := hA.keepN [1, 2, 28]
  refine wN (nT ?_)
  refine wp_if hA 28 _ rfl (fun hqf => ?yZ) (fun hqf => ?nZ)
  case yZ =>
    refine wS (wR ?_)
    refine wl_call hA rfl rfl (by decide) (fun ev h => exec_call Tryz.func8 (by kernel_rfl) rfl (h.f _) (by first | (simp only [mL, h.c] <;> rfl) | (simp [mL, h.c, K1.cell] <;> rfl))) (awake18_any m w3 ((HB.cell hm0).trans hm) (Ht _ HB)) ?_
    rintro e w4 ⟨rfl, hb4⟩
    refine ⟨_, rfl, fun a hA => ?_⟩
    revert a; refine wo rfl rfl (by decide) (fun ev e h => by simp [go_sem, h, K1.cell] <;> rfl) ?_; intro a hA
    replace hA := hA.keepN [4]
    refine wN (nT (wp_ret (rT ?_)))
    refine ret_1 hA 4 rfl rfl ?_
    exact ⟨rfl, HB.trans (hb4.mono HB.size)⟩
  case nZ =>
    have hqf2 : n ≤ 20000 ∧ q ≤ 40 ∧ 0 ≤ t ∧ t ≤ 253402300799 := by
      simp at hqf
      omega
    have hrW := (hr.below HB).more HB.size
    have hrn := hrW
    rw [hon] at hrn
    have hrh := refHead_any A c o w3 (by omega) hnc hrW
    rw [hon] at hrh
    have hdl := headB_len o
    refine wp_skip (nT (wS (wR ?_)))
    revert a; (iterate 2 refine wo rfl rfl (by decide) (fun ev e h => by simp [go_sem, h, K1.cell] <;> rfl) ?_); intro a hA
    refine wl_call hA rfl rfl (by decide) (fun ev h => exec_call Tryz.func10 (by kernel_rfl) rfl (h.f _) (by first | (simp only [mL, h.get 32 rfl, h.c] <;> rfl) | (simp [mL, h.get 32 rfl, h.c, K1.cell] <;> rfl))) (hrh) ?_
    rintro e w4 ⟨V, rfl, hoF, hb4⟩
    refine ⟨_, rfl, fun a hA => ?_⟩
    replace K1 := K1.below hb4 K1.lt
    replace HB := HB.trans (hb4.mono HB.size)
    revert a; (iterate 5 refine wo rfl rfl (by decide) (fun ev e h => by simp [go_sem, h, K1.cell] <;> rfl) ?_); intro a hA
    replace hA := hA.keepN [1, 2, 5]
    refine wN (nT (wS (wR ?_)))
    revert a; (iterate 2 refine wo rfl rfl (by decide) (fun ev e h => by simp [go_sem, h, K1.cell] <;> rfl) ?_); intro a hA
    replace hA := hA.keepN [1, 2, 5, 7, 8]
    refine wN (nT (wS (wS (wR ?_))))
    revert a; (iterate 3 refine wo rfl rfl (by decide) (fun ev e h => by simp [go_sem, h, K1.cell] <;> rfl) ?_); intro a hA
    replace hA := hA.keepN [1, 2, 5, 7, 8, 37, 38]
    refine wN (nT (wB ?_))
    refine wp_loop_at (fun g a wx => ∃ (j : Nat), j + g = q ∧ Below w4.heap.size w4 wx ∧ At 163 [(1, .slice A2 q c2), (2, .pointer (some ⟨w.heap.size, 0, none⟩)), (5, .int .i64 ((headS o).length : Nat)), (7, .string (St (toldJ u t f o (l.take j)))), (8, .bool ((l.take j).any markB)), (37, .int .i64 (q : Nat)), (38, .int .i64 (j : Nat))] a) (q) ?_ ?_
    · exact ⟨0, by omega, Below.refl _ _, hA⟩
    clear hA
    rintro g a wx ⟨j, hjg, HX, hA⟩
    have HW := HB.trans (HX.mono HB.size)
    have K1x := K1.below HX K1.lt
    have hmx : wx.cell? ⟨0, 0, none⟩ = some (.int .i64 m) := (HW.cell hm0).trans hm
    refine wS (wR ?_)
    revert a; refine wo rfl rfl (by decide) (fun ev e h => by simp [go_sem, h] <;> rfl) ?_; intro a hA
    replace hA := hA.keepN [1, 2, 5, 7, 8, 37, 38, 39]
    refine wN (nT (wS ?_))
    refine wp_if hA 39 _ rfl (fun hq => ?yA) (fun hq => ?nA)
    case nA =>
      have hj5 : j = q := by simp at hq; omega
      subst hj5
      rw [show l.take j = l from by rw [← hlq]; exact List.take_length] at hA
      have hjl := itemsJ_len u t f o l
      have hmul : (10 * o.length + 201) * l.length ≤ (10 * 100000 + 201) * 100 := Nat.mul_le_mul (by omega) (by omega)
      have hpt : printT u t f o l = toldJ u t f o l ++ [41] := rfl
      obtain ⟨P, hP⟩ : ∃ P, toldJ u t f o l = P := ⟨_, rfl⟩
      obtain ⟨M, hM⟩ : ∃ M, l.any markB = M := ⟨_, rfl⟩
      have htl : (toldJ u t f o l).length ≤ 1000000000 := by unfold toldJ; rw [List.length_cons]; omega
      have hc1 : ∀ wo, Below wx.heap.size wx wo → Calls Tryz.prog 16 #[.agg #[.int .u32 (u : Nat), .int .i64 t, .int .i64 f, .slice A n c], .slice A2 j c2] wo fun ev w' => ev = .returned (.string (St (P ++ [41]))) ∧ Below wo.heap.size wo w' := fun wo hC => by
        have HWo := HW.trans (hC.mono HW.size)
        have h := fprint_any u t f A c o A2 c2 l m wo ((HWo.cell hm0).trans hm) hnc hc (by omega) hu hft ((hr.below HWo).more HWo.size) (Ht _ HWo) (hl.below HWo) (by omega)
        rw [hon, hlq, hpt, hP] at h
        exact h
      have hc2 : ∀ wo, Below wx.heap.size wx wo → Calls Tryz.prog 17 #[.slice A2 j c2] wo fun ev w' => ev = .returned (.bool M) ∧ Below wo.heap.size wo w' := fun wo hC => by
        have HWo := HW.trans (hC.mono HW.size)
        have h := marks_any A2 c2 l wo (hl.below HWo) (by omega)
        rw [hlq, hM] at h
        exact h
      obtain ⟨Z, hZ⟩ : ∃ Z, envT o = Z := ⟨_, rfl⟩
      have hc3 : ∀ wo, Below wx.heap.size wx wo → Calls Tryz.prog 18 #[.slice A n c] wo fun ev w' => ev = .returned (.string (St Z)) ∧ Below wo.heap.size wo w' := fun wo hC => by
        have HWo := HW.trans (hC.mono HW.size)
        have h := envelope_any A c o m wo ((HWo.cell hm0).trans hm) hnc hc (by omega) ((hr.below HWo).more HWo.size) (Ht _ HWo)
        rw [hon, hZ] at h
        exact h
      have hc4 : ∀ wo, Below wx.heap.size wx wo → Calls Tryz.prog 14 #[.slice A n c] wo fun ev w' => ev = .returned (.string (St Z)) ∧ Below wo.heap.size wo w' := fun wo hC => by
        have HWo := HW.trans (hC.mono HW.size)
        have h := lenvelope_any A c o m wo ((HWo.cell hm0).trans hm) hnc (by omega) ((hr.below HWo).more HWo.size) (Ht _ HWo)
        rw [hon, hZ] at h
        exact h
      rw [hP] at htl hA
      rw [hM] at hA
      have ka : St P ++ (⟨#[41]⟩ : ByteArray) = St (P ++ [41]) := st_app P [41]
      have kz : ¬ 9223372036854775807 < P.length + 1 := by omega
      replace hA := hA.keepN [1, 2, 7, 8]
      have pY := fun (wo : World) (hC : (fun wy => Below wx.heap.size wx wy) wo) => have Kx := K1x.below hC K1x.lt; (Kx.cell)
      refine wp_exit (xT (xT (xB (nT (wS ?_)))))
      refine wp_any_at hA [(.det ?dY0), (.det ?dY1), (.det ?dY2), (.det ?dY3), (.det ?dY4), (.det ?dY5), (.det ?dY6), (.det ?dY7), (.det ?dY8), (.det ?dY9), (.det ?dY10), (.det ?dY11), (.det ?dY12), (.det ?dY13), (.det ?dY14), (.det ?dY15), (.det ?dY16), (.det ?dY17), (.det ?dY18), (.det ?dY19), (.det ?dY20), (.det ?dY21)] [] (fun wy => Below wx.heap.size wx wy) (TSp [] Grows) (by kernel_rfl) rfl (by kernel_rfl) (by kernel_rfl) rfl ((Below.refl _ _).drew) (stab_sp [] [true, true, true, true, true, true, true, true, true, true, true, true, true, true, true, true, true, true, true, true, true, true] [true, true, true, true, true, true, true, true, true, true, true, true, true, true, true, true, true, true, true, true, true, true] [] rfl rfl rfl (by kernel_rfl) ⟨trivial, trivial, trivial, trivial, trivial, trivial, trivial, trivial, trivial, trivial, trivial, trivial, trivial, trivial, trivial, trivial, trivial, trivial, trivial, trivial, trivial, trivial, trivial⟩ trivial) (fun _ h => by cases h) (fun _ _ _ _ _ h => by cases h) (fun _ h => by cases h) ⟨?oY0, ?oY1, ?oY2, ?oY3, ?oY4, ?oY5, ?oY6, ?oY7, ?oY8, ?oY9, ?oY10, ?oY11, ?oY12, ?oY13, ?oY14, ?oY15, ?oY16, ?oY17, ?oY18, ?oY19, ?oY20, ?oY21, trivial⟩ (by kernel_rfl) ?fY
      case oY0 => intro ev wo hev hC hs hph; have x0 := se hA hs 2; exact od rfl rfl (by kernel_rfl) hC (TSp.of rfl (Grows.refl _)) (by simp [go_sem, x0, pY _ hC] <;> rfl)
      case oY1 => intro ev wo hev hC hs hph; have x0 := se hA hs 1; exact od rfl rfl (by kernel_rfl) hC (TSp.of rfl (Grows.refl _)) (by simp [go_sem, x0] <;> rfl)
      case oY2 =>
        intro ev wo hev hC hs hph
        have e142 := sd hs 142 0
        have e143 := sd hs 143 1
        have Kx := K1x.below hC K1x.lt
        exact ob_dcall (wanted_none rfl) rfl (by kernel_rfl) (hc1 wo hC) (exec_call Tryz.func16 (by kernel_rfl) rfl (hev.func _) (by first | (simp only [mL, e142, e143, hev.const] <;> rfl) | (simp [mL, e142, e143, hev.const] <;> rfl))) (by rfl) (fun w3 hb3 => ⟨hC.trans (hb3.mono hC.size), TSp.of rfl hb3⟩)
      case oY3 => intro ev wo hev hC hs hph; have x0 := se hA hs 7; exact od rfl rfl (by kernel_rfl) hC (TSp.of rfl (Grows.refl _)) (by simp [go_sem, x0] <;> rfl)
      case oY4 => intro ev wo hev hC hs hph; have x0 := sd hs 145 3; exact od rfl rfl (by kernel_rfl) hC (TSp.of rfl (Grows.refl _)) (by simp [go_sem, x0, hev.const, ka, kz] <;> rfl)
      case oY5 => intro ev wo hev hC hs hph; have x0 := sd hs 144 2; have x1 := sd hs 146 4; exact od rfl rfl (by kernel_rfl) hC (TSp.of rfl (Grows.refl _)) (by simp [go_sem, x0, x1] <;> rfl)
      case oY6 => intro ev wo hev hC hs hph; have x0 := sd hs 147 5; exact od rfl rfl (by kernel_rfl) hC (TSp.of rfl (Grows.refl _)) (by simp [go_sem, x0] <;> rfl)
      case oY7 => intro ev wo hev hC hs hph; have x0 := se hA hs 1; have y := sd hs 148 6; exact ob_gv _ rfl rfl y rfl (by kernel_rfl) hC (TSp.of rfl (Grows.refl _)) (fun hq => by simp [go_sem, x0] <;> rfl) (by rfl)
      case oY8 =>
        intro ev wo hev hC hs hph
        have e149 := sd hs 149 7
        have e148 := sd hs 148 6
        have Kx := K1x.below hC K1x.lt
        exact ob_gcall _ rfl rfl e148 rfl (by kernel_rfl) (by rfl) (fun hq => exec_call Tryz.func17 (by kernel_rfl) rfl (hev.func _) (by first | (simp only [mL, (e149.trans (gw_t (beq_t hq))), e148, hev.const] <;> rfl) | (simp [mL, (e149.trans (gw_t (beq_t hq))), e148, hev.const] <;> rfl))) (fun hq => hc2 wo hC) (fun w3 hb3 => ⟨hC.trans (hb3.mono hC.size), TSp.of rfl hb3⟩)
      case oY9 => intro ev wo hev hC hs hph; have x0 := se hA hs 8; have y := sd hs 148 6; exact ob_gv _ rfl rfl y rfl (by kernel_rfl) hC (TSp.of rfl (Grows.refl _)) (fun hq => by simp [go_sem, x0] <;> rfl) (by rfl)
      case oY10 => intro ev wo hev hC hs hph; have x0 := sd hs 150 8; have x1 := sd hs 151 9; have y := sd hs 148 6; exact ob_gv _ rfl rfl y rfl (by kernel_rfl) hC (TSp.of rfl (Grows.refl _)) (fun hq => by simp [go_sem, (x0.trans (gw_t (beq_t hq))), (x1.trans (gw_t (beq_t hq)))] <;> rfl) (by rfl)
      case oY11 => intro ev wo hev hC hs hph; have x0 := sd hs 148 6; have x1 := sd hs 152 10; exact od rfl rfl (by kernel_rfl) hC (TSp.of rfl (Grows.refl _)) (by rw [pick_and rfl x0 x1 (hev.const _)] <;> rfl)
      case oY12 => intro ev wo hev hC hs hph; have x0 := sd hs 153 11; exact od rfl rfl (by kernel_rfl) hC (TSp.of rfl (Grows.refl _)) (by simp [go_sem, x0] <;> rfl)
      case oY13 => intro ev wo hev hC hs hph; have x0 := se hA hs 2; have y := sd hs 154 12; exact ob_gv _ rfl rfl y rfl (by kernel_rfl) hC (TSp.of rfl (Grows.refl _)) (fun hq => by simp [go_sem, x0] <;> rfl) (by rfl)
      case oY14 => intro ev wo hev hC hs hph; have x0 := sd hs 155 13; have y := sd hs 154 12; exact ob_gv _ rfl rfl y rfl (by kernel_rfl) hC (TSp.of rfl (Grows.refl _)) (fun hq => by simp [go_sem, (x0.trans (gw_t (beq_t hq))), pY _ hC] <;> rfl) (by rfl)
      case oY15 =>
        intro ev wo hev hC hs hph
        have e156 := sd hs 156 14
        have e154 := sd hs 154 12
        have Kx := K1x.below hC K1x.lt
        exact ob_gcall _ rfl rfl e154 rfl (by kernel_rfl) (by rfl) (fun hq => exec_call Tryz.func18 (by kernel_rfl) rfl (hev.func _) (by first | (simp only [mL, (e156.trans (gw_t (beq_t hq))), e154, hev.const] <;> rfl) | (simp [mL, (e156.trans (gw_t (beq_t hq))), e154, hev.const] <;> rfl))) (fun hq => hc3 wo hC) (fun w3 hb3 => ⟨hC.trans (hb3.mono hC.size), TSp.of rfl hb3⟩)
      case oY16 => intro ev wo hev hC hs hph; have x0 := se hA hs 2; have y := sd hs 154 12; exact ob_gv _ rfl rfl y rfl (by kernel_rfl) hC (TSp.of rfl (Grows.refl _)) (fun hq => by simp [go_sem, x0] <;> rfl) (by rfl)
      case oY17 => intro ev wo hev hC hs hph; have x0 := sd hs 158 16; have y := sd hs 154 12; exact ob_gv _ rfl rfl y rfl (by kernel_rfl) hC (TSp.of rfl (Grows.refl _)) (fun hq => by simp [go_sem, (x0.trans (gw_t (beq_t hq))), pY _ hC] <;> rfl) (by rfl)
      case oY18 =>
        intro ev wo hev hC hs hph
        have e159 := sd hs 159 17
        have e154 := sd hs 154 12
        have Kx := K1x.below hC K1x.lt
        exact ob_gcall _ rfl rfl e154 rfl (by kernel_rfl) (by rfl) (fun hq => exec_call Tryz.func14 (by kernel_rfl) rfl (hev.func _) (by first | (simp only [mL, (e159.trans (gw_t (beq_t hq))), e154, hev.const] <;> rfl) | (simp [mL, (e159.trans (gw_t (beq_t hq))), e154, hev.const] <;> rfl))) (fun hq => hc4 wo hC) (fun w3 hb3 => ⟨hC.trans (hb3.mono hC.size), TSp.of rfl hb3⟩)
      case oY19 => intro ev wo hev hC hs hph; have x0 := sd hs 157 15; have x1 := sd hs 160 18; have y := sd hs 154 12; exact ob_gv _ rfl rfl y rfl (by kernel_rfl) hC (TSp.of rfl (Grows.refl _)) (fun hq => by simp [go_sem, (x0.trans (gw_t (beq_t hq))), (x1.trans (gw_t (beq_t hq)))] <;> rfl) (by rfl)
      case oY20 => intro ev wo hev hC hs hph; have x0 := sd hs 154 12; have x1 := sd hs 161 19; exact od rfl rfl (by kernel_rfl) hC (TSp.of rfl (Grows.refl _)) (by rw [pick_and rfl x0 x1 (hev.const _)] <;> rfl)
      case oY21 => intro ev wo hev hC hs hph; have x0 := sd hs 162 20; exact od rfl rfl (by kernel_rfl) hC (TSp.of rfl (Grows.refl _)) (by simp [go_sem, x0] <;> rfl)
      intro sg wf hC hph
      intro a hA
      replace hA := hA.keepN [4]
      refine nT (wp_ret ?_)
      refine ret_1 hA 4 rfl rfl ?_
      exact ⟨rfl, HW.trans (hC.mono HW.size)⟩
    case yA =>
      have hj5 : j < q := by simp at hq; omega
      have jj0 : (0 : Int) ≤ (j : Int) := by omega
      have jj1 : (j : Int) < q := by omega
      have jj2 : j < q := hj5
      obtain ⟨x, hx⟩ : ∃ x, l[j]? = some x := ⟨_, List.getElem?_eq_getElem (by omega)⟩
      have jw : IntKind.i64.wrap ((j : Int) + 1) = ((j + 1 : Nat) : Int) := IntWalk.i64_in _ (by omega)
      obtain ⟨ad, rfl, hadb, hc0, hc1⟩ := (hl.below HW).cell hx
      have z0 : wx.cell? (ad.add (j * 2)) = some (.int .i64 x.k) := hc0 (.int .i64 x.k) rfl
      have z1 : wx.cell? ⟨(ad.add (j * 2)).block, (ad.add (j * 2)).off + 1, none⟩ = some (.bool x.p) := hc1 1 (.bool x.p) (by decide) rfl
      obtain ⟨k, p⟩ := x
      simp only at z0 z1
      have hrx := (hr.below HW).more HW.size
      have htx := Ht _ HW
      have e := itemsL_take (u := u) (t := t) (f := f) (o := o) hx
      simp only at e
      refine wp_skip (nT (wS (wB (wS (wR ?_)))))
      revert a; (iterate 2 refine wo rfl rfl (by decide) (fun ev e h => by simp [go_sem, h, z0, z1, jj0, jj1, jj2, jw, K1x.cell] <;> rfl) ?_); intro a hA
      replace hA := hA.keepN [1, 2, 5, 7, 8, 9, 37, 38]
      refine wN (nT (wS (wR ?_)))
      revert a; refine wo rfl rfl (by decide) (fun ev e h => by simp [go_sem, h, z0, z1, jj0, jj1, jj2, jw, K1x.cell] <;> rfl) ?_; intro a hA
      replace hA := hA.keepN [1, 2, 5, 7, 8, 9, 10, 37, 38]
      refine wN (nT (wS (wS (wR ?_))))
      revert a; (iterate 5 refine wo rfl rfl (by decide) (fun ev e h => by simp [go_sem, h, z0, z1, jj0, jj1, jj2, jw, K1x.cell] <;> rfl) ?_); intro a hA
      replace hA := hA.keepN [1, 2, 5, 7, 8, 9, 10, 37, 38, 45]
      refine wN (nT ?_)
      refine wp_join (fun a wy => Below wx.heap.size wx wy ∧ At 163 [(1, .slice (some ad) q c2), (2, .pointer (some ⟨w.heap.size, 0, none⟩)), (5, .int .i64 ((headS o).length : Nat)), (7, .string (St (toldJ u t f o (l.take j)))), (8, .bool ((l.take j).any markB)), (9, .int .i64 (j : Nat)), (10, .string (St (itemT u t f o k))), (37, .int .i64 (q : Nat)), (38, .int .i64 (j : Nat))] a) ?jfT ?jrT
      refine wB (wS (wR ?_))
      revert a; (iterate 2 refine wo rfl rfl (by decide) (fun ev e h => by simp [go_sem, h, z0, z1, jj0, jj1, jj2, jw, K1x.cell] <;> rfl) ?_); intro a hA
      replace hA := hA.keepN [1, 2, 5, 7, 8, 9, 10, 37, 38, 45, 46]
      refine wN (nT ?_)
      refine wp_if hA 46 _ rfl (fun hq1 => ?yC1) (fun hq1 => ?nC1)
      case yC1 =>
        have hk : k = 1 := by simpa using hq1
        subst hk
        have hJl := countB_len 10 u
        have ku : IntKind.u64.wrap ((u : Nat) : Int) = ((u : Nat) : Int) := IntWalk.u64_in _ (by omega)
        refine wR ?_
        revert a; (iterate 2 refine wo rfl rfl (by decide) (fun ev e h => by simp [go_sem, h, K1x.cell, ku] <;> rfl) ?_); intro a hA
        refine wl_op hA rfl rfl (by decide) (fun ev h => by simp [go_sem, h.get 49 rfl, K1x.cell, ku]; try first | exact ⟨rfl, rfl⟩ | rfl) fun a hA => ?_
        refine wl_call hA rfl rfl (by decide) (fun ev h => exec_call Tryz.func11 (by kernel_rfl) rfl (h.f _) (by first | (simp only [mL, h.get 50 rfl, h.c] <;> rfl) | (simp [mL, h.get 50 rfl, h.c, K1x.cell, ku] <;> rfl))) (digits_any u 10 _ (by decide) (by decide) (by omega) (by omega)) ?_
        rintro e w5 ⟨rfl, hb3⟩
        refine ⟨_, rfl, fun a hA => ?_⟩
        obtain ⟨J, hJ⟩ : ∃ J, countB 10 u = J := ⟨_, rfl⟩
        rw [hJ] at hJl hA
        have ka := st_app [85, 73, 68, 32] J
        have kz : ¬ 9223372036854775807 < 4 + J.length := by omega
        revert a; (iterate 2 refine wo rfl rfl (by decide) (fun ev e h => by simp [go_sem, h, ka, kz] <;> rfl) ?_); intro a hA
        replace hA := hA.keepN [1, 2, 5, 7, 8, 9, 10, 37, 38]
        refine wN (nB (nT ?_))
        refine ⟨hb3, ?_⟩
        rw [itemT_1, hJ]
        exact hA
      case nC1 =>
        refine wS (wR ?_)
        revert a; (iterate 2 refine wo rfl rfl (by decide) (fun ev e h => by simp [go_sem, h, z0, z1, jj0, jj1, jj2, jw, K1x.cell] <;> rfl) ?_); intro a hA
        replace hA := hA.keepN [1, 2, 5, 7, 8, 9, 10, 37, 38, 45, 53]
        refine wN (nT ?_)
        refine wp_if hA 53 _ rfl (fun hq2 => ?yC2) (fun hq2 => ?nC2)
        case yC2 =>
          have hk : k = 2 := by simpa using hq2
          subst hk
          have hJl := flagsT_len f
          refine wR ?_
          revert a; (iterate 2 refine wo rfl rfl (by decide) (fun ev e h => by simp [go_sem, h, z0, z1, jj0, jj1, jj2, jw, K1x.cell] <;> rfl) ?_); intro a hA
          refine wl_call hA rfl rfl (by decide) (fun ev h => exec_call Tryz.func12 (by kernel_rfl) rfl (h.f _) (by first | (simp only [mL, h.get 56 rfl, h.c] <;> rfl) | (simp [mL, h.get 56 rfl, h.c, z0, z1, jj0, jj1, jj2, jw, K1x.cell] <;> rfl))) (refFlags_any f _) ?_
          rintro e w5 ⟨rfl, hb3⟩
          refine ⟨_, rfl, fun a hA => ?_⟩
          obtain ⟨J, hJ⟩ : ∃ J, flagsT f = J := ⟨_, rfl⟩
          rw [hJ] at hJl hA
          have ka := st_app [70, 76, 65, 71, 83, 32] J
          have kz : ¬ 9223372036854775807 < 6 + J.length := by omega
          revert a; (iterate 2 refine wo rfl rfl (by decide) (fun ev e h => by simp [go_sem, h, ka, kz] <;> rfl) ?_); intro a hA
          replace hA := hA.keepN [1, 2, 5, 7, 8, 9, 10, 37, 38]
          refine wN (nB (nT ?_))
          refine ⟨hb3, ?_⟩
          rw [itemT_2, hJ]
          exact hA
        case nC2 =>
          refine wS (wR ?_)
          revert a; (iterate 2 refine wo rfl rfl (by decide) (fun ev e h => by simp [go_sem, h, z0, z1, jj0, jj1, jj2, jw, K1x.cell] <;> rfl) ?_); intro a hA
          replace hA := hA.keepN [1, 2, 5, 7, 8, 9, 10, 37, 38, 45, 59]
          refine wN (nT ?_)
          refine wp_if hA 59 _ rfl (fun hq3 => ?yC3) (fun hq3 => ?nC3)
          case yC3 =>
            have hk : k = 3 := by simpa using hq3
            subst hk
            have hJl := dateT_len t
            refine wR ?_
            revert a; (iterate 2 refine wo rfl rfl (by decide) (fun ev e h => by simp [go_sem, h, z0, z1, jj0, jj1, jj2, jw, K1x.cell] <;> rfl) ?_); intro a hA
            refine wl_call hA rfl rfl (by decide) (fun ev h => exec_call Tryz.func13 (by kernel_rfl) rfl (h.f _) (by first | (simp only [mL, h.get 62 rfl, h.c] <;> rfl) | (simp [mL, h.get 62 rfl, h.c, z0, z1, jj0, jj1, jj2, jw, K1x.cell] <;> rfl))) (Dt.refPrint_any t _ hft.1 hft.2) ?_
            rintro e w5 ⟨rfl, hb3⟩
            refine ⟨_, rfl, fun a hA => ?_⟩
            rw [dateT_st] at hA
            obtain ⟨J, hJ⟩ : ∃ J, dateT t = J := ⟨_, rfl⟩
            rw [hJ] at hJl hA
            have ka := st_app [73, 78, 84, 69, 82, 78, 65, 76, 68, 65, 84, 69, 32, 34] J
            have kz : ¬ 9223372036854775807 < 14 + J.length := by omega
            have kb : St ([73, 78, 84, 69, 82, 78, 65, 76, 68, 65, 84, 69, 32, 34] ++ J) ++ (⟨#[34]⟩ : ByteArray) = St ([73, 78, 84, 69, 82, 78, 65, 76, 68, 65, 84, 69, 32, 34] ++ J ++ [34]) := st_app ([73, 78, 84, 69, 82, 78, 65, 76, 68, 65, 84, 69, 32, 34] ++ J) [34]
            have kz3 : ¬ 9223372036854775807 < 14 + J.length + 1 := by omega
            have kz4 : ¬ 9223372036854775807 < J.length + 1 + 14 := by omega
            revert a; (iterate 3 refine wo rfl rfl (by decide) (fun ev e h => by simp [go_sem, h, ka, kz, kb, kz3, kz4] <;> rfl) ?_); intro a hA
            replace hA := hA.keepN [1, 2, 5, 7, 8, 9, 10, 37, 38]
            refine wN (nB (nT ?_))
            refine ⟨hb3, ?_⟩
            rw [itemT_3, hJ]
            exact hA
          case nC3 =>
            refine wS (wR ?_)
            revert a; (iterate 2 refine wo rfl rfl (by decide) (fun ev e h => by simp [go_sem, h, z0, z1, jj0, jj1, jj2, jw, K1x.cell] <;> rfl) ?_); intro a hA
            replace hA := hA.keepN [1, 2, 5, 7, 8, 9, 10, 37, 38, 45, 66]
            refine wN (nT ?_)
            refine wp_if hA 66 _ rfl (fun hq4 => ?yC4) (fun hq4 => ?nC4)
            case yC4 =>
              have hk : k = 4 := by simpa using hq4
              subst hk
              have hJl := countB_len 7 o.length
              have ku : IntKind.u64.wrap ((n : Nat) : Int) = ((n : Nat) : Int) := IntWalk.u64_in _ (by omega)
              refine wR ?_
              revert a; (iterate 3 refine wo rfl rfl (by decide) (fun ev e h => by simp [go_sem, h, K1x.cell, ku] <;> rfl) ?_); intro a hA
              refine wl_op hA rfl rfl (by decide) (fun ev h => by simp [go_sem, h.get 70 rfl, K1x.cell, ku]; try first | exact ⟨rfl, rfl⟩ | rfl) fun a hA => ?_
              rw [hon] at hJl
              refine wl_call hA rfl rfl (by decide) (fun ev h => exec_call Tryz.func11 (by kernel_rfl) rfl (h.f _) (by first | (simp only [mL, h.get 71 rfl, h.c] <;> rfl) | (simp [mL, h.get 71 rfl, h.c, K1x.cell, ku] <;> rfl))) (digits_any n 7 _ (by decide) (by decide) (by omega) (by omega)) ?_
              rintro e w5 ⟨rfl, hb3⟩
              refine ⟨_, rfl, fun a hA => ?_⟩
              obtain ⟨J, hJ⟩ : ∃ J, countB 7 n = J := ⟨_, rfl⟩
              rw [hJ] at hJl hA
              have ka := st_app [82, 70, 67, 56, 50, 50, 46, 83, 73, 90, 69, 32] J
              have kz : ¬ 9223372036854775807 < 12 + J.length := by omega
              revert a; (iterate 2 refine wo rfl rfl (by decide) (fun ev e h => by simp [go_sem, h, ka, kz] <;> rfl) ?_); intro a hA
              replace hA := hA.keepN [1, 2, 5, 7, 8, 9, 10, 37, 38]
              refine wN (nB (nT ?_))
              refine ⟨hb3, ?_⟩
              rw [itemT_4, hon, hJ]
              exact hA
            case nC4 =>
              refine wS (wR ?_)
              revert a; (iterate 2 refine wo rfl rfl (by decide) (fun ev e h => by simp [go_sem, h, z0, z1, jj0, jj1, jj2, jw, K1x.cell] <;> rfl) ?_); intro a hA
              replace hA := hA.keepN [1, 2, 5, 7, 8, 9, 10, 37, 38, 45, 74]
              refine wN (nT ?_)
              refine wp_if hA 74 _ rfl (fun hq5 => ?yC5) (fun hq5 => ?nC5)
              case yC5 =>
                have hk : k = 5 := by simpa using hq5
                subst hk
                have hJl := envT_len o
                refine wR ?_
                revert a; (iterate 2 refine wo rfl rfl (by decide) (fun ev e h => by simp [go_sem, h, z0, z1, jj0, jj1, jj2, jw, K1x.cell] <;> rfl) ?_); intro a hA
                have hce := lenvelope_any A c o m wx hmx hnc (by omega) hrx htx
                rw [hon] at hce
                refine wl_call hA rfl rfl (by decide) (fun ev h => exec_call Tryz.func14 (by kernel_rfl) rfl (h.f _) (by first | (simp only [mL, h.get 77 rfl, h.c] <;> rfl) | (simp [mL, h.get 77 rfl, h.c, z0, z1, jj0, jj1, jj2, jw, K1x.cell] <;> rfl))) (hce) ?_
                rintro e w5 ⟨rfl, hb3⟩
                refine ⟨_, rfl, fun a hA => ?_⟩
                obtain ⟨J, hJ⟩ : ∃ J, envT o = J := ⟨_, rfl⟩
                rw [hJ] at hJl hA
                have ka := st_app [69, 78, 86, 69, 76, 79, 80, 69, 32] J
                have kz : ¬ 9223372036854775807 < 9 + J.length := by omega
                revert a; (iterate 2 refine wo rfl rfl (by decide) (fun ev e h => by simp [go_sem, h, ka, kz] <;> rfl) ?_); intro a hA
                replace hA := hA.keepN [1, 2, 5, 7, 8, 9, 10, 37, 38]
                refine wN (nB (nT ?_))
                refine ⟨hb3, ?_⟩
                rw [itemT_5, hJ]
                exact hA
              case nC5 =>
                refine wS (wR ?_)
                revert a; (iterate 2 refine wo rfl rfl (by decide) (fun ev e h => by simp [go_sem, h, z0, z1, jj0, jj1, jj2, jw, K1x.cell] <;> rfl) ?_); intro a hA
                replace hA := hA.keepN [1, 2, 5, 7, 8, 9, 10, 37, 38, 45, 80]
                refine wN (nT ?_)
                refine wp_if hA 80 _ rfl (fun hq6 => ?yC6) (fun hq6 => ?nC6)
                case yC6 =>
                  have hk : k = 6 := by simpa using hq6
                  subst hk
                  have hJl := (litB_len o).1
                  have hcv := conv_reads (n := n) (c := c) (l := o) hon (hon ▸ hrx)
                  refine wR ?_
                  revert a; (iterate 2 refine wo rfl rfl (by decide) (fun ev e h => by simp [go_sem, h, K1x.cell, hcv] <;> rfl) ?_); intro a hA
                  refine wl_op hA rfl rfl (by decide) (fun ev h => by simp [go_sem, h.get 83 rfl, K1x.cell, hcv]; try first | exact ⟨rfl, rfl⟩ | rfl) fun a hA => ?_
                  refine wl_call hA rfl rfl (by decide) (fun ev h => exec_call Tryz.func15 (by kernel_rfl) rfl (h.f _) (by first | (simp only [mL, h.get 84 rfl, h.c] <;> rfl) | (simp [mL, h.get 84 rfl, h.c, K1x.cell, hcv] <;> rfl))) (lcounted_any o _ (by omega)) ?_
                  rintro e w5 ⟨rfl, hb3⟩
                  refine ⟨_, rfl, fun a hA => ?_⟩
                  obtain ⟨J, hJ⟩ : ∃ J, litB o = J := ⟨_, rfl⟩
                  rw [hJ] at hJl hA
                  have ka := st_app [66, 79, 68, 89, 91, 93, 32] J
                  have kz : ¬ 9223372036854775807 < 7 + J.length := by omega
                  revert a; (iterate 2 refine wo rfl rfl (by decide) (fun ev e h => by simp [go_sem, h, ka, kz] <;> rfl) ?_); intro a hA
                  replace hA := hA.keepN [1, 2, 5, 7, 8, 9, 10, 37, 38]
                  refine wN (nB (nT ?_))
                  refine ⟨hb3, ?_⟩
                  rw [itemT_6, hJ]
                  exact hA
                case nC6 =>
                  refine wS (wR ?_)
                  revert a; (iterate 2 refine wo rfl rfl (by decide) (fun ev e h => by simp [go_sem, h, z0, z1, jj0, jj1, jj2, jw, K1x.cell] <;> rfl) ?_); intro a hA
                  replace hA := hA.keepN [1, 2, 5, 7, 8, 9, 10, 37, 38, 45, 87]
                  refine wN (nT ?_)
                  refine wp_if hA 87 _ rfl (fun hq7 => ?yC7) (fun hq7 => ?nC7)
                  case yC7 =>
                    have hk : k = 7 := by simpa using hq7
                    subst hk
                    have hJl := (litB_len (headS o)).1
                    have hhb := head_body o
                    have hhl : (headS o).length + (bodyH o).length = n := by have h0 := congrArg List.length hhb; rw [List.length_append, hon] at h0; exact h0
                    obtain ⟨h, hh⟩ : ∃ h, (headS o).length = h := ⟨_, rfl⟩
                    have hrx2 : Reads wx wx.heap.size 1 A n (u8s o) := hon ▸ hrx
                    have hrd := hrx2.take8 (k := h) (by omega)
                    rw [show o.take h = headS o from hh ▸ take_of hhb] at hrd
                    have hcv := fun c => conv_reads (n := h) (c := c) (l := headS o) hh hrd
                    have k1 : ((h : Nat) : Int) ≤ ((c : Nat) : Int) := by omega
                    have k2 : ((h : Nat) : Int) ≤ ((n : Nat) : Int) := by omega
                    have k3 : h ≤ n := by omega
                    have k4 : h ≤ c := by omega
                    have k5 : ((n : Nat) : Int) ≤ ((c : Nat) : Int) := by omega
                    rw [hh] at hA
                    refine wR ?_
                    revert a; (iterate 4 refine wo rfl rfl (by decide) (fun ev e h => by simp [go_sem, h, K1x.cell, k1, k2, k3, k4, k5, hcv] <;> rfl) ?_); intro a hA
                    refine wl_op hA rfl rfl (by decide) (fun ev h => by simp [go_sem, h.get 92 rfl, K1x.cell, k1, k2, k3, k4, k5, hcv]; try first | exact ⟨rfl, rfl⟩ | rfl) fun a hA => ?_
                    refine wl_call hA rfl rfl (by decide) (fun ev h => exec_call Tryz.func15 (by kernel_rfl) rfl (h.f _) (by first | (simp only [mL, h.get 93 rfl, h.c] <;> rfl) | (simp [mL, h.get 93 rfl, h.c, K1x.cell, k1, k2, k3, k4, k5, hcv] <;> rfl))) (lcounted_any (headS o) _ (by omega)) ?_
                    rintro e w5 ⟨rfl, hb3⟩
                    refine ⟨_, rfl, fun a hA => ?_⟩
                    obtain ⟨J, hJ⟩ : ∃ J, litB (headS o) = J := ⟨_, rfl⟩
                    rw [hJ] at hJl hA
                    have ka := st_app [66, 79, 68, 89, 91, 72, 69, 65, 68, 69, 82, 93, 32] J
                    have kz : ¬ 9223372036854775807 < 13 + J.length := by omega
                    revert a; (iterate 2 refine wo rfl rfl (by decide) (fun ev e h => by simp [go_sem, h, ka, kz] <;> rfl) ?_); intro a hA
                    replace hA := hA.keepN [1, 2, 5, 7, 8, 9, 10, 37, 38]
                    refine wN (nB (nT ?_))
                    refine ⟨hb3, ?_⟩
                    rw [hh]
                    rw [itemT_7, hJ]
                    exact hA
                  case nC7 =>
                    refine wS (wR ?_)
                    revert a; (iterate 2 refine wo rfl rfl (by decide) (fun ev e h => by simp [go_sem, h, z0, z1, jj0, jj1, jj2, jw, K1x.cell] <;> rfl) ?_); intro a hA
                    replace hA := hA.keepN [1, 2, 5, 7, 8, 9, 10, 37, 38, 96]
                    refine wN (nT ?_)
                    refine wp_if hA 96 _ rfl (fun hq8 => ?yC8) (fun hq8 => ?nC8)
                    case yC8 =>
                      have hk : k = 8 := by simpa using hq8
                      subst hk
                      have hJl := (litB_len (bodyH o)).1
                      have hhb := head_body o
                      have hhl : (headS o).length + (bodyH o).length = n := by have h0 := congrArg List.length hhb; rw [List.length_append, hon] at h0; exact h0
                      obtain ⟨h, hh⟩ : ∃ h, (headS o).length = h := ⟨_, rfl⟩
                      have hrx2 : Reads wx wx.heap.size 1 A n (u8s o) := hon ▸ hrx
                      have hrd := hrx2.drop8 (c := c) (k := h) (by omega) (by omega)
                      rw [show o.drop h = bodyH o from hh ▸ drop_of hhb] at hrd
                      have hcv := fun c => conv_reads (n := n - h) (c := c) (l := bodyH o) (by omega) hrd
                      have k1 : ((h : Nat) : Int) ≤ ((c : Nat) : Int) := by omega
                      have k2 : ((h : Nat) : Int) ≤ ((n : Nat) : Int) := by omega
                      have k3 : h ≤ n := by omega
                      have k4 : h ≤ c := by omega
                      have k5 : ((n : Nat) : Int) ≤ ((c : Nat) : Int) := by omega
                      rw [hh] at hA
                      refine wR ?_
                      revert a; (iterate 4 refine wo rfl rfl (by decide) (fun ev e h => by simp [go_sem, h, K1x.cell, k1, k2, k3, k4, k5, hcv] <;> rfl) ?_); intro a hA
                      refine wl_op hA rfl rfl (by decide) (fun ev h => by simp [go_sem, h.get 101 rfl, K1x.cell, k1, k2, k3, k4, k5, hcv]; try first | exact ⟨rfl, rfl⟩ | rfl) fun a hA => ?_
                      refine wl_call hA rfl rfl (by decide) (fun ev h => exec_call Tryz.func15 (by kernel_rfl) rfl (h.f _) (by first | (simp only [mL, h.get 102 rfl, h.c] <;> rfl) | (simp [mL, h.get 102 rfl, h.c, K1x.cell, k1, k2, k3, k4, k5, hcv] <;> rfl))) (lcounted_any (bodyH o) _ (by omega)) ?_
                      rintro e w5 ⟨rfl, hb3⟩
                      refine ⟨_, rfl, fun a hA => ?_⟩
                      obtain ⟨J, hJ⟩ : ∃ J, litB (bodyH o) = J := ⟨_, rfl⟩
                      rw [hJ] at hJl hA
                      have ka := st_app [66, 79, 68, 89, 91, 84, 69, 88, 84, 93, 32] J
                      have kz : ¬ 9223372036854775807 < 11 + J.length := by omega
                      revert a; (iterate 2 refine wo rfl rfl (by decide) (fun ev e h => by simp [go_sem, h, ka, kz] <;> rfl) ?_); intro a hA
                      replace hA := hA.keepN [1, 2, 5, 7, 8, 9, 10, 37, 38]
                      refine wN (nB (nT ?_))
                      refine ⟨hb3, ?_⟩
                      rw [hh]
                      rw [itemT_8, hJ]
                      exact hA
                    case nC8 =>
                      have hno : itemT u t f o k = [] := itemT_no (by simp at hq1 hq2 hq3 hq4 hq5 hq6 hq7 hq8; omega)
                      replace hA := hA.keepN [1, 2, 5, 7, 8, 9, 10, 37, 38]
                      refine wp_skip (nB (nT ?_))
                      rw [hno]
                      exact ⟨Below.refl _ _, hA⟩
      clear hA
      rintro a wy ⟨HY, hA⟩
      have HX2 := HX.trans (HY.mono HX.size)
      have adb : ∀ i, (⟨(ad.add (j * 2)).block, i, none⟩ : Addr).block < wx.heap.size := fun i => by show (ad.add (j * 2)).block < _; rw [block_of_add]; exact hadb
      have y0 : wy.cell? (ad.add (j * 2)) = some (.int .i64 k) := (HY.cell (by rw [block_of_add]; exact hadb)).trans z0
      have y1 : wy.cell? ⟨(ad.add (j * 2)).block, (ad.add (j * 2)).off + 1, none⟩ = some (.bool p) := (HY.cell (adb _)).trans z1
      have hany : (l.take (j + 1)).any markB = ((l.take j).any markB || (decide ((5 : Int) < k) && decide (k < 9) && !p)) := by
        rw [List.take_add_one, hx, List.any_append, markB_int ⟨k, p⟩]
        simp
      obtain ⟨M, hM⟩ : ∃ M, (l.take j).any markB = M := ⟨_, rfl⟩
      have hTl := itemT_len u t f o k
      obtain ⟨T, hT⟩ : ∃ T, itemT u t f o k = T := ⟨_, rfl⟩
      rw [hM] at hany hA
      rw [hT] at hTl hA e
      have hjl := itemsJ_len u t f o (l.take j)
      have hmem := itemsL_mem u t f o (l.take j)
      have htl : (l.take j).length ≤ q := by rw [List.length_take]; omega
      have hmul : (10 * o.length + 201) * (l.take j).length ≤ (10 * 100000 + 201) * 100 := Nat.mul_le_mul (by omega) (by omega)
      have hne := joinS_nil (L := itemsL u t f o (l.take j)) fun x hx => (hmem x hx).1
      have hgoal : toldJ u t f o (l.take (j + 1)) = 40 :: joinS (itemsL u t f o (l.take (j + 1))) := rfl
      rw [e] at hgoal
      unfold toldJ at hA
      obtain ⟨E, hE⟩ : ∃ E, itemsL u t f o (l.take j) = E := ⟨_, rfl⟩
      rw [hE] at hgoal hjl hA hne
      obtain ⟨J, hJ⟩ : ∃ J, joinS E = J := ⟨_, rfl⟩
      rw [hJ] at hjl hA hne
      refine wS (wR ?_)
      revert a; (iterate 2 refine wo rfl rfl (by decide) (fun ev e h => by simp [go_sem, h, y0, y1, jj0, jj1, jj2, jw] <;> rfl) ?_); (iterate 7 refine wg _ rfl rfl rfl rfl (by decide) (fun hq ev e h => by simp [go_sem, h, ↓gw_t (beq_t hq), y0, y1, jj0, jj1, jj2, jw] <;> rfl) ?_); refine wg2 _ _ rfl rfl rfl rfl (by decide) (fun hq hr ev e h => by simp [go_sem, h, ↓gw_t (and_beq hq hr), ↓gw_t hq, y0, y1, jj0, jj1, jj2, jw] <;> rfl) ?_; intro a hA
      replace hA := hA.keepN [1, 2, 5, 7, 9, 10, 37, 38, 106, 113, 114]
      revert a; (iterate 5 refine wg2 _ _ rfl rfl rfl rfl (by decide) (fun hq hr ev e h => by simp [go_sem, h, ↓gw_t (and_beq hq hr), ↓gw_t hq, y0, y1, jj0, jj1, jj2, jw] <;> rfl) ?_); intro a hA
      refine wl_guard _ hA rfl rfl rfl rfl (by decide) (fun hq ev h => by exact pick_and rfl (((h.get 113 rfl).trans (gw_t (beq_t hq)))) (((h.get 119 rfl).trans (gw_a (beq_t hq)))) (h.c _)) fun a hA => ?_
      revert a; refine wg _ rfl rfl rfl rfl (by decide) (fun hq ev e h => by simp [go_sem, h, ↓gw_t (beq_t hq), y0, y1, jj0, jj1, jj2, jw] <;> rfl) ?_; (iterate 3 refine wg2 _ _ rfl rfl rfl rfl (by decide) (fun hq hr ev e h => by simp [go_sem, h, ↓gw_t (and_beq hq hr), ↓gw_t hq, y0, y1, jj0, jj1, jj2, jw] <;> rfl) ?_); intro a hA
      replace hA := hA.keepN [1, 2, 5, 7, 10, 37, 38, 106, 121, 124]
      revert a; (iterate 3 refine wg2 _ _ rfl rfl rfl rfl (by decide) (fun hq hr ev e h => by simp [go_sem, h, ↓gw_t (and_beq hq hr), ↓gw_t hq, y0, y1, jj0, jj1, jj2, jw] <;> rfl) ?_); intro a hA
      refine wl_guard _ hA rfl rfl rfl rfl (by decide) (fun hq ev h => by exact pick_and rfl (((h.get 121 rfl).trans (gw_t (beq_t hq)))) (((h.get 127 rfl).trans (gw_a (beq_t hq)))) (h.c _)) fun a hA => ?_
      revert a; refine wko rfl rfl (by decide) rfl rfl rfl ?_; refine wo rfl rfl (by decide) (fun ev e h => by simp [go_sem, h, y0, y1, jj0, jj1, jj2, jw] <;> rfl) ?_; intro a hA
      replace hA := hA.keepN [1, 2, 5, 7, 8, 10, 37, 38]
      refine wN (nT (wS (wS (wR ?_))))
      revert a; (iterate 3 refine wo rfl rfl (by decide) (fun ev e h => by simp [go_sem, h, y0, y1, jj0, jj1, jj2, jw] <;> rfl) ?_); (iterate 2 refine wg _ rfl rfl rfl rfl (by decide) (fun hq ev e h => by simp [go_sem, h, ↓gw_t (beq_t hq), y0, y1, jj0, jj1, jj2, jw] <;> rfl) ?_); refine wka rfl rfl (by decide) rfl rfl rfl ?_; intro a hA
      replace hA := hA.keepN [1, 2, 5, 7, 8, 10, 37, 38, 135]
      refine wN (nT ?_)
      obtain ⟨P, hP⟩ : ∃ P, (if T = [] ∨ J = [] then 40 :: J else 40 :: J ++ [32]) = P := ⟨_, rfl⟩
      have hPl : P.length ≤ J.length + 2 := by rw [← hP]; split <;> simp
      refine wp_join (fun a wz => wy = wz ∧ At 163 [(1, .slice (some ad) q c2), (2, .pointer (some ⟨w.heap.size, 0, none⟩)), (5, .int .i64 ((headS o).length : Nat)), (7, .string (St P)), (8, .bool (M || (decide ((5 : Int) < k) && decide (k < 9) && !p))), (10, .string (St T)), (37, .int .i64 (q : Nat)), (38, .int .i64 (j : Nat))] a) ?jfR2 ?jrR2
      refine wp_if hA 135 _ rfl (fun hq2 => ?yB) (fun hq2 => ?nB)
      case yB =>
        have h2 : ¬ (T = [] ∨ J = []) := by simpa using hq2
        rw [if_neg h2] at hP
        have ka := st_app (40 :: J) [32]
        have kz : ¬ 9223372036854775807 < J.length + 1 + 1 := by omega
        refine wR ?_
        revert a; (iterate 3 refine wo rfl rfl (by decide) (fun ev e h => by simp [go_sem, h, ka, kz] <;> rfl) ?_); intro a hA
        replace hA := hA.keepN [1, 2, 5, 7, 8, 10, 37, 38]
        refine wN (nT ?_)
        refine ⟨rfl, ?_⟩
        rw [← hP]
        exact hA
      case nB =>
        have h2 : T = [] ∨ J = [] := by
          simp at hq2
          rcases Classical.em (T = []) with h | h
          · exact .inl h
          · exact .inr (hq2 h)
        rw [if_pos h2] at hP
        replace hA := hA.keepN [1, 2, 5, 7, 8, 10, 37, 38]
        refine wp_skip (nT ?_)
        refine ⟨rfl, ?_⟩
        rw [← hP]
        exact hA
      clear hA
      rintro a wz ⟨rfl, hA⟩
      have ka := st_app P T
      have kz : ¬ 9223372036854775807 < P.length + T.length := by omega
      have ej : toldJ u t f o (l.take (j + 1)) = P ++ T := by
        rw [hgoal, ← hP]
        by_cases hT0 : T = []
        · rw [if_pos hT0, if_pos (.inl hT0), hT0, hJ]
          simp
        · rw [if_neg hT0, joinS_snoc, hJ]
          by_cases hE0 : E = []
          · rw [if_pos hE0, if_pos (.inr (hne.2 hE0)), hne.2 hE0]
            rfl
          · rw [if_neg hE0, if_neg (fun h => h.elim hT0 fun h => hE0 (hne.1 h))]
            simp
      refine wR ?_
      revert a; (iterate 4 refine wo rfl rfl (by decide) (fun ev e h => by simp [go_sem, h, ka, kz, jw] <;> rfl) ?_); intro a hA
      replace hA := hA.keepN [1, 2, 5, 7, 8, 37, 38]
      refine wN (nB (nT (wR ?_)))
      revert a; (iterate 2 refine wo rfl rfl (by decide) (fun ev e h => by simp [go_sem, h, ka, kz, jw] <;> rfl) ?_); intro a hA
      replace hA := hA.keepN [1, 2, 5, 7, 8, 37, 38]
      refine wN (nT ?_)
      refine ⟨g - 1, by omega, j + 1, by omega, HX2, ?_⟩
      rw [ej, hany]
      exact hA
end Go.Proofs.YtjhaccmcjlbllaaGreatDoor
/-
  Arguments, opened by their types: numbers, texts, structs of one-cell fields, slices of what reads.
-/
namespace Go.Proofs.YtjhaccmcjlbllaaGreatDoor
open Go.ChangeShapes Go.WideShapes Go.Deep Go.RowKit
theorem cell_lt' {w : World} {a : Addr} {v : Value} (h : w.cell? a = some v) : a.block < w.heap.size := by
  rcases Nat.lt_or_ge a.block w.heap.size with hlt | hge
  · exact hlt
  · unfold World.cell? at h
    simp [Array.getElem?_eq_none hge] at h
/-- cells that read at a type -/
def Fits {H : Type} (enc : TypeId × Value → H) (P : Program) (w : World) (t : TypeId) (cs : List Value) : Prop := ∃ base spare held fuel x, DataW.trod enc P w base spare held fuel t cs = some x
section
variable {H : Type} {enc : TypeId × Value → H} {P : Program} {w : World} {t e : TypeId} {cs : List Value}
theorem fits_int {k : IntKind} (h : Fits enc P w t cs) (ht : P.underlying t = some (.int k)) : ∃ n, cs = [.int k n] ∧ (Lit.int k n).wf = true := by
  obtain ⟨_, _, _, _, _, h⟩ := h
  obtain ⟨n, e, _, hw⟩ := DataW.trod_int ht h
  exact ⟨n, e, hw⟩
theorem fits_string (h : Fits enc P w t cs) (ht : P.underlying t = some .string) : ∃ s : ByteArray, cs = [.string s] ∧ s.size ≤ maxLen := by
  obtain ⟨_, _, _, _, _, h⟩ := h
  obtain ⟨s, e, _, hw⟩ := DataW.trod_string ht h
  exact ⟨s, e, hw⟩
theorem fits_bool (h : Fits enc P w t cs) (ht : P.underlying t = some .bool) : ∃ b, cs = [.bool b] := by
  obtain ⟨_, _, _, _, _, h⟩ := h
  obtain ⟨s, e, _⟩ := DataW.trod_bool ht h
  exact ⟨s, e⟩
theorem fits_fields {fs : Array Field} (h : Fits enc P w t cs) (ht : P.underlying t = some (.struct fs)) (hone : oneCellFields P fs = true) (hC : P.cellsOf t = fs.size) : cs.length = fs.size ∧ ∀ (j : Nat) (f : Field) (c : Value), fs[j]? = some f → cs[j]? = some c → Fits enc P w f.type [c] := by
  obtain ⟨base, spare, held, fuel, x, h⟩ := h
  obtain ⟨ys, n, _, _, hl, hyl, hat⟩ := DataW.trod_struct ht h
  refine ⟨by rw [hl, hC], fun j f c hf hc => ?_⟩
  obtain ⟨ho, hk⟩ := hone_of hone j f hf
  have h1 := hat j f hf
  have hj := (Array.getElem?_eq_some_iff.1 hf).1
  rw [ho, hk] at h1
  have hd1 : (List.drop j cs).take 1 = [c] := by
    have hjl := (List.getElem?_eq_some_iff.1 hc).1
    rw [List.drop_eq_getElem_cons hjl, (List.getElem?_eq_some_iff.1 hc).2]
    rfl
  rw [hd1, List.getElem?_eq_getElem (by omega)] at h1
  exact ⟨base, spare, held, n, _, h1⟩
theorem rows_at (k : Nat) : ∀ (L : List (List Value)) (i j : Nat) (x : List Value), (∀ x ∈ L, x.length = k) → L[i]? = some x → j < k → L.flatten[i * k + j]? = x[j]?
  | y :: r, 0, j, x, hL, h, hj => by
    have e : y = x := by simpa using h
    subst e
    have := hL y List.mem_cons_self
    rw [List.flatten_cons, Nat.zero_mul, Nat.zero_add, List.getElem?_append_left (by omega)]
  | y :: r, i + 1, j, x, hL, h, hj => by
    have ih := rows_at k r i j x (fun z hz => hL z (List.mem_cons_of_mem _ hz)) (by simpa using h) hj
    have := hL y List.mem_cons_self
    have hm : k ≤ (i + 1) * k + j := by rw [Nat.succ_mul]; omega
    rw [List.flatten_cons, List.getElem?_append_right (by omega)]
    have e : (i + 1) * k + j - y.length = i * k + j := by rw [Nat.succ_mul]; omega
    rw [e]; exact ih
theorem rows_len (k : Nat) : ∀ (L : List (List Value)), (∀ x ∈ L, x.length = k) → L.flatten.length = L.length * k
  | [], _ => by simp
  | y :: r, h => by
    have := rows_len k r fun z hz => h z (List.mem_cons_of_mem _ hz)
    rw [List.flatten_cons, List.length_append, this, h y List.mem_cons_self, List.length_cons, Nat.succ_mul]; omega
theorem fits_slice (h : Fits enc P w t cs) (ht : P.underlying t = some (.slice e)) (hk : 0 < P.cellsOf e) :
    ∃ (A : Option Addr) (n c : Nat) (L : List (List Value)), cs = [.slice A n c] ∧ n ≤ c ∧ c ≤ maxLen ∧ L.length = n ∧ (∀ x ∈ L, x.length = P.cellsOf e ∧ Fits enc P w e x) ∧ Reads w w.heap.size (P.cellsOf e) A n L.flatten := by
  obtain ⟨base, spare, held, fuel, x, hf⟩ := h
  rcases open_slice ht hf with ⟨hcs, _⟩ | ⟨a, len, cap, m, n0, D, Pl, hcs, _, hl, hm, hmm, hdx, hx⟩
  · exact ⟨none, 0, 0, [], hcs, Nat.le_refl _, Nat.zero_le _, rfl, fun x hx => (by cases hx), by simp, fun hn => absurd hn (by simp)⟩
  · have hml : len ≤ m := by rw [hmm]; split <;> omega
    have hall : ∀ n, n ≤ len → ∃ L : List (List Value), L.length = n ∧ (∀ x ∈ L, x.length = P.cellsOf e ∧ Fits enc P w e x) ∧ ∀ i x, L[i]? = some x → ∀ j u, x[j]? = some u → w.cell? (a.add (i * P.cellsOf e + j)) = some u := by
      intro n
      induction n with
      | zero => intro _; exact ⟨[], rfl, by simp, by simp⟩
      | succ n ih =>
        intro hnl
        obtain ⟨L, hl1, hl2, hl3⟩ := ih (by omega)
        obtain ⟨cs', hcc, htr⟩ := hx n (by omega)
        obtain ⟨_, hlen, hat⟩ := World.cells?_some hcc
        refine ⟨L ++ [cs'], by simp [hl1], ?_, ?_⟩
        · intro y hy
          rcases List.mem_append.1 hy with h | h
          · exact hl2 y h
          · rw [List.mem_singleton] at h
            subst h
            exact ⟨hlen, base, spare, held, n0, _, htr⟩
        · intro i y hi' j u hj
          rcases Nat.lt_or_ge i L.length with h | h
          · rw [List.getElem?_append_left h] at hi'; exact hl3 i y hi' j u hj
          · rw [List.getElem?_append_right h] at hi'
            have h0 : i - L.length = 0 := by
              rcases Nat.eq_zero_or_pos (i - L.length) with h' | h'
              · exact h'
              · rw [List.getElem?_eq_none (by simp; omega)] at hi'; cases hi'
            rw [h0] at hi'
            have hy : cs' = y := by simpa using hi'
            subst hy
            obtain rfl : i = n := by omega
            have hj2 : j < P.cellsOf e := by
              have := (List.getElem?_eq_some_iff.1 hj).1
              omega
            have := hat j hj2
            rw [hj, Go.Deep.add_add] at this
            exact this
    obtain ⟨L, hL1, hL2, hL3⟩ := hall len (Nat.le_refl _)
    refine ⟨some a, len, cap, L, hcs, hl, hm, hL1, hL2, ?_, fun hn => ⟨a, rfl, ?_, ?_⟩⟩
    · rw [rows_len _ L fun x hx => (hL2 x hx).1, hL1]
    · obtain ⟨x, hx0⟩ : ∃ x, L[0]? = some x := ⟨_, List.getElem?_eq_getElem (by omega)⟩
      have hxl := (hL2 x (List.mem_of_getElem? hx0)).1
      obtain ⟨u, hu⟩ : ∃ u, x[0]? = some u := ⟨_, List.getElem?_eq_getElem (by omega)⟩
      have := cell_lt' (hL3 0 x hx0 0 u hu)
      rwa [block_of_add] at this
    · intro j u hj
      have hjl := (List.getElem?_eq_some_iff.1 hj).1
      rw [rows_len _ L fun x hx => (hL2 x hx).1] at hjl
      have hq : j / P.cellsOf e < L.length := Nat.div_lt_of_lt_mul (by rw [Nat.mul_comm]; exact hjl)
      have he2 : j / P.cellsOf e * P.cellsOf e + j % P.cellsOf e = j := by rw [Nat.mul_comm]; exact Nat.div_add_mod j _
      have hp := rows_at (P.cellsOf e) L (j / P.cellsOf e) (j % P.cellsOf e) _ (fun x hx => (hL2 x hx).1) (List.getElem?_eq_getElem hq) (Nat.mod_lt _ hk)
      rw [he2, hj] at hp
      have := hL3 _ _ (List.getElem?_eq_getElem hq) _ u hp.symm
      rw [he2] at this
      exact this
theorem fits_top {base0 : Nat} {spare : Nat → Bool} {held : Bool} {v : Value} {d : DataW H} {ps : List MemPlace} (h : DataW.Trod enc P w base0 spare held t v d ps) : Fits enc P w t v.cells.toList := by
  obtain ⟨fuel, hf⟩ := h
  exact ⟨_, _, _, fuel, _, hf⟩
theorem fits_struct {base0 : Nat} {spare : Nat → Bool} {held : Bool} {r : Reach} {b0 : Nat} {fs : Array Field} {v : Value} {d : DataW H} {ps : List MemPlace} (hv : Value.okWide P w r b0 t v) (ht : P.underlying t = some (.struct fs)) (h : DataW.Trod enc P w base0 spare held t v d ps) : ∃ cs : Array Value, v = .agg cs ∧ Fits enc P w t cs.toList := by
  obtain ⟨cs, rfl, _⟩ := okWide_struct ht hv
  exact ⟨cs, rfl, fits_top h⟩
theorem fits_plain {base0 : Nat} {spare : Nat → Bool} {held : Bool} {v : Value} {d : DataW H} {ps : List MemPlace} (h : DataW.Trod enc P w base0 spare held t v d ps) (hc : v.cells = #[v]) : Fits enc P w t [v] := by
  have := fits_top h
  rwa [hc] at this
theorem choose_list {M : Type} {f : M → List Value} {Q : M → Prop} : ∀ {L : List (List Value)}, (∀ x ∈ L, ∃ m, x = f m ∧ Q m) → ∃ l : List M, L = l.map f ∧ ∀ m ∈ l, Q m
  | [], _ => ⟨[], rfl, by simp⟩
  | x :: r, h => by
    obtain ⟨m, rfl, hm⟩ := h x List.mem_cons_self
    obtain ⟨l, rfl, hl⟩ := choose_list (L := r) fun y hy => h y (List.mem_cons_of_mem _ hy)
    exact ⟨m :: l, rfl, fun y hy => by
      rcases List.mem_cons.1 hy with e | e
      · subst e; exact hm
      · exact hl y e⟩
/-- all arguments stay behind a call that writes below nothing -/
theorem args_stay (hl : laidOutB P = true) {W W' : World} {sp : Nat → Bool} : ∀ {ts : List TypeId} {vs : List Value} {ds : List (DataW H)} {ps : List MemPlace}, (ts.all fun t => P.readableRec t && decide (t < P.types.size)) = true →
    DataW.TrodAll enc P W 0 (fun _ => true) true ts vs ds ps → (∀ x ∈ ps, W.sameAt W' x) → (∀ x ∈ ps, sp x.block = true) → DataW.TrodAll enc P W' 0 sp true ts vs ds ps
  | [], [], [], _, _, h, _, _ => h
  | _ :: _, _ :: _, _ :: _, _, ha, ⟨p, q, h1, h2, e⟩, hsame, hs => by
    rw [List.all_cons, Bool.and_eq_true, Bool.and_eq_true, decide_eq_true_eq] at ha
    subst e
    exact ⟨p, q, WideElems.Trod_stays hl ha.1.1 ha.1.2 h1 (fun x hx => hsame x (List.mem_append_left _ hx)) (fun x hx => hs x (List.mem_append_left _ hx)),
      args_stay hl ha.2 h2 (fun x hx => hsame x (List.mem_append_right _ hx)) (fun x hx => hs x (List.mem_append_right _ hx)), rfl⟩
end
end Go.Proofs.YtjhaccmcjlbllaaGreatDoor
/-
  Arguments, opened by their types, with a bound on their sizes.
-/
namespace Go.Proofs.YtjhaccmcjlbllaaGreatDoor
open Go.ChangeShapes Go.WideShapes Go.Deep Go.RowKit
/-- cells that read at a type; no part is longer than R -/
def FitsZ {H : Type} (R : Nat) (enc : TypeId × Value → H) (P : Program) (w : World) (t : TypeId) (cs : List Value) : Prop := ∃ base spare held fuel d ps, DataW.trod enc P w base spare held fuel t cs = some (d, ps) ∧ ∀ k ∈ d.weights P t, k ≤ R
section
variable {H : Type} {enc : TypeId × Value → H} {P : Program} {w : World} {t e : TypeId} {cs : List Value} {R : Nat}
theorem FitsZ.fits (h : FitsZ R enc P w t cs) : Fits enc P w t cs := by
  obtain ⟨b, s, hd, f, d, ps, h, _⟩ := h
  exact ⟨b, s, hd, f, _, h⟩
theorem mem_weightsAll {e : TypeId} {dd : DataW H} {k : Nat} : ∀ {l : List (DataW H)}, dd ∈ l → k ∈ dd.weights P e → k ∈ DataW.weightsAll P e l
  | y :: r, h, hk => by
    unfold DataW.weightsAll
    rw [List.mem_append]
    rcases List.mem_cons.1 h with rfl | h
    · exact .inl hk
    · exact .inr (mem_weightsAll h hk)
theorem fitsZ_string (h : FitsZ R enc P w t cs) (ht : P.underlying t = some .string) : ∃ s : ByteArray, cs = [.string s] ∧ s.size ≤ maxLen ∧ s.size ≤ R := by
  obtain ⟨_, _, _, _, d, ps, h, hz⟩ := h
  obtain ⟨s, e, hx, hw⟩ := DataW.trod_string ht h
  refine ⟨s, e, hw, hz _ ?_⟩
  rw [(Prod.mk.inj hx).1]
  show s.size ∈ [s.data.toList.length]
  rw [List.mem_singleton, Array.length_toList]; rfl
theorem fitsZ_fields {fs : Array Field} (h : FitsZ R enc P w t cs) (ht : P.underlying t = some (.struct fs)) (hone : oneCellFields P fs = true) (hC : P.cellsOf t = fs.size) : cs.length = fs.size ∧ ∀ (j : Nat) (f : Field) (c : Value), fs[j]? = some f → cs[j]? = some c → FitsZ R enc P w f.type [c] := by
  obtain ⟨base, spare, held, fuel, d, ps, h, hz⟩ := h
  obtain ⟨ys, n, _, hx, hl, hyl, hat⟩ := DataW.trod_struct ht h
  refine ⟨by rw [hl, hC], fun j f c hf hc => ?_⟩
  obtain ⟨ho, hk⟩ := hone_of hone j f hf
  have h1 := hat j f hf
  have hj := (Array.getElem?_eq_some_iff.1 hf).1
  rw [ho, hk] at h1
  have hd1 : (List.drop j cs).take 1 = [c] := by
    have hjl := (List.getElem?_eq_some_iff.1 hc).1
    rw [List.drop_eq_getElem_cons hjl, (List.getElem?_eq_some_iff.1 hc).2]
    rfl
  have hy : ys[j]? = some (ys[j]'(by omega)) := List.getElem?_eq_getElem (by omega)
  rw [hd1, hy] at h1
  refine ⟨base, spare, held, n, _, _, h1, fun k hk => hz k ?_⟩
  rw [(Prod.mk.inj hx).1]
  unfold DataW.weights
  rw [ht]
  refine DataW.weights_mem_each (j := j) (t := f.type) (d := (ys[j]'(by omega)).1) ?_ ?_ k hk
  · rw [List.getElem?_map, Array.getElem?_toList, hf]; rfl
  · rw [List.getElem?_map, hy]; rfl
theorem fitsZ_slice (h : FitsZ R enc P w t cs) (ht : P.underlying t = some (.slice e)) (hk : 0 < P.cellsOf e) (heb : 1 ≤ P.bytesOf e) :
    ∃ (A : Option Addr) (n c : Nat) (L : List (List Value)), cs = [.slice A n c] ∧ n ≤ c ∧ c ≤ maxLen ∧ n ≤ R ∧ L.length = n ∧ (∀ x ∈ L, x.length = P.cellsOf e ∧ FitsZ R enc P w e x) ∧ Reads w w.heap.size (P.cellsOf e) A n L.flatten := by
  obtain ⟨base, spare, held, fuel, d, ps, hf, hz⟩ := h
  rcases open_slice ht hf with ⟨hcs, _⟩ | ⟨a, len, cap, m, n0, D, Pl, hcs, _, hl, hm, hmm, hdx, hx⟩
  · exact ⟨none, 0, 0, [], hcs, Nat.le_refl _, Nat.zero_le _, Nat.zero_le _, rfl, fun x hx => (by cases hx), by simp, fun hn => absurd hn (by simp)⟩
  · have hml : len ≤ m := by rw [hmm]; split <;> omega
    have hdw : d = .slice ((List.range len).map D) ((List.range (m - len)).map fun j => D (len + j)) := congrArg Prod.fst hdx
    have hall : ∀ n, n ≤ len → ∃ L : List (List Value), L.length = n ∧ (∀ x ∈ L, x.length = P.cellsOf e ∧ FitsZ R enc P w e x) ∧ ∀ i x, L[i]? = some x → ∀ j u, x[j]? = some u → w.cell? (a.add (i * P.cellsOf e + j)) = some u := by
      intro n
      induction n with
      | zero => intro _; exact ⟨[], rfl, by simp, by simp⟩
      | succ n ih =>
        intro hnl
        obtain ⟨L, hl1, hl2, hl3⟩ := ih (by omega)
        obtain ⟨cs', hcc, htr⟩ := hx n (by omega)
        obtain ⟨_, hlen, hat⟩ := World.cells?_some hcc
        refine ⟨L ++ [cs'], by simp [hl1], ?_, ?_⟩
        · intro y hy
          rcases List.mem_append.1 hy with h | h
          · exact hl2 y h
          · rw [List.mem_singleton] at h
            subst h
            refine ⟨hlen, base, spare, held, n0, _, _, htr, fun k hk' => hz k ?_⟩
            rw [hdw]
            unfold DataW.weights
            rw [ht]
            simp only [List.mem_cons, List.mem_append]
            exact .inr (.inl (mem_weightsAll (List.mem_map.2 ⟨n, List.mem_range.2 (by omega), rfl⟩) hk'))
        · intro i y hi' j u hj
          rcases Nat.lt_or_ge i L.length with h | h
          · rw [List.getElem?_append_left h] at hi'; exact hl3 i y hi' j u hj
          · rw [List.getElem?_append_right h] at hi'
            have h0 : i - L.length = 0 := by
              rcases Nat.eq_zero_or_pos (i - L.length) with h' | h'
              · exact h'
              · rw [List.getElem?_eq_none (by simp; omega)] at hi'; cases hi'
            rw [h0] at hi'
            have hy : cs' = y := by simpa using hi'
            subst hy
            obtain rfl : i = n := by omega
            have hj2 : j < P.cellsOf e := by
              have := (List.getElem?_eq_some_iff.1 hj).1
              omega
            have := hat j hj2
            rw [hj, Go.Deep.add_add] at this
            exact this
    obtain ⟨L, hL1, hL2, hL3⟩ := hall len (Nat.le_refl _)
    refine ⟨some a, len, cap, L, hcs, hl, hm, ?_, hL1, hL2, ?_, fun hn => ⟨a, rfl, ?_, ?_⟩⟩
    · have hq := hz ((len + (m - len)) * P.bytesOf e) (by rw [hdw]; simp [DataW.weights, ht])
      have e2 : (len + (m - len)) * 1 ≤ (len + (m - len)) * P.bytesOf e := Nat.mul_le_mul_left _ heb
      omega
    · rw [rows_len _ L fun x hx => (hL2 x hx).1, hL1]
    · obtain ⟨x, hx0⟩ : ∃ x, L[0]? = some x := ⟨_, List.getElem?_eq_getElem (by omega)⟩
      have hxl := (hL2 x (List.mem_of_getElem? hx0)).1
      obtain ⟨u, hu⟩ : ∃ u, x[0]? = some u := ⟨_, List.getElem?_eq_getElem (by omega)⟩
      have := cell_lt' (hL3 0 x hx0 0 u hu)
      rwa [block_of_add] at this
    · intro j u hj
      have hjl := (List.getElem?_eq_some_iff.1 hj).1
      rw [rows_len _ L fun x hx => (hL2 x hx).1] at hjl
      have hq : j / P.cellsOf e < L.length := Nat.div_lt_of_lt_mul (by rw [Nat.mul_comm]; exact hjl)
      have he2 : j / P.cellsOf e * P.cellsOf e + j % P.cellsOf e = j := by rw [Nat.mul_comm]; exact Nat.div_add_mod j _
      have hp := rows_at (P.cellsOf e) L (j / P.cellsOf e) (j % P.cellsOf e) _ (fun x hx => (hL2 x hx).1) (List.getElem?_eq_getElem hq) (Nat.mod_lt _ hk)
      rw [he2, hj] at hp
      have := hL3 _ _ (List.getElem?_eq_getElem hq) _ u hp.symm
      rw [he2] at this
      exact this
theorem sized_at {ts : List TypeId} {ds : List (DataW H)} (h : (DataW.weightsEach P ts ds).all (· ≤ reachBytes) = true) {j : Nat} {t : TypeId} {d : DataW H} (ht : ts[j]? = some t) (hd : ds[j]? = some d) : ∀ k ∈ d.weights P t, k ≤ 140737488355328 := by
  intro k hk
  have := List.all_eq_true.1 h _ (DataW.weights_mem_each ht hd k hk)
  have h2 : reachBytes < 2 ^ 47 := reachBytes_lt
  simp only [decide_eq_true_eq] at this
  omega
theorem fitsZ_top {base0 : Nat} {spare : Nat → Bool} {held : Bool} {v : Value} {d : DataW H} {ps : List MemPlace} (h : DataW.Trod enc P w base0 spare held t v d ps) (hz : ∀ k ∈ d.weights P t, k ≤ R) : FitsZ R enc P w t v.cells.toList := by
  obtain ⟨fuel, hf⟩ := h
  exact ⟨_, _, _, fuel, _, _, hf, hz⟩
theorem fitsZ_struct {base0 : Nat} {spare : Nat → Bool} {held : Bool} {r : Reach} {b0 : Nat} {fs : Array Field} {v : Value} {d : DataW H} {ps : List MemPlace} (hv : Value.okWide P w r b0 t v) (ht : P.underlying t = some (.struct fs)) (h : DataW.Trod enc P w base0 spare held t v d ps) (hz : ∀ k ∈ d.weights P t, k ≤ R) : ∃ cs : Array Value, v = .agg cs ∧ FitsZ R enc P w t cs.toList := by
  obtain ⟨cs, rfl, _⟩ := okWide_struct ht hv
  exact ⟨cs, rfl, fitsZ_top h hz⟩
theorem fitsZ_plain {base0 : Nat} {spare : Nat → Bool} {held : Bool} {v : Value} {d : DataW H} {ps : List MemPlace} (h : DataW.Trod enc P w base0 spare held t v d ps) (hc : v.cells = #[v]) (hz : ∀ k ∈ d.weights P t, k ≤ R) : FitsZ R enc P w t [v] := by
  have := fitsZ_top h hz
  rwa [hc] at this
end
end Go.Proofs.YtjhaccmcjlbllaaGreatDoor
/-
  Arguments, opened: numbers, truths, bytes.
-/
namespace Go.Proofs.YtjhaccmcjlbllaaGreatDoor
open Go.RowKit Go.ChangeShapes Go.WideShapes
theorem u32_range {n : Int} (h : (Lit.int .u32 n).wf = true) : ∃ k : Nat, n = (k : Nat) ∧ k < 4294967296 := by
  simp [Lit.wf, IntKind.min, IntKind.max, IntKind.signed, IntKind.bits] at h
  exact ⟨n.toNat, by omega, by omega⟩
theorem u8_range {n : Int} (h : (Lit.int .u8 n).wf = true) : ∃ k : UInt8, n = (k.toNat : Nat) := by
  simp [Lit.wf, IntKind.min, IntKind.max, IntKind.signed, IntKind.bits] at h
  refine ⟨UInt8.ofNat n.toNat, ?_⟩
  rw [UInt8.toNat_ofNat']
  omega
theorem i64_range {n : Int} (h : (Lit.int .i64 n).wf = true) : -9223372036854775808 ≤ n ∧ n ≤ 9223372036854775807 := by
  simp [Lit.wf, IntKind.min, IntKind.max, IntKind.signed, IntKind.bits] at h
  omega
theorem map_flat {M : Type} (f : M → List Value) (l : List M) : (l.map f).flatten = l.flatMap f := by
  induction l with
  | nil => rfl
  | cons x r ih => rw [List.map_cons, List.flatten_cons, List.flatMap_cons, ih]
theorem flat_one {M : Type} (f : M → Value) (l : List M) : (l.map fun x => [f x]).flatten = l.map f := by
  induction l with
  | nil => rfl
  | cons x r ih => rw [List.map_cons, List.flatten_cons, ih]; rfl
theorem list1 {α : Type} {x : List α} (h : x.length = 1) : ∃ a, x = [a] := by
  match x, h with
  | [a], _ => exact ⟨a, rfl⟩
theorem list4 {α : Type} {x : List α} (h : x.length = 4) : ∃ a b c d, x = [a, b, c, d] := by
  match x, h with
  | [a, b, c, d], _ => exact ⟨a, b, c, d, rfl⟩
theorem array4 {α : Type} {x : Array α} (h : x.toList.length = 4) : ∃ a b c d, x = #[a, b, c, d] := by
  obtain ⟨l⟩ := x
  obtain ⟨a, b, c, d, e⟩ := list4 (show l.length = 4 from h)
  exact ⟨a, b, c, d, by rw [e]⟩
section
variable {H : Type} {enc : TypeId × Value → H} {w : World} {R : Nat}
theorem open_bytesZ {c1 : Value} (h : FitsZ R enc Tryz.prog w 23 [c1]) : ∃ (A : Option Addr) (c : Nat) (l : List UInt8), c1 = .slice A l.length c ∧ l.length ≤ c ∧ c ≤ maxLen ∧ l.length ≤ R ∧ Reads w w.heap.size 1 A l.length (u8s l) := by
  have hk : Tryz.prog.cellsOf 5 = 1 := by kernel_rfl
  obtain ⟨A, n, c, L, hcs, hn, hc, hR, hl, hL, hr⟩ := fitsZ_slice h Tryz.underlying23 (by rw [hk]; omega) (Nat.le_of_ble_eq_true (by kernel_rfl))
  rw [hk] at hr
  obtain ⟨l, rfl, _⟩ := choose_list (f := fun b : UInt8 => [.int .u8 ((b.toNat : Nat) : Int)]) (Q := fun _ => True) fun x hx => by
    obtain ⟨hx1, hx2⟩ := hL x hx
    rw [hk] at hx1
    obtain ⟨a, rfl⟩ := list1 hx1
    obtain ⟨u, e0, hu⟩ := fits_int hx2.fits Tryz.underlying5
    obtain ⟨k, rfl⟩ := u8_range hu
    exact ⟨k, e0, trivial⟩
  rw [List.length_map] at hl
  rw [flat_one (fun b : UInt8 => .int .u8 ((b.toNat : Nat) : Int))] at hr
  subst hl
  simp only [List.cons.injEq, and_true] at hcs
  exact ⟨A, c, l, hcs, hn, hc, hR, hr⟩
theorem fitsZ_part {t : TypeId} {cs : List Value} {fs : Array Field} (h : FitsZ R enc Tryz.prog w t cs) (ht : Tryz.prog.underlying t = some (.struct fs)) : cs.length = Tryz.prog.cellsOf t ∧ ∀ (j : Nat) (f : Field), fs[j]? = some f → FitsZ R enc Tryz.prog w f.type ((cs.drop f.offset).take (Tryz.prog.cellsOf f.type)) := by
  obtain ⟨base, spare, held, fuel, d, ps, h, hz⟩ := h
  obtain ⟨ys, n, _, hx, hl, hyl, hat⟩ := DataW.trod_struct ht h
  refine ⟨hl, fun j f hf => ?_⟩
  have h1 := hat j f hf
  have hj := (Array.getElem?_eq_some_iff.1 hf).1
  have hy : ys[j]? = some (ys[j]'(by omega)) := List.getElem?_eq_getElem (by omega)
  rw [hy] at h1
  refine ⟨base, spare, held, n, _, _, h1, fun k hk => hz k ?_⟩
  rw [(Prod.mk.inj hx).1]
  unfold DataW.weights
  rw [ht]
  refine DataW.weights_mem_each (j := j) (t := f.type) (d := (ys[j]'(by omega)).1) ?_ ?_ k hk
  · rw [List.getElem?_map, Array.getElem?_toList, hf]; rfl
  · rw [List.getElem?_map, hy]; rfl
end
theorem tab_met {l : List (String × DataW Unit)} {W : World} (h : laidMetH Tryz.prog l W) (hl : l.filter (fun x => x.1 == "internal/strconv.uint64pow10") = [("internal/strconv.uint64pow10", Lib.tabData .u64 Lib.pow10Tab)]) :
    Lib.TabIs Tryz.prog W "internal/strconv.uint64pow10" .u64 Lib.pow10Tab := by
  have h1 := laidMetH.filter (fun x => x.1 == "internal/strconv.uint64pow10") h
  rw [hl, MakeChecks.laidMetH_plain _ _ _ (by kernel_rfl)] at h1
  exact Lib.tabIs_of_head (g := 1) (t := 200) (e := 35) (n := 20) (by kernel_rfl) (by kernel_rfl) Tryz.underlying200 Tryz.underlying35 (by kernel_rfl) (by kernel_rfl) h1
section
variable {H : Type} {enc : TypeId × Value → H} {W : World} {base0 b0 : Nat} {spare : Nat → Bool} {held : Bool} {r : Reach} {R : Nat}
set_option maxRecDepth 100000 in
theorem i64_arg {v : Value} {d : DataW H} {ps : List MemPlace} (hv : Value.okWide Tryz.prog W r b0 3 v) (h : DataW.Trod enc Tryz.prog W base0 spare held 3 v d ps) : ∃ k : Int, v = .int .i64 k ∧ -9223372036854775808 ≤ k ∧ k ≤ 9223372036854775807 := by
  obtain ⟨x0, rfl, _, _, h0⟩ := open_int Tryz.underlying3 hv h
  exact ⟨x0, rfl, i64_range h0⟩
set_option maxRecDepth 100000 in
theorem bytes_arg {v : Value} {d : DataW H} {ps : List MemPlace} (hv : Value.okWide Tryz.prog W r b0 23 v) (h : DataW.Trod enc Tryz.prog W base0 spare held 23 v d ps) (hz : ∀ k ∈ d.weights Tryz.prog 23, k ≤ R) :
    ∃ (A : Option Addr) (c : Nat) (l : List UInt8), v = .slice A l.length c ∧ l.length ≤ c ∧ c ≤ maxLen ∧ l.length ≤ R ∧ Reads W W.heap.size 1 A l.length (u8s l) := by
  obtain ⟨A, n, c, rfl⟩ := okWide_slice Tryz.underlying23 hv
  obtain ⟨A', c', l, e, b⟩ := open_bytesZ (fitsZ_plain h rfl hz)
  exact ⟨A', c', l, e, b⟩
set_option maxRecDepth 100000 in
theorem u32_arg {v : Value} {d : DataW H} {ps : List MemPlace} (hv : Value.okWide Tryz.prog W r b0 22 v) (h : DataW.Trod enc Tryz.prog W base0 spare held 22 v d ps) : ∃ k : Nat, v = .int .u32 (k : Nat) ∧ k < 4294967296 := by
  obtain ⟨x0, rfl, _, _, h0⟩ := open_int Tryz.underlying22 hv h
  obtain ⟨k, rfl, hk⟩ := u32_range h0
  exact ⟨k, rfl, hk⟩
set_option maxRecDepth 100000 in
theorem bool_arg {v : Value} {d : DataW H} {ps : List MemPlace} (hv : Value.okWide Tryz.prog W r b0 4 v) (h : DataW.Trod enc Tryz.prog W base0 spare held 4 v d ps) : ∃ b : Bool, v = .bool b := by
  obtain ⟨b, rfl, _⟩ := open_bool Tryz.underlying4 hv h
  exact ⟨b, rfl⟩
end
end Go.Proofs.YtjhaccmcjlbllaaGreatDoor
/-
  Arguments, opened: messages, mailboxes.
-/
namespace Go.Proofs.YtjhaccmcjlbllaaGreatDoor
open Go.RowKit Go.ChangeShapes Go.WideShapes
section
variable {H : Type} {enc : TypeId × Value → H} {w : World} {R : Nat}
/-- a message whose octets read -/
structure MsgOk (R : Nat) (w : World) (m : MsgV) : Prop where
  octs : Reads w w.heap.size 1 m.a m.b.length (u8s m.b)
  uid : m.uid < 4294967296
  cap : m.b.length ≤ m.c ∧ m.c ≤ 9223372036854775807
  size : m.b.length ≤ R
  date : -9223372036854775808 ≤ m.date ∧ m.date ≤ 9223372036854775807
  flags : -9223372036854775808 ≤ m.flags ∧ m.flags ≤ 9223372036854775807
set_option maxRecDepth 100000 in
theorem open_msgZ {x : List Value} (h : FitsZ R enc Tryz.prog w 25 x) : ∃ m : MsgV, x = msgC m ∧ MsgOk R w m := by
  obtain ⟨hx3, hx4⟩ := fitsZ_fields h Tryz.underlying25 (by kernel_rfl) (by kernel_rfl)
  obtain ⟨a0, a1, a2, a3, rfl⟩ := list4 hx3
  obtain ⟨u, e0, hu⟩ := fits_int (hx4 0 _ a0 rfl rfl).fits Tryz.underlying22
  obtain ⟨d, e1, hd⟩ := fits_int (hx4 1 _ a1 rfl rfl).fits Tryz.underlying2
  obtain ⟨f, e2, hf⟩ := fits_int (hx4 2 _ a2 rfl rfl).fits Tryz.underlying3
  obtain ⟨k, rfl, hk⟩ := u32_range hu
  obtain ⟨A, c, l, rfl, h1, h2, h3, h4⟩ := open_bytesZ (hx4 3 _ a3 rfl rfl)
  simp only [List.cons.injEq, and_true] at e0 e1 e2
  subst e0 e1 e2
  exact ⟨⟨k, d, f, A, c, l⟩, rfl, h4, hk, ⟨h1, by unfold maxLen at h2; exact h2⟩, h3, i64_range hd, i64_range hf⟩
set_option maxRecDepth 100000 in
theorem open_msgsZ {c1 : Value} (h : FitsZ R enc Tryz.prog w 42 [c1]) : ∃ (A : Option Addr) (c : Nat) (l : List MsgV), c1 = .slice A l.length c ∧ l.length ≤ c ∧ c ≤ maxLen ∧ l.length ≤ R ∧ Msgs w A l.length l ∧ ∀ m ∈ l, MsgOk R w m := by
  have hk : Tryz.prog.cellsOf 25 = 4 := by kernel_rfl
  obtain ⟨A, n, c, L, hcs, hn, hc, hR, hl, hL, hr⟩ := fitsZ_slice h Tryz.underlying42 (by rw [hk]; omega) (Nat.le_of_ble_eq_true (by kernel_rfl))
  rw [hk] at hr
  obtain ⟨l, rfl, hq⟩ := choose_list (f := msgC) (Q := MsgOk R w) fun x hx => open_msgZ (hL x hx).2
  rw [List.length_map] at hl
  rw [map_flat] at hr
  subst hl
  simp only [List.cons.injEq, and_true] at hcs
  exact ⟨A, c, l, hcs, hn, hc, hR, ⟨rfl, hr, fun m hm => (hq m hm).octs, fun m hm => (hq m hm).uid, fun m hm => (hq m hm).cap⟩, hq⟩
set_option maxRecDepth 100000 in
theorem open_boxZ {cs : Array Value} (h : FitsZ R enc Tryz.prog w 44 cs.toList) : ∃ (nm : ByteArray) (e nx : Nat) (A : Option Addr) (c : Nat) (l : List MsgV), cs = boxC nm e nx A l.length c ∧ nm.size ≤ maxLen ∧ nm.size ≤ R ∧ e < 4294967296 ∧ nx < 4294967296 ∧ l.length ≤ c ∧ c ≤ maxLen ∧ l.length ≤ R ∧ Msgs w A l.length l ∧ ∀ m ∈ l, MsgOk R w m := by
  obtain ⟨hx3, hx4⟩ := fitsZ_fields h Tryz.underlying44 (by kernel_rfl) (by kernel_rfl)
  obtain ⟨a0, a1, a2, a3, rfl⟩ := array4 (show cs.toList.length = 4 from hx3)
  obtain ⟨s, e0, hs, hsR⟩ := fitsZ_string (hx4 0 _ a0 rfl rfl) Tryz.underlying9
  obtain ⟨u1, e1, hu1⟩ := fits_int (hx4 1 _ a1 rfl rfl).fits Tryz.underlying22
  obtain ⟨u2, e2, hu2⟩ := fits_int (hx4 2 _ a2 rfl rfl).fits Tryz.underlying22
  obtain ⟨k1, rfl, hk1⟩ := u32_range hu1
  obtain ⟨k2, rfl, hk2⟩ := u32_range hu2
  obtain ⟨A, c, l, rfl, h1, h2, h3, h4, h5⟩ := open_msgsZ (hx4 3 _ a3 rfl rfl)
  simp only [List.cons.injEq, and_true] at e0 e1 e2
  subst e0 e1 e2
  exact ⟨s, k1, k2, A, c, l, rfl, hs, hsR, hk1, hk2, h1, h2, h3, h4, h5⟩
end
section
variable {H : Type} {enc : TypeId × Value → H} {W : World} {base0 b0 : Nat} {spare : Nat → Bool} {held : Bool} {r : Reach} {R : Nat}
set_option maxRecDepth 100000 in
theorem box_arg {v : Value} {d : DataW H} {ps : List MemPlace} (hv : Value.okWide Tryz.prog W r b0 44 v) (h : DataW.Trod enc Tryz.prog W base0 spare held 44 v d ps) (hz : ∀ k ∈ d.weights Tryz.prog 44, k ≤ R) :
    ∃ (nm : ByteArray) (e nx : Nat) (A : Option Addr) (c : Nat) (l : List MsgV), v = .agg (boxC nm e nx A l.length c) ∧ nm.size ≤ maxLen ∧ nm.size ≤ R ∧ e < 4294967296 ∧ nx < 4294967296 ∧ l.length ≤ c ∧ c ≤ maxLen ∧ l.length ≤ R ∧ Msgs W A l.length l ∧ ∀ m ∈ l, MsgOk R W m := by
  obtain ⟨cs, rfl, hf⟩ := fitsZ_struct hv Tryz.underlying44 h hz
  obtain ⟨nm, e, nx, A, c, l, rfl, b⟩ := open_boxZ hf
  exact ⟨nm, e, nx, A, c, l, rfl, b⟩
set_option maxRecDepth 100000 in
theorem msg_arg {v : Value} {d : DataW H} {ps : List MemPlace} (hv : Value.okWide Tryz.prog W r b0 25 v) (h : DataW.Trod enc Tryz.prog W base0 spare held 25 v d ps) (hz : ∀ k ∈ d.weights Tryz.prog 25, k ≤ R) :
    ∃ m : MsgV, v = .agg #[.int .u32 (m.uid : Nat), .int .i64 m.date, .int .i64 m.flags, .slice m.a m.b.length m.c] ∧ MsgOk R W m := by
  obtain ⟨cs, rfl, hf⟩ := fitsZ_struct hv Tryz.underlying25 h hz
  obtain ⟨m, e, hm⟩ := open_msgZ hf
  exact ⟨m, by congr 1; exact Array.ext' e, hm⟩
end
end Go.Proofs.YtjhaccmcjlbllaaGreatDoor
/-
  Arguments that are items, opened.
-/
namespace Go.Proofs.YtjhaccmcjlbllaaGreatDoor
open Go.RowKit Go.ChangeShapes Go.WideShapes
theorem listI2 {α : Type} {x : List α} (h : x.length = 2) : ∃ a b, x = [a, b] := by
  match x, h with
  | [a, b], _ => exact ⟨a, b, rfl⟩
section
variable {H : Type} {enc : TypeId × Value → H} {w W : World} {R base0 b0 : Nat} {spare : Nat → Bool} {held : Bool} {r : Reach}
theorem open_itemZ {x : List Value} (h : FitsZ R enc Tryz.prog w 33 x) : ∃ m : ItemI, x = itemC m ∧ True := by
  obtain ⟨hx3, hx4⟩ := fitsZ_fields h Tryz.underlying33 (by kernel_rfl) (by kernel_rfl)
  obtain ⟨a0, a1, rfl⟩ := listI2 hx3
  obtain ⟨k, e0, _⟩ := fits_int (hx4 0 _ a0 rfl rfl).fits Tryz.underlying3
  obtain ⟨p, e1⟩ := fits_bool (hx4 1 _ a1 rfl rfl).fits Tryz.underlying4
  simp only [List.cons.injEq, and_true] at e0 e1
  subst e0 e1
  exact ⟨⟨k, p⟩, rfl, trivial⟩
theorem open_itemsZ {c1 : Value} (h : FitsZ R enc Tryz.prog w 26 [c1]) : ∃ (A : Option Addr) (c : Nat) (l : List ItemI), c1 = .slice A l.length c ∧ l.length ≤ c ∧ l.length ≤ R ∧ RowR itemSh w A l := by
  have hk : Tryz.prog.cellsOf 33 = 2 := by kernel_rfl
  obtain ⟨A, n, c, L, hcs, hn, hc, hR, hl, hL, hr⟩ := fitsZ_slice h Tryz.underlying26 (by rw [hk]; omega) (Nat.le_of_ble_eq_true (by kernel_rfl))
  rw [hk] at hr
  obtain ⟨l, rfl, hq⟩ := choose_list (f := itemC) (Q := fun m => True) fun x hx => open_itemZ (hL x hx).2
  rw [List.length_map] at hl
  rw [map_flat] at hr
  subst hl
  simp only [List.cons.injEq, and_true] at hcs
  exact ⟨A, c, l, hcs, hn, hR, ⟨hr, fun m _ p hp => by cases hp⟩⟩
set_option maxRecDepth 100000 in
theorem items_arg {v : Value} {d : DataW H} {ps : List MemPlace} (hv : Value.okWide Tryz.prog W r b0 26 v) (h : DataW.Trod enc Tryz.prog W base0 spare held 26 v d ps) (hz : ∀ k ∈ d.weights Tryz.prog 26, k ≤ R) :
    ∃ (A : Option Addr) (c : Nat) (l : List ItemI), v = .slice A l.length c ∧ l.length ≤ c ∧ l.length ≤ R ∧ RowR itemSh W A l := by
  obtain ⟨A, n, c, rfl⟩ := okWide_slice Tryz.underlying26 hv
  obtain ⟨A', c', l, e, b⟩ := open_itemsZ (fitsZ_plain h rfl hz)
  exact ⟨A', c', l, e, b⟩
end
end Go.Proofs.YtjhaccmcjlbllaaGreatDoor
/-
  What a row says of the first world: what the walks of seqset and search need.
-/
namespace Go.Proofs.YtjhaccmcjlbllaaGreatDoor
open Go.RowKit
theorem tabF_met {l : List (String × DataW Unit)} {W : World} (h : laidMetH Tryz.prog l W) (hl : l.filter (fun x => x.1 == "internal/strconv.uint64pow10") = [("internal/strconv.uint64pow10", Lib.tabData .u64 Lib.pow10Tab)]) :
    Lib.TabIs Tryz.prog W "internal/strconv.uint64pow10" .u64 Lib.pow10Tab := by
  have h1 := laidMetH.filter (fun x => x.1 == "internal/strconv.uint64pow10") h
  rw [hl, MakeChecks.laidMetH_plain _ _ _ (by kernel_rfl)] at h1
  exact Lib.tabIs_of_head (g := 1) (t := 200) (e := 35) (n := 20) (by kernel_rfl) (by kernel_rfl) Tryz.underlying200 Tryz.underlying35 (by kernel_rfl) (by kernel_rfl) h1
theorem star_eq : "*" ++ "errors.errorString" = "*errors.errorString" := by decide
theorem err_row (u : TypeId) (h : Tryz.prog.typeName? 3 u = some "*errors.errorString") : u = 248 :=
  typeName_ptr_named (nm := "errors.errorString") (by rw [star_eq]; kernel_rfl) (by kernel_rfl) (by decide) u (by rw [star_eq]; exact h)
theorem err_met {l : List (String × DataW Unit)} {W : World} (n : String) (text : List UInt8) (g : Nat) (h : laidMetH Tryz.prog l W) (hl : l.filter (fun x => x.1 == n) = [(n, .iface "*errors.errorString" (.ptr (.agg [.lit (.string text)])))])
    (hp : ([(n, (.iface "*errors.errorString" (.ptr (.agg [.lit (.string text)])) : DataW Unit))].all fun x => x.2.handleName?.isNone) = true)
    (hg : Tryz.prog.globalNamed n = some g) (ht : (Tryz.prog.globals[g]?).map (·.type) = some 119) : ∃ ev, W.cell? ⟨g, 0, none⟩ = some ev ∧ (ev = .nilIface ∨ ∃ te pe, ev = .iface te pe) := by
  have h1 := laidMetH.filter (fun x => x.1 == n) h
  rw [hl, MakeChecks.laidMetH_plain _ _ _ hp] at h1
  obtain ⟨a, s, hv, _⟩ := laid_sentinel h1 hg ht Tryz.underlying119 err_row Tryz.underlying248 Tryz.underlying250 rfl rfl Tryz.underlying9 (by kernel_rfl) (by kernel_rfl)
  exact ⟨_, by simpa using World.var?_cell hg hv 0, .inr ⟨_, _, rfl⟩⟩
theorem fine_met {l : List (String × DataW Unit)} {W : World} (h : laidMetH Tryz.prog l W) (hsh : W.ShapedOpen Tryz.prog)
    (hl : l.filter (fun x => x.1 == "internal/strconv.uint64pow10") = [("internal/strconv.uint64pow10", Lib.tabData .u64 Lib.pow10Tab)])
    (h5 : l.filter (fun x => x.1 == "strconv.ErrSyntax") = [("strconv.ErrSyntax", .iface "*errors.errorString" (.ptr (.agg [.lit (.string [105, 110, 118, 97, 108, 105, 100, 32, 115, 121, 110, 116, 97, 120])])))])
    (h6 : l.filter (fun x => x.1 == "strconv.ErrRange") = [("strconv.ErrRange", .iface "*errors.errorString" (.ptr (.agg [.lit (.string [118, 97, 108, 117, 101, 32, 111, 117, 116, 32, 111, 102, 32, 114, 97, 110, 103, 101])])))]) : Fine W := by
  have e6 := err_met "strconv.ErrRange" _ 8 h h6 rfl (by kernel_rfl) (by kernel_rfl)
  refine ⟨tabF_met h hl, Tryz.laysM146.s1_3 W hsh, err_met "strconv.ErrSyntax" _ 7 h h5 rfl (by kernel_rfl) (by kernel_rfl), e6, ?_⟩
  obtain ⟨ev5, hc5, _⟩ := err_met "strconv.ErrSyntax" _ 7 h h5 rfl (by kernel_rfl) (by kernel_rfl)
  obtain ⟨ev, hc, _⟩ := e6
  exact ⟨block_lt_of_cell hc, block_lt_of_cell hc5⟩
end Go.Proofs.YtjhaccmcjlbllaaGreatDoor
/-
  What is told of any message, for any items, is what the document says: cubbylaw18.FetchPrints answers true, for every message and every items.
-/
namespace Go.Proofs.YtjhaccmcjlbllaaGreatDoor.FetchPrints
open Go.RowKit Go.ChangeShapes Go.WideShapes Go.ChangeAt
open Go.ChangeMaps (open_string shut_string)
set_option linter.unusedVariables false
theorem own : ownKnob Tryz.prog.godebug = none := by kernel_rfl
set_option maxRecDepth 100000 in
theorem contract (H : Type) (enc : TypeId × Value → H) (W : World) (base : Nat) (args : Array Value) (ds gs : List (DataW H)) (before : List MemPlace)
    (hval : ∀ (j : Nat) t v, Tryz.f3.params[j]? = some t → args[j]? = some v → Value.okWide Tryz.prog W .any base t v)
    (hW : DataW.Whole enc Tryz.prog Tryz.f3.params.toList Rows.fetchPrintsSpec.vars false W args.toList ds gs before) (hz : (DataW.weightsEach Tryz.prog (Tryz.f3.params.toList ++ (OpenSpec.ofChange Rows.fetchPrintsSpec).bare.plain.varTypes Tryz.prog) (ds ++ gs)).all (· ≤ reachBytes) = true) (hL : laidMetH Tryz.prog Rows.fetchPrintsRow.laid W) (hsh : W.ShapedOpen Tryz.prog) :
    Calls Tryz.prog 3 args W fun e W' => ∃ v, e = .returned v ∧ Rows.fetchPrintsSpec.post enc Tryz.prog Tryz.f3 false true false false W args v W' := by
  have hW' := hW
  obtain ⟨p, q, hA0, hV, rfl, hfz, hnd⟩ := hW
  have hA : DataW.TrodAll enc Tryz.prog W 0 (fun _ => true) true Tryz.f3.params.toList args.toList ds p := hA0
  rw [Tryz.params3] at hA hval
  have hAk := hA
  obtain ⟨v0, v1, d0, d1, p0, p1, rfl, rfl, rfl, g0, g1⟩ := trodAll_two hA
  obtain ⟨rfl, rfl⟩ := trodVars_none hV
  obtain ⟨m, rfl, hmo⟩ := msg_arg (hval 0 25 v0 rfl rfl) g0 (sized_at hz (j := 0) (t := 25) (by kernel_rfl) rfl)
  obtain ⟨A2, c2, l2, rfl, q1, q2, q3⟩ := items_arg (hval 1 26 v1 rfl rfl) g1 (sized_at hz (j := 1) (t := 26) (by kernel_rfl) rfl)
  obtain ⟨mx, hm⟩ := Tryz.laysM146.s1_3 W hsh
  have ht : Lib.TabIs Tryz.prog W "internal/strconv.uint64pow10" .u64 Lib.pow10Tab := tabF_met hL (by kernel_rfl)
  clear hA0
  refine (fprints_law m A2 c2 l2 mx W hm hmo.cap.1 (by unfold maxLen; exact hmo.cap.2) hmo.uid hmo.date hmo.octs ht q3 q1 (by unfold maxLen; omega)).mono fun e W' ⟨he, hb⟩ => ?_
  subst he
  exact ⟨_, rfl, post_of_below (pv := []) hW' (fun _ _ _ => trodAll_mk1 (shut_bool Tryz.underlying4 _)) (fun sp hsp => args_stay (by kernel_rfl) (by kernel_rfl) hAk (fun x hx => hb.same (by simpa using hW'.lt x (List.mem_append_left _ hx))) (fun x hx => hsp x (List.mem_append_left _ hx))) (fun _ _ => rfl) rfl
    hb (ok_one (by kernel_rfl) rfl (okWide_bool_mk Tryz.underlying4 _))⟩
set_option maxRecDepth 100000 in
theorem reads (os : Os) {H : Type} (enc : TypeId × Value → H) : ∃ places, DataW.whole enc Tryz.prog ((World.laidAll Tryz.prog os Rows.fetchPrintsRow.laid).forCall (fun _ _ => 0) ⟨#[], #[.agg #[.int .u32 0, .int .i64 0, .int .i64 0, .slice none 0 0], .slice none 0 0], []⟩).memory Tryz.f3.params.toList Rows.fetchPrintsSpec.vars false #[Value.agg #[.int .u32 0, .int .i64 0, .int .i64 0, .slice none 0 0], Value.slice none 0 0].toList 8 = some ([.agg [.lit (.int .u32 0), .lit (.int .i64 0), .lit (.int .i64 0), .nil], .nil], [], places) :=
  ⟨[], by kernel_rfl⟩
set_option maxRecDepth 100000 in
theorem lifted (os : Os) (started : os.Started) (H : Type) (enc : TypeId × Value → H) (F : Stop.Interp) :
    ReturnsInHanded {} Tryz.checked os 3 .any ((OpenSpec.ofChange Rows.fetchPrintsSpec).preRow enc Tryz.prog Tryz.f3 Rows.fetchPrintsRow.domain false Rows.fetchPrintsRow.laid) (((OpenSpec.ofChange Rows.fetchPrintsSpec).at F).post enc Tryz.prog Tryz.f3 false true false false) := by
  obtain ⟨places, hx⟩ := reads os enc
  refine returnsInHanded_of_row (C := Tryz.checked) (s := OpenSpec.ofChange Rows.fetchPrintsSpec) own started (by kernel_rfl) Tryz.func3
    (witness_row_shaped (enc := enc) (C := Tryz.checked) false (World.laidAll Tryz.prog os Rows.fetchPrintsRow.laid) #[.agg #[.int .u32 0, .int .i64 0, .int .i64 0, .slice none 0 0], .slice none 0 0] (World.laidAll_os _ _ _) (World.shaped_of_ZipB (by kernel_rfl) (by kernel_rfl)) (by kernel_rfl)
      (OpenSpec.preRow_of_cond 8 hx (by kernel_rfl) (fun k hk => by cases hk) (by kernel_rfl) (laidMet_laidAll _ (by kernel_rfl) (by kernel_rfl)))) ?_
  intro W base args ds gs before hval hW _ _ hz hL hsh _
  exact contract H enc W base args ds gs before hval hW hz hL hsh
theorem said : Rows.FetchPrintsSaid :=
  OpenClaim.holds_of_cond 3 Tryz.f3 rfl rfl rfl rfl rfl rfl rfl ⟨rfl, rfl, rfl, rfl, rfl⟩ rfl rfl rfl rfl rfl (by kernel_rfl) Tryz.func3 (by kernel_rfl)
    (of_decide_eq_true (by kernel_rfl)) (by unfold Func.isWrapper; first | (rw [if_pos (by decide +kernel)]; kernel_rfl) | (rw [if_neg (by decide +kernel)]; exact ⟨rfl, rfl⟩))
    (fun os started H enc _ F => by rw [OpenClaim.pre_eq_preRow]; exact lifted os started H enc F)
theorem plain (f : FuncId) (fn : Func) (hf : Tryz.pinned.checked.prog.funcNamed "cubby/cubbylaw18.FetchPrints" = some f) (hfn : Tryz.pinned.checked.prog.funcs[f]? = some fn) :
    true = Tryz.pinned.checked.prog.looks [] ∧ ∀ (j : Nat) t, fn.params[j]? = some t → Tryz.pinned.checked.prog.wantsStandIn t = false := by
  obtain rfl : f = 3 := Option.some.inj ((show Tryz.prog.funcNamed "cubby/cubbylaw18.FetchPrints" = some 3 by kernel_rfl).symm.trans hf) |>.symm
  obtain rfl : fn = Tryz.f3 := (Option.some.inj (Tryz.func3.symm.trans hfn)).symm
  refine ⟨by kernel_rfl, fun j t ht => ?_⟩
  rw [Tryz.params3] at ht
  have hm : t ∈ [25, 26] := by simpa using Array.mem_of_getElem? ht
  have hall : ([25, 26].all fun u => !Tryz.prog.wantsStandIn u) = true := by kernel_rfl
  exact (show Tryz.prog.wantsStandIn t = false by simpa using List.all_eq_true.1 hall t hm)
theorem holds : Rows.FetchPrintsCardSaid :=
  Claim7.holds_tied_plain_at .later [] _ _ _ _ said (fun _ h => by cases h) (by kernel_rfl) (fun _ h => by cases h) fetchPrints_row_tie rfl ⟨rfl, rfl⟩ (by kernel_rfl) rfl plain (by kernel_rfl)
#print axioms holds
end Go.Proofs.YtjhaccmcjlbllaaGreatDoor.FetchPrints
