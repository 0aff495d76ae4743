/-
  Walk: cubbylaw19.Few.
-/
import Derived.Test.YtkljkbeahdipfaaGreatDoorNilf
import Derived.Deep.Slices
import Derived.Deep.Fields
import Derived.ChangeSame
import Derived.ChangeSlices
import Derived.Carry
import Derived.SizedLaws
import Derived.Lib.SmallJoins
import Derived.Deep.DeepHandedRow
import Derived.LaidSub
import Derived.Lib.LaidTab
import Derived.MakeChecks
import Derived.Stop.LaidErr
import Derived.Test.YtkljkbeahdipfaaGreatDoorCards
import Derived.Test.YtkljkbeahdipfaaGreatDoorTie
import Derived.SevenTiedAt
namespace Go.Proofs.YtkljkbeahdipfaaGreatDoor
open Go.RowKit Go.Maps
set_option linter.unusedSimpArgs false
set_option linter.unusedVariables false
def opN (o : OpV) : Nat := o.nm.size + o.dst.size + o.m.b.length + o.us.length
def badO (most i n : Nat) (o : OpV) : Bool := decide (most ≤ i) || decide (60000 < n + opN o) || decide (1000 < o.nm.size) || decide (1000 < o.dst.size)
def fewO (most : Nat) : Nat → Nat → List OpV → Bool
 | _, _, [] => true
 | i, n, o :: r => bif badO most i n o then false else fewO most (i + 1) (n + opN o) r
theorem fewO_at {most i n j : Nat} {l : List OpV} {x : OpV} (hx : l[j]? = some x) : fewO most i n (l.drop j) = bif badO most i n x then false else fewO most (i + 1) (n + opN x) (l.drop (j + 1)) := by
 rw [List.drop_eq_getElem_cons (List.getElem?_eq_some_iff.1 hx).1, (List.getElem?_eq_some_iff.1 hx).2]
 rfl
theorem opC_len (o : OpV) : (opC o).length = 11 := rfl
set_option maxRecDepth 100000 in
set_option maxHeartbeats 8000000 in
theorem fewO_any (A : Option Addr) (c q most : Nat) (l : List OpV) (w : World) (hl : l.length = q) (hq : q ≤ 100000000) (hmost : most ≤ 1000000) (hr : Reads w w.heap.size 11 A q (l.flatMap opC)) (hsz : ∀ o ∈ l, opN o ≤ 1000000000000000) :
 Calls Tryz.prog 37 #[.slice A q c, .int .i64 (most : Nat)] w fun ev w' => ev = .returned (.bool (fewO most 0 0 l)) ∧ Below w.heap.size w w' := by
 have HB := Below.refl w.heap.size w
 refine calls_at 68 Tryz.func37 rfl rfl (Nat.le_of_ble_eq_true rfl) ?_
 intro a hA; replace hA := hA.norm
 refine wS (wR ?_)
 revert a; refine wo rfl rfl (by decide) (fun ev e h => by simp [go_sem, h] <;> rfl) ?_; intro a hA
 replace hA := hA.keepN [0, 1]
 refine wN (nT (wS (wR ?_)))
 revert a; refine wo rfl rfl (by decide) (fun ev e h => by simp [go_sem, h] <;> rfl) ?_; intro a hA
 replace hA := hA.keepN [0, 1, 5]
 refine wN (nT (wS (wS (wR ?_))))
 revert a; (iterate 3 refine wo rfl rfl (by decide) (fun ev e h => by simp [go_sem, h] <;> rfl) ?_); intro a hA
 replace hA := hA.keepN [0, 1, 5, 8, 9]
 refine wN (nT (wB ?_))
 refine wp_loop_at (fun f a wx => ∃ (j s : Nat), j + f = q ∧ s ≤ 60000 ∧ fewO most 0 0 l = fewO most j s (l.drop j) ∧ Below w.heap.size w wx ∧ At 68 [(0, .slice A q c), (1, .int .i64 (most : Nat)), (5, .int .i64 (s : Nat)), (8, .int .i64 (q : Nat)), (9, .int .i64 (j : Nat))] a) (q) ?_ ?_
 ·exact ⟨0, 0, by omega, by omega, rfl, HB, hA⟩
 clear hA HB
 rintro f a wx ⟨j, s, hjf, hs, hall, HB, hA⟩
 refine wS (wR ?_)
 revert a; refine wo rfl rfl (by decide) (fun ev e h => by simp [go_sem, h] <;> rfl) ?_; intro a hA
 replace hA := hA.keepN [0, 1, 5, 8, 9, 10]
 refine wN (nT (wS ?_))
 refine wp_if hA 10 _ rfl (fun hq1 => ?yL) (fun hq1 => ?nL)
 case nL =>
  have hj : j = q := by simp at hq1; omega
  rw [hj, ← hl, List.drop_length] at hall
  replace hA := hA.keepN []
  refine wp_exit (xT (xT (xB (nT (wS (wR ?_))))))
  revert a; refine wo rfl rfl (by decide) (fun ev e h => by simp [go_sem, h] <;> rfl) ?_; intro a hA
  replace hA := hA.keepN [4]
  refine wN (nT (wp_ret ?_))
  refine ret_1 hA 4 rfl rfl ?_
  exact ⟨ret_bool hall.symm, HB⟩
 case yL =>
  have hlt : j < q := by simp at hq1; omega
  obtain ⟨x, hx⟩ : ∃ x, l[j]? = some x := ⟨_, List.getElem?_eq_getElem (by omega)⟩
  have hxs := hsz x (List.mem_of_getElem? hx)
  unfold opN at hxs
  rw [fewO_at hx] at hall
  obtain ⟨ad, rfl, hadb, h0, hj⟩ := rowK_at opC_len hr (by omega) hx
  have z1 : w.cell? ⟨(ad.add (j * 11)).block, (ad.add (j * 11)).off + 1, none⟩ = some (.string x.nm) := hj 1 _ (by decide) rfl
  have z2 : w.cell? ⟨(ad.add (j * 11)).block, (ad.add (j * 11)).off + 2, none⟩ = some (.string x.dst) := hj 2 _ (by decide) rfl
  have z6 : w.cell? ⟨(ad.add (j * 11)).block, (ad.add (j * 11)).off + 6, none⟩ = some (.slice x.m.a x.m.b.length x.m.c) := hj 6 _ (by decide) rfl
  have z7 : w.cell? ⟨(ad.add (j * 11)).block, (ad.add (j * 11)).off + 7, none⟩ = some (.slice x.ua x.us.length x.uc) := hj 7 _ (by decide) rfl
  have jj0 : (0 : Int) ≤ (j : Int) := by omega
  have jj1 : (j : Int) < (q : Int) := by omega
  have hwj : IntKind.i64.wrap ((j : Int) + 1) = (j : Int) + 1 := IntWalk.i64_in _ (by omega)
  have e1 : IntKind.i64.wrap ((s : Int) + (x.nm.size : Int)) = (s : Int) + (x.nm.size : Int) := IntWalk.i64_in _ (by omega)
  have e2 : IntKind.i64.wrap ((s : Int) + (x.nm.size : Int) + (x.dst.size : Int)) = (s : Int) + (x.nm.size : Int) + (x.dst.size : Int) := IntWalk.i64_in _ (by omega)
  have e3 : IntKind.i64.wrap ((s : Int) + (x.nm.size : Int) + (x.dst.size : Int) + (x.m.b.length : Int)) = (s : Int) + (x.nm.size : Int) + (x.dst.size : Int) + (x.m.b.length : Int) := IntWalk.i64_in _ (by omega)
  have e4 : IntKind.i64.wrap ((s : Int) + (x.nm.size : Int) + (x.dst.size : Int) + (x.m.b.length : Int) + (x.us.length : Int)) = (s : Int) + (x.nm.size : Int) + (x.dst.size : Int) + (x.m.b.length : Int) + (x.us.length : Int) := IntWalk.i64_in _ (by omega)
  have hsum : (s : Int) + (x.nm.size : Int) + (x.dst.size : Int) + (x.m.b.length : Int) + (x.us.length : Int) = ((s + opN x : Nat) : Int) := by unfold opN; omega
  refine wp_skip (nT (wS (wB (wS (wR ?_)))))
  revert a; (iterate 2 refine wo rfl rfl (by decide) (fun ev e h => by simp [go_sem, h] <;> rfl) ?_); intro a hA
  replace hA := hA.keepN [0, 1, 5, 6, 8, 9]
  have pE := fun (wo : World) (hC : (fun wy => Below w.heap.size w wy) wo) => have y1 := (hC.cell (p := ⟨(ad.add (j * 11)).block, (ad.add (j * 11)).off + 1, none⟩) (by rw [block_of_add]; exact hadb)).trans z1; have y2 := (hC.cell (p := ⟨(ad.add (j * 11)).block, (ad.add (j * 11)).off + 2, none⟩) (by rw [block_of_add]; exact hadb)).trans z2; have y6 := (hC.cell (p := ⟨(ad.add (j * 11)).block, (ad.add (j * 11)).off + 6, none⟩) (by rw [block_of_add]; exact hadb)).trans z6; have y7 := (hC.cell (p := ⟨(ad.add (j * 11)).block, (ad.add (j * 11)).off + 7, none⟩) (by rw [block_of_add]; exact hadb)).trans z7; And.intro (y1) (And.intro (y2) (And.intro (y6) (y7)))
  refine wN (nT (wS ?_))
  refine wp_any_at hA ((.det ?dE0) :: (.det ?dE1) :: (.det ?dE2) :: (.det ?dE3) :: (.det ?dE4) :: (.det ?dE5) :: (.det ?dE6) :: (.det ?dE7) :: (.det ?dE8) :: (.det ?dE9) :: (.det ?dE10) :: (.det ?dE11) :: (.det ?dE12) :: (.det ?dE13) :: (.det ?dE14) :: (.det ?dE15) :: (.det ?dE16) :: (.det ?dE17) :: (.det ?dE18) :: (.det ?dE19) :: (.det ?dE20) :: (.det ?dE21) :: (.det ?dE22) :: (.det ?dE23) :: (.det ?dE24) :: (.det ?dE25) :: (.det ?dE26) :: (.det ?dE27) :: (.det ?dE28) :: (.det ?dE29) :: (.det ?dE30) :: []) [] (fun wy => Below w.heap.size w wy) (TSp [] Grows) (by kernel_rfl) rfl (by kernel_rfl) (by kernel_rfl) rfl (HB.drew) (stab_sp [] (true :: true :: true :: true :: true :: true :: true :: true :: true :: true :: true :: true :: true :: true :: true :: true :: true :: true :: true :: true :: true :: true :: true :: true :: true :: true :: true :: true :: true :: true :: true :: []) (true :: true :: true :: true :: true :: true :: true :: true :: true :: true :: true :: true :: true :: true :: true :: true :: true :: true :: true :: true :: true :: true :: true :: true :: true :: true :: true :: true :: true :: true :: true :: []) [] rfl rfl rfl (by kernel_rfl) ⟨trivial, trivial, trivial, trivial, trivial, trivial, trivial, trivial, trivial, trivial, trivial, trivial, trivial, trivial, trivial, trivial, trivial, trivial, trivial, trivial, trivial, trivial, trivial, trivial, trivial, trivial, trivial, trivial, trivial, trivial, trivial, trivial⟩ trivial) (fun _ h => by cases h) (fun _ _ _ _ _ h => by cases h) (fun _ h => by cases h) ⟨?oE0, ?oE1, ?oE2, ?oE3, ?oE4, ?oE5, ?oE6, ?oE7, ?oE8, ?oE9, ?oE10, ?oE11, ?oE12, ?oE13, ?oE14, ?oE15, ?oE16, ?oE17, ?oE18, ?oE19, ?oE20, ?oE21, ?oE22, ?oE23, ?oE24, ?oE25, ?oE26, ?oE27, ?oE28, ?oE29, ?oE30, trivial⟩ (by kernel_rfl) ?fE
  case oE0 => intro ev wo hev hC hs hph; have x0 := se hA hs 5; exact od rfl rfl (by kernel_rfl) hC (TSp.of rfl (Grows.refl _)) (by simp [go_sem, x0, jj0, jj1, e1, e2, e3, e4] <;> rfl)
  case oE1 => intro ev wo hev hC hs hph; have x0 := se hA hs 0; exact od rfl rfl (by kernel_rfl) hC (TSp.of rfl (Grows.refl _)) (by simp [go_sem, x0, jj0, jj1, e1, e2, e3, e4] <;> rfl)
  case oE2 => intro ev wo hev hC hs hph; have x0 := se hA hs 6; exact od rfl rfl (by kernel_rfl) hC (TSp.of rfl (Grows.refl _)) (by simp [go_sem, x0, jj0, jj1, e1, e2, e3, e4] <;> rfl)
  case oE3 => intro ev wo hev hC hs hph; have x0 := sd hs 13 1; have x1 := sd hs 14 2; exact od rfl rfl (by kernel_rfl) hC (TSp.of rfl (Grows.refl _)) (by simp [go_sem, x0, x1, jj0, jj1, e1, e2, e3, e4] <;> rfl)
  case oE4 => intro ev wo hev hC hs hph; have x0 := sd hs 15 3; exact od rfl rfl (by kernel_rfl) hC (TSp.of rfl (Grows.refl _)) (by simp [go_sem, x0, jj0, jj1, e1, e2, e3, e4] <;> rfl)
  case oE5 => intro ev wo hev hC hs hph; have x0 := sd hs 16 4; exact od rfl rfl (by kernel_rfl) hC (TSp.of rfl (Grows.refl _)) (by simp [go_sem, x0, pE _ hC, jj0, jj1, e1, e2, e3, e4] <;> rfl)
  case oE6 => intro ev wo hev hC hs hph; have x0 := sd hs 17 5; exact od rfl rfl (by kernel_rfl) hC (TSp.of rfl (Grows.refl _)) (by simp [go_sem, x0, jj0, jj1, e1, e2, e3, e4] <;> rfl)
  case oE7 => intro ev wo hev hC hs hph; have x0 := sd hs 12 0; have x1 := sd hs 18 6; exact od rfl rfl (by kernel_rfl) hC (TSp.of rfl (Grows.refl _)) (by simp [go_sem, x0, x1, jj0, jj1, e1, e2, e3, e4] <;> rfl)
  case oE8 => intro ev wo hev hC hs hph; have x0 := se hA hs 0; exact od rfl rfl (by kernel_rfl) hC (TSp.of rfl (Grows.refl _)) (by simp [go_sem, x0, jj0, jj1, e1, e2, e3, e4] <;> rfl)
  case oE9 => intro ev wo hev hC hs hph; have x0 := se hA hs 6; exact od rfl rfl (by kernel_rfl) hC (TSp.of rfl (Grows.refl _)) (by simp [go_sem, x0, jj0, jj1, e1, e2, e3, e4] <;> rfl)
  case oE10 => intro ev wo hev hC hs hph; have x0 := sd hs 20 8; have x1 := sd hs 21 9; exact od rfl rfl (by kernel_rfl) hC (TSp.of rfl (Grows.refl _)) (by simp [go_sem, x0, x1, jj0, jj1, e1, e2, e3, e4] <;> rfl)
  case oE11 => intro ev wo hev hC hs hph; have x0 := sd hs 22 10; exact od rfl rfl (by kernel_rfl) hC (TSp.of rfl (Grows.refl _)) (by simp [go_sem, x0, jj0, jj1, e1, e2, e3, e4] <;> rfl)
  case oE12 => intro ev wo hev hC hs hph; have x0 := sd hs 23 11; exact od rfl rfl (by kernel_rfl) hC (TSp.of rfl (Grows.refl _)) (by simp [go_sem, x0, pE _ hC, jj0, jj1, e1, e2, e3, e4] <;> rfl)
  case oE13 => intro ev wo hev hC hs hph; have x0 := sd hs 24 12; exact od rfl rfl (by kernel_rfl) hC (TSp.of rfl (Grows.refl _)) (by simp [go_sem, x0, jj0, jj1, e1, e2, e3, e4] <;> rfl)
  case oE14 => intro ev wo hev hC hs hph; have x0 := sd hs 19 7; have x1 := sd hs 25 13; exact od rfl rfl (by kernel_rfl) hC (TSp.of rfl (Grows.refl _)) (by simp [go_sem, x0, x1, jj0, jj1, e1, e2, e3, e4] <;> rfl)
  case oE15 => intro ev wo hev hC hs hph; have x0 := se hA hs 0; exact od rfl rfl (by kernel_rfl) hC (TSp.of rfl (Grows.refl _)) (by simp [go_sem, x0, jj0, jj1, e1, e2, e3, e4] <;> rfl)
  case oE16 => intro ev wo hev hC hs hph; have x0 := se hA hs 6; exact od rfl rfl (by kernel_rfl) hC (TSp.of rfl (Grows.refl _)) (by simp [go_sem, x0, jj0, jj1, e1, e2, e3, e4] <;> rfl)
  case oE17 => intro ev wo hev hC hs hph; have x0 := sd hs 27 15; have x1 := sd hs 28 16; exact od rfl rfl (by kernel_rfl) hC (TSp.of rfl (Grows.refl _)) (by simp [go_sem, x0, x1, jj0, jj1, e1, e2, e3, e4] <;> rfl)
  case oE18 => intro ev wo hev hC hs hph; have x0 := sd hs 29 17; exact od rfl rfl (by kernel_rfl) hC (TSp.of rfl (Grows.refl _)) (by simp [go_sem, x0, jj0, jj1, e1, e2, e3, e4] <;> rfl)
  case oE19 => intro ev wo hev hC hs hph; have x0 := sd hs 30 18; exact od rfl rfl (by kernel_rfl) hC (TSp.of rfl (Grows.refl _)) (by simp [go_sem, x0, jj0, jj1, e1, e2, e3, e4] <;> rfl)
  case oE20 => intro ev wo hev hC hs hph; have x0 := sd hs 31 19; exact od rfl rfl (by kernel_rfl) hC (TSp.of rfl (Grows.refl _)) (by simp [go_sem, x0, pE _ hC, jj0, jj1, e1, e2, e3, e4] <;> rfl)
  case oE21 => intro ev wo hev hC hs hph; have x0 := sd hs 32 20; exact od rfl rfl (by kernel_rfl) hC (TSp.of rfl (Grows.refl _)) (by simp [go_sem, x0, jj0, jj1, e1, e2, e3, e4] <;> rfl)
  case oE22 => intro ev wo hev hC hs hph; have x0 := sd hs 26 14; have x1 := sd hs 33 21; exact od rfl rfl (by kernel_rfl) hC (TSp.of rfl (Grows.refl _)) (by simp [go_sem, x0, x1, jj0, jj1, e1, e2, e3, e4] <;> rfl)
  case oE23 => intro ev wo hev hC hs hph; have x0 := se hA hs 0; exact od rfl rfl (by kernel_rfl) hC (TSp.of rfl (Grows.refl _)) (by simp [go_sem, x0, jj0, jj1, e1, e2, e3, e4] <;> rfl)
  case oE24 => intro ev wo hev hC hs hph; have x0 := se hA hs 6; exact od rfl rfl (by kernel_rfl) hC (TSp.of rfl (Grows.refl _)) (by simp [go_sem, x0, jj0, jj1, e1, e2, e3, e4] <;> rfl)
  case oE25 => intro ev wo hev hC hs hph; have x0 := sd hs 35 23; have x1 := sd hs 36 24; exact od rfl rfl (by kernel_rfl) hC (TSp.of rfl (Grows.refl _)) (by simp [go_sem, x0, x1, jj0, jj1, e1, e2, e3, e4] <;> rfl)
  case oE26 => intro ev wo hev hC hs hph; have x0 := sd hs 37 25; exact od rfl rfl (by kernel_rfl) hC (TSp.of rfl (Grows.refl _)) (by simp [go_sem, x0, jj0, jj1, e1, e2, e3, e4] <;> rfl)
  case oE27 => intro ev wo hev hC hs hph; have x0 := sd hs 38 26; exact od rfl rfl (by kernel_rfl) hC (TSp.of rfl (Grows.refl _)) (by simp [go_sem, x0, pE _ hC, jj0, jj1, e1, e2, e3, e4] <;> rfl)
  case oE28 => intro ev wo hev hC hs hph; have x0 := sd hs 39 27; exact od rfl rfl (by kernel_rfl) hC (TSp.of rfl (Grows.refl _)) (by simp [go_sem, x0, jj0, jj1, e1, e2, e3, e4] <;> rfl)
  case oE29 => intro ev wo hev hC hs hph; have x0 := sd hs 34 22; have x1 := sd hs 40 28; exact od rfl rfl (by kernel_rfl) hC (TSp.of rfl (Grows.refl _)) (by simp [go_sem, x0, x1, jj0, jj1, e1, e2, e3, e4] <;> rfl)
  case oE30 => intro ev wo hev hC hs hph; have x0 := sd hs 41 29; exact od rfl rfl (by kernel_rfl) hC (TSp.of rfl (Grows.refl _)) (by simp [go_sem, x0, jj0, jj1, e1, e2, e3, e4] <;> rfl)
  intro sg wf hC hph
  intro a hA
  replace hA := hA.keepN [0, 1, 5, 6, 8, 9]
  refine nT ?_
  obtain ⟨y1, y2, y6, y7⟩ := pE _ hC
  rw [hsum] at hA
  refine wS (wR ?_)
  revert a; (iterate 4 refine wo rfl rfl (by decide) (fun ev e h => by simp [go_sem, h, y1, y2, jj0, jj1] <;> rfl) ?_); (iterate 2 refine wg _ rfl rfl rfl rfl (by decide) (fun hq ev e h => by simp [go_sem, h, ↓gw_t (beq_t hq), y1, y2, jj0, jj1] <;> rfl) ?_); refine wko rfl rfl (by decide) rfl rfl rfl ?_; refine wo rfl rfl (by decide) (fun ev e h => by simp [go_sem, h, y1, y2, jj0, jj1] <;> rfl) ?_; (iterate 2 refine wg _ rfl rfl rfl rfl (by decide) (fun hq ev e h => by simp [go_sem, h, ↓gw_t (beq_t hq), y1, y2, jj0, jj1] <;> rfl) ?_); intro a hA
  replace hA := hA.keepN [0, 1, 5, 6, 8, 9, 49, 50, 51]
  revert a; (iterate 5 refine wg _ rfl rfl rfl rfl (by decide) (fun hq ev e h => by simp [go_sem, h, ↓gw_t (beq_t hq), y1, y2, jj0, jj1] <;> rfl) ?_); refine wko rfl rfl (by decide) rfl rfl rfl ?_; refine wo rfl rfl (by decide) (fun ev e h => by simp [go_sem, h, y1, y2, jj0, jj1] <;> rfl) ?_; (iterate 3 refine wg _ rfl rfl rfl rfl (by decide) (fun hq ev e h => by simp [go_sem, h, ↓gw_t (beq_t hq), y1, y2, jj0, jj1] <;> rfl) ?_); intro a hA
  replace hA := hA.keepN [0, 1, 5, 8, 9, 58, 61]
  revert a; (iterate 4 refine wg _ rfl rfl rfl rfl (by decide) (fun hq ev e h => by simp [go_sem, h, ↓gw_t (beq_t hq), y1, y2, jj0, jj1] <;> rfl) ?_); refine wko rfl rfl (by decide) rfl rfl rfl ?_; intro a hA
  replace hA := hA.keepN [0, 1, 5, 8, 9, 66]
  refine wN (nT ?_)
  refine wp_if hA 66 _ rfl (fun hq2 => ?yB) (fun hq2 => ?nB)
  case yB =>
   refine wS (wR ?_)
   revert a; refine wo rfl rfl (by decide) (fun ev e h => by simp [go_sem, h, y1, y2, jj0, jj1] <;> rfl) ?_; intro a hA
   replace hA := hA.keepN [4]
   refine wN (nT (wp_ret (rB (rT (rT (rB (rT ?_)))))))
   refine ret_1 hA 4 rfl rfl ?_
   have hb : badO most j s x = true := by unfold badO; simp at hq2 ⊢; omega
   rw [hb, cond_true] at hall
   exact ⟨ret_bool hall.symm, hC⟩
  case nB =>
   refine wp_skip (nB (nT (wR ?_)))
   revert a; (iterate 2 refine wo rfl rfl (by decide) (fun ev e h => by simp [go_sem, h, hwj] <;> rfl) ?_); intro a hA
   replace hA := hA.keepN [0, 1, 5, 8, 9]
   refine wN (nT ?_)
   have hb : badO most j s x = false := by unfold badO; simp at hq2 ⊢; omega
   rw [hb, cond_false] at hall
   have hn6 : s + opN x ≤ 60000 := by unfold badO at hb; simp at hb; omega
   rw [show ((j : Int) + 1) = ((j + 1 : Nat) : Int) by omega] at hA
   exact ⟨f - 1, by omega, j + 1, _, by omega, hn6, hall, hC, hA⟩
end Go.Proofs.YtkljkbeahdipfaaGreatDoor
/-
  Walk: cubbylaw19.StoreNil.
-/
namespace Go.Proofs.YtkljkbeahdipfaaGreatDoor
open Go.RowKit Go.Maps
set_option linter.unusedSimpArgs false
set_option linter.unusedVariables false
set_option maxRecDepth 100000 in
set_option maxHeartbeats 8000000 in
theorem storeNil_any (o : OpV) (w : World) (he : EnvS w) (hsz : opN o ≤ 1000000000000000) :
 Calls Tryz.prog 8 #[.agg (opC o).toArray] w fun ev w' => ev = .returned (.bool true) ∧ Below w.heap.size w w' := by
 have hop := opC_len o
 obtain ⟨C, hC⟩ : ∃ C, C = opC o := ⟨_, rfl⟩
 unfold opC at hC
 obtain ⟨k, nm, dst, m, ua, uc, us, f, h, all⟩ := o
 unfold opC
 refine calls_at 64 Tryz.func8 rfl rfl (Nat.le_of_ble_eq_true rfl) ?_
 intro a hA; replace hA := hA.norm
 refine wS (wR ?_)
 refine wl_new hA rfl rfl (by decide) (fun ev h => by simp [go_sem, h.get 0 rfl]; try first | exact ⟨rfl, rfl⟩ | rfl) fun w0 a (K0 : Blk _ _ _ _) hz0 hb0 hA => ?_
 revert a; refine wo rfl rfl (by decide) (fun ev e h => by simp [go_sem, h, K0.cell] <;> rfl) ?_; intro a hA
 replace hA := hA.keepN [1]
 refine wN (nT (wS (wS (wR ?_))))
 refine wl_call hA rfl rfl (by decide) (fun ev h => exec_call Tryz.func25 (by kernel_rfl) rfl (h.f _) (by first | (simp only [mL, h.c] <;> rfl) | (simp [mL, h.c, K0.cell] <;> rfl))) (awake19_any _ (he.below hb0)) ?_
 rintro e w1 ⟨rfl, hb1⟩
 refine ⟨_, rfl, fun a hA => ?_⟩
 have HB1 := hb0.trans (hb1.mono hb0.size)
 have K1 := K0.below hb1 K0.lt
 revert a; (iterate 2 refine wo rfl rfl (by decide) (fun ev e h => by simp [go_sem, h, K1.cell] <;> rfl) ?_); refine wg _ rfl rfl rfl rfl (by decide) (fun hq ev e h => by simp [go_sem, h, ↓gw_t (beq_t hq), K1.cell] <;> rfl) ?_; intro a hA
 replace hA := hA.keepN [1, 12, 13]
 refine wl_gnew hA rfl rfl rfl rfl (by decide) (fun ev h => by simp [go_sem, h.get 13 rfl, K1.cell]; try first | exact ⟨rfl, rfl⟩ | rfl) fun w2 a (K2 : Blk _ _ _ _) hz2 hb2 hA => ?_
 have HB2 := HB1.trans (hb2.mono HB1.size)
 have hrow : Reads w2 w2.heap.size 11 (some ⟨w1.heap.size, 0, none⟩) 1 ([(⟨k, nm, dst, m, ua, uc, us, f, h, all⟩ : OpV)].flatMap opC) := by
  refine ⟨rfl, fun _ => ⟨⟨w1.heap.size, 0, none⟩, rfl, K2.lt, fun j u hu => ?_⟩⟩
  rw [add0, K2.cell]
  simpa [opC] using hu
 refine wl_kcall hA rfl rfl rfl rfl (by decide) (fun ev h => exec_call Tryz.func37 (by kernel_rfl) rfl (h.f _) (by first | (simp only [mL, h.get 14 rfl, h.c] <;> rfl) | (simp [mL, h.get 14 rfl, h.c, K1.cell] <;> rfl))) (fewO_any _ 1 1 1 [⟨k, nm, dst, m, ua, uc, us, f, h, all⟩] _ rfl (by omega) (by omega) hrow (fun o ho => by rw [List.mem_singleton.1 ho]; exact hsz)) ?_
 rintro e w3 ⟨rfl, hb3⟩
 refine ⟨_, rfl, fun a hA => ?_⟩
 have HB3 := HB2.trans (hb3.mono HB2.size)
 revert a; refine wg _ rfl rfl rfl rfl (by decide) (fun hq ev e h => by simp [go_sem, h, ↓gw_t (beq_t hq), K1.cell] <;> rfl) ?_; refine wko rfl rfl (by decide) rfl rfl rfl ?_; intro a hA
 replace hA := hA.keepN [1, 17]
 refine wN (nT ?_)
 refine wp_if hA 17 _ rfl (fun hq0 => ?yA) (fun hq0 => ?nA)
 case yA =>
  refine wS (wR ?_)
  refine wl_call hA rfl rfl (by decide) (fun ev h => exec_call Tryz.func25 (by kernel_rfl) rfl (h.f _) (by first | (simp only [mL, h.c] <;> rfl) | (simp [mL, h.c, K1.cell] <;> rfl))) (awake19_any _ (he.below HB3)) ?_
  rintro e w4 ⟨rfl, hb4⟩
  refine ⟨_, rfl, fun a hA => ?_⟩
  revert a; refine wo rfl rfl (by decide) (fun ev e h => by simp [go_sem, h, K1.cell] <;> rfl) ?_; intro a hA
  replace hA := hA.keepN [2]
  refine wN (nT (wp_ret (rT ?_)))
  refine ret_1 hA 2 rfl rfl ?_
  exact ⟨rfl, HB3.trans (hb4.mono HB3.size)⟩
 case nA =>
  have K3 := K1.below (hb2.trans (hb3.mono hb2.size)) K1.lt
  refine wp_skip (nT (wS (wR ?_)))
  revert a; refine wo rfl rfl (by decide) (fun ev e h => by simp [go_sem, h, K3.cell] <;> rfl) ?_; intro a hA
  replace hA := hA.keepN [1, 3]
  refine wN (nT (wS (wR ?_)))
  revert a; (iterate 2 refine wo rfl rfl (by decide) (fun ev e h => by simp [go_sem, h, K3.cell] <;> rfl) ?_); intro a hA
  refine wl_call hA rfl rfl (by decide) (fun ev h => exec_call Tryz.func40 (by kernel_rfl) rfl (h.f _) (by first | (simp only [mL, h.get 20 rfl, h.get 21 rfl, h.c] <;> rfl) | (simp [mL, h.get 20 rfl, h.get 21 rfl, h.c, K3.cell] <;> rfl))) (do0_any ⟨k, nm, dst, m, ua, uc, us, f, h, all⟩ _) ?_
  rintro e w4 ⟨rfl, hb4⟩
  refine ⟨_, rfl, fun a hA => ?_⟩
  have HB4 := HB3.trans (hb4.mono HB3.size)
  have K4 := K3.below hb4 K3.lt
  revert a; (iterate 5 refine wo rfl rfl (by decide) (fun ev e h => by simp [go_sem, h, K4.cell] <;> rfl) ?_); intro a hA
  replace hA := hA.keepN [1, 3, 4, 5]
  refine wN (nT (wS (wR ?_)))
  revert a; (iterate 3 refine wo rfl rfl (by decide) (fun ev e h => by simp [go_sem, h, K4.cell] <;> rfl) ?_); intro a hA
  refine wl_call hA rfl rfl (by decide) (fun ev h => exec_call Tryz.func35 (by kernel_rfl) rfl (h.f _) (by first | (simp only [mL, h.get 26 rfl, h.get 28 rfl, h.c] <;> rfl) | (simp [mL, h.get 26 rfl, h.get 28 rfl, h.c, K4.cell] <;> rfl))) (load0_any _ _) ?_
  rintro e w5 ⟨rfl, hb5⟩
  refine ⟨_, rfl, fun a hA => ?_⟩
  have HB5 := HB4.trans (hb5.mono HB4.size)
  have K5 := K4.below hb5 K4.lt
  revert a; (iterate 3 refine wo rfl rfl (by decide) (fun ev e h => by simp [go_sem, h, K4.cell] <;> rfl) ?_); intro a hA
  refine wl_local [.string ⟨#[]⟩, .int .u32 0, .int .u32 0, .slice none 0 0] hA rfl rfl (by decide) (fun ev h => by simp [go_sem, K4.cell]; try first | exact ⟨rfl, rfl⟩ | rfl) rfl rfl (by rfl) (fun w1 g ev hb h => by simp [go_sem, h.get 6 rfl, h.get 30 rfl, K4.cell, setAll, hb.cell, hb.frozen]) fun w6 a (K6 : Blk _ _ _ _) hz6 hb6 hA => ?_
  have HB6 := HB5.trans (hb6.mono HB5.size)
  replace K5 := K5.below hb6 K5.lt
  revert a; refine wo rfl rfl (by decide) (fun ev e h => by simp [go_sem, h, K4.cell] <;> rfl) ?_; intro a hA
  replace hA := hA.keepN [1, 3, 4, 5, 7]
  refine wN (nT (wS (wR ?_)))
  refine wl_call hA rfl rfl (by decide) (fun ev h => exec_call Tryz.func33 (by kernel_rfl) rfl (h.f _) (by first | (simp only [mL, h.c] <;> rfl) | (simp [mL, h.c, K4.cell] <;> rfl))) (open0_any _) ?_
  rintro e w7 ⟨rfl, hb7⟩
  refine ⟨_, rfl, fun a hA => ?_⟩
  have HB7 := HB6.trans (hb7.mono HB6.size)
  replace K5 := K5.below hb7 K5.lt
  revert a; (iterate 5 refine wo rfl rfl (by decide) (fun ev e h => by simp [go_sem, h, K4.cell] <;> rfl) ?_); intro a hA
  replace hA := hA.keepN [1, 3, 4, 5, 7, 9]
  refine wN (nT (wS (wR ?_)))
  revert a; (iterate 4 refine wo rfl rfl (by decide) (fun ev e h => by simp [go_sem, h, K4.cell] <;> rfl) ?_); (iterate 2 refine wg _ rfl rfl rfl rfl (by decide) (fun hq ev e h => by simp [go_sem, h, ↓gw_t (beq_t hq), K4.cell] <;> rfl) ?_); refine wka rfl rfl (by decide) rfl rfl rfl ?_; refine wo rfl rfl (by decide) (fun ev e h => by simp [go_sem, h, K4.cell] <;> rfl) ?_; (iterate 2 refine wg _ rfl rfl rfl rfl (by decide) (fun hq ev e h => by simp [go_sem, h, ↓gw_t (beq_t hq), K4.cell] <;> rfl) ?_); intro a hA
  replace hA := hA.keepN [1, 3, 9, 43, 45]
  revert a; refine wka rfl rfl (by decide) rfl rfl rfl ?_; refine wo rfl rfl (by decide) (fun ev e h => by simp [go_sem, h, K4.cell] <;> rfl) ?_; (iterate 2 refine wg _ rfl rfl rfl rfl (by decide) (fun hq ev e h => by simp [go_sem, h, ↓gw_t (beq_t hq), K4.cell] <;> rfl) ?_); refine wka rfl rfl (by decide) rfl rfl rfl ?_; refine wo rfl rfl (by decide) (fun ev e h => by simp [go_sem, h, K4.cell] <;> rfl) ?_; refine wg _ rfl rfl rfl rfl (by decide) (fun hq ev e h => by simp [go_sem, h, ↓gw_t (beq_t hq), K4.cell] <;> rfl) ?_; intro a hA
  refine wl_kcall hA rfl rfl rfl rfl (by decide) (fun ev h => exec_call Tryz.func45 (by kernel_rfl) rfl (h.f _) (by first | (simp only [mL, h.get 52 rfl, h.c] <;> rfl) | (simp [mL, h.get 52 rfl, h.c, K4.cell] <;> rfl))) (names0_any _) ?_
  rintro e w8 ⟨rfl, hb8⟩
  refine ⟨_, rfl, fun a hA => ?_⟩
  have HB8 := HB7.trans (hb8.mono HB7.size)
  replace K5 := K5.below hb8 K5.lt
  revert a; (iterate 2 refine wg _ rfl rfl rfl rfl (by decide) (fun hq ev e h => by simp [go_sem, h, ↓gw_t (beq_t hq), K5.cell] <;> rfl) ?_); refine wka rfl rfl (by decide) rfl rfl rfl ?_; intro a hA
  replace hA := hA.keepN [1, 3, 56]
  revert a; refine wo rfl rfl (by decide) (fun ev e h => by simp [go_sem, h, K5.cell] <;> rfl) ?_; (iterate 3 refine wg _ rfl rfl rfl rfl (by decide) (fun hq ev e h => by simp [go_sem, h, ↓gw_t (beq_t hq), K5.cell] <;> rfl) ?_); intro a hA
  refine wl_kcall hA rfl rfl rfl rfl (by decide) (fun ev h => exec_call Tryz.func46 (by kernel_rfl) rfl (h.f _) (by first | (simp only [mL, h.get 58 rfl, h.get 60 rfl, h.c] <;> rfl) | (simp [mL, h.get 58 rfl, h.get 60 rfl, h.c, K5.cell] <;> rfl))) (number0_any _ _) ?_
  rintro e w9 ⟨rfl, hb9⟩
  refine ⟨_, rfl, fun a hA => ?_⟩
  revert a; refine wg _ rfl rfl rfl rfl (by decide) (fun hq ev e h => by simp [go_sem, h, ↓gw_t (beq_t hq), K5.cell] <;> rfl) ?_; refine wka rfl rfl (by decide) rfl rfl rfl ?_; refine wo rfl rfl (by decide) (fun ev e h => by simp [go_sem, h, K5.cell] <;> rfl) ?_; intro a hA
  replace hA := hA.keepN [2]
  refine wN (nT (wp_ret ?_))
  refine ret_1 hA 2 rfl rfl ?_
  exact ⟨rfl, HB8.trans (hb9.mono HB8.size)⟩
end Go.Proofs.YtkljkbeahdipfaaGreatDoor
/-
  Arguments, opened by their types: numbers, texts, structs of one-cell fields, slices of what reads.
-/
namespace Go.Proofs.YtkljkbeahdipfaaGreatDoor
open Go.ChangeShapes Go.WideShapes Go.Deep Go.RowKit
theorem cell_lt' {w : World} {a : Addr} {v : Value} (h : w.cell? a = some v) : a.block < w.heap.size := by
 rcases Nat.lt_or_ge a.block w.heap.size with hlt | hge
 ·exact hlt
 ·unfold World.cell? at h
  simp [Array.getElem?_eq_none hge] at h
/-- cells that read at a type -/
def Fits {H : Type} (enc : TypeId × Value → H) (P : Program) (w : World) (t : TypeId) (cs : List Value) : Prop := ∃ base spare held fuel x, DataW.trod enc P w base spare held fuel t cs = some x
section
variable {H : Type} {enc : TypeId × Value → H} {P : Program} {w : World} {t e : TypeId} {cs : List Value}
theorem fits_int {k : IntKind} (h : Fits enc P w t cs) (ht : P.underlying t = some (.int k)) : ∃ n, cs = [.int k n] ∧ (Lit.int k n).wf = true := by
 obtain ⟨_, _, _, _, _, h⟩ := h
 obtain ⟨n, e, _, hw⟩ := DataW.trod_int ht h
 exact ⟨n, e, hw⟩
theorem fits_bool (h : Fits enc P w t cs) (ht : P.underlying t = some .bool) : ∃ b, cs = [.bool b] := by
 obtain ⟨_, _, _, _, _, h⟩ := h
 obtain ⟨s, e, _⟩ := DataW.trod_bool ht h
 exact ⟨s, e⟩
theorem rows_at (k : Nat) : ∀ (L : List (List Value)) (i j : Nat) (x : List Value), (∀ x ∈ L, x.length = k) → L[i]? = some x → j < k → L.flatten[i * k + j]? = x[j]?
 | y :: r, 0, j, x, hL, h, hj => by
   have e : y = x := by simpa using h
   subst e
   have := hL y List.mem_cons_self
   rw [List.flatten_cons, Nat.zero_mul, Nat.zero_add, List.getElem?_append_left (by omega)]
 | y :: r, i + 1, j, x, hL, h, hj => by
   have ih := rows_at k r i j x (fun z hz => hL z (List.mem_cons_of_mem _ hz)) (by simpa using h) hj
   have := hL y List.mem_cons_self
   have hm : k ≤ (i + 1) * k + j := by rw [Nat.succ_mul]; omega
   rw [List.flatten_cons, List.getElem?_append_right (by omega)]
   have e : (i + 1) * k + j - y.length = i * k + j := by rw [Nat.succ_mul]; omega
   rw [e]; exact ih
theorem rows_len (k : Nat) : ∀ (L : List (List Value)), (∀ x ∈ L, x.length = k) → L.flatten.length = L.length * k
 | [], _ => by simp
 | y :: r, h => by
   have := rows_len k r fun z hz => h z (List.mem_cons_of_mem _ hz)
   rw [List.flatten_cons, List.length_append, this, h y List.mem_cons_self, List.length_cons, Nat.succ_mul]; omega
theorem choose_list {M : Type} {f : M → List Value} {Q : M → Prop} : ∀ {L : List (List Value)}, (∀ x ∈ L, ∃ m, x = f m ∧ Q m) → ∃ l : List M, L = l.map f ∧ ∀ m ∈ l, Q m
 | [], _ => ⟨[], rfl, by simp⟩
 | x :: r, h => by
   obtain ⟨m, rfl, hm⟩ := h x List.mem_cons_self
   obtain ⟨l, rfl, hl⟩ := choose_list (L := r) fun y hy => h y (List.mem_cons_of_mem _ hy)
   exact ⟨m :: l, rfl, fun y hy => by
    rcases List.mem_cons.1 hy with e | e
    ·subst e; exact hm
    ·exact hl y e⟩
/-- all arguments stay behind a call that writes below nothing -/
theorem args_stay (hl : laidOutB P = true) {W W' : World} {sp : Nat → Bool} : ∀ {ts : List TypeId} {vs : List Value} {ds : List (DataW H)} {ps : List MemPlace}, (ts.all fun t => P.readableRec t && decide (t < P.types.size)) = true →
 DataW.TrodAll enc P W 0 (fun _ => true) true ts vs ds ps → (∀ x ∈ ps, W.sameAt W' x) → (∀ x ∈ ps, sp x.block = true) → DataW.TrodAll enc P W' 0 sp true ts vs ds ps
 | [], [], [], _, _, h, _, _ => h
 | _ :: _, _ :: _, _ :: _, _, ha, ⟨p, q, h1, h2, e⟩, hsame, hs => by
   rw [List.all_cons, Bool.and_eq_true, Bool.and_eq_true, decide_eq_true_eq] at ha
   subst e
   exact ⟨p, q, WideElems.Trod_stays hl ha.1.1 ha.1.2 h1 (fun x hx => hsame x (List.mem_append_left _ hx)) (fun x hx => hs x (List.mem_append_left _ hx)),
    args_stay hl ha.2 h2 (fun x hx => hsame x (List.mem_append_right _ hx)) (fun x hx => hs x (List.mem_append_right _ hx)), rfl⟩
end
end Go.Proofs.YtkljkbeahdipfaaGreatDoor
/-
  Arguments, opened by their types, with a bound on their sizes.
-/
namespace Go.Proofs.YtkljkbeahdipfaaGreatDoor
open Go.ChangeShapes Go.WideShapes Go.Deep Go.RowKit
/-- cells that read at a type; no part is longer than R -/
def FitsZ {H : Type} (R : Nat) (enc : TypeId × Value → H) (P : Program) (w : World) (t : TypeId) (cs : List Value) : Prop := ∃ base spare held fuel d ps, DataW.trod enc P w base spare held fuel t cs = some (d, ps) ∧ ∀ k ∈ d.weights P t, k ≤ R
section
variable {H : Type} {enc : TypeId × Value → H} {P : Program} {w : World} {t e : TypeId} {cs : List Value} {R : Nat}
theorem FitsZ.fits (h : FitsZ R enc P w t cs) : Fits enc P w t cs := by
 obtain ⟨b, s, hd, f, d, ps, h, _⟩ := h
 exact ⟨b, s, hd, f, _, h⟩
theorem mem_weightsAll {e : TypeId} {dd : DataW H} {k : Nat} : ∀ {l : List (DataW H)}, dd ∈ l → k ∈ dd.weights P e → k ∈ DataW.weightsAll P e l
 | y :: r, h, hk => by
   unfold DataW.weightsAll
   rw [List.mem_append]
   rcases List.mem_cons.1 h with rfl | h
   ·exact .inl hk
   ·exact .inr (mem_weightsAll h hk)
theorem fitsZ_string (h : FitsZ R enc P w t cs) (ht : P.underlying t = some .string) : ∃ s : ByteArray, cs = [.string s] ∧ s.size ≤ maxLen ∧ s.size ≤ R := by
 obtain ⟨_, _, _, _, d, ps, h, hz⟩ := h
 obtain ⟨s, e, hx, hw⟩ := DataW.trod_string ht h
 refine ⟨s, e, hw, hz _ ?_⟩
 rw [(Prod.mk.inj hx).1]
 show s.size ∈ [s.data.toList.length]
 rw [List.mem_singleton, Array.length_toList]; rfl
theorem fitsZ_fields {fs : Array Field} (h : FitsZ R enc P w t cs) (ht : P.underlying t = some (.struct fs)) (hone : oneCellFields P fs = true) (hC : P.cellsOf t = fs.size) : cs.length = fs.size ∧ ∀ (j : Nat) (f : Field) (c : Value), fs[j]? = some f → cs[j]? = some c → FitsZ R enc P w f.type [c] := by
 obtain ⟨base, spare, held, fuel, d, ps, h, hz⟩ := h
 obtain ⟨ys, n, _, hx, hl, hyl, hat⟩ := DataW.trod_struct ht h
 refine ⟨by rw [hl, hC], fun j f c hf hc => ?_⟩
 obtain ⟨ho, hk⟩ := hone_of hone j f hf
 have h1 := hat j f hf
 have hj := (Array.getElem?_eq_some_iff.1 hf).1
 rw [ho, hk] at h1
 have hd1 : (List.drop j cs).take 1 = [c] := by
  have hjl := (List.getElem?_eq_some_iff.1 hc).1
  rw [List.drop_eq_getElem_cons hjl, (List.getElem?_eq_some_iff.1 hc).2]
  rfl
 have hy : ys[j]? = some (ys[j]'(by omega)) := List.getElem?_eq_getElem (by omega)
 rw [hd1, hy] at h1
 refine ⟨base, spare, held, n, _, _, h1, fun k hk => hz k ?_⟩
 rw [(Prod.mk.inj hx).1]
 unfold DataW.weights
 rw [ht]
 refine DataW.weights_mem_each (j := j) (t := f.type) (d := (ys[j]'(by omega)).1) ?_ ?_ k hk
 ·rw [List.getElem?_map, Array.getElem?_toList, hf]; rfl
 ·rw [List.getElem?_map, hy]; rfl
theorem fitsZ_slice (h : FitsZ R enc P w t cs) (ht : P.underlying t = some (.slice e)) (hk : 0 < P.cellsOf e) (heb : 1 ≤ P.bytesOf e) :
 ∃ (A : Option Addr) (n c : Nat) (L : List (List Value)), cs = [.slice A n c] ∧ n ≤ c ∧ c ≤ maxLen ∧ n ≤ R ∧ L.length = n ∧ (∀ x ∈ L, x.length = P.cellsOf e ∧ FitsZ R enc P w e x) ∧ Reads w w.heap.size (P.cellsOf e) A n L.flatten := by
 obtain ⟨base, spare, held, fuel, d, ps, hf, hz⟩ := h
 rcases open_slice ht hf with ⟨hcs, _⟩ | ⟨a, len, cap, m, n0, D, Pl, hcs, _, hl, hm, hmm, hdx, hx⟩
 ·exact ⟨none, 0, 0, [], hcs, Nat.le_refl _, Nat.zero_le _, Nat.zero_le _, rfl, fun x hx => (by cases hx), by simp, fun hn => absurd hn (by simp)⟩
 ·have hml : len ≤ m := by rw [hmm]; split <;> omega
  have hdw : d = .slice ((List.range len).map D) ((List.range (m - len)).map fun j => D (len + j)) := congrArg Prod.fst hdx
  have hall : ∀ n, n ≤ len → ∃ L : List (List Value), L.length = n ∧ (∀ x ∈ L, x.length = P.cellsOf e ∧ FitsZ R enc P w e x) ∧ ∀ i x, L[i]? = some x → ∀ j u, x[j]? = some u → w.cell? (a.add (i * P.cellsOf e + j)) = some u := by
   intro n
   induction n with
   | zero => intro _; exact ⟨[], rfl, by simp, by simp⟩
   | succ n ih =>
     intro hnl
     obtain ⟨L, hl1, hl2, hl3⟩ := ih (by omega)
     obtain ⟨cs', hcc, htr⟩ := hx n (by omega)
     obtain ⟨_, hlen, hat⟩ := World.cells?_some hcc
     refine ⟨L ++ [cs'], by simp [hl1], ?_, ?_⟩
     ·intro y hy
      rcases List.mem_append.1 hy with h | h
      ·exact hl2 y h
      ·rw [List.mem_singleton] at h
       subst h
       refine ⟨hlen, base, spare, held, n0, _, _, htr, fun k hk' => hz k ?_⟩
       rw [hdw]
       unfold DataW.weights
       rw [ht]
       simp only [List.mem_cons, List.mem_append]
       exact .inr (.inl (mem_weightsAll (List.mem_map.2 ⟨n, List.mem_range.2 (by omega), rfl⟩) hk'))
     ·intro i y hi' j u hj
      rcases Nat.lt_or_ge i L.length with h | h
      ·rw [List.getElem?_append_left h] at hi'; exact hl3 i y hi' j u hj
      ·rw [List.getElem?_append_right h] at hi'
       have h0 : i - L.length = 0 := by
        rcases Nat.eq_zero_or_pos (i - L.length) with h' | h'
        ·exact h'
        ·rw [List.getElem?_eq_none (by simp; omega)] at hi'; cases hi'
       rw [h0] at hi'
       have hy : cs' = y := by simpa using hi'
       subst hy
       obtain rfl : i = n := by omega
       have hj2 : j < P.cellsOf e := by
        have := (List.getElem?_eq_some_iff.1 hj).1
        omega
       have := hat j hj2
       rw [hj, Go.Deep.add_add] at this
       exact this
  obtain ⟨L, hL1, hL2, hL3⟩ := hall len (Nat.le_refl _)
  refine ⟨some a, len, cap, L, hcs, hl, hm, ?_, hL1, hL2, ?_, fun hn => ⟨a, rfl, ?_, ?_⟩⟩
  ·have hq := hz ((len + (m - len)) * P.bytesOf e) (by rw [hdw]; simp [DataW.weights, ht])
   have e2 : (len + (m - len)) * 1 ≤ (len + (m - len)) * P.bytesOf e := Nat.mul_le_mul_left _ heb
   omega
  ·rw [rows_len _ L fun x hx => (hL2 x hx).1, hL1]
  ·obtain ⟨x, hx0⟩ : ∃ x, L[0]? = some x := ⟨_, List.getElem?_eq_getElem (by omega)⟩
   have hxl := (hL2 x (List.mem_of_getElem? hx0)).1
   obtain ⟨u, hu⟩ : ∃ u, x[0]? = some u := ⟨_, List.getElem?_eq_getElem (by omega)⟩
   have := cell_lt' (hL3 0 x hx0 0 u hu)
   rwa [block_of_add] at this
  ·intro j u hj
   have hjl := (List.getElem?_eq_some_iff.1 hj).1
   rw [rows_len _ L fun x hx => (hL2 x hx).1] at hjl
   have hq : j / P.cellsOf e < L.length := Nat.div_lt_of_lt_mul (by rw [Nat.mul_comm]; exact hjl)
   have he2 : j / P.cellsOf e * P.cellsOf e + j % P.cellsOf e = j := by rw [Nat.mul_comm]; exact Nat.div_add_mod j _
   have hp := rows_at (P.cellsOf e) L (j / P.cellsOf e) (j % P.cellsOf e) _ (fun x hx => (hL2 x hx).1) (List.getElem?_eq_getElem hq) (Nat.mod_lt _ hk)
   rw [he2, hj] at hp
   have := hL3 _ _ (List.getElem?_eq_getElem hq) _ u hp.symm
   rw [he2] at this
   exact this
theorem sized_at {ts : List TypeId} {ds : List (DataW H)} (h : (DataW.weightsEach P ts ds).all (· ≤ reachBytes) = true) {j : Nat} {t : TypeId} {d : DataW H} (ht : ts[j]? = some t) (hd : ds[j]? = some d) : ∀ k ∈ d.weights P t, k ≤ 140737488355328 := by
 intro k hk
 have := List.all_eq_true.1 h _ (DataW.weights_mem_each ht hd k hk)
 have h2 : reachBytes < 2 ^ 47 := reachBytes_lt
 simp only [decide_eq_true_eq] at this
 omega
theorem fitsZ_top {base0 : Nat} {spare : Nat → Bool} {held : Bool} {v : Value} {d : DataW H} {ps : List MemPlace} (h : DataW.Trod enc P w base0 spare held t v d ps) (hz : ∀ k ∈ d.weights P t, k ≤ R) : FitsZ R enc P w t v.cells.toList := by
 obtain ⟨fuel, hf⟩ := h
 exact ⟨_, _, _, fuel, _, _, hf, hz⟩
theorem fitsZ_struct {base0 : Nat} {spare : Nat → Bool} {held : Bool} {r : Reach} {b0 : Nat} {fs : Array Field} {v : Value} {d : DataW H} {ps : List MemPlace} (hv : Value.okWide P w r b0 t v) (ht : P.underlying t = some (.struct fs)) (h : DataW.Trod enc P w base0 spare held t v d ps) (hz : ∀ k ∈ d.weights P t, k ≤ R) : ∃ cs : Array Value, v = .agg cs ∧ FitsZ R enc P w t cs.toList := by
 obtain ⟨cs, rfl, _⟩ := okWide_struct ht hv
 exact ⟨cs, rfl, fitsZ_top h hz⟩
end
end Go.Proofs.YtkljkbeahdipfaaGreatDoor
/-
  Arguments that are messages, mailboxes, numbers, opened.
-/
namespace Go.Proofs.YtkljkbeahdipfaaGreatDoor
open Go.RowKit
theorem u32_range {n : Int} (h : (Lit.int .u32 n).wf = true) : ∃ k : Nat, n = (k : Nat) ∧ k < 4294967296 := by
 simp [Lit.wf, IntKind.min, IntKind.max, IntKind.signed, IntKind.bits] at h
 exact ⟨n.toNat, by omega, by omega⟩
theorem u8_range {n : Int} (h : (Lit.int .u8 n).wf = true) : ∃ k : UInt8, n = (k.toNat : Nat) := by
 simp [Lit.wf, IntKind.min, IntKind.max, IntKind.signed, IntKind.bits] at h
 refine ⟨UInt8.ofNat n.toNat, ?_⟩
 rw [UInt8.toNat_ofNat']
 omega
theorem i64_range {n : Int} (h : (Lit.int .i64 n).wf = true) : -9223372036854775808 ≤ n ∧ n ≤ 9223372036854775807 := by
 simp [Lit.wf, IntKind.min, IntKind.max, IntKind.signed, IntKind.bits] at h
 omega
theorem flat_one {M : Type} (f : M → Value) (l : List M) : (l.map fun x => [f x]).flatten = l.map f := by
 induction l with
 | nil => rfl
 | cons x r ih => rw [List.map_cons, List.flatten_cons, ih]; rfl
theorem list1 {α : Type} {x : List α} (h : x.length = 1) : ∃ a, x = [a] := by
 match x, h with
 | [a], _ => exact ⟨a, rfl⟩
theorem list4 {α : Type} {x : List α} (h : x.length = 4) : ∃ a b c d, x = [a, b, c, d] := by
 match x, h with
 | [a, b, c, d], _ => exact ⟨a, b, c, d, rfl⟩
/-- numbers of four bytes -/
def u32s (l : List Nat) : List Value := l.map fun n => .int .u32 (n : Nat)
section
variable {H : Type} {enc : TypeId × Value → H} {w : World} {R : Nat}
theorem open_bytesZ {c1 : Value} (h : FitsZ R enc Tryz.prog w 22 [c1]) : ∃ (A : Option Addr) (c : Nat) (l : List UInt8), c1 = .slice A l.length c ∧ l.length ≤ c ∧ c ≤ maxLen ∧ l.length ≤ R ∧ Reads w w.heap.size 1 A l.length (u8s l) := by
 have hk : Tryz.prog.cellsOf 5 = 1 := by kernel_rfl
 obtain ⟨A, n, c, L, hcs, hn, hc, hR, hl, hL, hr⟩ := fitsZ_slice h Tryz.underlying22 (by rw [hk]; omega) (Nat.le_of_ble_eq_true (by kernel_rfl))
 rw [hk] at hr
 obtain ⟨l, rfl, _⟩ := choose_list (f := fun b : UInt8 => [.int .u8 ((b.toNat : Nat) : Int)]) (Q := fun _ => True) fun x hx => by
  obtain ⟨hx1, hx2⟩ := hL x hx
  rw [hk] at hx1
  obtain ⟨a, rfl⟩ := list1 hx1
  obtain ⟨u, e0, hu⟩ := fits_int hx2.fits Tryz.underlying5
  obtain ⟨k, rfl⟩ := u8_range hu
  exact ⟨k, e0, trivial⟩
 rw [List.length_map] at hl
 rw [flat_one (fun b : UInt8 => .int .u8 ((b.toNat : Nat) : Int))] at hr
 subst hl
 simp only [List.cons.injEq, and_true] at hcs
 exact ⟨A, c, l, hcs, hn, hc, hR, hr⟩
theorem open_u32sZ {c1 : Value} (h : FitsZ R enc Tryz.prog w 70 [c1]) : ∃ (A : Option Addr) (c : Nat) (l : List Nat), c1 = .slice A l.length c ∧ l.length ≤ c ∧ c ≤ maxLen ∧ l.length ≤ R ∧ (∀ n ∈ l, n < 4294967296) ∧ Reads w w.heap.size 1 A l.length (u32s l) := by
 have hk : Tryz.prog.cellsOf 38 = 1 := by kernel_rfl
 obtain ⟨A, n, c, L, hcs, hn, hc, hR, hl, hL, hr⟩ := fitsZ_slice h Tryz.underlying70 (by rw [hk]; omega) (Nat.le_of_ble_eq_true (by kernel_rfl))
 rw [hk] at hr
 obtain ⟨l, rfl, hq⟩ := choose_list (f := fun b : Nat => [.int .u32 (b : Int)]) (Q := fun n => n < 4294967296) fun x hx => by
  obtain ⟨hx1, hx2⟩ := hL x hx
  rw [hk] at hx1
  obtain ⟨a, rfl⟩ := list1 hx1
  obtain ⟨u, e0, hu⟩ := fits_int hx2.fits Tryz.underlying38
  obtain ⟨k, rfl, hk⟩ := u32_range hu
  exact ⟨k, e0, hk⟩
 rw [List.length_map] at hl
 rw [flat_one (fun b : Nat => .int .u32 (b : Int))] at hr
 subst hl
 simp only [List.cons.injEq, and_true] at hcs
 exact ⟨A, c, l, hcs, hn, hc, hR, hq, hr⟩
/-- a message whose octets read -/
structure MsgOk (R : Nat) (w : World) (m : MsgV) : Prop where
 octs : Reads w w.heap.size 1 m.a m.b.length (u8s m.b)
 uid : m.uid < 4294967296
 cap : m.b.length ≤ m.c ∧ m.c ≤ 9223372036854775807
 size : m.b.length ≤ R
 date : -9223372036854775808 ≤ m.date ∧ m.date ≤ 9223372036854775807
 flags : -9223372036854775808 ≤ m.flags ∧ m.flags ≤ 9223372036854775807
theorem open_msgZ {x : List Value} (h : FitsZ R enc Tryz.prog w 74 x) : ∃ m : MsgV, x = msgC m ∧ MsgOk R w m := by
 obtain ⟨hx3, hx4⟩ := fitsZ_fields h Tryz.underlying74 (by kernel_rfl) (by kernel_rfl)
 obtain ⟨a0, a1, a2, a3, rfl⟩ := list4 hx3
 obtain ⟨u, e0, hu⟩ := fits_int (hx4 0 _ a0 rfl rfl).fits Tryz.underlying38
 obtain ⟨d, e1, hd⟩ := fits_int (hx4 1 _ a1 rfl rfl).fits Tryz.underlying2
 obtain ⟨f, e2, hf⟩ := fits_int (hx4 2 _ a2 rfl rfl).fits Tryz.underlying3
 obtain ⟨k, rfl, hk⟩ := u32_range hu
 obtain ⟨A, c, l, rfl, h1, h2, h3, h4⟩ := open_bytesZ (hx4 3 _ a3 rfl rfl)
 simp only [List.cons.injEq, and_true] at e0 e1 e2
 subst e0 e1 e2
 exact ⟨⟨k, d, f, A, c, l⟩, rfl, h4, hk, ⟨h1, by unfold maxLen at h2; exact h2⟩, h3, i64_range hd, i64_range hf⟩
end
end Go.Proofs.YtkljkbeahdipfaaGreatDoor
/-
  Arguments, opened: numbers, truths, bytes.
-/
namespace Go.Proofs.YtkljkbeahdipfaaGreatDoor
open Go.RowKit Go.ChangeShapes Go.WideShapes
section
variable {H : Type} {enc : TypeId × Value → H} {w : World} {R : Nat}
theorem fitsZ_part {t : TypeId} {cs : List Value} {fs : Array Field} (h : FitsZ R enc Tryz.prog w t cs) (ht : Tryz.prog.underlying t = some (.struct fs)) : cs.length = Tryz.prog.cellsOf t ∧ ∀ (j : Nat) (f : Field), fs[j]? = some f → FitsZ R enc Tryz.prog w f.type ((cs.drop f.offset).take (Tryz.prog.cellsOf f.type)) := by
 obtain ⟨base, spare, held, fuel, d, ps, h, hz⟩ := h
 obtain ⟨ys, n, _, hx, hl, hyl, hat⟩ := DataW.trod_struct ht h
 refine ⟨hl, fun j f hf => ?_⟩
 have h1 := hat j f hf
 have hj := (Array.getElem?_eq_some_iff.1 hf).1
 have hy : ys[j]? = some (ys[j]'(by omega)) := List.getElem?_eq_getElem (by omega)
 rw [hy] at h1
 refine ⟨base, spare, held, n, _, _, h1, fun k hk => hz k ?_⟩
 rw [(Prod.mk.inj hx).1]
 unfold DataW.weights
 rw [ht]
 refine DataW.weights_mem_each (j := j) (t := f.type) (d := (ys[j]'(by omega)).1) ?_ ?_ k hk
 ·rw [List.getElem?_map, Array.getElem?_toList, hf]; rfl
 ·rw [List.getElem?_map, hy]; rfl
end
section
variable {H : Type} {enc : TypeId × Value → H} {W : World} {base0 b0 : Nat} {spare : Nat → Bool} {held : Bool} {r : Reach} {R : Nat}
end
end Go.Proofs.YtkljkbeahdipfaaGreatDoor
/-
  The argument of the store's laws: an op, opened.
-/
namespace Go.Proofs.YtkljkbeahdipfaaGreatDoor
open Go.RowKit Go.ChangeShapes Go.WideShapes
theorem list11 {α : Type} {x : List α} (h : x.length = 11) : ∃ a b c d e f g i j k l, x = [a, b, c, d, e, f, g, i, j, k, l] := by
 match x, h with
 | [a, b, c, d, e, f, g, i, j, k, l], _ => exact ⟨a, b, c, d, e, f, g, i, j, k, l, rfl⟩
section
variable {H : Type} {enc : TypeId × Value → H} {w : World} {R : Nat}
structure OpOk (R : Nat) (w : World) (o : OpV) : Prop where
 k : o.k < 256
 nm : o.nm.size ≤ maxLen ∧ o.nm.size ≤ R
 dst : o.dst.size ≤ maxLen ∧ o.dst.size ≤ R
 msg : MsgOk R w o.m
 uids : o.us.length ≤ o.uc ∧ o.uc ≤ maxLen ∧ o.us.length ≤ R ∧ (∀ n ∈ o.us, n < 4294967296) ∧ Reads w w.heap.size 1 o.ua o.us.length (u32s o.us)
 f : -9223372036854775808 ≤ o.f ∧ o.f ≤ 9223372036854775807
 h : -9223372036854775808 ≤ o.h ∧ o.h ≤ 9223372036854775807
set_option maxRecDepth 100000 in
theorem open_opZ {x : List Value} (h : FitsZ R enc Tryz.prog w 76 x) : ∃ o : OpV, x = opC o ∧ OpOk R w o := by
 obtain ⟨hl, hx⟩ := fitsZ_part h Tryz.underlying76
 rw [show Tryz.prog.cellsOf 76 = 11 by kernel_rfl] at hl
 obtain ⟨a0, a1, a2, a3, a4, a5, a6, a7, a8, a9, a10, rfl⟩ := list11 hl
 have c0 : FitsZ R enc Tryz.prog w 5 [a0] := hx 0 _ rfl
 have c1 : FitsZ R enc Tryz.prog w 9 [a1] := hx 1 _ rfl
 have c2 : FitsZ R enc Tryz.prog w 9 [a2] := hx 2 _ rfl
 have h4 : Tryz.prog.cellsOf 74 = 4 := by kernel_rfl
 have c3 : FitsZ R enc Tryz.prog w 74 (List.take (Tryz.prog.cellsOf 74) (List.drop 3 [a0, a1, a2, a3, a4, a5, a6, a7, a8, a9, a10])) := hx 3 _ rfl
 rw [h4] at c3
 replace c3 : FitsZ R enc Tryz.prog w 74 [a3, a4, a5, a6] := c3
 have c4 : FitsZ R enc Tryz.prog w 70 [a7] := hx 4 _ rfl
 have c5 : FitsZ R enc Tryz.prog w 3 [a8] := hx 5 _ rfl
 have c6 : FitsZ R enc Tryz.prog w 3 [a9] := hx 6 _ rfl
 have c7 : FitsZ R enc Tryz.prog w 4 [a10] := hx 7 _ rfl
 obtain ⟨k, e0, hk⟩ := fits_int c0.fits Tryz.underlying5
 obtain ⟨s1, e1, h1, h1R⟩ := fitsZ_string c1 Tryz.underlying9
 obtain ⟨s2, e2, h2, h2R⟩ := fitsZ_string c2 Tryz.underlying9
 obtain ⟨m, e3, hm⟩ := open_msgZ c3
 obtain ⟨A, c, l, rfl, hu⟩ := open_u32sZ c4
 obtain ⟨f, e5, hf⟩ := fits_int c5.fits Tryz.underlying3
 obtain ⟨g, e6, hg⟩ := fits_int c6.fits Tryz.underlying3
 obtain ⟨b, e7⟩ := fits_bool c7.fits Tryz.underlying4
 obtain ⟨q, rfl⟩ := u8_range hk
 simp only [List.cons.injEq, and_true] at e0 e1 e2 e5 e6 e7
 subst e0 e1 e2 e5 e6 e7
 unfold msgC at e3
 simp only [List.cons.injEq, and_true] at e3
 obtain ⟨rfl, rfl, rfl, rfl⟩ := e3
 exact ⟨⟨q.toNat, s1, s2, m, A, c, l, f, g, b⟩, rfl, ⟨q.toNat_lt, ⟨h1, h1R⟩, ⟨h2, h2R⟩, hm, hu, i64_range hf, i64_range hg⟩⟩
end
section
variable {H : Type} {enc : TypeId × Value → H} {W : World} {base0 b0 : Nat} {spare : Nat → Bool} {held : Bool} {r : Reach} {R : Nat}
set_option maxRecDepth 100000 in
theorem op_arg {v : Value} {d : DataW H} {ps : List MemPlace} (hv : Value.okWide Tryz.prog W r b0 76 v) (h : DataW.Trod enc Tryz.prog W base0 spare held 76 v d ps) (hz : ∀ k ∈ d.weights Tryz.prog 76, k ≤ R) :
 ∃ o : OpV, v = .agg (opC o).toArray ∧ OpOk R W o := by
 obtain ⟨cs, rfl, hf⟩ := fitsZ_struct hv Tryz.underlying76 h hz
 obtain ⟨o, hx, ho⟩ := open_opZ hf
 exact ⟨o, by congr 1; exact Array.ext' hx, ho⟩
end
end Go.Proofs.YtkljkbeahdipfaaGreatDoor
/-
  What a row says of the first world: what the walks of the store need (turned from FineMet).
-/
namespace Go.Proofs.YtkljkbeahdipfaaGreatDoor
open Go.RowKit
theorem tabF_met {l : List (String × DataW Unit)} {W : World} (h : laidMetH Tryz.prog l W) (hl : l.filter (fun x => x.1 == "internal/strconv.uint64pow10") = [("internal/strconv.uint64pow10", Lib.tabData .u64 Lib.pow10Tab)]) :
 Lib.TabIs Tryz.prog W "internal/strconv.uint64pow10" .u64 Lib.pow10Tab := by
 have h1 := laidMetH.filter (fun x => x.1 == "internal/strconv.uint64pow10") h
 rw [hl, MakeChecks.laidMetH_plain _ _ _ (by kernel_rfl)] at h1
 exact Lib.tabIs_of_head (g := 1) (t := 363) (e := 175) (n := 20) (by kernel_rfl) (by kernel_rfl) Tryz.underlying363 Tryz.underlying175 (by kernel_rfl) (by kernel_rfl) h1
theorem star_eq : "*" ++ "errors.errorString" = "*errors.errorString" := by decide
theorem err_row (u : TypeId) (h : Tryz.prog.typeName? 3 u = some "*errors.errorString") : u = 391 :=
 typeName_ptr_named (nm := "errors.errorString") (by rw [star_eq]; kernel_rfl) (by kernel_rfl) (by decide) u (by rw [star_eq]; exact h)
theorem err_met {l : List (String × DataW Unit)} {W : World} (n : String) (text : List UInt8) (g : Nat) (h : laidMetH Tryz.prog l W) (hl : l.filter (fun x => x.1 == n) = [(n, .iface "*errors.errorString" (.ptr (.agg [.lit (.string text)])))])
 (hp : ([(n, (.iface "*errors.errorString" (.ptr (.agg [.lit (.string text)])) : DataW Unit))].all fun x => x.2.handleName?.isNone) = true)
 (hg : Tryz.prog.globalNamed n = some g) (ht : (Tryz.prog.globals[g]?).map (·.type) = some 270) : ∃ ev, W.cell? ⟨g, 0, none⟩ = some ev ∧ (ev = .nilIface ∨ ∃ te pe, ev = .iface te pe) := by
 have h1 := laidMetH.filter (fun x => x.1 == n) h
 rw [hl, MakeChecks.laidMetH_plain _ _ _ hp] at h1
 obtain ⟨a, s, hv, _⟩ := laid_sentinel h1 hg ht Tryz.underlying270 err_row Tryz.underlying391 Tryz.underlying393 rfl rfl Tryz.underlying9 (by kernel_rfl) (by kernel_rfl)
 exact ⟨_, by simpa using World.var?_cell hg hv 0, .inr ⟨_, _, rfl⟩⟩
theorem env_met {l : List (String × DataW Unit)} {W : World} (h : laidMetH Tryz.prog l W) (hsh : W.ShapedOpen Tryz.prog)
 (hl : l.filter (fun x => x.1 == "internal/strconv.uint64pow10") = [("internal/strconv.uint64pow10", Lib.tabData .u64 Lib.pow10Tab)])
 (h5 : l.filter (fun x => x.1 == "strconv.ErrSyntax") = [("strconv.ErrSyntax", .iface "*errors.errorString" (.ptr (.agg [.lit (.string [105, 110, 118, 97, 108, 105, 100, 32, 115, 121, 110, 116, 97, 120])])))])
 (h6 : l.filter (fun x => x.1 == "strconv.ErrRange") = [("strconv.ErrRange", .iface "*errors.errorString" (.ptr (.agg [.lit (.string [118, 97, 108, 117, 101, 32, 111, 117, 116, 32, 111, 102, 32, 114, 97, 110, 103, 101])])))]) : EnvS W := by
 have e6 := err_met "strconv.ErrRange" _ 4 h h6 rfl (by kernel_rfl) (by kernel_rfl)
 have e5 := err_met "strconv.ErrSyntax" _ 3 h h5 rfl (by kernel_rfl) (by kernel_rfl)
 obtain ⟨mx, hm⟩ := Go.Proofs.cell_of_shapedOpen_int (zero := #[.int .i64 0]) (t := 3) (g := 0) hsh (of_decide_eq_true (by kernel_rfl)) (by kernel_rfl) rfl (by kernel_rfl) (by kernel_rfl) Tryz.underlying3
 have q5 := e5
 have q6 := e6
 obtain ⟨v5, hc5, _⟩ := q5
 obtain ⟨v6, hc6, _⟩ := q6
 exact ⟨tabF_met h hl, ⟨mx, hm⟩, e5, e6, block_lt_of_cell hc6, block_lt_of_cell hc5, block_lt_of_cell hm⟩
end Go.Proofs.YtkljkbeahdipfaaGreatDoor
/-
  A nil store has nothing, and does nothing: cubbylaw19.StoreNil answers true, for every op.
-/
namespace Go.Proofs.YtkljkbeahdipfaaGreatDoor.StoreNil
open Go.RowKit Go.ChangeShapes Go.WideShapes Go.ChangeAt
open Go.ChangeMaps (open_string shut_string)
set_option linter.unusedVariables false
theorem own : ownKnob Tryz.prog.godebug = none := by kernel_rfl
set_option maxRecDepth 100000 in
theorem contract (H : Type) (enc : TypeId × Value → H) (W : World) (base : Nat) (args : Array Value) (ds gs : List (DataW H)) (before : List MemPlace)
 (hval : ∀ (j : Nat) t v, Tryz.f8.params[j]? = some t → args[j]? = some v → Value.okWide Tryz.prog W .any base t v)
 (hW : DataW.Whole enc Tryz.prog Tryz.f8.params.toList Rows.storeNilSpec.vars false W args.toList ds gs before) (hz : (DataW.weightsEach Tryz.prog (Tryz.f8.params.toList ++ (OpenSpec.ofChange Rows.storeNilSpec).bare.plain.varTypes Tryz.prog) (ds ++ gs)).all (· ≤ reachBytes) = true) (hL : laidMetH Tryz.prog Rows.storeNilRow.laid W) (hsh : W.ShapedOpen Tryz.prog) :
 Calls Tryz.prog 8 args W fun e W' => ∃ v, e = .returned v ∧ Rows.storeNilSpec.post enc Tryz.prog Tryz.f8 false true false false W args v W' := by
 have hW' := hW
 obtain ⟨p, q, hA0, hV, rfl, hfz, hnd⟩ := hW
 have hA : DataW.TrodAll enc Tryz.prog W 0 (fun _ => true) true Tryz.f8.params.toList args.toList ds p := hA0
 rw [Tryz.params8] at hA hval
 have hAk := hA
 obtain ⟨v0, d0, rfl, rfl, g0⟩ := trodAll_one hA
 obtain ⟨rfl, rfl⟩ := trodVars_none hV
 obtain ⟨o, rfl, ho⟩ := op_arg (hval 0 76 v0 rfl rfl) g0 (sized_at hz (j := 0) (t := 76) (by kernel_rfl) rfl)
 have hw : EnvS W := env_met hL hsh (by kernel_rfl) (by kernel_rfl) (by kernel_rfl)
 clear hA0
 refine (storeNil_any o W hw (by have h1 := ho.nm.2; have h2 := ho.dst.2; have h3 := ho.msg.size; have h4 := ho.uids.2.2.1; unfold opN; omega)).mono fun e W' ⟨he, hb⟩ => ?_
 subst he
 exact ⟨_, rfl, post_of_below (pv := []) hW' (fun _ _ _ => trodAll_mk1 (shut_bool Tryz.underlying4 _)) (fun sp hsp => args_stay (by kernel_rfl) (by kernel_rfl) hAk (fun x hx => hb.same (by simpa using hW'.lt x (List.mem_append_left _ hx))) (fun x hx => hsp x (List.mem_append_left _ hx))) (fun _ _ => rfl) rfl
  hb (ok_one (by kernel_rfl) rfl (okWide_bool_mk Tryz.underlying4 _))⟩
set_option maxRecDepth 100000 in
theorem reads (os : Os) {H : Type} (enc : TypeId × Value → H) : ∃ places, DataW.whole enc Tryz.prog ((World.laidAll Tryz.prog os Rows.storeNilRow.laid).forCall (fun _ _ => 0) ⟨#[], #[.agg #[.int .u8 0, .string ⟨#[]⟩, .string ⟨#[]⟩, .int .u32 0, .int .i64 0, .int .i64 0, .slice none 0 0, .slice none 0 0, .int .i64 0, .int .i64 0, .bool false]], []⟩).memory Tryz.f8.params.toList Rows.storeNilSpec.vars false #[Value.agg #[.int .u8 0, .string ⟨#[]⟩, .string ⟨#[]⟩, .int .u32 0, .int .i64 0, .int .i64 0, .slice none 0 0, .slice none 0 0, .int .i64 0, .int .i64 0, .bool false]].toList 8 = some ([.agg [.lit (.int .u8 0), .lit (.string []), .lit (.string []), .agg [.lit (.int .u32 0), .lit (.int .i64 0), .lit (.int .i64 0), .nil], .nil, .lit (.int .i64 0), .lit (.int .i64 0), .lit (.bool false)]], [], places) :=
 ⟨[], by kernel_rfl⟩
set_option maxRecDepth 100000 in
theorem lifted (os : Os) (started : os.Started) (H : Type) (enc : TypeId × Value → H) (F : Stop.Interp) :
 ReturnsInHanded {} Tryz.checked os 8 .any ((OpenSpec.ofChange Rows.storeNilSpec).preRow enc Tryz.prog Tryz.f8 Rows.storeNilRow.domain false Rows.storeNilRow.laid) (((OpenSpec.ofChange Rows.storeNilSpec).at F).post enc Tryz.prog Tryz.f8 false true false false) := by
 obtain ⟨places, hx⟩ := reads os enc
 refine returnsInHanded_of_row (C := Tryz.checked) (s := OpenSpec.ofChange Rows.storeNilSpec) own started (by kernel_rfl) Tryz.func8
  (witness_row_shaped (enc := enc) (C := Tryz.checked) false (World.laidAll Tryz.prog os Rows.storeNilRow.laid) #[.agg #[.int .u8 0, .string ⟨#[]⟩, .string ⟨#[]⟩, .int .u32 0, .int .i64 0, .int .i64 0, .slice none 0 0, .slice none 0 0, .int .i64 0, .int .i64 0, .bool false]] (World.laidAll_os _ _ _) (World.shaped_of_ZipB (by kernel_rfl) (by kernel_rfl)) (by kernel_rfl)
   (OpenSpec.preRow_of_cond 8 hx (by kernel_rfl) (fun k hk => by cases hk) (by kernel_rfl) (laidMet_laidAll _ (by kernel_rfl) (by kernel_rfl)))) ?_
 intro W base args ds gs before hval hW _ _ hz hL hsh _
 exact contract H enc W base args ds gs before hval hW hz hL hsh
end Go.Proofs.YtkljkbeahdipfaaGreatDoor.StoreNil
/-
  A nil store has nothing, and does nothing: cubbylaw19.StoreNil answers true, for every op.
-/
namespace Go.Proofs.YtkljkbeahdipfaaGreatDoor.StoreNil
open Go.RowKit Go.ChangeShapes Go.WideShapes Go.ChangeAt
open Go.ChangeMaps (open_string shut_string)
set_option linter.unusedVariables false
set_option maxHeartbeats 8000000
theorem and_mk {a b : Bool} (ha : a = true) (hb : b = true) : (a && b) = true := by rw [ha, hb]; rfl
theorem closed : joinedFacts Tryz.pinned.checked.prog 8 Tryz.f8 (OpenSpec.ofChange Rows.storeNilSpec).bare Rows.storeNilRow = true := by
 unfold joinedFacts
 repeat' (with_reducible refine and_mk ?_ ?_)
 all_goals (as_aux_lemma => kernel_rfl)
theorem said : Rows.StoreNilSaid :=
 OpenClaim.holds_of_cond 8 Tryz.f8 rfl rfl rfl rfl rfl rfl rfl ⟨rfl, rfl, rfl, rfl, rfl⟩ rfl rfl rfl rfl rfl (by as_aux_lemma => kernel_rfl) Tryz.func8 closed
  (of_decide_eq_true (by as_aux_lemma => kernel_rfl)) (by unfold Func.isWrapper; first | (rw [if_pos (by decide +kernel)]; as_aux_lemma => kernel_rfl) | (rw [if_neg (by decide +kernel)]; exact ⟨rfl, rfl⟩))
  (fun os started H enc _ F => by rw [OpenClaim.pre_eq_preRow]; exact lifted os started H enc F)
theorem plain (f : FuncId) (fn : Func) (hf : Tryz.pinned.checked.prog.funcNamed "cubby/cubbylaw19.StoreNil" = some f) (hfn : Tryz.pinned.checked.prog.funcs[f]? = some fn) :
 true = Tryz.pinned.checked.prog.looks [] ∧ ∀ (j : Nat) t, fn.params[j]? = some t → Tryz.pinned.checked.prog.wantsStandIn t = false := by
 obtain rfl : f = 8 := Option.some.inj ((show Tryz.prog.funcNamed "cubby/cubbylaw19.StoreNil" = some 8 by kernel_rfl).symm.trans hf) |>.symm
 obtain rfl : fn = Tryz.f8 := (Option.some.inj (Tryz.func8.symm.trans hfn)).symm
 refine ⟨by kernel_rfl, fun j t ht => ?_⟩
 rw [Tryz.params8] at ht
 have hm : t ∈ [76] := by simpa using Array.mem_of_getElem? ht
 have hall : ([76].all fun u => !Tryz.prog.wantsStandIn u) = true := by kernel_rfl
 exact (show Tryz.prog.wantsStandIn t = false by simpa using List.all_eq_true.1 hall t hm)
theorem holds : Rows.StoreNilCardSaid :=
 Claim7.holds_tied_plain_at .later [] _ _ _ _ said (fun _ h => by cases h) (by as_aux_lemma => kernel_rfl) (fun _ h => by cases h) storeNil_row_tie rfl ⟨rfl, rfl⟩ (by as_aux_lemma => kernel_rfl) rfl plain (by as_aux_lemma => kernel_rfl)
#print axioms holds
end Go.Proofs.YtkljkbeahdipfaaGreatDoor.StoreNil
