/-
  Messages and mailboxes alike: plainly, and by the document.
-/
import Derived.Test.YtmjikfeaopmejaaGreatDoorIod
import Derived.Lib.QuietBelow
namespace Go.Proofs.YtmjikfeaopmejaaGreatDoor
open Go.RowKit
set_option linter.unusedSimpArgs false
set_option linter.unusedVariables false
theorem int_beq (a b : Nat) : ((a : Int) == (b : Int)) = (a == b) := by rw [Bool.eq_iff_iff, beq_iff_eq, beq_iff_eq]; omega
-- alike
def sameV (x y : MsgV) : Bool := x.uid == y.uid && x.date == y.date && x.flags == y.flags && x.b == y.b
def sameL : List MsgV → List MsgV → Bool
  | [], [] => true
  | x :: r, y :: s => sameV x y && sameL r s
  | _, _ => false
theorem sameL_len : ∀ {l m : List MsgV}, l.length ≠ m.length → sameL l m = false
  | [], [], h => absurd rfl h
  | [], _ :: _, _ => rfl
  | _ :: _, [], _ => rfl
  | x :: r, y :: s, h => by
    unfold sameL
    rw [sameL_len (l := r) (m := s) (by simpa using h), Bool.and_false]
theorem sameL_at {l m : List MsgV} {j : Nat} {x y : MsgV} (hx : l[j]? = some x) (hy : m[j]? = some y) : sameL (l.drop j) (m.drop j) = (sameV x y && sameL (l.drop (j + 1)) (m.drop (j + 1))) := by
  rw [List.drop_eq_getElem_cons (List.getElem?_eq_some_iff.1 hx).1, (List.getElem?_eq_some_iff.1 hx).2, List.drop_eq_getElem_cons (List.getElem?_eq_some_iff.1 hy).1, (List.getElem?_eq_some_iff.1 hy).2]
  rfl
def boxSame (n1 : ByteArray) (e1 x1 : Nat) (l1 : List MsgV) (n2 : ByteArray) (e2 x2 : Nat) (l2 : List MsgV) : Bool := n1.toList == n2.toList && e1 == e2 && x1 == x2 && sameL l1 l2
theorem refSame_any (x y : MsgV) (w : World) (hx : Reads w w.heap.size 1 x.a x.b.length (u8s x.b)) (hy : Reads w w.heap.size 1 y.a y.b.length (u8s y.b)) :
    Calls Tryz.prog 17 #[.agg #[.int .u32 (x.uid : Nat), .int .i64 x.date, .int .i64 x.flags, .slice x.a x.b.length x.c], .agg #[.int .u32 (y.uid : Nat), .int .i64 y.date, .int .i64 y.flags, .slice y.a y.b.length y.c]] w fun ev w' => ev = .returned (.bool (sameV x y)) ∧ Below w.heap.size w w' := by
  refine calls_at 33 Tryz.func17 rfl rfl (Nat.le_of_ble_eq_true rfl) ?_
  intro a hA; replace hA := hA.norm
  refine wS (wR ?_)
  refine wl_new hA rfl rfl (by decide) (fun ev h => by simp [go_sem, h.get 0 rfl]; try first | exact ⟨rfl, rfl⟩ | rfl) fun w1 a (K : Blk _ _ _ _) hz0 hb0 hA => ?_
  replace hx := (hx.below hb0).more hb0.size
  replace hy := (hy.below hb0).more hb0.size
  refine wl_new hA rfl rfl (by decide) (fun ev h => by simp [go_sem, h.get 1 rfl]; try first | exact ⟨rfl, rfl⟩ | rfl) fun w2 a (K2 : Blk _ _ _ _) hz2 hb2 hA => ?_
  replace hx := (hx.below hb2).more hb2.size
  replace hy := (hy.below hb2).more hb2.size
  replace K := K.below hb2 K.lt
  have HB := hb0.trans (hb2.mono (by omega))
  revert a; refine wo rfl rfl (by decide) (fun ev e h => by simp [go_sem, h, K.cell, K2.cell, conv_reads rfl hx, conv_reads rfl hy] <;> rfl) ?_; intro a hA
  replace hA := hA.keepN [2, 3]
  refine wN (nT (wS (wR ?_)))
  revert a; (iterate 6 refine wo rfl rfl (by decide) (fun ev e h => by simp [go_sem, h, K.cell, K2.cell, conv_reads rfl hx, conv_reads rfl hy] <;> rfl) ?_); (iterate 4 refine wg _ rfl rfl rfl rfl (by decide) (fun hq ev e h => by simp [go_sem, h, ↓gw_t (beq_t hq), K.cell, K2.cell, conv_reads rfl hx, conv_reads rfl hy] <;> rfl) ?_); intro a hA
  replace hA := hA.keepN [2, 3, 10, 12, 14]
  revert a; refine wg _ rfl rfl rfl rfl (by decide) (fun hq ev e h => by simp [go_sem, h, ↓gw_t (beq_t hq), K.cell, K2.cell, conv_reads rfl hx, conv_reads rfl hy] <;> rfl) ?_; refine wka rfl rfl (by decide) rfl rfl rfl ?_; refine wo rfl rfl (by decide) (fun ev e h => by simp [go_sem, h, K.cell, K2.cell, conv_reads rfl hx, conv_reads rfl hy] <;> rfl) ?_; (iterate 5 refine wg _ rfl rfl rfl rfl (by decide) (fun hq ev e h => by simp [go_sem, h, ↓gw_t (beq_t hq), K.cell, K2.cell, conv_reads rfl hx, conv_reads rfl hy] <;> rfl) ?_); refine wka rfl rfl (by decide) rfl rfl rfl ?_; refine wo rfl rfl (by decide) (fun ev e h => by simp [go_sem, h, K.cell, K2.cell, conv_reads rfl hx, conv_reads rfl hy] <;> rfl) ?_; intro a hA
  replace hA := hA.keepN [2, 3, 24]
  revert a; (iterate 2 refine wg _ rfl rfl rfl rfl (by decide) (fun hq ev e h => by simp [go_sem, h, ↓gw_t (beq_t hq), K.cell, K2.cell, conv_reads rfl hx, conv_reads rfl hy] <;> rfl) ?_); intro a hA
  refine wl_guard _ hA rfl rfl rfl rfl (by decide) (fun hq ev h => by simp [go_sem, ((h.get 26 rfl).trans (gw_t (beq_t hq))), K.cell, K2.cell, conv_reads rfl hx, conv_reads rfl hy]; try first | exact ⟨rfl, rfl⟩ | rfl) fun a hA => ?_
  revert a; (iterate 2 refine wg _ rfl rfl rfl rfl (by decide) (fun hq ev e h => by simp [go_sem, h, ↓gw_t (beq_t hq), K.cell, K2.cell, conv_reads rfl hx, conv_reads rfl hy] <;> rfl) ?_); intro a hA
  refine wl_guard _ hA rfl rfl rfl rfl (by decide) (fun hq ev h => by simp [go_sem, ((h.get 29 rfl).trans (gw_t (beq_t hq))), K.cell, K2.cell, conv_reads rfl hx, conv_reads rfl hy]; try first | exact ⟨rfl, rfl⟩ | rfl) fun a hA => ?_
  revert a; refine wg _ rfl rfl rfl rfl (by decide) (fun hq ev e h => by simp [go_sem, h, ↓gw_t (beq_t hq), K.cell, K2.cell, conv_reads rfl hx, conv_reads rfl hy] <;> rfl) ?_; refine wka rfl rfl (by decide) rfl rfl rfl ?_; refine wo rfl rfl (by decide) (fun ev e h => by simp [go_sem, h, K.cell, K2.cell, conv_reads rfl hx, conv_reads rfl hy] <;> rfl) ?_; intro a hA
  replace hA := hA.keepN [4]
  refine wN (nT (wp_ret ?_))
  refine ret_1 hA 4 rfl rfl ?_
  exact ⟨ret_bool (by rw [int_beq]; rfl), HB⟩
set_option maxRecDepth 100000 in
set_option maxHeartbeats 1000000 in
theorem refSameBox_any (nm nm2 : ByteArray) (A A2 : Option Addr) (c c2 n n2 e e2 nx nx2 : Nat) (l l2 : List MsgV) (w : World) (hn : n ≤ 140737488355328) (hms : Msgs w A n l) (hms2 : Msgs w A2 n2 l2) :
    Calls Tryz.prog 23 #[.agg (boxC nm e nx A n c), .agg (boxC nm2 e2 nx2 A2 n2 c2)] w fun ev w' => ev = .returned (.bool (boxSame nm e nx l nm2 e2 nx2 l2)) ∧ Below w.heap.size w w' := by
  have hl := hms.len
  have hl2 := hms2.len
  refine calls_at 53 Tryz.func23 rfl rfl (Nat.le_of_ble_eq_true rfl) ?_
  intro a hA; replace hA := hA.norm
  refine wS (wR ?_)
  refine wl_new hA rfl rfl (by decide) (fun ev h => by simp [go_sem, h.get 0 rfl]; try first | exact ⟨rfl, rfl⟩ | rfl) fun w1 a (K : Blk _ _ _ _) hz0 hb0 hA => ?_
  replace hms := hms.below hb0
  replace hms2 := hms2.below hb0
  refine wl_new hA rfl rfl (by decide) (fun ev h => by simp [go_sem, h.get 1 rfl]; try first | exact ⟨rfl, rfl⟩ | rfl) fun w2 a (K2 : Blk _ _ _ _) hz2 hb2 hA => ?_
  replace hms := hms.below hb2
  replace hms2 := hms2.below hb2
  replace K := K.below hb2 K.lt
  have HB := Below.refl w2.heap.size w2
  unfold boxC at K K2
  revert a; refine wo rfl rfl (by decide) (fun ev e h => by simp [go_sem, h, K.cell, K2.cell] <;> rfl) ?_; intro a hA
  replace hA := hA.keepN [2, 3]
  refine wN (nT (wS (wS (wR ?_))))
  revert a; (iterate 6 refine wo rfl rfl (by decide) (fun ev e h => by simp [go_sem, h, K.cell, K2.cell] <;> rfl) ?_); (iterate 4 refine wg _ rfl rfl rfl rfl (by decide) (fun hq ev e h => by simp [go_sem, h, ↓gw_t (beq_t hq), K.cell, K2.cell] <;> rfl) ?_); intro a hA
  replace hA := hA.keepN [2, 3, 11, 13, 15]
  revert a; refine wg _ rfl rfl rfl rfl (by decide) (fun hq ev e h => by simp [go_sem, h, ↓gw_t (beq_t hq), K.cell, K2.cell] <;> rfl) ?_; refine wko rfl rfl (by decide) rfl rfl rfl ?_; refine wo rfl rfl (by decide) (fun ev e h => by simp [go_sem, h, K.cell, K2.cell] <;> rfl) ?_; (iterate 5 refine wg _ rfl rfl rfl rfl (by decide) (fun hq ev e h => by simp [go_sem, h, ↓gw_t (beq_t hq), K.cell, K2.cell] <;> rfl) ?_); refine wko rfl rfl (by decide) rfl rfl rfl ?_; refine wo rfl rfl (by decide) (fun ev e h => by simp [go_sem, h, K.cell, K2.cell] <;> rfl) ?_; intro a hA
  replace hA := hA.keepN [2, 3, 25]
  revert a; (iterate 7 refine wg _ rfl rfl rfl rfl (by decide) (fun hq ev e h => by simp [go_sem, h, ↓gw_t (beq_t hq), K.cell, K2.cell] <;> rfl) ?_); refine wko rfl rfl (by decide) rfl rfl rfl ?_; intro a hA
  replace hA := hA.keepN [2, 3, 33]
  refine wN (nT ?_)
  have hbs : boxSame nm e nx l nm2 e2 nx2 l2 = (!(!nm.toList == nm2.toList || (e : Int) != (e2 : Int) || (nx : Int) != (nx2 : Int) || (n : Int) != (n2 : Int)) && sameL l l2) := by
    unfold boxSame
    simp only [bne, int_beq]
    by_cases h : n = n2
    · subst h; simp
    · rw [sameL_len (by omega)]; simp
  obtain ⟨q, hqe⟩ : ∃ q, (!nm.toList == nm2.toList || (e : Int) != (e2 : Int) || (nx : Int) != (nx2 : Int) || (n : Int) != (n2 : Int)) = q := ⟨_, rfl⟩
  have hnn : q = false → n = n2 := fun h => by rw [h] at hqe; simp at hqe; omega
  rw [hqe] at hbs hA
  rw [hbs]
  refine wp_if hA 33 _ rfl (fun hq => ?yE) (fun hq => ?nE)
  case yE =>
    subst hq
    refine wS (wR ?_)
    revert a; refine wo rfl rfl (by decide) (fun ev e h => by simp [go_sem, h, K.cell, K2.cell] <;> rfl) ?_; intro a hA
    replace hA := hA.keepN [4]
    refine wN (nT (wp_ret (rT ?_)))
    refine ret_1 hA 4 rfl rfl ?_
    exact ⟨rfl, hb0.trans ((hb2.trans (HB.mono hb2.size)).mono hb0.size)⟩
  case nE =>
    subst hq
    obtain rfl := hnn rfl
    rw [Bool.not_false, Bool.true_and]
    refine wp_skip (nT (wS (wS (wR ?_))))
    revert a; (iterate 4 refine wo rfl rfl (by decide) (fun ev e h => by simp [go_sem, h, K.cell, K2.cell] <;> rfl) ?_); intro a hA
    replace hA := hA.keepN [2, 3, 36, 37]
    refine wN (nT (wB ?_))
    refine wp_loop_at (fun k a wx => ∃ (j : Nat), j + k = n ∧ At 53 [(2, .pointer (some ⟨w.heap.size, 0, none⟩)), (3, .pointer (some ⟨w1.heap.size, 0, none⟩)), (36, .int .i64 (n : Nat)), (37, .int .i64 (j : Nat))] a ∧ sameL l l2 = sameL (l.drop j) (l2.drop j) ∧ Below w2.heap.size w2 wx) (n) ?_ ?_
    · exact ⟨0, by omega, hA, rfl, HB⟩
    clear HB
    rintro k a wx ⟨j, hjk, hA, hall, HB⟩
    refine wS (wR ?_)
    revert a; refine wo rfl rfl (by decide) (fun ev e h => by simp [go_sem, h] <;> rfl) ?_; intro a hA
    replace hA := hA.keepN [2, 3, 36, 37, 38]
    refine wN (nT (wS ?_))
    refine wp_if hA 38 _ rfl (fun hq => ?yL) (fun hq => ?nL)
    case yL =>
      have hlt : j < n := by simp at hq; omega
      obtain ⟨x, hx⟩ : ∃ x, l[j]? = some x := ⟨_, List.getElem?_eq_getElem (by omega)⟩
      obtain ⟨y, hy⟩ : ∃ y, l2[j]? = some y := ⟨_, List.getElem?_eq_getElem (by omega)⟩
      rw [sameL_at hx hy] at hall
      obtain ⟨ad, rfl, hadl, k0, k1, k2, k3⟩ := hms.at_ hx
      obtain ⟨ad2, rfl, hadl2, l0, l1, l2', l3⟩ := hms2.at_ hy
      have jj0 : (0 : Int) ≤ (j : Int) := by omega
      have jj1 : (j : Int) < (n : Int) := by omega
      have hwj : IntKind.i64.wrap ((j : Int) + 1) = (j : Int) + 1 := IntWalk.i64_in _ (by omega)
      refine wp_skip (nT (wS (wB (wS (wR ?_)))))
      revert a; (iterate 2 refine wo rfl rfl (by decide) (fun ev e h => by simp [go_sem, h] <;> rfl) ?_); intro a hA
      replace hA := hA.keepN [2, 3, 5, 36, 37]
      have pD := fun (wo : World) (hC : (fun wy => Below w2.heap.size w2 wy) wo) => have Kx := K.below hC K.lt; have Kx2 := K2.below hC K2.lt; have z0 := (hC.cell hadl).trans k0; have z1 := (hC.cell (p := ⟨(ad.add (j * 4)).block, (ad.add (j * 4)).off + 1, none⟩) hadl).trans k1; have z2 := (hC.cell (p := ⟨(ad.add (j * 4)).block, (ad.add (j * 4)).off + 2, none⟩) hadl).trans k2; have z3 := (hC.cell (p := ⟨(ad.add (j * 4)).block, (ad.add (j * 4)).off + 3, none⟩) hadl).trans k3; have y0 := (hC.cell hadl2).trans l0; have y1 := (hC.cell (p := ⟨(ad2.add (j * 4)).block, (ad2.add (j * 4)).off + 1, none⟩) hadl2).trans l1; have y2 := (hC.cell (p := ⟨(ad2.add (j * 4)).block, (ad2.add (j * 4)).off + 2, none⟩) hadl2).trans l2'; have y3 := (hC.cell (p := ⟨(ad2.add (j * 4)).block, (ad2.add (j * 4)).off + 3, none⟩) hadl2).trans l3; And.intro (Kx.cell) (And.intro (Kx2.cell) (And.intro (z0) (And.intro (z1) (And.intro (z2) (And.intro (z3) (And.intro (y0) (And.intro (y1) (And.intro (y2) (y3)))))))))
      refine wN (nT (wS ?_))
      refine wp_any_at hA [(.det ?dD0), (.det ?dD1), (.det ?dD2), (.det ?dD3), (.det ?dD4), (.det ?dD5), (.det ?dD6), (.det ?dD7), (.det ?dD8), (.det ?dD9), (.det ?dD10), (.det ?dD11)] [] (fun wy => Below w2.heap.size w2 wy) (TSp [] Grows) (by kernel_rfl) rfl (by kernel_rfl) (by kernel_rfl) rfl (HB.drew) (stab_sp [] [true, true, true, true, true, true, true, true, true, true, true, true] [true, true, true, true, true, true, true, true, true, true, true, true] [] rfl rfl rfl (by kernel_rfl) ⟨trivial, trivial, trivial, trivial, trivial, trivial, trivial, trivial, trivial, trivial, trivial, trivial, trivial⟩ trivial) (fun _ h => by cases h) (fun _ _ _ _ _ h => by cases h) (fun _ h => by cases h) ⟨?oD0, ?oD1, ?oD2, ?oD3, ?oD4, ?oD5, ?oD6, ?oD7, ?oD8, ?oD9, ?oD10, ?oD11, trivial⟩ (by kernel_rfl) ?fD
      case oD0 => intro ev wo hev hC hs hph; have x0 := se hA hs 2; exact od rfl rfl (by kernel_rfl) hC (TSp.of rfl (Grows.refl _)) (by simp [go_sem, x0] <;> rfl)
      case oD1 => intro ev wo hev hC hs hph; have x0 := sd hs 40 0; exact od rfl rfl (by kernel_rfl) hC (TSp.of rfl (Grows.refl _)) (by simp [go_sem, x0, pD _ hC] <;> rfl)
      case oD2 => intro ev wo hev hC hs hph; have x0 := se hA hs 5; exact od rfl rfl (by kernel_rfl) hC (TSp.of rfl (Grows.refl _)) (by simp [go_sem, x0] <;> rfl)
      case oD3 => intro ev wo hev hC hs hph; have x0 := sd hs 41 1; have x1 := sd hs 42 2; exact od rfl rfl (by kernel_rfl) hC (TSp.of rfl (Grows.refl _)) (by simp [go_sem, x0, x1, jj0, jj1] <;> rfl)
      case oD4 => intro ev wo hev hC hs hph; have x0 := sd hs 43 3; exact od rfl rfl (by kernel_rfl) hC (TSp.of rfl (Grows.refl _)) (by simp [go_sem, x0, pD _ hC] <;> rfl)
      case oD5 => intro ev wo hev hC hs hph; have x0 := se hA hs 3; exact od rfl rfl (by kernel_rfl) hC (TSp.of rfl (Grows.refl _)) (by simp [go_sem, x0] <;> rfl)
      case oD6 => intro ev wo hev hC hs hph; have x0 := sd hs 45 5; exact od rfl rfl (by kernel_rfl) hC (TSp.of rfl (Grows.refl _)) (by simp [go_sem, x0, pD _ hC] <;> rfl)
      case oD7 => intro ev wo hev hC hs hph; have x0 := se hA hs 5; exact od rfl rfl (by kernel_rfl) hC (TSp.of rfl (Grows.refl _)) (by simp [go_sem, x0] <;> rfl)
      case oD8 => intro ev wo hev hC hs hph; have x0 := sd hs 46 6; have x1 := sd hs 47 7; exact od rfl rfl (by kernel_rfl) hC (TSp.of rfl (Grows.refl _)) (by simp [go_sem, x0, x1, jj0, jj1] <;> rfl)
      case oD9 => intro ev wo hev hC hs hph; have x0 := sd hs 48 8; exact od rfl rfl (by kernel_rfl) hC (TSp.of rfl (Grows.refl _)) (by simp [go_sem, x0, pD _ hC] <;> rfl)
      case oD10 =>
        intro ev wo hev hC hs hph
        have e44 := sd hs 44 4
        have e49 := sd hs 49 9
        have Kx := K.below hC K.lt
        have Kx2 := K2.below hC K2.lt
        have z0 := (hC.cell hadl).trans k0
        have z1 := (hC.cell (p := ⟨(ad.add (j * 4)).block, (ad.add (j * 4)).off + 1, none⟩) hadl).trans k1
        have z2 := (hC.cell (p := ⟨(ad.add (j * 4)).block, (ad.add (j * 4)).off + 2, none⟩) hadl).trans k2
        have z3 := (hC.cell (p := ⟨(ad.add (j * 4)).block, (ad.add (j * 4)).off + 3, none⟩) hadl).trans k3
        have y0 := (hC.cell hadl2).trans l0
        have y1 := (hC.cell (p := ⟨(ad2.add (j * 4)).block, (ad2.add (j * 4)).off + 1, none⟩) hadl2).trans l1
        have y2 := (hC.cell (p := ⟨(ad2.add (j * 4)).block, (ad2.add (j * 4)).off + 2, none⟩) hadl2).trans l2'
        have y3 := (hC.cell (p := ⟨(ad2.add (j * 4)).block, (ad2.add (j * 4)).off + 3, none⟩) hadl2).trans l3
        exact ob_dcall (wanted_none rfl) rfl (by kernel_rfl) (refSame_any x y _ (((hms.octs x (List.mem_of_getElem? hx)).below hC).more hC.size) (((hms2.octs y (List.mem_of_getElem? hy)).below hC).more hC.size)) (exec_call Tryz.func17 (by kernel_rfl) rfl (hev.func _) (by first | (simp only [mL, e44, e49, hev.const] <;> rfl) | (simp [mL, e44, e49, hev.const] <;> rfl))) (by rfl) (fun w3 hb3 => ⟨hC.trans (hb3.mono hC.size), TSp.of rfl hb3⟩)
      case oD11 => intro ev wo hev hC hs hph; have x0 := sd hs 50 10; exact od rfl rfl (by kernel_rfl) hC (TSp.of rfl (Grows.refl _)) (by simp [go_sem, x0] <;> rfl)
      intro sg wf hC hph
      intro a hA
      replace hA := hA.keepN [2, 3, 36, 37, 51]
      refine nT ?_
      refine wp_if hA 51 _ rfl (fun hq2 => ?yR) (fun hq2 => ?nR)
      case yR =>
        have hq2 : sameV x y = false := by simpa using hq2
        rw [hq2, Bool.false_and] at hall
        refine wS (wR ?_)
        revert a; refine wo rfl rfl (by decide) (fun ev e h => by simp [go_sem, h, hwj] <;> rfl) ?_; intro a hA
        replace hA := hA.keepN [4]
        refine wN (nT (wp_ret (rB (rT (rT (rB (rT ?_)))))))
        refine ret_1 hA 4 rfl rfl ?_
        exact ⟨ret_bool hall.symm, hb0.trans ((hb2.trans (hC.mono hb2.size)).mono hb0.size)⟩
      case nR =>
        have hq2 : sameV x y = true := by simpa using hq2
        rw [hq2, Bool.true_and] at hall
        refine wp_skip (nB (nT (wR ?_)))
        revert a; (iterate 2 refine wo rfl rfl (by decide) (fun ev e h => by simp [go_sem, h, hwj] <;> rfl) ?_); intro a hA
        replace hA := hA.keepN [2, 3, 36, 37]
        refine wN (nT ?_)
        rw [show ((j : Int) + 1) = ((j + 1 : Nat) : Int) by omega] at hA
        exact ⟨k - 1, by omega, j + 1, by omega, hA, hall, hC⟩
    case nL =>
      have hjn : j = n := by simp at hq; omega
      subst hjn
      rw [List.drop_of_length_le (by omega), List.drop_of_length_le (by omega)] at hall
      replace hA := hA.keepN []
      refine wp_exit (xT (xT (xB (nT (wS (wR ?_))))))
      revert a; refine wo rfl rfl (by decide) (fun ev e h => by simp [go_sem, h] <;> rfl) ?_; intro a hA
      replace hA := hA.keepN [4]
      refine wN (nT (wp_ret ?_))
      refine ret_1 hA 4 rfl rfl ?_
      exact ⟨by rw [hall]; rfl, hb0.trans ((hb2.trans (HB.mono hb2.size)).mono hb0.size)⟩
end Go.Proofs.YtmjikfeaopmejaaGreatDoor
/-
  Walk: are two mailboxes alike (cubbyref09.SameBox), of rows whose octets read; rows of messages of one's own.
-/
namespace Go.Proofs.YtmjikfeaopmejaaGreatDoor
open Go.RowKit
set_option linter.unusedSimpArgs false
set_option linter.unusedVariables false
theorem msgC_one (x : MsgV) : ∀ u ∈ msgC x, u.oneCell' = true := by
  intro u hu
  unfold msgC at hu
  simp only [List.mem_cons, List.not_mem_nil, or_false] at hu
  rcases hu with rfl | rfl | rfl | rfl <;> rfl
def msgSh : Sh MsgV := ⟨25, 48, 4, 48, .agg #[.int .u32 0, .int .i64 0, .int .i64 0, .slice none 0 0], msgC, fun x => [(x.a, x.b)], fun _ => rfl, msgC_one, Tryz.underlying48, by kernel_rfl, rfl, by decide, by decide⟩
/-- a message, without addresses -/
def msgB (x : MsgV) : Nat × Int × Int × List UInt8 := (x.uid, x.date, x.flags, x.b)
/-- messages whose octets read -/
structure MsgR (w : World) (A : Option Addr) (n : Nat) (l : List MsgV) : Prop where
  len : l.length = n
  row : Reads w w.heap.size 4 A n (l.flatMap msgC)
  octs : ∀ m ∈ l, Reads w w.heap.size 1 m.a m.b.length (u8s m.b)
theorem MsgR.below {w w' : World} {A : Option Addr} {n : Nat} {l : List MsgV} (h : MsgR w A n l) (hb : Below w.heap.size w w') : MsgR w' A n l :=
  ⟨h.len, (h.row.below hb).more hb.size, fun m hm => ((h.octs m hm).below hb).more hb.size⟩
theorem MsgR.at_ {w : World} {A : Option Addr} {n i : Nat} {l : List MsgV} {m : MsgV} (h : MsgR w A n l) (hm : l[i]? = some m) : ∃ ad, A = some ad ∧ (ad.add (i * 4)).block < w.heap.size ∧
    w.cell? (ad.add (i * 4)) = some (.int .u32 (m.uid : Nat)) ∧ w.cell? ⟨(ad.add (i * 4)).block, (ad.add (i * 4)).off + 1, none⟩ = some (.int .i64 m.date) ∧ w.cell? ⟨(ad.add (i * 4)).block, (ad.add (i * 4)).off + 2, none⟩ = some (.int .i64 m.flags) ∧ w.cell? ⟨(ad.add (i * 4)).block, (ad.add (i * 4)).off + 3, none⟩ = some (.slice m.a m.b.length m.c) := by
  have hlt := (List.getElem?_eq_some_iff.1 hm).1
  have := h.len
  obtain ⟨ad, e, hb, h0, hj⟩ := rowK_at msgC_len h.row (by omega) hm
  exact ⟨ad, e, by rw [block_of_add]; exact hb, h0 _ rfl, hj 1 _ (by omega) rfl, hj 2 _ (by omega) rfl, hj 3 _ (by omega) rfl⟩
theorem Msgs.msgR {w : World} {A : Option Addr} {n : Nat} {l : List MsgV} (h : Msgs w A n l) : MsgR w A n l := ⟨h.len, h.row, h.octs⟩
theorem RowR.msgR {w : World} {A : Option Addr} {l : List MsgV} (h : RowR msgSh w A l) : MsgR w A l.length l := ⟨rfl, h.row, fun m hm => h.octs m hm (m.a, m.b) (List.mem_singleton.2 rfl)⟩
theorem MsgR.rowR {w : World} {A : Option Addr} {n : Nat} {l : List MsgV} (h : MsgR w A n l) : RowR msgSh w A l := ⟨by rw [h.len]; exact h.row, fun m hm p hp => by rw [List.mem_singleton.1 hp]; exact h.octs m hm⟩
theorem sameL_msgB : ∀ {l m : List MsgV}, l.map msgB = m.map msgB → sameL l m = true
  | [], [], _ => rfl
  | [], _ :: _, h => by cases h
  | _ :: _, [], h => by cases h
  | x :: l, y :: m, h => by
    rw [List.map_cons, List.map_cons] at h
    injection h with h1 h2
    unfold sameL
    rw [sameL_msgB h2, Bool.and_true]
    unfold msgB at h1
    simp only [Prod.mk.injEq] at h1
    unfold sameV
    simp [h1]
/-- alike without addresses: alike -/
theorem boxSame_msgB {nm : ByteArray} {e nx : Nat} {l m : List MsgV} (h : l.map msgB = m.map msgB) : boxSame nm e nx l nm e nx m = true := by
  unfold boxSame
  rw [sameL_msgB h]
  simp
set_option maxRecDepth 100000 in
set_option maxHeartbeats 1000000 in
theorem refSameBoxR_any (nm nm2 : ByteArray) (A A2 : Option Addr) (c c2 n n2 e e2 nx nx2 : Nat) (l l2 : List MsgV) (w : World) (hn : n ≤ 140737488355328) (hms : MsgR w A n l) (hms2 : MsgR w A2 n2 l2) :
    Calls Tryz.prog 23 #[.agg (boxC nm e nx A n c), .agg (boxC nm2 e2 nx2 A2 n2 c2)] w fun ev w' => ev = .returned (.bool (boxSame nm e nx l nm2 e2 nx2 l2)) ∧ Below w.heap.size w w' := by
  have hl := hms.len
  have hl2 := hms2.len
  refine calls_at 53 Tryz.func23 rfl rfl (Nat.le_of_ble_eq_true rfl) ?_
  intro a hA; replace hA := hA.norm
  refine wS (wR ?_)
  refine wl_new hA rfl rfl (by decide) (fun ev h => by simp [go_sem, h.get 0 rfl]; try first | exact ⟨rfl, rfl⟩ | rfl) fun w1 a (K : Blk _ _ _ _) hz0 hb0 hA => ?_
  replace hms := hms.below hb0
  replace hms2 := hms2.below hb0
  refine wl_new hA rfl rfl (by decide) (fun ev h => by simp [go_sem, h.get 1 rfl]; try first | exact ⟨rfl, rfl⟩ | rfl) fun w2 a (K2 : Blk _ _ _ _) hz2 hb2 hA => ?_
  replace hms := hms.below hb2
  replace hms2 := hms2.below hb2
  replace K := K.below hb2 K.lt
  have HB := Below.refl w2.heap.size w2
  unfold boxC at K K2
  revert a; refine wo rfl rfl (by decide) (fun ev e h => by simp [go_sem, h, K.cell, K2.cell] <;> rfl) ?_; intro a hA
  replace hA := hA.keepN [2, 3]
  refine wN (nT (wS (wS (wR ?_))))
  revert a; (iterate 6 refine wo rfl rfl (by decide) (fun ev e h => by simp [go_sem, h, K.cell, K2.cell] <;> rfl) ?_); (iterate 4 refine wg _ rfl rfl rfl rfl (by decide) (fun hq ev e h => by simp [go_sem, h, ↓gw_t (beq_t hq), K.cell, K2.cell] <;> rfl) ?_); intro a hA
  replace hA := hA.keepN [2, 3, 11, 13, 15]
  revert a; refine wg _ rfl rfl rfl rfl (by decide) (fun hq ev e h => by simp [go_sem, h, ↓gw_t (beq_t hq), K.cell, K2.cell] <;> rfl) ?_; refine wko rfl rfl (by decide) rfl rfl rfl ?_; refine wo rfl rfl (by decide) (fun ev e h => by simp [go_sem, h, K.cell, K2.cell] <;> rfl) ?_; (iterate 5 refine wg _ rfl rfl rfl rfl (by decide) (fun hq ev e h => by simp [go_sem, h, ↓gw_t (beq_t hq), K.cell, K2.cell] <;> rfl) ?_); refine wko rfl rfl (by decide) rfl rfl rfl ?_; refine wo rfl rfl (by decide) (fun ev e h => by simp [go_sem, h, K.cell, K2.cell] <;> rfl) ?_; intro a hA
  replace hA := hA.keepN [2, 3, 25]
  revert a; (iterate 7 refine wg _ rfl rfl rfl rfl (by decide) (fun hq ev e h => by simp [go_sem, h, ↓gw_t (beq_t hq), K.cell, K2.cell] <;> rfl) ?_); refine wko rfl rfl (by decide) rfl rfl rfl ?_; intro a hA
  replace hA := hA.keepN [2, 3, 33]
  refine wN (nT ?_)
  have hbs : boxSame nm e nx l nm2 e2 nx2 l2 = (!(!nm.toList == nm2.toList || (e : Int) != (e2 : Int) || (nx : Int) != (nx2 : Int) || (n : Int) != (n2 : Int)) && sameL l l2) := by
    unfold boxSame
    simp only [bne, int_beq]
    by_cases h : n = n2
    · subst h; simp
    · rw [sameL_len (by omega)]; simp
  obtain ⟨q, hqe⟩ : ∃ q, (!nm.toList == nm2.toList || (e : Int) != (e2 : Int) || (nx : Int) != (nx2 : Int) || (n : Int) != (n2 : Int)) = q := ⟨_, rfl⟩
  have hnn : q = false → n = n2 := fun h => by rw [h] at hqe; simp at hqe; omega
  rw [hqe] at hbs hA
  rw [hbs]
  refine wp_if hA 33 _ rfl (fun hq => ?yE) (fun hq => ?nE)
  case yE =>
    subst hq
    refine wS (wR ?_)
    revert a; refine wo rfl rfl (by decide) (fun ev e h => by simp [go_sem, h, K.cell, K2.cell] <;> rfl) ?_; intro a hA
    replace hA := hA.keepN [4]
    refine wN (nT (wp_ret (rT ?_)))
    refine ret_1 hA 4 rfl rfl ?_
    exact ⟨rfl, hb0.trans ((hb2.trans (HB.mono hb2.size)).mono hb0.size)⟩
  case nE =>
    subst hq
    obtain rfl := hnn rfl
    rw [Bool.not_false, Bool.true_and]
    refine wp_skip (nT (wS (wS (wR ?_))))
    revert a; (iterate 4 refine wo rfl rfl (by decide) (fun ev e h => by simp [go_sem, h, K.cell, K2.cell] <;> rfl) ?_); intro a hA
    replace hA := hA.keepN [2, 3, 36, 37]
    refine wN (nT (wB ?_))
    refine wp_loop_at (fun k a wx => ∃ (j : Nat), j + k = n ∧ At 53 [(2, .pointer (some ⟨w.heap.size, 0, none⟩)), (3, .pointer (some ⟨w1.heap.size, 0, none⟩)), (36, .int .i64 (n : Nat)), (37, .int .i64 (j : Nat))] a ∧ sameL l l2 = sameL (l.drop j) (l2.drop j) ∧ Below w2.heap.size w2 wx) (n) ?_ ?_
    · exact ⟨0, by omega, hA, rfl, HB⟩
    clear HB
    rintro k a wx ⟨j, hjk, hA, hall, HB⟩
    refine wS (wR ?_)
    revert a; refine wo rfl rfl (by decide) (fun ev e h => by simp [go_sem, h] <;> rfl) ?_; intro a hA
    replace hA := hA.keepN [2, 3, 36, 37, 38]
    refine wN (nT (wS ?_))
    refine wp_if hA 38 _ rfl (fun hq => ?yL) (fun hq => ?nL)
    case yL =>
      have hlt : j < n := by simp at hq; omega
      obtain ⟨x, hx⟩ : ∃ x, l[j]? = some x := ⟨_, List.getElem?_eq_getElem (by omega)⟩
      obtain ⟨y, hy⟩ : ∃ y, l2[j]? = some y := ⟨_, List.getElem?_eq_getElem (by omega)⟩
      rw [sameL_at hx hy] at hall
      obtain ⟨ad, rfl, hadl, k0, k1, k2, k3⟩ := hms.at_ hx
      obtain ⟨ad2, rfl, hadl2, l0, l1, l2', l3⟩ := hms2.at_ hy
      have jj0 : (0 : Int) ≤ (j : Int) := by omega
      have jj1 : (j : Int) < (n : Int) := by omega
      have hwj : IntKind.i64.wrap ((j : Int) + 1) = (j : Int) + 1 := IntWalk.i64_in _ (by omega)
      refine wp_skip (nT (wS (wB (wS (wR ?_)))))
      revert a; (iterate 2 refine wo rfl rfl (by decide) (fun ev e h => by simp [go_sem, h] <;> rfl) ?_); intro a hA
      replace hA := hA.keepN [2, 3, 5, 36, 37]
      have pD := fun (wo : World) (hC : (fun wy => Below w2.heap.size w2 wy) wo) => have Kx := K.below hC K.lt; have Kx2 := K2.below hC K2.lt; have z0 := (hC.cell hadl).trans k0; have z1 := (hC.cell (p := ⟨(ad.add (j * 4)).block, (ad.add (j * 4)).off + 1, none⟩) hadl).trans k1; have z2 := (hC.cell (p := ⟨(ad.add (j * 4)).block, (ad.add (j * 4)).off + 2, none⟩) hadl).trans k2; have z3 := (hC.cell (p := ⟨(ad.add (j * 4)).block, (ad.add (j * 4)).off + 3, none⟩) hadl).trans k3; have y0 := (hC.cell hadl2).trans l0; have y1 := (hC.cell (p := ⟨(ad2.add (j * 4)).block, (ad2.add (j * 4)).off + 1, none⟩) hadl2).trans l1; have y2 := (hC.cell (p := ⟨(ad2.add (j * 4)).block, (ad2.add (j * 4)).off + 2, none⟩) hadl2).trans l2'; have y3 := (hC.cell (p := ⟨(ad2.add (j * 4)).block, (ad2.add (j * 4)).off + 3, none⟩) hadl2).trans l3; And.intro (Kx.cell) (And.intro (Kx2.cell) (And.intro (z0) (And.intro (z1) (And.intro (z2) (And.intro (z3) (And.intro (y0) (And.intro (y1) (And.intro (y2) (y3)))))))))
      refine wN (nT (wS ?_))
      refine wp_any_at hA [(.det ?dD0), (.det ?dD1), (.det ?dD2), (.det ?dD3), (.det ?dD4), (.det ?dD5), (.det ?dD6), (.det ?dD7), (.det ?dD8), (.det ?dD9), (.det ?dD10), (.det ?dD11)] [] (fun wy => Below w2.heap.size w2 wy) (TSp [] Grows) (by kernel_rfl) rfl (by kernel_rfl) (by kernel_rfl) rfl (HB.drew) (stab_sp [] [true, true, true, true, true, true, true, true, true, true, true, true] [true, true, true, true, true, true, true, true, true, true, true, true] [] rfl rfl rfl (by kernel_rfl) ⟨trivial, trivial, trivial, trivial, trivial, trivial, trivial, trivial, trivial, trivial, trivial, trivial, trivial⟩ trivial) (fun _ h => by cases h) (fun _ _ _ _ _ h => by cases h) (fun _ h => by cases h) ⟨?oD0, ?oD1, ?oD2, ?oD3, ?oD4, ?oD5, ?oD6, ?oD7, ?oD8, ?oD9, ?oD10, ?oD11, trivial⟩ (by kernel_rfl) ?fD
      case oD0 => intro ev wo hev hC hs hph; have x0 := se hA hs 2; exact od rfl rfl (by kernel_rfl) hC (TSp.of rfl (Grows.refl _)) (by simp [go_sem, x0] <;> rfl)
      case oD1 => intro ev wo hev hC hs hph; have x0 := sd hs 40 0; exact od rfl rfl (by kernel_rfl) hC (TSp.of rfl (Grows.refl _)) (by simp [go_sem, x0, pD _ hC] <;> rfl)
      case oD2 => intro ev wo hev hC hs hph; have x0 := se hA hs 5; exact od rfl rfl (by kernel_rfl) hC (TSp.of rfl (Grows.refl _)) (by simp [go_sem, x0] <;> rfl)
      case oD3 => intro ev wo hev hC hs hph; have x0 := sd hs 41 1; have x1 := sd hs 42 2; exact od rfl rfl (by kernel_rfl) hC (TSp.of rfl (Grows.refl _)) (by simp [go_sem, x0, x1, jj0, jj1] <;> rfl)
      case oD4 => intro ev wo hev hC hs hph; have x0 := sd hs 43 3; exact od rfl rfl (by kernel_rfl) hC (TSp.of rfl (Grows.refl _)) (by simp [go_sem, x0, pD _ hC] <;> rfl)
      case oD5 => intro ev wo hev hC hs hph; have x0 := se hA hs 3; exact od rfl rfl (by kernel_rfl) hC (TSp.of rfl (Grows.refl _)) (by simp [go_sem, x0] <;> rfl)
      case oD6 => intro ev wo hev hC hs hph; have x0 := sd hs 45 5; exact od rfl rfl (by kernel_rfl) hC (TSp.of rfl (Grows.refl _)) (by simp [go_sem, x0, pD _ hC] <;> rfl)
      case oD7 => intro ev wo hev hC hs hph; have x0 := se hA hs 5; exact od rfl rfl (by kernel_rfl) hC (TSp.of rfl (Grows.refl _)) (by simp [go_sem, x0] <;> rfl)
      case oD8 => intro ev wo hev hC hs hph; have x0 := sd hs 46 6; have x1 := sd hs 47 7; exact od rfl rfl (by kernel_rfl) hC (TSp.of rfl (Grows.refl _)) (by simp [go_sem, x0, x1, jj0, jj1] <;> rfl)
      case oD9 => intro ev wo hev hC hs hph; have x0 := sd hs 48 8; exact od rfl rfl (by kernel_rfl) hC (TSp.of rfl (Grows.refl _)) (by simp [go_sem, x0, pD _ hC] <;> rfl)
      case oD10 =>
        intro ev wo hev hC hs hph
        have e44 := sd hs 44 4
        have e49 := sd hs 49 9
        have Kx := K.below hC K.lt
        have Kx2 := K2.below hC K2.lt
        have z0 := (hC.cell hadl).trans k0
        have z1 := (hC.cell (p := ⟨(ad.add (j * 4)).block, (ad.add (j * 4)).off + 1, none⟩) hadl).trans k1
        have z2 := (hC.cell (p := ⟨(ad.add (j * 4)).block, (ad.add (j * 4)).off + 2, none⟩) hadl).trans k2
        have z3 := (hC.cell (p := ⟨(ad.add (j * 4)).block, (ad.add (j * 4)).off + 3, none⟩) hadl).trans k3
        have y0 := (hC.cell hadl2).trans l0
        have y1 := (hC.cell (p := ⟨(ad2.add (j * 4)).block, (ad2.add (j * 4)).off + 1, none⟩) hadl2).trans l1
        have y2 := (hC.cell (p := ⟨(ad2.add (j * 4)).block, (ad2.add (j * 4)).off + 2, none⟩) hadl2).trans l2'
        have y3 := (hC.cell (p := ⟨(ad2.add (j * 4)).block, (ad2.add (j * 4)).off + 3, none⟩) hadl2).trans l3
        exact ob_dcall (wanted_none rfl) rfl (by kernel_rfl) (refSame_any x y _ (((hms.octs x (List.mem_of_getElem? hx)).below hC).more hC.size) (((hms2.octs y (List.mem_of_getElem? hy)).below hC).more hC.size)) (exec_call Tryz.func17 (by kernel_rfl) rfl (hev.func _) (by first | (simp only [mL, e44, e49, hev.const] <;> rfl) | (simp [mL, e44, e49, hev.const] <;> rfl))) (by rfl) (fun w3 hb3 => ⟨hC.trans (hb3.mono hC.size), TSp.of rfl hb3⟩)
      case oD11 => intro ev wo hev hC hs hph; have x0 := sd hs 50 10; exact od rfl rfl (by kernel_rfl) hC (TSp.of rfl (Grows.refl _)) (by simp [go_sem, x0] <;> rfl)
      intro sg wf hC hph
      intro a hA
      replace hA := hA.keepN [2, 3, 36, 37, 51]
      refine nT ?_
      refine wp_if hA 51 _ rfl (fun hq2 => ?yR) (fun hq2 => ?nR)
      case yR =>
        have hq2 : sameV x y = false := by simpa using hq2
        rw [hq2, Bool.false_and] at hall
        refine wS (wR ?_)
        revert a; refine wo rfl rfl (by decide) (fun ev e h => by simp [go_sem, h, hwj] <;> rfl) ?_; intro a hA
        replace hA := hA.keepN [4]
        refine wN (nT (wp_ret (rB (rT (rT (rB (rT ?_)))))))
        refine ret_1 hA 4 rfl rfl ?_
        exact ⟨ret_bool hall.symm, hb0.trans ((hb2.trans (hC.mono hb2.size)).mono hb0.size)⟩
      case nR =>
        have hq2 : sameV x y = true := by simpa using hq2
        rw [hq2, Bool.true_and] at hall
        refine wp_skip (nB (nT (wR ?_)))
        revert a; (iterate 2 refine wo rfl rfl (by decide) (fun ev e h => by simp [go_sem, h, hwj] <;> rfl) ?_); intro a hA
        replace hA := hA.keepN [2, 3, 36, 37]
        refine wN (nT ?_)
        rw [show ((j : Int) + 1) = ((j + 1 : Nat) : Int) by omega] at hA
        exact ⟨k - 1, by omega, j + 1, by omega, hA, hall, hC⟩
    case nL =>
      have hjn : j = n := by simp at hq; omega
      subst hjn
      rw [List.drop_of_length_le (by omega), List.drop_of_length_le (by omega)] at hall
      replace hA := hA.keepN []
      refine wp_exit (xT (xT (xB (nT (wS (wR ?_))))))
      revert a; refine wo rfl rfl (by decide) (fun ev e h => by simp [go_sem, h] <;> rfl) ?_; intro a hA
      replace hA := hA.keepN [4]
      refine wN (nT (wp_ret ?_))
      refine ret_1 hA 4 rfl rfl ?_
      exact ⟨by rw [hall]; rfl, hb0.trans ((hb2.trans (HB.mono hb2.size)).mono hb0.size)⟩
end Go.Proofs.YtmjikfeaopmejaaGreatDoor
/-
  Rows of structs of one's own: one cell of an element is set.
-/
namespace Go.Proofs.YtmjikfeaopmejaaGreatDoor
open Go.RowKit
theorem flatK_put {M : Type} {f : M → List Value} {k : Nat} (hf : ∀ x, (f x).length = k) : ∀ (l : List M) (i j : Nat) (x y : M) (u : Value), l[i]? = some x → j < k → f y = (f x).set j u → (l.set i y).flatMap f = (l.flatMap f).set (i * k + j) u
  | [], i, j, x, y, u, h, _, _ => by cases h
  | z :: r, 0, j, x, y, u, h, hj, hy => by
    injection h with h
    subst h
    rw [List.set_cons_zero, List.flatMap_cons, List.flatMap_cons, hy, Nat.zero_mul, Nat.zero_add, List.set_append_left _ _ (by rw [hf]; exact hj)]
  | z :: r, i + 1, j, x, y, u, h, hj, hy => by
    rw [List.set_cons_succ, List.flatMap_cons, List.flatMap_cons, flatK_put hf r i j x y u h hj hy, List.set_append_right _ _ (by rw [hf, Nat.succ_mul]; omega), hf]
    congr 2
    rw [Nat.succ_mul]
    omega
section
variable {M : Type} {s : Sh M} {B : Nat} {w w' : World} {l : List M} {g n c i j : Nat}
/-- one cell of an element is set; its parts stay -/
theorem OwnR.put1 {x y : M} {u : Value} (h : OwnR s B w (.slice (some ⟨g, 0, none⟩) n c) l) (hy : l[i]? = some y) (hj : j < s.k) (hx : s.f x = (s.f y).set j u) (hp : s.parts x = s.parts y) :
    OwnR s B (w.setCell ⟨g, i * s.k + j, none⟩ u) (.slice (some ⟨g, 0, none⟩) n c) (l.set i x) ∧ w.grownBy (w.setCell ⟨g, i * s.k + j, none⟩ u) (some g) := by
  have hn := h.len
  have hr := h.row
  rw [hn] at hr
  obtain ⟨h1, h2⟩ := hr.stored (i * s.k + j) u
  rw [← flatK_put s.len l i j y x u hy hj hx] at h1
  have keep : ∀ {p}, ReadsP w p → OffP g p → ReadsP (w.setCell ⟨g, i * s.k + j, none⟩ u) p := fun {p} hp hg => readsP_apart hp hg (fun j hj hne => h2.block j hj (fun e => hne (Option.some.inj e))) h2.size
  have hm0 := List.mem_of_getElem? hy
  refine ⟨⟨by rw [List.length_set, hn]; exact h1, fun m hm p hp' => ?_, fun g' hg' m hm p hp' => ?_⟩, h2⟩
  · rcases List.mem_or_eq_of_mem_set hm with hm | hm
    · exact keep (h.octs m hm p hp') (h.off g rfl m hm p hp')
    · subst hm
      rw [hp] at hp'
      exact keep (h.octs y hm0 p hp') (h.off g rfl y hm0 p hp')
  · rcases List.mem_or_eq_of_mem_set hm with hm | hm
    · exact h.off g' hg' m hm p hp'
    · subst hm
      rw [hp] at hp'
      exact h.off g' hg' y hm0 p hp'
/-- what an element's cell holds -/
theorem OwnR.cellAt {x : M} {u : Value} (h : OwnR s B w (.slice (some ⟨g, 0, none⟩) n c) l) (hx : l[i]? = some x) (hk : (s.f x)[j]? = some u) : w.cell? ⟨g, i * s.k + j, none⟩ = some u := by
  have hn := h.len
  have hr := h.row
  rw [hn] at hr
  have hi := (List.getElem?_eq_some_iff.1 hx).1
  have hj : j < s.k := by have := (List.getElem?_eq_some_iff.1 hk).1; rw [s.len] at this; exact this
  have hle : i * s.k + s.k ≤ n * s.k := by rw [← Nat.succ_mul]; exact Nat.mul_le_mul_right _ (by omega)
  rw [hr.cellAt _ (by omega)]
  exact (flatK_at s.len l i j x hx hj).trans hk
theorem OwnR.frozenAt (h : OwnR s B w (.slice (some ⟨g, 0, none⟩) n c) l) (k : Nat) : w.frozen? ⟨g, k, none⟩ = false := by
  have hn := h.len
  have hr := h.row
  rw [hn] at hr
  exact hr.frozenAt k
/-- another row grows -/
theorem OwnR.grown {v : Value} {row : Option Nat} (h : OwnR s B w v l) (hg : w.grownBy w' row) (hne : ∀ g, v.ownBlock = some g → row ≠ some g) (hoff : ∀ g, row = some g → ∀ m ∈ l, ∀ p ∈ s.parts m, OffP g p) : OwnR s B w' v l := by
  refine ⟨own_keep h.row fun g hg' => hg.block g (World.ownsRow.lt h.row g hg').2 (fun e => hne g hg' e.symm), fun m hm p hp => ?_, h.off⟩
  cases hb : row with
  | none => exact (Reads.grown (h.octs m hm p hp) hg (Nat.le_refl _) fun g hg' => by rw [hb] at hg'; cases hg').more hg.size
  | some g => exact readsP_apart (h.octs m hm p hp) (hoff g hb m hm p hp) (fun j hj hne => hg.block j hj (fun e => by rw [hb] at e; exact hne (Option.some.inj e))) hg.size
/-- rows of different kinds lie in different blocks -/
theorem OwnR.ne {M2 : Type} {s2 : Sh M2} {B2 : Nat} {v v2 : Value} {l2 : List M2} (h : OwnR s B w v l) (h2 : OwnR s2 B2 w v2 l2) (ht : s2.T ≠ s.T) {g : Nat} (hg : v.ownBlock = some g) : v2.ownBlock ≠ some g := fun hg2 => by
  obtain ⟨cs, hc⟩ := own_kind h.row hg
  obtain ⟨cs2, hc2⟩ := own_kind h2.row hg2
  rw [hc] at hc2
  injection hc2 with hc2
  injection hc2 with _ hc2
  exact ht hc2.symm
end
end Go.Proofs.YtmjikfeaopmejaaGreatDoor
/-
  What notes make of a mailbox, plainly: loop by loop.
-/
namespace Go.Proofs.YtmjikfeaopmejaaGreatDoor
/-- the UID of the last one -/
def lastN (a : Nat) (l : List NoteB) : Nat := ((l.getLast?).map NoteB.u).getD a
theorem lastN_cons (a : Nat) (n : NoteB) (l : List NoteB) : lastN a (n :: l) = lastN n.u l := by
  unfold lastN
  cases l with
  | nil => rfl
  | cons m r => rw [List.getLast?_cons_cons]; simp [List.getLast?_cons]
theorem lastN_snoc (a : Nat) (l : List NoteB) (n : NoteB) : lastN a (l ++ [n]) = n.u := by
  unfold lastN
  rw [List.getLast?_concat]
  rfl
theorem riseN_snoc (E : Nat) (n : NoteB) : ∀ (a : Nat) (l : List NoteB), riseN E a (l ++ [n]) = (riseN E a l && (n.ep == E && decide (lastN a l < n.u) && !(n.u == 4294967295)))
  | a, [] => by
    show riseN E a [n] = _
    unfold riseN riseN lastN
    simp
    rfl
  | a, m :: l => by
    rw [List.cons_append]
    unfold riseN
    rw [riseN_snoc E n m.u l, lastN_cons]
    simp only [Bool.and_assoc]
def goneIn (n : NoteB) (r : List NoteB) : Bool := !(n.k == 2) || r.any fun m => m.k == 3 && goneB m n
theorem ofLive_drop {l : List NoteB} {j : Nat} {x : NoteB} (hx : l[j]? = some x) : ofLive (l.drop j) = (bif goneIn x (l.drop (j + 1)) then [] else [x]) ++ ofLive (l.drop (j + 1)) := by
  have hj := (List.getElem?_eq_some_iff.1 hx).1
  have e : l.drop j = x :: l.drop (j + 1) := by
    rw [List.drop_eq_getElem_cons hj]
    congr 1
    exact (List.getElem?_eq_some_iff.1 hx).2
  rw [e]
  conv => lhs; unfold ofLive
  unfold goneIn
  cases x.k == 2 <;> cases (l.drop (j + 1)).any (fun m => m.k == 3 && goneB m x) <;> rfl
theorem any_drop {α : Type} {p : α → Bool} {l : List α} {j : Nat} {x : α} (hx : l[j]? = some x) : (l.drop j).any p = (p x || (l.drop (j + 1)).any p) := by
  have hj := (List.getElem?_eq_some_iff.1 hx).1
  rw [List.drop_eq_getElem_cons hj, List.any_cons, (List.getElem?_eq_some_iff.1 hx).2]
theorem ofEp_take {l : List NoteB} {j : Nat} {x : NoteB} (hx : l[j]? = some x) : ofEp (l.take (j + 1)) = max (ofEp (l.take j)) x.ep := by
  rw [List.take_add_one, hx]
  exact ofEp_snoc x _
theorem ofNm_take {l : List NoteB} {j : Nat} {x : NoteB} (hx : l[j]? = some x) : ofNm (l.take (j + 1)) = bif decide (x.k < 3) then x.nm else ofNm (l.take j) := by
  rw [List.take_add_one, hx]
  unfold ofNm
  rw [List.foldl_append]
  rfl
theorem ofNx_take {E : Nat} {l : List NoteB} {j : Nat} {x : NoteB} (hx : l[j]? = some x) : ofNx E (l.take (j + 1)) = nxStep E (ofNx E (l.take j)) x := by
  rw [List.take_add_one, hx]
  exact ofNx_snoc E x _
theorem ofLive_len : ∀ l : List NoteB, (ofLive l).length ≤ l.length
  | [] => Nat.le_refl _
  | n :: r => by
    have := ofLive_len r
    unfold ofLive
    cases n.k == 2 && !r.any (fun m => m.k == 3 && goneB m n) <;> simp <;> omega
theorem ofLive_mem : ∀ {l : List NoteB} {x : NoteB}, x ∈ ofLive l → x ∈ l ∧ x.k = 2
  | [], x, h => by cases h
  | n :: r, x, h => by
    unfold ofLive at h
    cases hc : n.k == 2 && !r.any (fun m => m.k == 3 && goneB m n) with
    | false =>
      rw [hc, cond_false] at h
      exact ⟨List.mem_cons_of_mem _ (ofLive_mem h).1, (ofLive_mem h).2⟩
    | true =>
      rw [hc, cond_true] at h
      rcases List.mem_cons.1 h with e | h
      · subst e
        rw [Bool.and_eq_true, beq_iff_eq] at hc
        exact ⟨List.mem_cons_self, hc.1⟩
      · exact ⟨List.mem_cons_of_mem _ (ofLive_mem h).1, (ofLive_mem h).2⟩
-- numbered anew
theorem renum_len : ∀ (i : Nat) (l : List NoteB), (renum i l).length = l.length
  | _, [] => rfl
  | i, _ :: r => by unfold renum; rw [List.length_cons, List.length_cons, renum_len (i + 1) r]
theorem renum_get : ∀ (i : Nat) (l : List NoteB) (j : Nat), (renum i l)[j]? = (l[j]?).map fun n => ((i + j + 1) % 4294967296, n.d, n.f, n.o)
  | _, [], j => by unfold renum; simp
  | i, n :: r, 0 => by unfold renum; simp
  | i, n :: r, j + 1 => by
    unfold renum
    rw [List.getElem?_cons_succ, List.getElem?_cons_succ, renum_get (i + 1) r j]
    rw [show i + 1 + j + 1 = i + (j + 1) + 1 by omega]
/-- the places of records don't matter -/
def z0 (n : NoteB) : NoteB := { n with at_ := 0 }
theorem goneB_z0 (n x : NoteB) : goneB (z0 n) (z0 x) = goneB n x := rfl
theorem any_z0 (n : NoteB) (r : List NoteB) : (r.map z0).any (fun m => m.k == 3 && goneB m (z0 n)) = r.any (fun m => m.k == 3 && goneB m n) := by
  rw [List.any_map]; rfl
theorem ofLive_z0 : ∀ l : List NoteB, ofLive (l.map z0) = (ofLive l).map z0
  | [] => rfl
  | n :: r => by
    rw [List.map_cons]
    unfold ofLive
    rw [any_z0, ofLive_z0 r]
    show (bif n.k == 2 && _ then z0 n :: _ else _) = _
    cases n.k == 2 && !r.any (fun m => m.k == 3 && goneB m n) <;> rfl
theorem ofAll_z0 (l : List NoteB) : ofAll (l.map z0) = { ofAll l with live := (ofAll l).live.map z0 } := by
  have e1 : ∀ (e : Nat), (l.map z0).foldl (fun e n => max e n.ep) e = l.foldl (fun e n => max e n.ep) e := fun e => by rw [List.foldl_map]; rfl
  have e2 : ∀ (s : ByteArray), (l.map z0).foldl (fun s n => bif decide (n.k < 3) then n.nm else s) s = l.foldl (fun s n => bif decide (n.k < 3) then n.nm else s) s := fun s => by rw [List.foldl_map]; rfl
  have e3 : ∀ (E x : Nat), (l.map z0).foldl (nxStep E) x = l.foldl (nxStep E) x := fun E x => by rw [List.foldl_map]; rfl
  unfold ofAll ofNm ofEp ofNx
  rw [e1, e2, e3, ofLive_z0]
theorem riseN_z0 (E : Nat) : ∀ (a : Nat) (l : List NoteB), riseN E a (l.map z0) = riseN E a l
  | _, [] => rfl
  | a, n :: r => by
    rw [List.map_cons]
    unfold riseN
    rw [show (z0 n).u = n.u from rfl, riseN_z0 E n.u r]
    rfl
theorem cleanS_z0 (l : List NoteB) : cleanS (ofAll (l.map z0)) = cleanS (ofAll l) := by
  rw [ofAll_z0]
  unfold cleanS
  exact riseN_z0 _ _ _
theorem renum_z0 : ∀ (i : Nat) (l : List NoteB), renum i (l.map z0) = renum i l
  | _, [] => rfl
  | i, n :: r => by
    rw [List.map_cons]
    unfold renum
    rw [renum_z0 (i + 1) r]
    rfl
theorem boxS_z0 (l : List NoteB) : boxS (ofAll (l.map z0)) = boxS (ofAll l) := by
  unfold boxS
  rw [cleanS_z0, ofAll_z0]
  simp only [renum_z0, List.length_map, List.map_map]
  rfl
end Go.Proofs.YtmjikfeaopmejaaGreatDoor
/-
  Walk: the mailbox of a log (log.Box).
-/
namespace Go.Proofs.YtmjikfeaopmejaaGreatDoor
open Go.RowKit
set_option linter.unusedSimpArgs false
set_option linter.unusedVariables false
set_option maxRecDepth 100000 in
set_option maxHeartbeats 2000000 in
theorem box_any (s : LogS) (z : Int) (A : Option Addr) (c n : Nat) (L : List LiveV) (w : World) (hn : n ≤ 16000000) (hl : L.length = n) (hr : RowR liveSh w A L) (hsm : ∀ x ∈ L, x.m.b.length ≤ 1000000) (hlv : L.map liveL = s.live.map noteL) (hep : s.ep < 4294967296) :
    Calls Tryz.prog 22 #[.agg #[.string s.nm, .int .u32 (s.ep : Nat), .int .u32 (s.nx : Nat), .slice A n c, .int .i64 z, .bool (cleanS s)]] w
      fun ev w' => ∃ v M, ev = .returned (.agg #[.string (boxS s).nm, .int .u32 ((boxS s).ep : Nat), .int .u32 ((boxS s).nx : Nat), v]) ∧ OwnR msgSh w.heap.size w' v M ∧ M.map msgB = (boxS s).msgs ∧ Below w.heap.size w w' := by
  refine calls_at 64 Tryz.func22 rfl rfl (Nat.le_of_ble_eq_true rfl) ?_
  intro a hA; replace hA := hA.norm
  refine wS (wR ?_)
  refine wl_new hA rfl rfl (by decide) (fun ev h => by simp [go_sem, h.get 0 rfl]; try first | exact ⟨rfl, rfl⟩ | rfl) fun w1 a (K1 : Blk _ _ _ _) hz1 hb1 hA => ?_
  refine wl_new hA rfl rfl (by decide) (fun ev h => by simp [go_sem]; try first | exact ⟨rfl, rfl⟩ | rfl) fun w2 a (K2 : Blk _ _ _ _) hz2 hb2 hA => ?_
  replace K1 := K1.below hb2 K1.lt
  replace hA := hA.keepN [1, 2]
  refine wN (nT (wS (wR ?_)))
  revert a; (iterate 7 refine wo rfl rfl (by decide) (fun ev e h => by simp [go_sem, h, K1.cell] <;> rfl) ?_); intro a hA
  refine wl_local [.string s.nm, .int .u32 (s.ep : Nat), .int .u32 (s.nx : Nat), .slice none 0 0] hA rfl rfl (by decide) (fun ev h => by simp [go_sem, K1.cell]; try first | exact ⟨rfl, rfl⟩ | rfl) rfl rfl (by rfl) (fun w1 g ev hb h => by simp [go_sem, h.get 3 rfl, h.get 14 rfl, K1.cell, setAll, hb.cell, hb.frozen]) fun w3 a (K3 : Blk _ _ _ _) hz3 hb3 hA => ?_
  replace K1 := K1.below hb3 K1.lt
  replace K2 := K2.below hb3 K2.lt
  replace hA := hA.keepN [1, 2, 3]
  refine wN (nT (wS (wS (wR ?_))))
  revert a; (iterate 4 refine wo rfl rfl (by decide) (fun ev e h => by simp [go_sem, h, K1.cell] <;> rfl) ?_); intro a hA
  replace hA := hA.keepN [1, 2, 3, 16, 17, 18]
  refine wN (nT (wB ?_))
  obtain ⟨pb, hpb⟩ : ∃ x, w2.heap.size = x := ⟨_, rfl⟩
  rw [hpb] at K3 hA
  have HB := hb1.trans ((hb2.mono hb1.size).trans (hb3.mono (by omega)))
  have hpw : w.heap.size < pb := by omega
  have hp1 : w1.heap.size < pb := by omega
  refine wp_loop_at (fun kk a wx => ∃ (j : Nat) (v : Value) (M : List MsgV), j + kk = n ∧ At 64 [(1, .pointer (some ⟨w.heap.size, 0, none⟩)), (2, .pointer (some ⟨w1.heap.size, 0, none⟩)), (3, .pointer (some ⟨pb, 0, none⟩)), (16, .slice A n c), (17, .int .i64 (n : Nat)), (18, .int .i64 (j : Nat))] a ∧ Blk wx pb 50 #[.string s.nm, .int .u32 (s.ep : Nat), .int .u32 (s.nx : Nat), v] ∧ OwnR msgSh (pb + 1) wx v M ∧ M.map msgB = (L.take j).map (fun x => msgB x.m) ∧ Below pb w3 wx ∧ pb < wx.heap.size) (n) ?_ ?_
  · exact ⟨0, _, [], by omega, hA, K3, OwnR.nil _ _, rfl, (Below.refl _ _).mono (Nat.le_of_lt K3.lt), K3.lt⟩
  clear K3
  rintro kk a wx ⟨j, v, M, hjk, hA, K3, ho, hM, HL, hpx⟩
  refine wS (wR ?_)
  revert a; refine wo rfl rfl (by decide) (fun ev e h => by simp [go_sem, h] <;> rfl) ?_; intro a hA
  replace hA := hA.keepN [1, 2, 3, 16, 17, 18, 19]
  refine wN (nT (wS ?_))
  refine wp_if hA 19 _ rfl (fun hq => ?yI) (fun hq => ?nI)
  case yI =>
    have hlt : j < n := by simp at hq; omega
    obtain ⟨x, hx⟩ : ∃ x, L[j]? = some x := ⟨_, List.getElem?_eq_getElem (by omega)⟩
    obtain ⟨Av, cv, rfl, _⟩ := ho.reads
    have HBx : Below w.heap.size w wx := HB.trans (HL.mono (Nat.le_of_lt hpw))
    have hxs := hsm x (List.mem_of_getElem? hx)
    have hxr := (hr.octs x (List.mem_of_getElem? hx) (x.m.a, x.m.b) (List.mem_singleton.2 rfl)).below HBx
    obtain ⟨ad, rfl, hadl, kz, kk'⟩ := hr.cell hx
    have z0 : wx.cell? (ad.add (j * 6)) = some (.int .u32 (x.m.uid : Nat)) := (HBx.cell (by rw [block_of_add]; exact hadl)).trans (kz _ rfl)
    have zz : ∀ d u, 0 < d → (liveC x)[d]? = some u → wx.cell? ⟨(ad.add (j * 6)).block, (ad.add (j * 6)).off + d, none⟩ = some u := fun d u hd hu => (HBx.cell (by show (ad.add _).block < _; rw [block_of_add]; exact hadl)).trans (kk' d _ hd hu)
    have z1 := zz 1 _ (by decide) rfl
    have z2 := zz 2 _ (by decide) rfl
    have z3 := zz 3 _ (by decide) rfl
    have z4 := zz 4 _ (by decide) rfl
    have z5 := zz 5 _ (by decide) rfl
    have jj0 : (0 : Int) ≤ (j : Int) := by omega
    have jj1 : (j : Int) < (n : Int) := by omega
    have hwj : IntKind.i64.wrap ((j : Int) + 1) = (j : Int) + 1 := IntWalk.i64_in _ (by omega)
    refine wp_skip (nT (wS (wB (wS (wR ?_)))))
    revert a; (iterate 2 refine wo rfl rfl (by decide) (fun ev e h => by simp [go_sem, h, z0, z1, z2, z3, z4, z5, jj0, jj1] <;> rfl) ?_); intro a hA
    refine wl_local [.int .u32 (x.m.uid : Nat), .int .i64 x.m.date, .int .i64 x.m.flags, .slice x.m.a x.m.b.length x.m.c, .int .u32 (x.ep : Nat), .int .i64 (x.at_ : Nat)] hA rfl rfl (by decide) (fun ev h => by simp [go_sem, z0, z1, z2, z3, z4, z5, jj0, jj1]; try first | exact ⟨rfl, rfl⟩ | rfl) rfl rfl (by rfl) (fun w1 g ev hb h => by simp [go_sem, h.get 5 rfl, h.get 21 rfl, z0, z1, z2, z3, z4, z5, jj0, jj1, setAll, hb.cell, hb.frozen]) fun w5 a (K5 : Blk _ _ _ _) hz5 hb5 hA => ?_
    replace K3 := K3.below hb5 K3.lt
    replace ho := ho.below hb5
    replace hxr := hxr.below hb5
    replace HL := HL.trans (hb5.mono (Nat.le_of_lt hpx))
    clear z0 z1 z2 z3 z4 z5 zz kz kk'
    replace hA := hA.keepN [1, 2, 3, 5, 16, 17, 18]
    refine wN (nT (wS (wR ?_)))
    revert a; (iterate 2 refine wo rfl rfl (by decide) (fun ev e h => by simp [go_sem, h, K5.cell] <;> rfl) ?_); intro a hA
    have hvlt := World.ownsRow.lt ho.row
    refine wl_local [.int .u32 (x.m.uid : Nat), .int .i64 x.m.date, .int .i64 x.m.flags, .slice x.m.a x.m.b.length x.m.c] hA rfl rfl (by decide) (fun ev h => by simp [go_sem, K5.cell]; try first | exact ⟨rfl, rfl⟩ | rfl) rfl rfl (by rfl) (fun w1 g ev hb h => by simp [go_sem, h.get 6 rfl, h.get 23 rfl, K5.cell, setAll, hb.cell, hb.frozen]) fun w6 a (K6 : Blk _ _ _ _) hz6 hb6 hA => ?_
    replace K3 := K3.below hb6 K3.lt
    replace ho := ho.below hb6
    replace hxr := hxr.below hb6
    replace HL := HL.trans (hb6.mono (by omega))
    replace hA := hA.keepN [1, 2, 3, 6, 16, 17, 18]
    refine wN (nT (wS (wR ?_)))
    revert a; (iterate 2 refine wo rfl rfl (by decide) (fun ev e h => by simp [go_sem, h, K6.cell] <;> rfl) ?_); intro a hA
    refine wl_call hA rfl rfl (by decide) (fun ev h => exec_call Tryz.func54 (by kernel_rfl) rfl (h.f _) (by first | (simp only [mL, h.get 25 rfl, h.c] <;> rfl) | (simp [mL, h.get 25 rfl, h.c, K6.cell] <;> rfl))) (clone8_any x.m.a x.m.b.length x.m.c x.m.b rfl (by omega) _ hxr) ?_
    rintro e w7 ⟨cl, rfl, hcl, hb7⟩
    refine ⟨_, rfl, fun a hA => ?_⟩
    replace K3 := K3.below hb7 K3.lt
    replace ho := ho.below hb7
    replace K6 := K6.below hb7 K6.lt
    replace HL := HL.trans (hb7.mono (by omega))
    obtain ⟨A8, c8, rfl, hR8⟩ := hcl.took
    have hclt := World.ownsRow.lt hcl
    have K60 := K6
    have hz7 := hb7.size
    revert a; refine wo rfl rfl (by decide) (fun ev e h => by simp [go_sem, h, K6.cell] <;> rfl) ?_; intro a hA
    refine wl_setf ([.int .u32 (x.m.uid : Nat), .int .i64 x.m.date, .int .i64 x.m.flags, .slice A8 x.m.b.length c8]) _ hA rfl rfl K6 (j := 3) (by rfl) (fun ev h => by simp [go_sem, h.get 27 rfl, h.get 26 rfl, K6.cell, K6.cell, K6.frozen]; try first | exact ⟨rfl, rfl⟩ | rfl) fun w8 (K6 : Blk _ _ _ _) hs8 => ?_
    replace HL := hs8.below HL (by omega)
    replace ho := ho.only hs8 (fun g hg => by have := (hvlt g hg).2; omega) (fun y hy p hp => readsP_blk (ho.octs y hy p hp) K60 rfl)
    replace K3 := hs8.blk K3 (by omega)
    replace hR8 := reads_only hR8 hs8 K60 rfl
    replace hA := hA.keepN [1, 2, 3, 6, 16, 17, 18]
    refine wN (nT (wR ?_))
    revert a; (iterate 3 refine wo rfl rfl (by decide) (fun ev e h => by simp [go_sem, h, K6.cell, K3.cell] <;> rfl) ?_); intro a hA
    refine wl_new hA rfl rfl (by decide) (fun ev h => by simp [go_sem, h.get 30 rfl, K6.cell, K3.cell]; try first | exact ⟨rfl, rfl⟩ | rfl) fun w9 a (K9 : Blk _ _ _ _) hz9 hb9 hA => ?_
    replace K3 := K3.below hb9 K3.lt
    replace ho := ho.below hb9
    replace HL := HL.trans (hb9.mono (by have := hs8.size; omega))
    replace hR8 := (hR8.below hb9).more hb9.size
    have hrow : RowR msgSh w9 _ [(⟨x.m.uid, x.m.date, x.m.flags, A8, c8, x.m.b⟩ : MsgV)] := rowR_blk (s := msgSh) (x := ⟨x.m.uid, x.m.date, x.m.flags, A8, c8, x.m.b⟩) K9 (fun p hp => by rw [List.mem_singleton.1 hp]; exact hR8)
    have hML : M.length = j := by
      have := congrArg List.length hM
      rw [List.length_map, List.length_map, List.length_take] at this
      omega
    obtain ⟨r, w10, hr10, ho10, hgr, -⟩ := run_appR ho hrow (fun g hg y hy p hp => by
      rw [List.mem_singleton.1 hy] at hp
      rw [List.mem_singleton.1 hp]
      intro hn' ad' ha he
      replace ha : A8 = some ad' := ha
      have h1 := (hvlt g hg).2
      have h2 := (hclt ad'.block (by rw [ha]; rfl)).1
      omega) (by simp; omega) (by have := hs8.size; omega)
    refine wl_op hA rfl rfl (by decide) (fun ev h => exec_append rfl (h.get 29 rfl) (h.get 31 rfl) hr10) fun a hA => ?_
    have K310 := K3.grown hgr (fun e => by have := (hvlt pb e.symm).1; omega)
    have hHL := below_appR HL ho hgr (by omega) (by have := hs8.size; omega)
    obtain ⟨A11, c11, rfl, _⟩ := ho10.reads
    have K3a := K310
    revert a; refine wo rfl rfl (by decide) (fun ev e h => by simp [go_sem, h, K6.cell, K3.cell] <;> rfl) ?_; intro a hA
    refine wl_setf ([.string s.nm, .int .u32 (s.ep : Nat), .int .u32 (s.nx : Nat), .slice A11 (M ++ [(⟨x.m.uid, x.m.date, x.m.flags, A8, c8, x.m.b⟩ : MsgV)]).length c11]) _ hA rfl rfl K310 (j := 3) (by rfl) (fun ev h => by simp [go_sem, h.get 33 rfl, h.get 32 rfl, K6.cell, K3.cell, K310.cell, K310.frozen]; try first | exact ⟨rfl, rfl⟩ | rfl) fun w11 (K310 : Blk _ _ _ _) hs11 => ?_
    replace hA := hA.keepN [1, 2, 3, 16, 17, 18]
    refine wN (nB (nT (wR ?_)))
    revert a; (iterate 2 refine wo rfl rfl (by decide) (fun ev e h => by simp [go_sem, h, hwj] <;> rfl) ?_); intro a hA
    replace hA := hA.keepN [1, 2, 3, 16, 17, 18]
    refine wN (nT ?_)
    rw [show ((j : Int) + 1) = ((j + 1 : Nat) : Int) by omega] at hA
    exact ⟨kk - 1, by omega, j + 1, _, _, by omega, hA, K310, ho10.onlyK hs11 K3a (by decide) rfl, by rw [List.map_append, hM, List.take_add_one, hx, List.map_append]; rfl, hs11.below hHL (Nat.le_refl _), K310.lt⟩
  case nI =>
    have hjn : j = n := by simp at hq; omega
    rw [hjn, ← hl, List.take_length] at hM
    obtain ⟨Av, cv, rfl, _⟩ := ho.reads
    have K1x := K1.below HL hpw
    have K2x := K2.below HL hp1
    have HBx : Below w.heap.size w wx := HB.trans (HL.mono (Nat.le_of_lt hpw))
    replace hA := hA.keepN [1, 2, 3]
    refine wp_exit (xT (xT (xB (nT (wS (wS (wR ?_)))))))
    revert a; (iterate 2 refine wo rfl rfl (by decide) (fun ev e h => by simp [go_sem, h, K1x.cell] <;> rfl) ?_); intro a hA
    replace hA := hA.keepN [2, 3, 36]
    refine wN (nT ?_)
    refine wp_if hA 36 _ rfl (fun hq2 => ?yC) (fun hq2 => ?nC)
    case yC =>
      have hbx : boxS s = ⟨s.nm, s.ep, s.nx, s.live.map bare4⟩ := by unfold boxS; rw [hq2]; rfl
      rw [hbx]
      refine wS (wR ?_)
      revert a; refine wo rfl rfl (by decide) (fun ev e h => by simp [go_sem, h, K3.cell] <;> rfl) ?_; intro a hA
      have K20 := K2x
      refine wl_set [.string s.nm, .int .u32 (s.ep : Nat), .int .u32 (s.nx : Nat), .slice Av M.length cv] hA rfl rfl K2x (by rfl) (fun ev h => by simp [go_sem, h.get 2 rfl, h.get 37 rfl, K3.cell, setAll, K2x.cell, K2x.frozen]) fun w12 (K2x : Blk _ _ _ _) hs12 => ?_
      replace hA := hA.keepN [2]
      refine wN (nT (wp_ret (rT ?_)))
      refine bodyPost_ret (by simp [results, Tryz.results22, go_sem, hA.env 2 _ rfl, K2x.cell]; try first | exact ⟨rfl, rfl⟩ | rfl) hA.defers ?_
      refine ⟨_, M, rfl, (ho.onlyK hs12 K20 (by decide) rfl).mono (by omega), ?_, hs12.below HBx (by omega)⟩
      rw [hM]
      have := congrArg (List.map fun q : Nat × Nat × Int × Int × List UInt8 × Nat => (q.2.1, q.2.2.1, q.2.2.2.1, q.2.2.2.2.1)) hlv
      rw [List.map_map, List.map_map] at this
      exact this
    case nC =>
      have hbx : boxS s = ⟨s.nm, behindN s.ep, (s.live.length + 1) % 4294967296, renum 0 s.live⟩ := by unfold boxS; rw [hq2]; rfl
      rw [hbx]
      refine wp_skip (nT (wS (wR ?_)))
      revert a; (iterate 2 refine wo rfl rfl (by decide) (fun ev e h => by simp [go_sem, h, K3.cell] <;> rfl) ?_); intro a hA
      refine wl_call hA rfl rfl (by decide) (fun ev h => exec_call Tryz.func55 (by kernel_rfl) rfl (h.f _) (by first | (simp only [mL, h.get 39 rfl, h.c] <;> rfl) | (simp [mL, h.get 39 rfl, h.c, K3.cell] <;> rfl))) (behind_any s.ep hep _) ?_
      rintro e w12 ⟨rfl, rfl⟩
      refine ⟨_, rfl, fun a hA => ?_⟩
      have K30 := K3
      revert a; refine wo rfl rfl (by decide) (fun ev e h => by simp [go_sem, h, K3.cell] <;> rfl) ?_; intro a hA
      refine wl_setf ([.string s.nm, .int .u32 (behindN s.ep : Nat), .int .u32 (s.nx : Nat), .slice Av M.length cv]) _ hA rfl rfl K3 (j := 1) (by rfl) (fun ev h => by simp [go_sem, h.get 41 rfl, h.get 40 rfl, K3.cell, K3.cell, K3.frozen]; try first | exact ⟨rfl, rfl⟩ | rfl) fun w13 (K3 : Blk _ _ _ _) hs13 => ?_
      replace ho := ho.onlyK hs13 K30 (by decide) rfl
      replace HL := hs13.below HL (Nat.le_refl _)
      have hMn : M.length = n := by
        have := congrArg List.length hM
        rw [List.length_map, List.length_map] at this
        omega
      rw [hMn] at K3 ho
      have hLn : s.live.length = n := by have := congrArg List.length hlv; rw [List.length_map, List.length_map] at this; omega
      replace hA := hA.keepN [2, 3]
      refine wN (nT (wS (wS (wR ?_))))
      revert a; (iterate 4 refine wo rfl rfl (by decide) (fun ev e h => by simp [go_sem, h, K3.cell] <;> rfl) ?_); intro a hA
      replace hA := hA.keepN [2, 3, 44, 45]
      refine wN (nT (wB ?_))
      have hpl : pb < w13.heap.size := K3.lt
      refine wp_loop_at (fun kk a wy => ∃ (j : Nat) (M' : List MsgV), j + kk = n ∧ At 64 [(2, .pointer (some ⟨w1.heap.size, 0, none⟩)), (3, .pointer (some ⟨pb, 0, none⟩)), (44, .int .i64 (n : Nat)), (45, .int .i64 (j : Nat))] a ∧ Blk wy pb 50 #[.string s.nm, .int .u32 (behindN s.ep : Nat), .int .u32 (s.nx : Nat), .slice Av n cv] ∧ OwnR msgSh (pb + 1) wy (.slice Av n cv) M' ∧ (∀ i, M'[i]? = (M[i]?).map fun x => if i < j then (⟨i + 1, x.date, x.flags, x.a, x.c, x.b⟩ : MsgV) else x) ∧ Below pb w3 wy) (n) ?_ ?_
      · exact ⟨0, M, by omega, hA, K3, ho, fun i => by cases M[i]? <;> simp, HL⟩
      clear K3 ho HL hs13 K30 K2x K1x
      rintro kk a wy ⟨j, M', hjk, hA, K3, ho, hMi, HL⟩
      have hlen' : M'.length = n := by
        obtain ⟨A', c', e, _⟩ := ho.reads
        injection e with _ e _
        exact e.symm
      refine wS (wR ?_)
      revert a; refine wo rfl rfl (by decide) (fun ev e h => by simp [go_sem, h] <;> rfl) ?_; intro a hA
      replace hA := hA.keepN [2, 3, 44, 45, 46]
      refine wN (nT (wS ?_))
      refine wp_if hA 46 _ rfl (fun hq3 => ?yJ) (fun hq3 => ?nJ)
      case yJ =>
        have hlt : j < n := by simp at hq3; omega
        obtain ⟨y, hy⟩ : ∃ y, M'[j]? = some y := ⟨_, List.getElem?_eq_getElem (by omega)⟩
        obtain ⟨g, c', hv, hgB, hglt⟩ := ho.at_ (by omega)
        injection hv with hv1 _ hv3
        subst hv1
        have z0 : wy.cell? ⟨g, j * 4, none⟩ = some (.int .u32 (y.uid : Nat)) := ho.cellAt (j := 0) hy rfl
        have jj0 : (0 : Int) ≤ (j : Int) := by omega
        have jj1 : (j : Int) < (n : Int) := by omega
        have hwu : IntKind.u32.wrap (j : Int) = (j : Int) := IntWalk.u32_in _ (by omega)
        have hwv : IntKind.u32.wrap ((j : Int) + 1) = ((j + 1 : Nat) : Int) := by rw [IntWalk.u32_in _ (by omega)]; omega
        have hwj : IntKind.i64.wrap ((j : Int) + 1) = (j : Int) + 1 := IntWalk.i64_in _ (by omega)
        obtain ⟨h8, h9⟩ := ho.put1 (j := 0) (x := (⟨j + 1, y.date, y.flags, y.a, y.c, y.b⟩ : MsgV)) (u := .int .u32 ((j + 1 : Nat) : Int)) hy (by decide) rfl rfl
        refine wp_skip (nT (wS (wB (wS (wR ?_)))))
        revert a; (iterate 2 refine wo rfl rfl (by decide) (fun ev e h => by simp [go_sem, h, K3.cell, add0, jj0, jj1, hwu, hwv, z0, ho.frozenAt] <;> rfl) ?_); intro a hA
        replace hA := hA.keepN [2, 3, 7, 44, 45]
        refine wN (nT (wR ?_))
        revert a; (iterate 4 refine wo rfl rfl (by decide) (fun ev e h => by simp [go_sem, h, K3.cell, add0, jj0, jj1, hwu, hwv, z0, ho.frozenAt] <;> rfl) ?_); intro a hA
        refine wl_op hA rfl rfl (by decide) (fun ev h => by simp [go_sem, h.get 51 rfl, K3.cell, add0, jj0, jj1, hwu, hwv, z0, ho.frozenAt]; try first | exact ⟨rfl, rfl⟩ | rfl) fun a hA => ?_
        revert a; (iterate 3 refine wo rfl rfl (by decide) (fun ev e h => by simp [go_sem, h, K3.cell, add0, jj0, jj1, hwu, hwv, z0, ho.frozenAt] <;> rfl) ?_); intro a hA
        refine wl_skip hA rfl rfl (fun ev h => by simp [go_sem, h.get 55 rfl, h.get 53 rfl, K3.cell, add0, jj0, jj1, hwu, hwv, z0, ho.frozenAt]; try first | exact ⟨rfl, rfl⟩ | rfl) ?_
        replace hA := hA.keepN [2, 3, 44, 45]
        refine wN (nB (nT (wR ?_)))
        revert a; (iterate 2 refine wo rfl rfl (by decide) (fun ev e h => by simp [go_sem, h, hwj] <;> rfl) ?_); intro a hA
        replace hA := hA.keepN [2, 3, 44, 45]
        refine wN (nT ?_)
        rw [show ((j : Int) + 1) = ((j + 1 : Nat) : Int) by omega] at hA
        refine ⟨kk - 1, by omega, j + 1, _, by omega, hA, K3.grown h9 (fun e => by injection e with e; omega), h8, ?_, HL.grown h9 (by have := HL.size; have := hb3.size; omega) (fun k e => by injection e with e; omega)⟩
        intro i
        rw [List.getElem?_set]
        by_cases hij : j = i
        · subst hij
          rw [if_pos rfl, if_pos (by omega)]
          have := hMi j
          rw [hy] at this
          cases hm : M[j]? with
          | none => rw [hm] at this; cases this
          | some x =>
            rw [hm, Option.map_some, if_neg (by omega)] at this
            injection this with this
            subst this
            rw [Option.map_some, if_pos (by omega)]
        · rw [if_neg hij, hMi i]
          cases M[i]? with
          | none => rfl
          | some x =>
            rw [Option.map_some, Option.map_some]
            by_cases h : i < j
            · rw [if_pos h, if_pos (by omega)]
            · rw [if_neg h, if_neg (by omega)]
      case nJ =>
        have hjn : j = n := by simp at hq3; omega
        subst hjn
        have hwu : IntKind.u32.wrap (j : Int) = (j : Int) := IntWalk.u32_in _ (by omega)
        have hwv : IntKind.u32.wrap ((j : Int) + 1) = (((s.live.length + 1) % 4294967296 : Nat) : Int) := by rw [IntWalk.u32_in _ (by omega), hLn]; omega
        have K2x := K2.below HL hp1
        have HBx : Below w.heap.size w wy := HB.trans (HL.mono (Nat.le_of_lt hpw))
        replace hA := hA.keepN [2, 3]
        refine wp_exit (xT (xT (xB (nT (wS (wR ?_))))))
        revert a; (iterate 3 refine wo rfl rfl (by decide) (fun ev e h => by simp [go_sem, h, K3.cell, hwu, hwv] <;> rfl) ?_); intro a hA
        refine wl_op hA rfl rfl (by decide) (fun ev h => by simp [go_sem, h.get 59 rfl, K3.cell, hwu, hwv]; try first | exact ⟨rfl, rfl⟩ | rfl) fun a hA => ?_
        revert a; (iterate 2 refine wo rfl rfl (by decide) (fun ev e h => by simp [go_sem, h, K3.cell, hwu, hwv] <;> rfl) ?_); intro a hA
        have K30 := K3
        refine wl_setf ([.string s.nm, .int .u32 (behindN s.ep : Nat), .int .u32 ((s.live.length + 1) % 4294967296 : Nat), .slice Av j cv]) _ hA rfl rfl K3 (j := 2) (by rfl) (fun ev h => by simp [go_sem, h.get 62 rfl, h.get 61 rfl, K3.cell, hwu, hwv, K3.cell, K3.frozen]; try first | exact ⟨rfl, rfl⟩ | rfl) fun w14 (K3 : Blk _ _ _ _) hs14 => ?_
        replace ho := ho.onlyK hs14 K30 (by decide) rfl
        replace HBx := hs14.below HBx (by omega)
        replace K2x := hs14.blk K2x (by omega)
        replace hA := hA.keepN [2, 3]
        refine wN (nT (wS (wR ?_)))
        revert a; refine wo rfl rfl (by decide) (fun ev e h => by simp [go_sem, h, K3.cell] <;> rfl) ?_; intro a hA
        have K20 := K2x
        refine wl_set [.string s.nm, .int .u32 (behindN s.ep : Nat), .int .u32 ((s.live.length + 1) % 4294967296 : Nat), .slice Av j cv] hA rfl rfl K2x (by rfl) (fun ev h => by simp [go_sem, h.get 2 rfl, h.get 63 rfl, K3.cell, setAll, K2x.cell, K2x.frozen]) fun w15 (K2x : Blk _ _ _ _) hs15 => ?_
        replace hA := hA.keepN [2]
        refine wN (nT (wp_ret ?_))
        refine bodyPost_ret (by simp [results, Tryz.results22, go_sem, hA.env 2 _ rfl, K2x.cell]; try first | exact ⟨rfl, rfl⟩ | rfl) hA.defers ?_
        refine ⟨_, M', rfl, (ho.onlyK hs15 K20 (by decide) rfl).mono (by omega), ?_, hs15.below HBx (by omega)⟩
        refine List.ext_getElem? fun i => ?_
        rw [renum_get, List.getElem?_map, hMi i]
        have e1 : (M[i]?).map msgB = (s.live[i]?).map bare4 := by
          rw [← List.getElem?_map, ← List.getElem?_map, hM]
          congr 1
          have := congrArg (List.map fun q : Nat × Nat × Int × Int × List UInt8 × Nat => (q.2.1, q.2.2.1, q.2.2.2.1, q.2.2.2.2.1)) hlv
          rw [List.map_map, List.map_map] at this
          exact this
        cases hm : M[i]? with
        | none =>
          rw [hm] at e1
          cases hn2 : s.live[i]? with
          | none => rfl
          | some q => rw [hn2] at e1; cases e1
        | some x =>
          rw [hm] at e1
          have hi : i < j := by have := (List.getElem?_eq_some_iff.1 hm).1; omega
          cases hn2 : s.live[i]? with
          | none => rw [hn2] at e1; cases e1
          | some q =>
            rw [hn2] at e1
            injection e1 with e1
            unfold msgB bare4 at e1
            simp only [Prod.mk.injEq] at e1
            rw [Option.map_some, Option.map_some, Option.map_some, if_pos hi]
            unfold msgB
            rw [show (0 + i + 1) % 4294967296 = i + 1 by omega]
            simp [e1]
end Go.Proofs.YtmjikfeaopmejaaGreatDoor
/-
  Walk: the index, and the flags, of a log (index.Of).
-/
namespace Go.Proofs.YtmjikfeaopmejaaGreatDoor
open Go.RowKit
set_option linter.unusedSimpArgs false
set_option linter.unusedVariables false
def entrySh : Sh (Nat × Nat) := ⟨70, 61, 2, 16, .agg #[.int .u32 0, .int .i64 0], fun q => [.int .u32 (q.1 : Nat), .int .i64 (q.2 : Nat)], fun _ => [], fun _ => rfl, fun q u hu => by
  simp only [List.mem_cons, List.not_mem_nil, or_false] at hu
  rcases hu with rfl | rfl <;> rfl, Tryz.underlying61, by kernel_rfl, rfl, by decide, by decide⟩
def markSh : Sh (Nat × Int) := ⟨72, 64, 2, 16, .agg #[.int .u32 0, .int .i64 0], fun q => [.int .u32 (q.1 : Nat), .int .i64 q.2], fun _ => [], fun _ => rfl, fun q u hu => by
  simp only [List.mem_cons, List.not_mem_nil, or_false] at hu
  rcases hu with rfl | rfl <;> rfl, Tryz.underlying64, by kernel_rfl, rfl, by decide, by decide⟩
def entV (x : LiveV) : Nat × Nat := (x.m.uid, x.at_)
def markV (x : LiveV) : Nat × Int := (x.m.uid, x.m.flags)
/-- is there no index? -/
def noIdx (cl : Bool) (nm : ByteArray) : Bool := !cl || nm.toList.isEmpty
set_option maxRecDepth 100000 in
set_option maxHeartbeats 4000000 in
theorem idxOf_any (nm : ByteArray) (ep nx : Nat) (z : Int) (cl : Bool) (A : Option Addr) (c n : Nat) (L : List LiveV) (w : World) (hn : n ≤ 1000000) (hl : L.length = n) (hr : RowR liveSh w A L) :
    Calls Tryz.prog 30 #[.agg #[.string nm, .int .u32 (ep : Nat), .int .u32 (nx : Nat), .slice A n c, .int .i64 z, .bool cl]] w
      fun ev w' => (noIdx cl nm = true → ev = .returned (.tuple #[.agg #[.string ⟨#[]⟩, .int .u32 0, .int .u32 0, .int .i64 0, .slice none 0 0], .agg #[.int .u32 0, .slice none 0 0]])) ∧ (noIdx cl nm = false → ∃ v u, ev = .returned (.tuple #[.agg #[.string nm, .int .u32 (ep : Nat), .int .u32 (nx : Nat), .int .i64 z, v], .agg #[.int .u32 (ep : Nat), u]]) ∧ OwnR entrySh w.heap.size w' v (L.map entV) ∧ OwnR markSh w.heap.size w' u (L.map markV)) ∧ Below w.heap.size w w' := by
  refine calls_at 63 Tryz.func30 rfl rfl (Nat.le_of_ble_eq_true rfl) ?_
  intro a hA; replace hA := hA.norm
  refine wS (wR ?_)
  refine wl_new hA rfl rfl (by decide) (fun ev h => by simp [go_sem, h.get 0 rfl]; try first | exact ⟨rfl, rfl⟩ | rfl) fun w1 a (K1 : Blk _ _ _ _) hz1 hb1 hA => ?_
  refine wl_new hA rfl rfl (by decide) (fun ev h => by simp [go_sem]; try first | exact ⟨rfl, rfl⟩ | rfl) fun w2 a (K2 : Blk _ _ _ _) hz2 hb2 hA => ?_
  replace K1 := K1.below hb2 K1.lt
  refine wl_new hA rfl rfl (by decide) (fun ev h => by simp [go_sem]; try first | exact ⟨rfl, rfl⟩ | rfl) fun w3 a (K3 : Blk _ _ _ _) hz3 hb3 hA => ?_
  replace K1 := K1.below hb3 K1.lt
  replace K2 := K2.below hb3 K2.lt
  replace hA := hA.keepN [1, 2, 3]
  refine wN (nT (wS (wS (wR ?_))))
  revert a; (iterate 4 refine wo rfl rfl (by decide) (fun ev e h => by simp [go_sem, h, K1.cell] <;> rfl) ?_); (iterate 3 refine wg _ rfl rfl rfl rfl (by decide) (fun hq ev e h => by simp [go_sem, h, ↓gw_t (beq_t hq), K1.cell] <;> rfl) ?_); refine wko rfl rfl (by decide) rfl rfl rfl ?_; intro a hA
  replace hA := hA.keepN [1, 2, 3, 15]
  refine wN (nT ?_)
  obtain ⟨p2, hp2⟩ : ∃ x, w1.heap.size = x := ⟨_, rfl⟩
  obtain ⟨p3, hp3⟩ : ∃ x, w2.heap.size = x := ⟨_, rfl⟩
  rw [hp2] at K2 hA
  rw [hp3] at K3 hA
  have h12 : w.heap.size < p2 := by omega
  have h23 : p2 < p3 := by omega
  have h33 : p3 < w3.heap.size := by omega
  have HB : Below w.heap.size w w3 := hb1.trans ((hb2.mono (by omega)).trans (hb3.mono (by omega)))
  obtain ⟨q, hqe⟩ : ∃ q, noIdx cl nm = q := ⟨_, rfl⟩
  rw [show (!cl || nm.toList.isEmpty) = q from hqe] at hA
  rw [hqe]
  refine wp_if hA 15 _ rfl (fun hq => ?yQ) (fun hq => ?nQ)
  case yQ =>
    subst hq
    refine wS (wR ?_)
    revert a; (iterate 2 refine wo rfl rfl (by decide) (fun ev e h => by simp [go_sem, h, K1.cell] <;> rfl) ?_); intro a hA
    refine wl_set [.string ⟨#[]⟩, .int .u32 0, .int .u32 0, .int .i64 0, .slice none 0 0] hA rfl rfl K2 (by rfl) (fun ev h => by simp [go_sem, h.get 2 rfl, h.get 16 rfl, K1.cell, setAll, K2.cell, K2.frozen]) fun w4 (K2 : Blk _ _ _ _) hs4 => ?_
    replace K3 := hs4.blk K3 (by omega)
    replace HB := hs4.below HB (by omega)
    refine wl_set [.int .u32 0, .slice none 0 0] hA rfl rfl K3 (by rfl) (fun ev h => by simp [go_sem, h.get 3 rfl, h.get 17 rfl, K1.cell, setAll, K3.cell, K3.frozen]) fun w5 (K3 : Blk _ _ _ _) hs5 => ?_
    replace K2 := hs5.blk K2 (by omega)
    replace HB := hs5.below HB (by omega)
    replace hA := hA.keepN [2, 3]
    refine wN (nT (wp_ret (rT ?_)))
    refine bodyPost_ret (by simp [results, Tryz.results30, go_sem, hA.env 2 _ rfl, hA.env 3 _ rfl, K2.cell, K3.cell]; try first | exact ⟨rfl, rfl⟩ | rfl) hA.defers ?_
    exact ⟨fun _ => rfl, fun h => (by cases h), HB⟩
  case nQ =>
    subst hq
    refine wp_skip (nT (wS (wR ?_)))
    revert a; (iterate 9 refine wo rfl rfl (by decide) (fun ev e h => by simp [go_sem, h, K1.cell] <;> rfl) ?_); intro a hA
    refine wl_local [.string nm, .int .u32 (ep : Nat), .int .u32 (nx : Nat), .int .i64 z, .slice none 0 0] hA rfl rfl (by decide) (fun ev h => by simp [go_sem, K1.cell]; try first | exact ⟨rfl, rfl⟩ | rfl) rfl rfl (by rfl) (fun w1 g ev hb h => by simp [go_sem, h.get 4 rfl, h.get 26 rfl, K1.cell, setAll, hb.cell, hb.frozen]) fun w4 a (K4 : Blk _ _ _ _) hz4 hb4 hA => ?_
    replace K1 := K1.below hb4 K1.lt
    replace K2 := K2.below hb4 K2.lt
    replace K3 := K3.below hb4 K3.lt
    replace hA := hA.keepN [1, 2, 3, 4]
    refine wN (nT (wS (wR ?_)))
    revert a; (iterate 3 refine wo rfl rfl (by decide) (fun ev e h => by simp [go_sem, h, K1.cell] <;> rfl) ?_); intro a hA
    refine wl_local [.int .u32 (ep : Nat), .slice none 0 0] hA rfl rfl (by decide) (fun ev h => by simp [go_sem, K1.cell]; try first | exact ⟨rfl, rfl⟩ | rfl) rfl rfl (by rfl) (fun w1 g ev hb h => by simp [go_sem, h.get 5 rfl, h.get 29 rfl, K1.cell, setAll, hb.cell, hb.frozen]) fun w5 a (K5 : Blk _ _ _ _) hz5 hb5 hA => ?_
    replace K1 := K1.below hb5 K1.lt
    replace K2 := K2.below hb5 K2.lt
    replace K3 := K3.below hb5 K3.lt
    replace K4 := K4.below hb5 K4.lt
    obtain ⟨p4, hp4⟩ : ∃ x, w3.heap.size = x := ⟨_, rfl⟩
    obtain ⟨p5, hp5⟩ : ∃ x, w4.heap.size = x := ⟨_, rfl⟩
    rw [hp4] at K4 hA
    rw [hp5] at K5 hA
    have h45 : p4 < p5 := by omega
    have h34 : p3 < p4 := by omega
    have HB5 : Below w.heap.size w w5 := HB.trans ((hb4.mono (by omega)).trans (hb5.mono (by omega)))
    have h5 : p5 < w5.heap.size := by omega
    replace hA := hA.keepN [1, 2, 3, 4, 5]
    refine wN (nT (wS (wS (wR ?_))))
    revert a; (iterate 4 refine wo rfl rfl (by decide) (fun ev e h => by simp [go_sem, h, K1.cell] <;> rfl) ?_); intro a hA
    replace hA := hA.keepN [2, 3, 4, 5, 31, 32, 33]
    refine wN (nT (wB ?_))
    refine wp_loop_at (fun kk a wx => ∃ (j : Nat) (v u : Value), j + kk = n ∧ At 63 [(2, .pointer (some ⟨p2, 0, none⟩)), (3, .pointer (some ⟨p3, 0, none⟩)), (4, .pointer (some ⟨p4, 0, none⟩)), (5, .pointer (some ⟨p5, 0, none⟩)), (31, .slice A n c), (32, .int .i64 (n : Nat)), (33, .int .i64 (j : Nat))] a ∧ Blk wx p4 63 #[.string nm, .int .u32 (ep : Nat), .int .u32 (nx : Nat), .int .i64 z, v] ∧ Blk wx p5 66 #[.int .u32 (ep : Nat), u] ∧ OwnR entrySh (p5 + 1) wx v ((L.take j).map entV) ∧ OwnR markSh (p5 + 1) wx u ((L.take j).map markV) ∧ Below p4 w5 wx) (n) ?_ ?_
    · exact ⟨0, _, _, by omega, hA, K4, K5, OwnR.nil _ _, OwnR.nil _ _, (Below.refl w5.heap.size w5).mono (by omega)⟩
    clear K4 K5
    rintro kk a wx ⟨j, v, u, hjk, hA, K4, K5, hov, hou, HL⟩
    obtain ⟨Av, cv, rfl, _⟩ := hov.reads
    obtain ⟨Au, cu, rfl, _⟩ := hou.reads
    obtain ⟨q1, hq1⟩ : ∃ q, ((L.take j).map entV).length = q := ⟨_, rfl⟩
    obtain ⟨q2, hq2⟩ : ∃ q, ((L.take j).map markV).length = q := ⟨_, rfl⟩
    rw [hq1] at K4 hov
    rw [hq2] at K5 hou
    have hwx : w5.heap.size ≤ wx.heap.size := HL.size
    have HBx : Below w.heap.size w wx := HB5.trans (HL.mono (by omega))
    refine wS (wR ?_)
    revert a; refine wo rfl rfl (by decide) (fun ev e h => by simp [go_sem, h] <;> rfl) ?_; intro a hA
    replace hA := hA.keepN [2, 3, 4, 5, 31, 32, 33, 34]
    refine wN (nT (wS ?_))
    refine wp_if hA 34 _ rfl (fun hq => ?yI) (fun hq => ?nI)
    case yI =>
      have hlt : j < n := by simp at hq; omega
      obtain ⟨x, hx⟩ : ∃ x, L[j]? = some x := ⟨_, List.getElem?_eq_getElem (by omega)⟩
      have hle : ((L.take j).map entV).length ≤ j := by rw [List.length_map, List.length_take]; omega
      have hle2 : ((L.take j).map markV).length ≤ j := by rw [List.length_map, List.length_take]; omega
      have e1 : (L.take (j + 1)).map entV = (L.take j).map entV ++ [entV x] := by rw [List.take_add_one, hx, List.map_append]; rfl
      have e2 : (L.take (j + 1)).map markV = (L.take j).map markV ++ [markV x] := by rw [List.take_add_one, hx, List.map_append]; rfl
      obtain ⟨ad, rfl, hadl, kz, kk'⟩ := hr.cell hx
      have z0 : wx.cell? (ad.add (j * 6)) = some (.int .u32 (x.m.uid : Nat)) := (HBx.cell (by rw [block_of_add]; exact hadl)).trans (kz _ rfl)
      have zz : ∀ d u, 0 < d → (liveC x)[d]? = some u → wx.cell? ⟨(ad.add (j * 6)).block, (ad.add (j * 6)).off + d, none⟩ = some u := fun d u hd hu => (HBx.cell (by show (ad.add _).block < _; rw [block_of_add]; exact hadl)).trans (kk' d _ hd hu)
      have z1 := zz 1 _ (by decide) rfl
      have z2 := zz 2 _ (by decide) rfl
      have z3 := zz 3 _ (by decide) rfl
      have z4 := zz 4 _ (by decide) rfl
      have z5 := zz 5 _ (by decide) rfl
      have jj0 : (0 : Int) ≤ (j : Int) := by omega
      have jj1 : (j : Int) < (n : Int) := by omega
      have hwj : IntKind.i64.wrap ((j : Int) + 1) = (j : Int) + 1 := IntWalk.i64_in _ (by omega)
      refine wp_skip (nT (wS (wB (wS (wR ?_)))))
      revert a; (iterate 2 refine wo rfl rfl (by decide) (fun ev e h => by simp [go_sem, h, z0, z1, z2, z3, z4, z5, jj0, jj1] <;> rfl) ?_); intro a hA
      refine wl_local [.int .u32 (x.m.uid : Nat), .int .i64 x.m.date, .int .i64 x.m.flags, .slice x.m.a x.m.b.length x.m.c, .int .u32 (x.ep : Nat), .int .i64 (x.at_ : Nat)] hA rfl rfl (by decide) (fun ev h => by simp [go_sem, z0, z1, z2, z3, z4, z5, jj0, jj1]; try first | exact ⟨rfl, rfl⟩ | rfl) rfl rfl (by rfl) (fun w1 g ev hb h => by simp [go_sem, h.get 7 rfl, h.get 36 rfl, z0, z1, z2, z3, z4, z5, jj0, jj1, setAll, hb.cell, hb.frozen]) fun w6 a (K7 : Blk _ _ _ _) hz6 hb6 hA => ?_
      replace K4 := K4.below hb6 K4.lt
      replace K5 := K5.below hb6 K5.lt
      replace hov := hov.below hb6
      replace hou := hou.below hb6
      replace HL := HL.trans (hb6.mono (by omega))
      clear z0 zz z1 z2 z3 z4 z5
      replace hA := hA.keepN [2, 3, 4, 5, 7, 31, 32, 33]
      refine wN (nT (wS (wR ?_)))
      revert a; (iterate 8 refine wo rfl rfl (by decide) (fun ev e h => by simp [go_sem, h, K7.cell, K4.cell] <;> rfl) ?_); intro a hA
      refine wl_new hA rfl rfl (by decide) (fun ev h => by simp [go_sem, h.get 44 rfl, K7.cell, K4.cell]; try first | exact ⟨rfl, rfl⟩ | rfl) fun w7 a (K8 : Blk _ _ _ _) hz7 hb7 hA => ?_
      replace K4 := K4.below hb7 K4.lt
      replace K5 := K5.below hb7 K5.lt
      replace hov := hov.below hb7
      replace hou := hou.below hb7
      replace K7 := K7.below hb7 K7.lt
      replace HL := HL.trans (hb7.mono (by omega))
      have hrow : RowR entrySh w7 _ [entV x] := rowR_blk (s := entrySh) (x := entV x) K8 (fun p hp => (by cases hp))
      have hvlt := World.ownsRow.lt hov.row
      have hult := World.ownsRow.lt hou.row
      obtain ⟨r, w8, hr8, ho8, hg8, -⟩ := run_appR hov hrow (fun _ _ m _ p hp => (by cases hp)) (by simp; omega) (by omega)
      refine wl_op hA rfl rfl (by decide) (fun ev h => exec_append rfl (h.get 38 rfl) (h.get 45 rfl) hr8) fun a hA => ?_
      have hs8 := hg8.size
      replace HL := below_appR HL hov hg8 (by omega) (by omega)
      replace K4 := K4.grown hg8 (fun e => by have := (hvlt p4 e.symm).1; omega)
      replace K5 := K5.grown hg8 (fun e => by have := (hvlt p5 e.symm).1; omega)
      replace K7 := K7.grown hg8 (fun e => own_ne hov.row K7 (by decide) _ e.symm rfl)
      replace hou := hou.grown hg8 (fun g hg => hou.ne hov (by decide) hg) (fun _ _ _ _ p hp => (by cases hp))
      obtain ⟨A8, c8, rfl, _⟩ := ho8.reads
      have K40 := K4
      revert a; refine wo rfl rfl (by decide) (fun ev e h => by simp [go_sem, h, K7.cell, K4.cell] <;> rfl) ?_; intro a hA
      refine wl_setf ([.string nm, .int .u32 (ep : Nat), .int .u32 (nx : Nat), .int .i64 z, .slice A8 ((L.take j).map entV ++ [entV x]).length c8]) _ hA rfl rfl K4 (j := 4) (by rfl) (fun ev h => by simp [go_sem, h.get 47 rfl, h.get 46 rfl, K7.cell, K4.cell, K4.cell, K4.frozen]; try first | exact ⟨rfl, rfl⟩ | rfl) fun w9 (K4 : Blk _ _ _ _) hs9 => ?_
      replace ho8 := ho8.onlyK hs9 K40 (by decide) rfl
      replace hou := hou.onlyK hs9 K40 (by decide) rfl
      replace K5 := hs9.blk K5 (by omega)
      replace K7 := hs9.blk K7 (by have := K7.lt; intro e; subst e; have := K40; exact absurd (K7.symm.trans this) (by intro h; injection h with h; injection h with _ h _; exact absurd h (by decide)))
      replace HL := hs9.below HL (Nat.le_refl _)
      have hs9' := hs9.size
      replace hA := hA.keepN [2, 3, 4, 5, 7, 31, 32, 33]
      refine wN (nT (wR ?_))
      revert a; (iterate 9 refine wo rfl rfl (by decide) (fun ev e h => by simp [go_sem, h, K7.cell, K5.cell] <;> rfl) ?_); intro a hA
      refine wl_new hA rfl rfl (by decide) (fun ev h => by simp [go_sem, h.get 56 rfl, K7.cell, K5.cell]; try first | exact ⟨rfl, rfl⟩ | rfl) fun w10 a (K11 : Blk _ _ _ _) hz10 hb10 hA => ?_
      replace K4 := K4.below hb10 K4.lt
      replace K5 := K5.below hb10 K5.lt
      replace ho8 := ho8.below hb10
      replace hou := hou.below hb10
      replace HL := HL.trans (hb10.mono (by omega))
      have hrow2 : RowR markSh w10 _ [markV x] := rowR_blk (s := markSh) (x := markV x) K11 (fun p hp => (by cases hp))
      have hult2 := World.ownsRow.lt hou.row
      obtain ⟨r2, w11, hr11, ho11, hg11, -⟩ := run_appR hou hrow2 (fun _ _ m _ p hp => (by cases hp)) (by simp; omega) (by omega)
      refine wl_op hA rfl rfl (by decide) (fun ev h => exec_append rfl (h.get 49 rfl) (h.get 57 rfl) hr11) fun a hA => ?_
      replace HL := below_appR HL hou hg11 (by omega) (by omega)
      replace K4 := K4.grown hg11 (fun e => by have := (hult2 p4 e.symm).1; omega)
      replace K5 := K5.grown hg11 (fun e => by have := (hult2 p5 e.symm).1; omega)
      replace ho8 := ho8.grown hg11 (fun g hg => ho8.ne hou (by decide) hg) (fun _ _ _ _ p hp => (by cases hp))
      obtain ⟨A11, c11, rfl, _⟩ := ho11.reads
      have K50 := K5
      revert a; refine wo rfl rfl (by decide) (fun ev e h => by simp [go_sem, h, K7.cell, K5.cell] <;> rfl) ?_; intro a hA
      replace hA := hA.keepN [2, 3, 4, 5, 31, 32, 33, 58, 59]
      refine wl_setf ([.int .u32 (ep : Nat), .slice A11 ((L.take j).map markV ++ [markV x]).length c11]) _ hA rfl rfl K5 (j := 1) (by rfl) (fun ev h => by simp [go_sem, h.get 59 rfl, h.get 58 rfl, K7.cell, K5.cell, K5.cell, K5.frozen]; try first | exact ⟨rfl, rfl⟩ | rfl) fun w12 (K5 : Blk _ _ _ _) hs12 => ?_
      replace ho11 := ho11.onlyK hs12 K50 (by decide) rfl
      replace ho8 := ho8.onlyK hs12 K50 (by decide) rfl
      replace K4 := hs12.blk K4 (by omega)
      replace HL := hs12.below HL (by omega)
      replace hA := hA.keepN [2, 3, 4, 5, 31, 32, 33]
      refine wN (nB (nT (wR ?_)))
      revert a; (iterate 2 refine wo rfl rfl (by decide) (fun ev e h => by simp [go_sem, h, hwj] <;> rfl) ?_); intro a hA
      replace hA := hA.keepN [2, 3, 4, 5, 31, 32, 33]
      refine wN (nT ?_)
      rw [show ((j : Int) + 1) = ((j + 1 : Nat) : Int) by omega] at hA
      exact ⟨kk - 1, by omega, j + 1, _, _, by omega, hA, K4, K5, by rw [e1]; exact ho8, by rw [e2]; exact ho11, HL⟩
    case nI =>
      have hjn : j = n := by simp at hq; omega
      rw [List.take_of_length_le (by omega)] at hov hou
      have K2x := K2.below HL (by omega)
      have K3x := K3.below HL (by omega)
      replace hA := hA.keepN [2, 3, 4, 5]
      have pD := fun (wo : World) (hC : (fun wy => Only p2 wx wy) wo) => have Kx := hC.blk K4 (by omega); have Ky := hC.blk K5 (by omega); And.intro (Kx.cell) (Ky.cell)
      refine wp_exit (xT (xT (xB (nT (wS ?_)))))
      refine wp_region_split 3 ?_
      simp only [List.take_succ_cons, List.take_zero, List.drop_succ_cons, List.drop_zero]
      refine wp_any_split_at hA [(.det ?dD0), (.det ?dD1), (.det undef)] [⟨none, (some 2), [], fun _ => (fun wy => Blk wy p2 63 #[.string ⟨#[]⟩, .int .u32 0, .int .u32 0, .int .i64 0, .slice none 0 0]), fun _ _ _ _ h => h⟩, ⟨(some 2), none, [], fun _ => (fun wy => Blk wy p2 63 #[.string nm, .int .u32 (ep : Nat), .int .u32 (nx : Nat), .int .i64 z, .slice Av q1 cv]), fun _ _ _ _ h => h⟩] (fun wy => Only p2 wx wy) (TSp [(2, (fun wy wz => Only p2 wy wz))] Grows) (by kernel_rfl) rfl (by kernel_rfl) (by kernel_rfl) rfl (by kernel_rfl) (by kernel_rfl) (by kernel_rfl) (by kernel_rfl) (⟨rfl, rfl, rfl, rfl, fun _ _ => rfl⟩) (stab_sp [(2, (fun wy wz => Only p2 wy wz))] [true, true, true] [true, true, true] [] rfl rfl rfl (by kernel_rfl) ⟨trivial, trivial, trivial, trivial⟩ trivial) (List.forall_mem_cons.2 ⟨(fun hn => K2x.drew), (List.forall_mem_cons.2 ⟨(fun hn => by cases hn), (fun _ h => by cases h)⟩)⟩) (phase_sp [(2, (fun wy wz => Only p2 wy wz))] [(none, (some 2)), ((some 2), none)] [] rfl (by kernel_rfl) (List.forall_mem_cons.2 ⟨fun _ => fun _ _ _ hp hb => hp.below hb hp.lt, (List.forall_mem_cons.2 ⟨fun _ => fun _ _ _ hp hb => hp.below hb hp.lt, (fun _ h => by cases h)⟩)⟩) trivial) (List.forall_mem_cons.2 ⟨(fun a h => by first | (exact (no_1 h).elim) | (injection h with h; subst h; exact Nat.le_of_ble_eq_true rfl)), (List.forall_mem_cons.2 ⟨(fun a h => by first | (exact (no_1 h).elim) | (injection h with h; subst h; exact Nat.le_of_ble_eq_true rfl)), (fun _ h => by cases h)⟩)⟩) ⟨?oD0, ?oD1, ?oD2, trivial⟩ (by kernel_rfl) ?fD
      case oD0 => intro ev wo hev hC hs hph; have x0 := se hA hs 4; exact od rfl rfl (by kernel_rfl) hC (TSp.of rfl (Grows.refl _)) (by simp [go_sem, x0, pD _ hC] <;> rfl)
      case oD1 => intro ev wo hev hC hs hph; have x0 := se hA hs 5; exact od rfl rfl (by kernel_rfl) hC (TSp.of rfl (Grows.refl _)) (by simp [go_sem, x0, pD _ hC] <;> rfl)
      case oD2 =>
        intro ev wo hev hC hs hph
        have e2 := se hA hs 2
        have e61 := sd hs 61 0
        have Kx := hC.blk K4 (by omega)
        have Ky := hC.blk K5 (by omega)
        have hk := (hph _ List.mem_cons_self (by kernel_rfl))
        have hs := Only.setAll (g := p2) [.string nm, .int .u32 (ep : Nat), .int .u32 (nx : Nat), .int .i64 z, .slice Av q1 cv] 0 wo
        have hK2 : Blk (setAll wo p2 0 [.string nm, .int .u32 (ep : Nat), .int .u32 (nx : Nat), .int .i64 z, .slice Av q1 cv]) p2 63 #[.string nm, .int .u32 (ep : Nat), .int .u32 (nx : Nat), .int .i64 z, .slice Av q1 cv] := by simpa using blk_setAll [.string nm, .int .u32 (ep : Nat), .int .u32 (nx : Nat), .int .i64 z, .slice Av q1 cv] 0 _ _ hk rfl
        exact ob_yes (wanted_none rfl) (does_skip (w' := setAll wo p2 0 [.string nm, .int .u32 (ep : Nat), .int .u32 (nx : Nat), .int .i64 z, .slice Av q1 cv]) (by simp [go_sem, e2, e61, setAll, hk.cell, hk.frozen]) ⟨hC.trans hs, TSp.sp rfl hs, rfl, (List.forall_mem_cons.2 ⟨fun h => (no_1 h).elim, (List.forall_mem_cons.2 ⟨fun _ => hK2, (fun _ h => by cases h)⟩)⟩)⟩)
      intro sg wf hC hph
      intro a hA
      replace hA := hA.keepN [2, 3, 62]
      have K2y := (hph _ (List.mem_cons_of_mem _ List.mem_cons_self) rfl)
      replace hov := hov.onlyK hC K2x (by decide) rfl
      replace hou := hou.onlyK hC K2x (by decide) rfl
      have K3y := hC.blk K3x (by omega)
      have K3z := K3y
      refine wl_set [.int .u32 (ep : Nat), .slice Au q2 cu] hA rfl rfl K3y (by rfl) (fun ev h => by simp [go_sem, h.get 3 rfl, h.get 62 rfl, setAll, K3y.cell, K3y.frozen]) fun w13 (K3y : Blk _ _ _ _) hs13 => ?_
      have K2w := hs13.blk K2y (by omega)
      replace hA := hA.keepN [2, 3]
      refine wN (nT (wp_ret ?_))
      refine bodyPost_ret (by simp [results, Tryz.results30, go_sem, hA.env 2 _ rfl, hA.env 3 _ rfl, K2w.cell, K3y.cell]; try first | exact ⟨rfl, rfl⟩ | rfl) hA.defers ?_
      exact ⟨fun h => (by cases h), fun _ => ⟨_, _, rfl, (hov.onlyK hs13 K3z (by decide) rfl).mono (by omega), (hou.onlyK hs13 K3z (by decide) rfl).mono (by omega)⟩, hs13.below (hC.below HBx (by omega)) (by omega)⟩
end Go.Proofs.YtmjikfeaopmejaaGreatDoor
/-
  Walk: all records of bytes, by the document (cubbyref01.Scan).
-/
namespace Go.Proofs.YtmjikfeaopmejaaGreatDoor
open Go.RowKit
set_option linter.unusedSimpArgs false
set_option linter.unusedVariables false
def refSh : Sh RecV := ⟨102, 99, 3, 40, .agg #[.int .i64 0, .int .i64 0, .slice none 0 0], recC, fun r => [(r.a, r.b)], fun _ => rfl, recC_one, Tryz.underlying99, by kernel_rfl, rfl, by decide, by decide⟩
set_option maxRecDepth 100000 in
set_option maxHeartbeats 2000000 in
theorem refScan_any (A : Option Addr) (n c : Nat) (b : List UInt8) (hl : b.length = n) (hc : n ≤ c) (hn : n ≤ 1000000) (w : World) (hr : Reads w w.heap.size 1 A n (u8s b)) :
    Calls Tryz.prog 53 #[.slice A n c] w fun ev w' => ∃ v l, ev = .returned (.tuple #[v, .int .i64 ((scan b).2 : Nat)]) ∧ OwnR refSh w.heap.size w' v l ∧ l.map recB = (scan b).1 ∧ Below w.heap.size w w' := by
  have HB := Below.refl w.heap.size w
  refine calls_at 72 Tryz.func53 rfl rfl (Nat.le_of_ble_eq_true rfl) ?_
  intro a hA; replace hA := hA.norm
  refine wS (wR ?_)
  revert a; (iterate 2 refine wo rfl rfl (by decide) (fun ev e h => by simp [go_sem, h] <;> rfl) ?_); intro a hA
  replace hA := hA.keepN [0]
  refine wN (nT (wS (wR ?_)))
  revert a; refine wo rfl rfl (by decide) (fun ev e h => by simp [go_sem, h] <;> rfl) ?_; intro a hA
  replace hA := hA.keepN [0, 4]
  refine wN (nT (wS (wR ?_)))
  revert a; refine wo rfl rfl (by decide) (fun ev e h => by simp [go_sem, h] <;> rfl) ?_; intro a hA
  replace hA := hA.keepN [0, 4, 5]
  refine wN (nT (wS (wR ?_)))
  revert a; refine wo rfl rfl (by decide) (fun ev e h => by simp [go_sem, h] <;> rfl) ?_; intro a hA
  replace hA := hA.keepN [0, 4, 5, 6]
  refine wN (nT (wS (wB ?_)))
  refine wp_loop_at (fun k a wx => ∃ (q t : Nat) (v : Value) (l : List RecV), k = n - q ∧ q ≤ n ∧ l.length ≤ q ∧ scan b = scanAt b q t (l.map recB) ∧ At 72 [(0, .slice A n c), (4, v), (5, .int .i64 (q : Nat)), (6, .int .i64 (t : Nat))] a ∧ OwnR refSh w.heap.size wx v l ∧ Below w.heap.size w wx) (n) ?_ ?_
  · exact ⟨0, 0, _, [], rfl, by omega, by simp, rfl, hA, OwnR.nil _ _, HB⟩
  clear HB
  rintro k a wx ⟨q, t, v, l, hk, hqn, hlen, hsc, hA, ho, HB⟩
  refine wS (wS (wR ?_))
  revert a; (iterate 4 refine wo rfl rfl (by decide) (fun ev e h => by simp [go_sem, h] <;> rfl) ?_); intro a hA
  replace hA := hA.keepN [0, 4, 5, 6, 15]
  refine wN (nT ?_)
  refine wp_if hA 15 _ rfl (fun hq => ?yL) (fun hq => ?nL)
  case nL =>
    have hqe : q = n := by simp at hq; omega
    rw [scan_end (by omega)] at hsc
    replace hA := hA.keepN [4, 6]
    refine wp_exit (xT (xT (xB (nT (wS (wR ?_))))))
    revert a; (iterate 4 refine wo rfl rfl (by decide) (fun ev e h => by simp [go_sem, h] <;> rfl) ?_); intro a hA
    replace hA := hA.keepN [2, 3]
    refine wN (nT (wp_ret ?_))
    refine ret_2 hA 2 3 rfl rfl rfl ?_
    exact ⟨v, l, by rw [hsc], ho, by rw [hsc], HB⟩
  case yL =>
    have hlt : q < n := by simp at hq; omega
    have hrR0 := (hr.below HB).more HB.size
    refine wp_skip (nT (wB (wS (wR ?_))))
    revert a; (iterate 2 refine wo rfl rfl (by decide) (fun ev e h => by simp [go_sem, h] <;> rfl) ?_); intro a hA
    refine wl_call hA rfl rfl (by decide) (fun ev h => exec_call Tryz.func72 (by kernel_rfl) rfl (h.f _) (by first | (simp only [mL, h.get 17 rfl, h.get 18 rfl, h.c] <;> rfl) | (simp [mL, h.get 17 rfl, h.get 18 rfl, h.c] <;> rfl))) (refHead_any A n c q b hl hc hn hqn _ hrR0) ?_
    rintro e w2 ⟨kk, mm, rfl, hkm, hb2⟩
    refine ⟨_, rfl, fun a hA => ?_⟩
    have HB2 := HB.trans (hb2.mono HB.size)
    have ho2 := ho.below hb2
    clear hrR0
    revert a; (iterate 7 refine wo rfl rfl (by decide) (fun ev e h => by simp [go_sem, h] <;> rfl) ?_); intro a hA
    replace hA := hA.keepN [0, 4, 5, 6, 7, 8, 9]
    refine wN (nT (wS (wS (wR ?_))))
    revert a; (iterate 2 refine wo rfl rfl (by decide) (fun ev e h => by simp [go_sem, h] <;> rfl) ?_); intro a hA
    replace hA := hA.keepN [0, 4, 5, 6, 7, 8, 24]
    refine wN (nT ?_)
    refine wp_if hA 24 _ rfl (fun hq2 => ?yH) (fun hq2 => ?nH)
    case yH =>
      have hno : headOk (b.drop q) = false := by simpa using hq2
      rw [scan_next hno (by omega)] at hsc
      have h1 : q + 1 ≤ 1000000000 := by omega
      have e1 : n - (q + 1) < n - q := by omega
      obtain ⟨q1, hq1⟩ : ∃ x, q + 1 = x := ⟨_, rfl⟩
      rw [hq1] at h1 e1 hsc
      have e2 : q1 ≤ n := by omega
      have e3 : l.length ≤ q1 := by omega
      have f1 : IntKind.i64.wrap ((q : Int) + 1) = (q1 : Int) := wrap_addN (k := 1) hq1 h1
      refine wS (wR ?_)
      revert a; (iterate 3 refine wo rfl rfl (by decide) (fun ev e h => by simp [go_sem, h, f1] <;> rfl) ?_); intro a hA
      replace hA := hA.keepN [0, 4, 5, 6]
      replace hA := hA.keepN [0, 4, 5, 6]
      refine wN (nT (wp_exit (xT (xB (nT ?_)))))
      exact ⟨n - q1, by rw [hk]; exact e1, q1, t, v, l, rfl, e2, e3, hsc, hA, ho2, HB2⟩
    case nH =>
      have hyes : headOk (b.drop q) = true := by simpa using hq2
      obtain ⟨rfl, rfl⟩ := hkm hyes
      have h44 := headOk_len hyes
      have hmx : hdLen (b.drop q) ≤ 30000 := by
        have hy := hyes
        unfold headOk at hy
        simp only [Bool.and_eq_true, decide_eq_true_eq] at hy
        exact hy.2.1.2
      rw [List.length_drop, hl] at h44
      obtain ⟨m, hme⟩ : ∃ m, hdLen (b.drop q) = m := ⟨_, rfl⟩
      rw [hme] at hA hmx
      have a1 : q + 44 ≤ n := by omega
      have a2 : q + 44 ≤ 1000000000 := by omega
      have a3 : q + 44 + m ≤ 1000000000 := by omega
      have p1 : q + 44 ≤ q + 44 + m := by omega
      have p2 : q + 12 ≤ q + 44 := by omega
      have a4 : q + 12 ≤ 1000000000 := by omega
      have d0 : q + 44 + m - (q + 44) = m := by omega
      obtain ⟨q44, hq44⟩ : ∃ x, q + 44 = x := ⟨_, rfl⟩
      obtain ⟨q12, hq12⟩ : ∃ x, q + 12 = x := ⟨_, rfl⟩
      obtain ⟨qm, hqm⟩ : ∃ x, q + 44 + m = x := ⟨_, rfl⟩
      have hqm2 : q44 + m = qm := by rw [← hq44]; exact hqm
      rw [hq44] at a1 a2
      rw [hq12] at a4
      rw [hqm] at a3
      have f1 : IntKind.i64.wrap ((q : Int) + 44) = (q44 : Int) := wrap_addN (k := 44) hq44 a2
      have f2 : IntKind.i64.wrap ((q44 : Int) + (m : Int)) = (qm : Int) := wrap_addN hqm2 a3
      have f3 : IntKind.i64.wrap ((q : Int) + 12) = (q12 : Int) := wrap_addN (k := 12) hq12 a4
      refine wp_skip (nT (wS (wS (wR ?_))))
      revert a; (iterate 7 refine wo rfl rfl (by decide) (fun ev e h => by simp [go_sem, h, f1, f2] <;> rfl) ?_); intro a hA
      replace hA := hA.keepN [0, 4, 5, 7, 8, 33]
      refine wN (nT ?_)
      refine wp_if hA 33 _ rfl (fun hq3 => ?yT) (fun hq3 => ?nT)
      case yT =>
        have hgt : n < qm := by clear f1 f2 f3; simp at hq3; omega
        rw [scan_torn hyes (by clear f1 f2 f3; omega)] at hsc
        refine wS (wR ?_)
        revert a; (iterate 4 refine wo rfl rfl (by decide) (fun ev e h => by simp [go_sem, h] <;> rfl) ?_); intro a hA
        replace hA := hA.keepN [2, 3]
        refine wN (nT (wp_ret (rT (rB (rT (rB (rT ?_)))))))
        refine ret_2 hA 2 3 rfl rfl rfl ?_
        exact ⟨v, l, by rw [hsc], ho2, by rw [hsc], HB2⟩
      case nT =>
        have hle : qm ≤ n := by clear f1 f2 f3; simp at hq3; omega
        have hle2 : q + 44 + m ≤ n := by rw [hqm]; exact hle
        have hpl : (payOf (b.drop q)).length = m := by
          unfold payOf
          rw [hme, List.drop_drop, List.length_take, List.length_drop, hl]
          clear f1 f2 f3
          omega
        have hpe : (b.drop (q + 44)).take (q + 44 + m - (q + 44)) = payOf (b.drop q) := by
          unfold payOf
          rw [hme, List.drop_drop, d0]
        have d3 : q + 44 - (q + 12) = 32 := by clear f1 f2 f3; omega
        have hde : (b.drop (q + 12)).take (q + 44 - (q + 12)) = ((b.drop q).drop 12).take 32 := by
          rw [List.drop_drop, d3]
        have hdl2 : (((b.drop q).drop 12).take 32).length = 32 := by
          rw [List.drop_drop, List.length_take, List.length_drop, hl]
          clear f1 f2 f3
          omega
        have hrR := (hr.below HB2).more HB2.size
        have hR1 := reads_sub8 hrR p1 hle2 hc
        have hR2 := reads_sub8 hrR p2 (by rw [hq44]; exact a1) hc
        rw [hpe, d0, hq44] at hR1
        rw [hde, d3, hq12] at hR2
        have hscr := scan_rec (b := b) (at_ := q) (torn := t) (l := l.map recB) hyes (by rw [hme, hl]; clear f1 f2 f3; omega)
        rw [← hsc, hme, hqm] at hscr
        have i1 : (0 : Int) ≤ (q44 : Int) := by clear f1 f2 f3; omega
        have i2 : (q44 : Int) ≤ (qm : Int) := by clear f1 f2 f3; omega
        have i3 : (qm : Int) ≤ (c : Int) := by clear f1 f2 f3; omega
        have i4 : (0 : Int) ≤ (q12 : Int) := by clear f1 f2 f3; omega
        have i5 : (q12 : Int) ≤ (q44 : Int) := by clear f1 f2 f3; omega
        have i6 : (q44 : Int) ≤ (c : Int) := by clear f1 f2 f3; omega
        have d1 : qm - q44 = m := by clear f1 f2 f3; omega
        have d2 : q44 - q12 = 32 := by clear f1 f2 f3; omega
        have hm6 : m ≤ 1000000 := by clear f1 f2 f3; omega
        refine wp_skip (nT (wS (wR ?_)))
        revert a; (iterate 9 refine wo rfl rfl (by decide) (fun ev e h => by simp [go_sem, h, f1, f2, i1, i2, i3, d1] <;> rfl) ?_); intro a hA
        replace hA := hA.keepN [0, 4, 5, 7, 8, 10]
        refine wN (nT (wS (wR ?_)))
        revert a; refine wo rfl rfl (by decide) (fun ev e h => by simp [go_sem, h, f1, f2, i1, i2, i3, d1] <;> rfl) ?_; intro a hA
        refine wl_call hA rfl rfl (by decide) (fun ev h => exec_call Tryz.func49 (by kernel_rfl) rfl (h.f _) (by first | (simp only [mL, h.get 44 rfl, h.c] <;> rfl) | (simp [mL, h.get 44 rfl, h.c, f1, f2, i1, i2, i3, d1] <;> rfl))) (refDigest_any _ m _ (payOf (b.drop q)) hpl hm6 _ hR1) ?_
        rintro e w3 ⟨rfl, hb3⟩
        refine ⟨_, rfl, fun a hA => ?_⟩
        have HB3 := HB2.trans (hb3.mono HB2.size)
        replace ho2 := ho2.below hb3
        replace hR1 := (hR1.below hb3).more hb3.size
        replace hR2 := (hR2.below hb3).more hb3.size
        refine wl_new hA rfl rfl (by decide) (fun ev h => by simp [go_sem, f1, f2, i1, i2, i3, d1]; try first | exact ⟨rfl, rfl⟩ | rfl) fun w4 a (K9 : Blk _ _ _ _) hz4 hb4 hA => ?_
        have hd32 := u8s_len32 (digest_length (payOf (b.drop q)))
        refine wl_setw (u8s (digest (payOf (b.drop q)))) hA rfl rfl K9 (by rfl) hd32 (by kernel_rfl) (u8s_one' _) rfl (fun ev h => ⟨h.get 11 rfl, h.get 45 rfl⟩) fun w5 (K9 : Blk _ _ _ _) hs5 => ?_
        have hb5 := hs5.below hb4 (Nat.le_refl _)
        replace HB3 := HB3.trans (hb5.mono HB3.size)
        replace ho2 := ho2.below hb5
        replace hR1 := (hR1.below hb5).more hb5.size
        replace hR2 := (hR2.below hb5).more hb5.size
        have hR9 := blk_reads8 (l := digest (payOf (b.drop q))) K9
        rw [digest_length] at hR9
        clear hb4 hb5 hs5 hb3
        replace hA := hA.keepN [0, 4, 5, 7, 8, 10, 11]
        refine wN (nT (wS (wS ?_)))
        refine wp_any_at hA [(.det ?dE0), (.det ?dE1), (.det ?dE2), (.det ?dE3), (.det ?dE4), (.det ?dE5), (.det ?dE6), (.det ?dE7), (.det ?dE8), (.det ?dE9)] [] (fun wy => Below w5.heap.size w5 wy) (TSp [] Grows) (by kernel_rfl) rfl (by kernel_rfl) (by kernel_rfl) rfl ((Below.refl _ _).drew) (stab_sp [] [true, true, true, true, true, true, true, true, true, true] [true, true, true, true, true, true, true, true, true, true] [] rfl rfl rfl (by kernel_rfl) ⟨trivial, trivial, trivial, trivial, trivial, trivial, trivial, trivial, trivial, trivial, trivial⟩ trivial) (fun _ h => by cases h) (fun _ _ _ _ _ h => by cases h) (fun _ h => by cases h) ⟨?oE0, ?oE1, ?oE2, ?oE3, ?oE4, ?oE5, ?oE6, ?oE7, ?oE8, ?oE9, trivial⟩ (by kernel_rfl) ?fE
        case oE0 => intro ev wo hev hC hs hph; have x0 := se hA hs 11; exact od rfl rfl (by kernel_rfl) hC (TSp.of rfl (Grows.refl _)) (by simp [go_sem, x0, f1, f3, i4, i5, i6, d2] <;> rfl)
        case oE1 =>
          intro ev wo hev hC hs hph
          have e46 := sd hs 46 0
          have q1 := conv_reads (c := 32) (digest_length (payOf (b.drop q))) (hR9.below hC)
          have q2 := conv_reads (c := c - q12) hdl2 (hR2.below hC)
          exact ob_det (wanted_none rfl) rfl (by kernel_rfl) hC (TSp.of rfl (Grows.refl _)) (by simp [go_sem, e46, q1, f1, f3, i4, i5, i6, d2]; try first | exact ⟨rfl, rfl⟩ | rfl)
        case oE2 => intro ev wo hev hC hs hph; have x0 := se hA hs 0; exact od rfl rfl (by kernel_rfl) hC (TSp.of rfl (Grows.refl _)) (by simp [go_sem, x0, f1, f3, i4, i5, i6, d2] <;> rfl)
        case oE3 => intro ev wo hev hC hs hph; have x0 := se hA hs 5; exact od rfl rfl (by kernel_rfl) hC (TSp.of rfl (Grows.refl _)) (by simp [go_sem, x0, f1, f3, i4, i5, i6, d2] <;> rfl)
        case oE4 => intro ev wo hev hC hs hph; have x0 := sd hs 49 3; exact od rfl rfl (by kernel_rfl) hC (TSp.of rfl (Grows.refl _)) (by simp [go_sem, x0, hev.const, f1, f3, i4, i5, i6, d2] <;> rfl)
        case oE5 => intro ev wo hev hC hs hph; have x0 := se hA hs 5; exact od rfl rfl (by kernel_rfl) hC (TSp.of rfl (Grows.refl _)) (by simp [go_sem, x0, f1, f3, i4, i5, i6, d2] <;> rfl)
        case oE6 => intro ev wo hev hC hs hph; have x0 := sd hs 51 5; exact od rfl rfl (by kernel_rfl) hC (TSp.of rfl (Grows.refl _)) (by simp [go_sem, x0, hev.const, f1, f3, i4, i5, i6, d2] <;> rfl)
        case oE7 => intro ev wo hev hC hs hph; have x0 := sd hs 48 2; have x1 := sd hs 50 4; have x2 := sd hs 52 6; exact od rfl rfl (by kernel_rfl) hC (TSp.of rfl (Grows.refl _)) (by simp [go_sem, x0, x1, x2, f1, f3, i4, i5, i6, d2] <;> rfl)
        case oE8 =>
          intro ev wo hev hC hs hph
          have e53 := sd hs 53 7
          have q1 := conv_reads (c := 32) (digest_length (payOf (b.drop q))) (hR9.below hC)
          have q2 := conv_reads (c := c - q12) hdl2 (hR2.below hC)
          exact ob_det (wanted_none rfl) rfl (by kernel_rfl) hC (TSp.of rfl (Grows.refl _)) (by simp [go_sem, e53, q2, f1, f3, i4, i5, i6, d2]; try first | exact ⟨rfl, rfl⟩ | rfl)
        case oE9 => intro ev wo hev hC hs hph; have x0 := sd hs 47 1; have x1 := sd hs 54 8; exact od rfl rfl (by kernel_rfl) hC (TSp.of rfl (Grows.refl _)) (by simp [go_sem, x0, x1, f1, f3, i4, i5, i6, d2] <;> rfl)
        intro sg wf hC hph
        intro a hA
        replace hA := hA.keepN [0, 4, 5, 7, 8, 10, 55]
        refine nT ?_
        have HB4 := HB3.trans (hC.mono HB3.size)
        replace ho2 := ho2.below hC
        replace hR1 := (hR1.below hC).more hC.size
        clear hR9 hR2 hC K9
        have hrec : recsAt b q = bif (digest (payOf (b.drop q)) == ((b.drop q).drop 12).take 32) then [⟨q, hdKind (b.drop q), payOf (b.drop q)⟩] else [] := rfl
        have hk2 : n - qm < n - q := by clear f1 f2 f3; omega
        have hlq : l.length < qm := by clear f1 f2 f3; omega
        refine wp_if hA 55 _ rfl (fun hq4 => ?yG) (fun hq4 => ?nG)
        case nG =>
          rw [hrec, List.drop_drop, hq4, cond_false, List.append_nil] at hscr
          refine wp_skip (nT (wS (wR ?_)))
          revert a; (iterate 5 refine wo rfl rfl (by decide) (fun ev e h => by simp [go_sem, h, f1, f2] <;> rfl) ?_); intro a hA
          replace hA := hA.keepN [0, 4, 5]
          refine wN (nT (wR ?_))
          revert a; (iterate 2 refine wo rfl rfl (by decide) (fun ev e h => by simp [go_sem, h, f1, f2] <;> rfl) ?_); intro a hA
          replace hA := hA.keepN [0, 4, 5, 6]
          refine wN (nB (nT ?_))
          exact ⟨n - qm, by rw [hk]; exact hk2, qm, qm, v, l, rfl, hle, Nat.le_of_lt hlq, hscr, hA, ho2, HB4⟩
        case yG =>
          rw [hrec, List.drop_drop, hq4, cond_true] at hscr
          refine wR ?_
          revert a; (iterate 3 refine wo rfl rfl (by decide) (fun ev e h => by simp [go_sem, h, f1, f3, i4, i5, i6, d2] <;> rfl) ?_); intro a hA
          refine wl_new hA rfl rfl (by decide) (fun ev h => by simp [go_sem, f1, f3, i4, i5, i6, d2]; try first | exact ⟨rfl, rfl⟩ | rfl) fun w6 a (K6 : Blk _ _ _ _) hz6 hb6 hA => ?_
          have hvlt := World.ownsRow.lt ho2.row
          have ho8 : Own8 wf.heap.size w6 (.slice (some ⟨wf.heap.size, 0, none⟩) 0 0) [] := ownsRow_empty K6 (Nat.le_refl _)
          revert a; refine wo rfl rfl (by decide) (fun ev e h => by simp [go_sem, h, f1, f3, i4, i5, i6, d2] <;> rfl) ?_; intro a hA
          obtain ⟨r1, w7, hr7, ho7, hg7⟩ := run_app8 ho8 (u := .slice (if c = q44 then A else Option.map (fun x => x.add q44) A) m (c - q44)) ⟨_, _, by rw [hpl], by rw [hpl]; exact (hR1.below hb6).more hb6.size⟩ (by simp only [List.length_nil]; clear f1 f2 f3; omega) hb6.size
          have hb7 : Below wf.heap.size wf w7 := below_app8 hb6 ho8 hg7 (Nat.le_refl _) hb6.size
          rw [List.nil_append] at ho7
          refine wl_op hA rfl rfl (by decide) (fun ev h => exec_append rfl (h.get 59 rfl) (h.get 60 rfl) hr7) fun a hA => ?_
          replace HB4 := HB4.trans (hb7.mono HB4.size)
          replace ho2 := ho2.below hb7
          have hclt := World.ownsRow.lt ho7
          obtain ⟨A8, c8, rfl, hR8⟩ := ho7.took
          revert a; refine wo rfl rfl (by decide) (fun ev e h => by simp [go_sem, h, f1, f3, i4, i5, i6, d2] <;> rfl) ?_; intro a hA
          refine wl_new hA rfl rfl (by decide) (fun ev h => by simp [go_sem, h.get 62 rfl, f1, f3, i4, i5, i6, d2]; try first | exact ⟨rfl, rfl⟩ | rfl) fun w8 a (K8 : Blk _ _ _ _) hz8 hb8 hA => ?_
          replace HB4 := HB4.trans (hb8.mono HB4.size)
          replace ho2 := ho2.below hb8
          replace hR8 := (hR8.below hb8).more hb8.size
          have hrow : RowR refSh w8 _ [(⟨q, hdKind (b.drop q), A8, c8, payOf (b.drop q)⟩ : RecV)] := rowR_blk (s := refSh) (x := ⟨q, hdKind (b.drop q), A8, c8, payOf (b.drop q)⟩) K8 (fun p hp => by rw [List.mem_singleton.1 hp]; exact hR8)
          obtain ⟨r, w9, hr9, ho9, hgr, -⟩ := run_appR ho2 hrow (fun g hg x hx p hp => by
            rw [List.mem_singleton.1 hx] at hp
            rw [List.mem_singleton.1 hp]
            intro hn ad ha he
            replace ha : A8 = some ad := ha
            have h1 := (hvlt g hg).2
            have h2 := (hclt ad.block (by rw [ha]; rfl)).1
            omega) (by clear f1 f2 f3; simp; omega) HB4.size
          have HB9 := below_appR HB4 ho2 hgr (Nat.le_refl _) HB4.size
          refine wl_op hA rfl rfl (by decide) (fun ev h => exec_append rfl (h.get 56 rfl) (h.get 63 rfl) hr9) fun a hA => ?_
          revert a; refine wo rfl rfl (by decide) (fun ev e h => by simp [go_sem, h, f1, f2] <;> rfl) ?_; intro a hA
          replace hA := hA.keepN [0, 4, 5, 8]
          refine wN (nT (wS (wR ?_)))
          revert a; (iterate 5 refine wo rfl rfl (by decide) (fun ev e h => by simp [go_sem, h, f1, f2] <;> rfl) ?_); intro a hA
          replace hA := hA.keepN [0, 4, 5]
          refine wN (nT (wR ?_))
          revert a; (iterate 2 refine wo rfl rfl (by decide) (fun ev e h => by simp [go_sem, h, f1, f2] <;> rfl) ?_); intro a hA
          replace hA := hA.keepN [0, 4, 5, 6]
          refine wN (nB (nT ?_))
          exact ⟨n - qm, by rw [hk]; exact hk2, qm, qm, r, l ++ [⟨q, hdKind (b.drop q), A8, c8, payOf (b.drop q)⟩], rfl, hle, by rw [List.length_append]; exact hlq, by rw [List.map_append]; exact hscr, hA, ho9, HB9⟩
end Go.Proofs.YtmjikfeaopmejaaGreatDoor
/-
  Walk: the notes of bytes, by the document's scan (cubbylaw10.Notes).
-/
namespace Go.Proofs.YtmjikfeaopmejaaGreatDoor
open Go.RowKit
set_option linter.unusedSimpArgs false
set_option linter.unusedVariables false
abbrev NoteV.C (n : NoteV) : Array Value := noteC n.kind n.ep n.nm n.m
def noteL7 (n : NoteV) : List Value := [.int .i64 n.kind, .int .u32 (n.ep : Nat), .string n.nm, .int .u32 (n.m.uid : Nat), .int .i64 n.m.date, .int .i64 n.m.flags, .slice n.m.a n.m.b.length n.m.c]
theorem noteL7_one (x : NoteV) : ∀ u ∈ noteL7 x, u.oneCell' = true := by
  intro u hu
  unfold noteL7 at hu
  simp only [List.mem_cons, List.not_mem_nil, or_false] at hu
  rcases hu with rfl | rfl | rfl | rfl | rfl | rfl | rfl <;> rfl
theorem noteC_no (n : NoteV) : n.C.toList.all noB8 = true := rfl
def refNoteSh : Sh NoteV := ⟨27, 44, 7, 80, .agg #[.int .i64 0, .int .u32 0, .string ⟨#[]⟩, .int .u32 0, .int .i64 0, .int .i64 0, .slice none 0 0], noteL7, fun x => [(x.m.a, x.m.b)], fun _ => rfl, noteL7_one, Tryz.underlying44, by kernel_rfl, rfl, by decide, by decide⟩
def intSh : Sh Nat := ⟨3, 45, 1, 8, .int .i64 0, fun n => [.int .i64 (n : Nat)], fun _ => [], fun _ => rfl, fun _ u hu => by rw [List.mem_singleton.1 hu]; rfl, Tryz.underlying45, by kernel_rfl, rfl, by decide, by decide⟩
def NoteV.b (n : NoteV) : NoteB := ⟨n.kind, n.ep, n.nm, n.m.uid, n.m.date, n.m.flags, n.m.b, 0⟩
/-- what is decoded, as a note -/
theorem decode_note (k : Nat) (A : Option Addr) (n c : Nat) (p : List UInt8) (hl : p.length = n) (hn : n ≤ 1000000) (w : World) (hm : MaxCell w) (hg : 0 < w.heap.size) (htab : Lib.TabIs Tryz.prog w "internal/strconv.uint64pow10" .u64 Lib.pow10Tab) (hr : Reads w w.heap.size 1 A n (u8s p)) :
    Calls Tryz.prog 14 #[.int .i64 (k : Nat), .slice A n c] w fun ev w' => ∃ x : NoteV, ev = .returned (.tuple #[.agg x.C, .int .i64 (bif decOk (k : Int) p then 0 else 2)]) ∧ (ReadsP w' (x.m.a, x.m.b) ∧ ∀ ad, x.m.a = some ad → w.heap.size ≤ ad.block) ∧ (decOk (k : Int) p = true → x.b = z0 (noteOf k 0 p) ∧ x.m.uid < 4294967296 ∧ x.ep < 4294967296) ∧ Below w.heap.size w w' := by
  refine (decode_new (k : Int) A n c p hl hn w hm hg htab hr).mono fun ev w' ⟨a, c', h1, h2, h3⟩ => ?_
  cases hd : decOk (k : Int) p with
  | true =>
    rw [hd] at h1
    obtain ⟨h4, h5⟩ := h2 hd
    exact ⟨⟨(k : Int), (rd1 p).1, (rd4 (k : Int) p).1, rdM (k : Int) p a c'⟩, h1, ⟨h4, h5⟩, fun _ => ⟨rfl, rd2_lt _ _, inN_lt _ 4⟩, h3⟩
  | false =>
    rw [hd] at h1
    exact ⟨⟨0, 0, ⟨#[]⟩, ⟨0, 0, 0, none, 0, []⟩⟩, h1, ⟨Reads.none8, fun ad h => by cases h⟩, fun h => (by cases h), h3⟩
set_option maxRecDepth 100000 in
set_option maxHeartbeats 4000000 in
theorem notes_any (A : Option Addr) (n c : Nat) (b : List UInt8) (hl : b.length = n) (hc : n ≤ c) (hn : n ≤ 1000000) (w : World) (hm : MaxCell w) (hg : 0 < w.heap.size) (htab : Lib.TabIs Tryz.prog w "internal/strconv.uint64pow10" .u64 Lib.pow10Tab) (hr : Reads w w.heap.size 1 A n (u8s b)) :
    Calls Tryz.prog 20 #[.slice A n c] w fun ev w' => ∃ v u N P, ev = .returned (.tuple #[v, u, .int .i64 ((scan b).2 : Nat)]) ∧ OwnR refNoteSh w.heap.size w' v N ∧ OwnR intSh w.heap.size w' u P ∧ N.map NoteV.b = (notesB b).map z0 ∧ P = (notesB b).map NoteB.at_ ∧ N.length ≤ n ∧ (∀ m ∈ N, m.m.uid < 4294967296 ∧ m.ep < 4294967296) ∧ Below w.heap.size w w' := by
  have Ht := Lib.tabBelow_of_tabIs htab
  refine calls_at 54 Tryz.func20 rfl rfl (Nat.le_of_ble_eq_true rfl) ?_
  intro a hA; replace hA := hA.norm
  refine wS (wR ?_)
  revert a; (iterate 3 refine wo rfl rfl (by decide) (fun ev e h => by simp [go_sem, h] <;> rfl) ?_); intro a hA
  replace hA := hA.keepN [0]
  refine wN (nT (wS (wR ?_)))
  revert a; refine wo rfl rfl (by decide) (fun ev e h => by simp [go_sem, h] <;> rfl) ?_; intro a hA
  refine wl_call hA rfl rfl (by decide) (fun ev h => exec_call Tryz.func53 (by kernel_rfl) rfl (h.f _) (by first | (simp only [mL, h.get 13 rfl, h.c] <;> rfl) | (simp [mL, h.get 13 rfl, h.c] <;> rfl))) (refScan_any A n c b hl hc hn w hr) ?_
  rintro e w1 ⟨vs, l, rfl, hos, hlm, hb1⟩
  refine ⟨_, rfl, fun a hA => ?_⟩
  obtain ⟨As, cs, rfl, hrs, _⟩ := hos.reads
  obtain ⟨T, hT⟩ : ∃ T, (scan b).2 = T := ⟨_, rfl⟩
  rw [hT] at hA
  revert a; (iterate 5 refine wo rfl rfl (by decide) (fun ev e h => by simp [go_sem, h] <;> rfl) ?_); intro a hA
  replace hA := hA.keepN [5, 6]
  refine wN (nT (wS (wR ?_)))
  revert a; refine wo rfl rfl (by decide) (fun ev e h => by simp [go_sem, h] <;> rfl) ?_; intro a hA
  replace hA := hA.keepN [5, 6, 7]
  refine wN (nT (wS (wR ?_)))
  revert a; refine wo rfl rfl (by decide) (fun ev e h => by simp [go_sem, h] <;> rfl) ?_; intro a hA
  replace hA := hA.keepN [5, 6, 7, 8]
  refine wN (nT (wS (wS (wR ?_))))
  revert a; (iterate 3 refine wo rfl rfl (by decide) (fun ev e h => by simp [go_sem, h] <;> rfl) ?_); intro a hA
  replace hA := hA.keepN [5, 6, 7, 8, 18, 19]
  refine wN (nT (wB ?_))
  have hll : l.length ≤ n := by
    have := scan_len b
    rw [← hlm, List.length_map] at this
    omega
  have HB := Below.refl w1.heap.size w1
  refine wp_loop_at (fun kk a wx => ∃ (j : Nat) (v u : Value) (N : List NoteV) (P : List Nat), j + kk = l.length ∧ At 54 [(5, .slice As l.length cs), (6, .int .i64 (T : Nat)), (7, v), (8, u), (18, .int .i64 (l.length : Nat)), (19, .int .i64 (j : Nat))] a ∧ OwnR refNoteSh w1.heap.size wx v N ∧ OwnR intSh w1.heap.size wx u P ∧ (∀ g, u.ownBlock = some g → ∀ m ∈ N, OffP g (m.m.a, m.m.b)) ∧ N.map NoteV.b = (notesR ((l.map recB).take j)).map z0 ∧ P = (notesR ((l.map recB).take j)).map NoteB.at_ ∧ N.length ≤ j ∧ P.length ≤ j ∧ (∀ m ∈ N, m.m.uid < 4294967296 ∧ m.ep < 4294967296) ∧ Below w1.heap.size w1 wx) (l.length) ?_ ?_
  · exact ⟨0, _, _, [], [], by omega, hA, OwnR.nil _ _, OwnR.nil _ _, fun _ h => (by cases h), rfl, rfl, Nat.zero_le _, Nat.zero_le _, fun _ h => (by cases h), HB⟩
  clear HB
  rintro kk a wx ⟨j, v, u, N, P, hjk, hA, ho, hou, hou2, hN, hP, hNl, hPl, hNu, HB⟩
  refine wS (wR ?_)
  revert a; refine wo rfl rfl (by decide) (fun ev e h => by simp [go_sem, h] <;> rfl) ?_; intro a hA
  replace hA := hA.keepN [5, 6, 7, 8, 18, 19, 20]
  refine wN (nT (wS ?_))
  refine wp_if hA 20 _ rfl (fun hq => ?yI) (fun hq => ?nI)
  case nI =>
    have hjn : j = l.length := by simp at hq; omega
    rw [hjn, List.take_of_length_le (by simp), hlm] at hN hP
    replace hA := hA.keepN [6, 7, 8]
    refine wp_exit (xT (xT (xB (nT (wS (wR ?_))))))
    revert a; (iterate 6 refine wo rfl rfl (by decide) (fun ev e h => by simp [go_sem, h] <;> rfl) ?_); intro a hA
    replace hA := hA.keepN [2, 3, 4]
    refine wN (nT (wp_ret ?_))
    refine ret_3 hA 2 3 4 rfl rfl rfl rfl ?_
    exact ⟨v, u, N, P, by rw [hT], ho.mono hb1.size, hou.mono hb1.size, hN, hP, by omega, hNu, hb1.trans (HB.mono hb1.size)⟩
  case yI =>
    have hlt : j < l.length := by simp at hq; omega
    obtain ⟨x, hx⟩ : ∃ x, l[j]? = some x := ⟨_, List.getElem?_eq_getElem (by omega)⟩
    have hxb : x.b.length ≤ 1000000 := by
      have h1 : recB x ∈ (scan b).1 := by rw [← hlm]; exact List.mem_map_of_mem (List.mem_of_getElem? hx)
      have := scan_pay b _ h1
      have h2 : (recB x).b.length = x.b.length := rfl
      omega
    have hxr0 := hrs.octs x (List.mem_of_getElem? hx) (x.a, x.b) (List.mem_singleton.2 rfl)
    obtain ⟨ad, rfl, hadl, kz, kk'⟩ := hrs.cell hx
    have z0' : ∀ {wy : World}, Below w1.heap.size w1 wy → wy.cell? (ad.add (j * 3)) = some (.int .i64 (x.at_ : Nat)) := fun {wy} hb => (hb.cell (by rw [block_of_add]; exact hadl)).trans (kz _ rfl)
    have zz : ∀ {wy : World}, Below w1.heap.size w1 wy → ∀ d u, 0 < d → (recC x)[d]? = some u → wy.cell? ⟨(ad.add (j * 3)).block, (ad.add (j * 3)).off + d, none⟩ = some u := fun {wy} hb d u hd hu => (hb.cell (by show (ad.add _).block < _; rw [block_of_add]; exact hadl)).trans (kk' d _ hd hu)
    have jj0 : (0 : Int) ≤ (j : Int) := by omega
    have jj1 : (j : Int) < (l.length : Int) := by omega
    have hwj : IntKind.i64.wrap ((j : Int) + 1) = (j : Int) + 1 := IntWalk.i64_in _ (by omega)
    have hsu := notesR_succ (l := l.map recB) (j := j) (r := recB x) (by rw [List.getElem?_map, hx]; rfl)
    obtain ⟨q, hq9⟩ : ∃ q : Int, (bif decOk (x.kind : Int) x.b then 0 else 2) = q := ⟨_, rfl⟩
    refine wp_skip (nT (wS (wB (wS (wR ?_)))))
    revert a; (iterate 2 refine wo rfl rfl (by decide) (fun ev e h => by simp [go_sem, h] <;> rfl) ?_); intro a hA
    replace hA := hA.keepN [5, 6, 7, 8, 9, 18, 19]
    have pD := fun (wo : World) (hC : (fun wy => Below wx.heap.size wx wy) wo) => have HBx := HB.trans (hC.mono HB.size); have z1 := zz HBx 1 _ (by decide) rfl; have z2 := zz HBx 2 _ (by decide) rfl; And.intro (z1) (z2)
    refine wN (nT (wS ?_))
    refine wp_region_split 16 ?_
    simp only [List.take_succ_cons, List.take_zero, List.drop_succ_cons, List.drop_zero]
    refine wp_any_split_at hA [(.det ?dD0), (.det ?dD1), (.det ?dD2), (.det ?dD3), (.det ?dD4), (.det ?dD5), (.det ?dD6), (.det ?dD7), (.det ?dD8), (.det ?dD9), (.used (fun val wy => ∃ y : NoteV, val = .tuple #[.agg y.C, .int .i64 q] ∧ (ReadsP wy (y.m.a, y.m.b) ∧ ∀ ad, y.m.a = some ad → wx.heap.size ≤ ad.block) ∧ (decOk (x.kind : Int) x.b = true → y.b = z0 (noteOf x.kind 0 x.b) ∧ y.m.uid < 4294967296 ∧ y.ep < 4294967296))), (.held (fun val wy => ∃ y : NoteV, val = .tuple #[.agg y.C, .int .i64 q] ∧ (ReadsP wy (y.m.a, y.m.b) ∧ ∀ ad, y.m.a = some ad → wx.heap.size ≤ ad.block) ∧ (decOk (x.kind : Int) x.b = true → y.b = z0 (noteOf x.kind 0 x.b) ∧ y.m.uid < 4294967296 ∧ y.ep < 4294967296))), (.used (fun val wy => ∃ y : NoteV, val = .agg y.C ∧ (ReadsP wy (y.m.a, y.m.b) ∧ ∀ ad, y.m.a = some ad → wx.heap.size ≤ ad.block) ∧ (decOk (x.kind : Int) x.b = true → y.b = z0 (noteOf x.kind 0 x.b) ∧ y.m.uid < 4294967296 ∧ y.ep < 4294967296))), (.det ?dD13), (.held (fun val wy => ∃ (g : Nat) (n0 : NoteV), val = .pointer (some ⟨g, 0, none⟩) ∧ wx.heap.size ≤ g ∧ Blk wy g 30 n0.C)), (.det undef)] [⟨(some 15), none, [10], fun sg wy => ∃ (g : Nat) (y : NoteV), sg 10 = .pointer (some ⟨g, 0, none⟩) ∧ wx.heap.size ≤ g ∧ Blk wy g 30 y.C ∧ (ReadsP wy (y.m.a, y.m.b) ∧ ∀ ad, y.m.a = some ad → wx.heap.size ≤ ad.block) ∧ (decOk (x.kind : Int) x.b = true → y.b = z0 (noteOf x.kind 0 x.b) ∧ y.m.uid < 4294967296 ∧ y.ep < 4294967296), fun s s2 wy hs h => by simpa only [hs 10 (by simp)] using h⟩] (fun wy => Below wx.heap.size wx wy) (TSp [(15, (fun wy wz => ∃ (g : Nat) (n0 n1 : NoteV), Blk wy g 30 n0.C ∧ Only g wy wz ∧ Blk wz g 30 n1.C))] Grows) (by kernel_rfl) rfl (by kernel_rfl) (by kernel_rfl) rfl (by kernel_rfl) (by kernel_rfl) (by kernel_rfl) (by kernel_rfl) ((Below.refl wx.heap.size wx).drew) (stab_sp [(15, (fun wy wz => ∃ (g : Nat) (n0 n1 : NoteV), Blk wy g 30 n0.C ∧ Only g wy wz ∧ Blk wz g 30 n1.C))] [true, true, true, true, true, true, true, true, true, true, false, false, false, true, false, true] [true, true, true, true, true, true, true, true, true, true, false, true, false, true, true, true] [(15, 11), (15, 14)] rfl rfl rfl (by kernel_rfl) ⟨trivial, trivial, trivial, trivial, trivial, trivial, trivial, trivial, trivial, trivial, (fun _ _ _ _ ⟨y, h1, h2, h3⟩ hb => ⟨y, h1, ⟨h2.1.below hb, h2.2⟩, h3⟩), (fun _ _ _ _ ⟨y, h1, h2, h3⟩ hb => ⟨y, h1, ⟨h2.1.below hb, h2.2⟩, h3⟩), (fun _ _ _ _ ⟨y, h1, h2, h3⟩ hb => ⟨y, h1, ⟨h2.1.below hb, h2.2⟩, h3⟩), trivial, (fun _ _ _ _ ⟨g, n0, h1, h2, h3⟩ hb => ⟨g, n0, h1, h2, h3.below hb h3.lt⟩), trivial, trivial⟩ ⟨(fun _ _ _ _ ⟨y, h1, h2, h3⟩ ⟨g, n0, n1, hk, hs, _⟩ => ⟨y, h1, ⟨readsP_apart h2.1 (readsP_blk h2.1 hk (noteC_no n0)) (fun i _ hi => hs.block i hi) (Nat.le_of_eq hs.size.symm), h2.2⟩, h3⟩), (fun _ _ _ _ ⟨g, n0, h1, h2, h3⟩ ⟨g', m0, m1, hk, hs, hk2⟩ => if e : g = g' then ⟨g, m1, h1, h2, e ▸ hk2⟩ else ⟨g, n0, h1, h2, hs.blk h3 e⟩), trivial⟩) (List.forall_mem_cons.2 ⟨(fun hn => by cases hn), (fun _ h => by cases h)⟩) (phase_sp [(15, (fun wy wz => ∃ (g : Nat) (n0 n1 : NoteV), Blk wy g 30 n0.C ∧ Only g wy wz ∧ Blk wz g 30 n1.C))] [((some 15), none)] [] rfl (by kernel_rfl) (List.forall_mem_cons.2 ⟨fun _ _ _ _ ⟨g, y, h1, h2, h3, h4, h5⟩ hb => ⟨g, y, h1, h2, h3.below hb h3.lt, ⟨h4.1.below hb, h4.2⟩, h5⟩, (fun _ h => by cases h)⟩) trivial) (List.forall_mem_cons.2 ⟨(fun a h => by first | (exact (no_1 h).elim) | (injection h with h; subst h; exact Nat.le_of_ble_eq_true rfl)), (fun _ h => by cases h)⟩) ⟨?oD0, ?oD1, ?oD2, ?oD3, ?oD4, ?oD5, ?oD6, ?oD7, ?oD8, ?oD9, ?oD10, ?oD11, ?oD12, ?oD13, ?oD14, ?oD15, trivial⟩ (by kernel_rfl) ?fD
    case oD0 => intro ev wo hev hC hs hph; have x0 := se hA hs 5; exact od rfl rfl (by kernel_rfl) hC (TSp.of rfl (Grows.refl _)) (by simp [go_sem, x0] <;> rfl)
    case oD1 => intro ev wo hev hC hs hph; have x0 := se hA hs 9; exact od rfl rfl (by kernel_rfl) hC (TSp.of rfl (Grows.refl _)) (by simp [go_sem, x0] <;> rfl)
    case oD2 => intro ev wo hev hC hs hph; have x0 := sd hs 23 0; have x1 := sd hs 24 1; exact od rfl rfl (by kernel_rfl) hC (TSp.of rfl (Grows.refl _)) (by simp [go_sem, x0, x1, jj0, jj1] <;> rfl)
    case oD3 => intro ev wo hev hC hs hph; have x0 := sd hs 25 2; exact od rfl rfl (by kernel_rfl) hC (TSp.of rfl (Grows.refl _)) (by simp [go_sem, x0] <;> rfl)
    case oD4 => intro ev wo hev hC hs hph; have x0 := sd hs 26 3; exact od rfl rfl (by kernel_rfl) hC (TSp.of rfl (Grows.refl _)) (by simp [go_sem, x0, pD _ hC] <;> rfl)
    case oD5 => intro ev wo hev hC hs hph; have x0 := se hA hs 5; exact od rfl rfl (by kernel_rfl) hC (TSp.of rfl (Grows.refl _)) (by simp [go_sem, x0] <;> rfl)
    case oD6 => intro ev wo hev hC hs hph; have x0 := se hA hs 9; exact od rfl rfl (by kernel_rfl) hC (TSp.of rfl (Grows.refl _)) (by simp [go_sem, x0] <;> rfl)
    case oD7 => intro ev wo hev hC hs hph; have x0 := sd hs 28 5; have x1 := sd hs 29 6; exact od rfl rfl (by kernel_rfl) hC (TSp.of rfl (Grows.refl _)) (by simp [go_sem, x0, x1, jj0, jj1] <;> rfl)
    case oD8 => intro ev wo hev hC hs hph; have x0 := sd hs 30 7; exact od rfl rfl (by kernel_rfl) hC (TSp.of rfl (Grows.refl _)) (by simp [go_sem, x0] <;> rfl)
    case oD9 => intro ev wo hev hC hs hph; have x0 := sd hs 31 8; exact od rfl rfl (by kernel_rfl) hC (TSp.of rfl (Grows.refl _)) (by simp [go_sem, x0, pD _ hC] <;> rfl)
    case oD10 =>
      intro ev wo hev hC hs hph
      have e27 := sd hs 27 4
      have e32 := sd hs 32 9
      have HBx := HB.trans (hC.mono HB.size)
      have z1 := zz HBx 1 _ (by decide) rfl
      have z2 := zz HBx 2 _ (by decide) rfl
      exact ob_yes (wanted_none rfl) (does_enter (exec_call Tryz.func14 (by kernel_rfl) rfl (hev.func _) (by simp [e27, e32]; try rfl)) (Calls.mono (decode_note x.kind x.a x.b.length x.c x.b rfl hxb wo (hm.below hg (hb1.trans (HBx.mono hb1.size))) (Nat.lt_of_lt_of_le hg (hb1.trans (HBx.mono hb1.size)).size) (Ht _ (hb1.trans (HBx.mono hb1.size))) (hxr0.below HBx)) (by
        rw [hq9]
        rintro ev2 w9 ⟨y, rfl, h1, h2, hb3⟩
        exact ⟨_, rfl, hC.trans (hb3.mono hC.size), TSp.of rfl hb3, ⟨y, rfl, ⟨h1.1, fun ad h => Nat.le_trans hC.size (h1.2 ad h)⟩, h2⟩, no_start (by kernel_rfl)⟩)))
    case oD11 =>
      intro ev wo hev hC hs hph
      have u33 := su hs 33 10
      have HBx := HB.trans (hC.mono HB.size)
      have z1 := zz HBx 1 _ (by decide) rfl
      have z2 := zz HBx 2 _ (by decide) rfl
      exact ob_yes (wanted_none rfl) (does_value (v := ev (.tmp 33)) (by simp [go_sem]) ⟨hC, TSp.of rfl (Grows.refl _), u33, no_start (by kernel_rfl)⟩)
    case oD12 =>
      intro ev wo hev hC hs hph
      have u22 := sh hs 22 11
      have HBx := HB.trans (hC.mono HB.size)
      have z1 := zz HBx 1 _ (by decide) rfl
      have z2 := zz HBx 2 _ (by decide) rfl
      obtain ⟨y, e22, h2, h3⟩ := u22
      exact ob_yes (wanted_none rfl) (does_value (v := .agg y.C) (by simp [go_sem, e22]) ⟨hC, TSp.of rfl (Grows.refl _), ⟨y, rfl, h2, h3⟩, no_start (by kernel_rfl)⟩)
    case oD13 =>
      intro ev wo hev hC hs hph
      have u22 := sh hs 22 11
      have HBx := HB.trans (hC.mono HB.size)
      have z1 := zz HBx 1 _ (by decide) rfl
      have z2 := zz HBx 2 _ (by decide) rfl
      obtain ⟨y, e22, h2, h3⟩ := u22
      exact ob_det (wanted_none rfl) rfl (by kernel_rfl) hC (TSp.of rfl (Grows.refl _)) (by simp [go_sem, e22]; try first | exact ⟨rfl, rfl⟩ | rfl)
    case oD14 =>
      intro ev wo hev hC hs hph
      have HBx := HB.trans (hC.mono HB.size)
      have z1 := zz HBx 1 _ (by decide) rfl
      have z2 := zz HBx 2 _ (by decide) rfl
      have hbn := (Below.refl wo.heap.size wo).alloc (Nat.le_refl _) (.cells (NoteV.C ⟨0, 0, ⟨#[]⟩, ⟨0, 0, 0, none, 0, []⟩⟩) 30)
      exact ob_yes (wanted_none rfl) (does_value (v := .pointer (some ⟨wo.heap.size, 0, none⟩)) (w' := wo.alloc (.cells (NoteV.C ⟨0, 0, ⟨#[]⟩, ⟨0, 0, 0, none, 0, []⟩⟩) 30)) (by simp [go_sem, NoteV.C, noteC]; try rfl) ⟨hC.trans (hbn.mono hC.size), TSp.of rfl hbn, ⟨_, ⟨0, 0, ⟨#[]⟩, ⟨0, 0, 0, none, 0, []⟩⟩, rfl, hC.size, Blk.new wo _ _⟩, no_start (by kernel_rfl)⟩)
    case oD15 =>
      intro ev wo hev hC hs hph
      have u10 := sh hs 10 14
      have u34 := su hs 34 12
      have HBx := HB.trans (hC.mono HB.size)
      have z1 := zz HBx 1 _ (by decide) rfl
      have z2 := zz HBx 2 _ (by decide) rfl
      obtain ⟨g, n0, e10, hg2, hk⟩ := u10
      obtain ⟨y, e34, h2, h3⟩ := u34
      have hk' : Blk wo g 30 (noteL7 n0).toArray := hk
      have hs := Only.setAll (g := g) (noteL7 y) 0 wo
      have hK2 : Blk (setAll wo g 0 (noteL7 y)) g 30 y.C := by
        have := blk_setAll (noteL7 y) 0 _ _ hk' rfl
        show Blk _ g _ (noteL7 y).toArray
        simpa using this
      unfold NoteV.C noteC at hk e34
      exact ob_yes (wanted_none rfl) (does_skip (w' := setAll wo g 0 (noteL7 y)) (by simp [go_sem, e10, e34, setAll, noteL7, hk.cell, hk.frozen]) ⟨hs.below hC hg2, TSp.sp rfl ⟨g, n0, y, hk', hs, hK2⟩, rfl, (List.forall_mem_cons.2 ⟨fun _ => ⟨g, y, e10, hg2, hK2, ⟨readsP_apart h2.1 (readsP_blk h2.1 hk' (noteC_no n0)) (fun i _ hi => hs.block i hi) (Nat.le_of_eq hs.size.symm), h2.2⟩, h3⟩, (fun _ h => by cases h)⟩)⟩)
    intro sg wf hC hph
    intro x33 hx33
    intro x22 hx22 h22
    intro x34 hx34
    intro x10 hx10 h10
    intro a hA
    replace hA := hA.keepN [5, 6, 7, 8, 9, 10, 18, 19, 35]
    obtain ⟨g, y, hg10, hgB, K10, hyr, hyd⟩ := (hph _ List.mem_cons_self rfl)
    rw [hg10] at hx10
    subst hx10
    clear h10 hg10
    have HBx := HB.trans (hC.mono HB.size)
    have hvlt := World.ownsRow.lt ho.row
    have hult := World.ownsRow.lt hou.row
    replace ho := ho.below hC
    replace hou := hou.below hC
    revert a; refine wo rfl rfl (by decide) (fun ev e h => by simp [go_sem, h] <;> rfl) ?_; intro a hA
    replace hA := hA.keepN [5, 6, 7, 8, 9, 10, 11, 18, 19]
    refine wN (nT (wS (wR ?_)))
    revert a; (iterate 2 refine wo rfl rfl (by decide) (fun ev e h => by simp [go_sem, h] <;> rfl) ?_); intro a hA
    replace hA := hA.keepN [5, 6, 7, 8, 9, 10, 18, 19, 37]
    refine wN (nT ?_)
    cases hd : decOk (x.kind : Int) x.b with
    | false =>
      rw [hd, cond_false] at hq9
      subst hq9
      rw [show decOk ((recB x).kind : Int) (recB x).b = false from hd, cond_false, List.append_nil] at hsu
      refine wp_if hA 37 _ rfl (fun hq2 => ?yE) (fun hq2 => ?nE)
      case yE => cases hq2
      case nE =>
        refine wp_skip (nB (nT (wR ?_)))
        revert a; (iterate 2 refine wo rfl rfl (by decide) (fun ev e h => by simp [go_sem, h, hwj] <;> rfl) ?_); intro a hA
        replace hA := hA.keepN [5, 6, 7, 8, 18, 19]
        refine wN (nT ?_)
        rw [show ((j : Int) + 1) = ((j + 1 : Nat) : Int) by omega] at hA
        exact ⟨kk - 1, by omega, j + 1, v, u, N, P, by omega, hA, ho, hou, hou2, by rw [hsu]; exact hN, by rw [hsu]; exact hP, by omega, by omega, hNu, HBx⟩
    | true =>
      rw [hd, cond_true] at hq9
      subst hq9
      rw [show decOk ((recB x).kind : Int) (recB x).b = true from hd, cond_true] at hsu
      obtain ⟨hyb, hyu, hye⟩ := hyd hd
      refine wp_if hA 37 _ rfl (fun hq2 => ?yE2) (fun hq2 => ?nE2)
      case nE2 => cases hq2
      case yE2 =>
        have K10' : Blk wf g 30 (noteL7 y).toArray := K10
        unfold NoteV.C noteC at K10
        refine wS (wR ?_)
        revert a; (iterate 2 refine wo rfl rfl (by decide) (fun ev e h => by simp [go_sem, h, K10.cell] <;> rfl) ?_); intro a hA
        refine wl_new hA rfl rfl (by decide) (fun ev h => by simp [go_sem, h.get 39 rfl, K10.cell]; try first | exact ⟨rfl, rfl⟩ | rfl) fun w3 a (K11 : Blk _ _ _ _) hz3 hb3 hA => ?_
        replace ho := ho.below hb3
        replace hou := hou.below hb3
        have hyr3 := hyr.1.below hb3
        have hrow : RowR refNoteSh w3 _ [y] := rowR_blk (s := refNoteSh) (x := y) K11 (fun p hp => by rw [List.mem_singleton.1 hp]; exact hyr3)
        have hoffy : ∀ g, g < wx.heap.size → OffP g (y.m.a, y.m.b) := fun g hg hn ad ha e => by have := hyr.2 ad ha; omega
        have HB3 := HBx.trans (hb3.mono HBx.size)
        obtain ⟨r, w4, hr4, ho4, hg4, hrr⟩ := run_appR ho hrow (fun g hg m hm p hp => by
          rw [List.mem_singleton.1 hm] at hp
          rw [List.mem_singleton.1 hp]
          exact hoffy g (hvlt g hg).2) (by simp; omega) HB3.size
        refine wl_op hA rfl rfl (by decide) (fun ev h => exec_append rfl (h.get 38 rfl) (h.get 40 rfl) hr4) fun a hA => ?_
        have HB4 := below_appR HB3 ho hg4 (Nat.le_refl _) HB3.size
        have hou4 := hou.grown hg4 (fun g hg => hou.ne ho (by decide) hg) (fun _ _ _ _ p hp => (by cases hp))
        have hou24 : ∀ g, u.ownBlock = some g → ∀ m ∈ N ++ [y], OffP g (m.m.a, m.m.b) := fun g hg m hm => by
          rcases List.mem_append.1 hm with hm | hm
          · exact hou2 g hg m hm
          · rw [List.mem_singleton.1 hm]; exact hoffy g (hult g hg).2
        clear ho hou
        have zq := z0' HB4
        revert a; refine wo rfl rfl (by decide) (fun ev e h => by simp [go_sem, h, zq, jj0, jj1] <;> rfl) ?_; intro a hA
        replace hA := hA.keepN [5, 6, 7, 8, 9, 18, 19]
        refine wN (nT (wR ?_))
        revert a; (iterate 6 refine wo rfl rfl (by decide) (fun ev e h => by simp [go_sem, h, zq, jj0, jj1] <;> rfl) ?_); intro a hA
        refine wl_new hA rfl rfl (by decide) (fun ev h => by simp [go_sem, h.get 47 rfl, zq, jj0, jj1]; try first | exact ⟨rfl, rfl⟩ | rfl) fun w5 a (K12 : Blk _ _ _ _) hz5 hb5 hA => ?_
        replace ho4 := ho4.below hb5
        replace hou4 := hou4.below hb5
        have HB5 := HB4.trans (hb5.mono HB4.size)
        have hrow5 : RowR intSh w5 _ [x.at_] := rowR_blk (s := intSh) (x := x.at_) K12 (fun p hp => (by cases hp))
        obtain ⟨r6, w6, hr6, ho6, hg6, hrr6⟩ := run_appR hou4 hrow5 (fun _ _ m _ p hp => (by cases hp)) (by simp; omega) HB5.size
        refine wl_op hA rfl rfl (by decide) (fun ev h => exec_append rfl (h.get 42 rfl) (h.get 48 rfl) hr6) fun a hA => ?_
        have HB6 := below_appR HB5 hou4 hg6 (Nat.le_refl _) HB5.size
        have ho46 := ho4.grown hg6 (fun g hg => ho4.ne hou4 (by decide) hg) (fun g hg m hm p hp => by rw [List.mem_singleton.1 hp]; exact hou24 g hg m hm)
        revert a; refine wo rfl rfl (by decide) (fun ev e h => by simp [go_sem, h, hwj] <;> rfl) ?_; intro a hA
        replace hA := hA.keepN [5, 6, 7, 8, 18, 19]
        refine wN (nB (nT (wR ?_)))
        revert a; (iterate 2 refine wo rfl rfl (by decide) (fun ev e h => by simp [go_sem, h, hwj] <;> rfl) ?_); intro a hA
        replace hA := hA.keepN [5, 6, 7, 8, 18, 19]
        refine wN (nT ?_)
        rw [show ((j : Int) + 1) = ((j + 1 : Nat) : Int) by omega] at hA
        refine ⟨kk - 1, by omega, j + 1, r, r6, N ++ [y], P ++ [x.at_], by omega, hA, ho46, ho6, fun g hg m hm => ?_, ?_, ?_, ?_, ?_, fun m hm => ?_, HB6⟩
        · rcases hrr6 with e | e
          · exact hou24 g (e ▸ hg) m hm
          · rw [e] at hg
            injection hg with hg
            subst hg
            exact readsP_off (ho4.octs m hm (m.m.a, m.m.b) (List.mem_singleton.2 rfl)) (Nat.le_refl _)
        · rw [hsu, List.map_append, List.map_append, hN]
          congr 1
          show [y.b] = [z0 (noteOf x.kind x.at_ x.b)]
          rw [hyb]
          rfl
        · rw [hsu, List.map_append, hP]
          rfl
        · rw [List.length_append]; simp; omega
        · rw [List.length_append]; simp; omega
        · rcases List.mem_append.1 hm with hm | hm
          · exact hNu m hm
          · rw [List.mem_singleton.1 hm]; exact ⟨hyu, hye⟩
end Go.Proofs.YtmjikfeaopmejaaGreatDoor
/-
  Walk: what notes make of a mailbox, by the document (cubbyref09.Of).
-/
namespace Go.Proofs.YtmjikfeaopmejaaGreatDoor
open Go.RowKit
set_option linter.unusedSimpArgs false
set_option linter.unusedVariables false
theorem nat_eqc (a b : Nat) : ((a : Int) == (b : Int)) = (b == a) := by rw [Bool.eq_iff_iff, beq_iff_eq, beq_iff_eq]; omega
/-- renumbered, in part -/
def renumM (j : Nat) (M M' : List MsgV) : Prop := ∀ i, M'[i]? = (M[i]?).map fun x => if i < j then (⟨i + 1, x.date, x.flags, x.a, x.c, x.b⟩ : MsgV) else x
theorem renumM_zero (M : List MsgV) : renumM 0 M M := fun i => by cases M[i]? <;> simp
theorem renumM_succ {j : Nat} {M M' : List MsgV} {y : MsgV} (h : renumM j M M') (hy : M'[j]? = some y) : renumM (j + 1) M (M'.set j ⟨j + 1, y.date, y.flags, y.a, y.c, y.b⟩) := by
  intro i
  have hlt := (List.getElem?_eq_some_iff.1 hy).1
  rw [List.getElem?_set]
  by_cases hij : j = i
  · subst hij
    rw [if_pos rfl, if_pos hlt]
    have := h j
    rw [hy] at this
    cases hm : M[j]? with
    | none => rw [hm] at this; cases this
    | some x =>
      rw [hm, Option.map_some, if_neg (by omega)] at this
      injection this with this
      subst this
      rw [Option.map_some, if_pos (by omega)]
  · rw [if_neg hij, h i]
    cases M[i]? with
    | none => rfl
    | some x =>
      rw [Option.map_some, Option.map_some]
      by_cases h : i < j
      · rw [if_pos h, if_pos (by omega)]
      · rw [if_neg h, if_neg (by omega)]
theorem renumM_all {n : Nat} {M M' : List MsgV} {l : List NoteB} (h : renumM n M M') (hn : M.length = n) (hs : n < 4294967295) (he : M.map msgB = l.map bare4) : M'.map msgB = renum 0 l := by
  refine List.ext_getElem? fun i => ?_
  rw [renum_get, List.getElem?_map, h i]
  have e1 : (M[i]?).map msgB = (l[i]?).map bare4 := by rw [← List.getElem?_map, ← List.getElem?_map, he]
  cases hm : M[i]? with
  | none =>
    rw [hm] at e1
    cases hn2 : l[i]? with
    | none => rfl
    | some q => rw [hn2] at e1; cases e1
  | some x =>
    rw [hm] at e1
    have hi : i < n := by have := (List.getElem?_eq_some_iff.1 hm).1; omega
    cases hn2 : l[i]? with
    | none => rw [hn2] at e1; cases e1
    | some q =>
      rw [hn2] at e1
      injection e1 with e1
      unfold msgB bare4 at e1
      simp only [Prod.mk.injEq] at e1
      rw [Option.map_some, Option.map_some, Option.map_some, if_pos hi]
      unfold msgB
      rw [show (0 + i + 1) % 4294967296 = i + 1 by omega]
      simp [e1]
theorem renumM_parts {j : Nat} {M M' : List MsgV} {N : List NoteV} (h : renumM j M M') (hN : ∀ m ∈ M, ∃ x ∈ N, m.a = x.m.a ∧ m.b = x.m.b) : ∀ m ∈ M', ∃ x ∈ N, m.a = x.m.a ∧ m.b = x.m.b := by
  intro m hm
  obtain ⟨i, hi⟩ := List.mem_iff_getElem?.1 hm
  have h2 := h i
  rw [hi] at h2
  cases hx : M[i]? with
  | none => rw [hx] at h2; cases h2
  | some y =>
    obtain ⟨x, h3, h4, h5⟩ := hN y (List.mem_of_getElem? hx)
    rw [hx, Option.map_some] at h2
    injection h2 with h2
    refine ⟨x, h3, ?_⟩
    rw [h2]
    split
    · exact ⟨h4, h5⟩
    · exact ⟨h4, h5⟩
theorem clean_step (a b : Nat) (E u : Nat) : (((a : Int) != (E : Int) || decide (u ≤ b)) || (u : Int) == 4294967295) = !(a == E && decide (b < u) && !(u == 4294967295)) := by
  rw [Bool.eq_iff_iff]
  simp
  omega
set_option maxRecDepth 100000 in
set_option maxHeartbeats 4000000 in
theorem refOf_any (A : Option Addr) (n c : Nat) (N : List NoteV) (w : World) (hl : N.length = n) (hn : n ≤ 1000000) (hr : RowR refNoteSh w A N) (hu : ∀ m ∈ N, m.m.uid < 4294967296 ∧ m.ep < 4294967296) :
    Calls Tryz.prog 21 #[.slice A n c] w fun ev w' => ∃ v M, ev = .returned (.tuple #[.agg #[.string (boxS (ofAll (N.map NoteV.b))).nm, .int .u32 ((boxS (ofAll (N.map NoteV.b))).ep : Nat), .int .u32 ((boxS (ofAll (N.map NoteV.b))).nx : Nat), v], .bool (cleanS (ofAll (N.map NoteV.b)))]) ∧ OwnR msgSh w.heap.size w' v M ∧ M.map msgB = (boxS (ofAll (N.map NoteV.b))).msgs ∧ (∀ m ∈ M, ∃ x ∈ N, m.a = x.m.a ∧ m.b = x.m.b) ∧ Below w.heap.size w w' := by
  obtain ⟨LB, hLB⟩ : ∃ LB, N.map NoteV.b = LB := ⟨_, rfl⟩
  have hLl : LB.length = n := by rw [← hLB, List.length_map, hl]
  rw [hLB]
  refine calls_at 176 Tryz.func21 rfl rfl (Nat.le_of_ble_eq_true rfl) ?_
  intro a hA; replace hA := hA.norm
  refine wS (wR ?_)
  refine wl_new hA rfl rfl (by decide) (fun ev h => by simp [go_sem]; try first | exact ⟨rfl, rfl⟩ | rfl) fun w1 a (K2 : Blk _ _ _ _) hz1 hb1 hA => ?_
  revert a; refine wo rfl rfl (by decide) (fun ev e h => by simp [go_sem, h] <;> rfl) ?_; intro a hA
  replace hA := hA.keepN [0, 2]
  refine wN (nT (wS (wR ?_)))
  revert a; refine wo rfl rfl (by decide) (fun ev e h => by simp [go_sem, h] <;> rfl) ?_; intro a hA
  refine wl_local [.string ⟨#[]⟩, .int .u32 0, .int .u32 1, .slice none 0 0] hA rfl rfl (by decide) (fun ev h => by simp [go_sem]; try first | exact ⟨rfl, rfl⟩ | rfl) rfl rfl (by rfl) (fun w1 g ev hb h => by simp [go_sem, h.get 4 rfl, h.get 14 rfl, setAll, hb.cell, hb.frozen]) fun w2 a (K4 : Blk _ _ _ _) hz2 hb2 hA => ?_
  replace K2 := K2.below hb2 K2.lt
  replace hA := hA.keepN [0, 2, 4]
  refine wN (nT (wS (wS (wR ?_))))
  revert a; (iterate 3 refine wo rfl rfl (by decide) (fun ev e h => by simp [go_sem, h] <;> rfl) ?_); intro a hA
  replace hA := hA.keepN [0, 2, 4, 16, 17]
  refine wN (nT (wB ?_))
  obtain ⟨pb, hpb⟩ : ∃ x, w1.heap.size = x := ⟨_, rfl⟩
  rw [hpb] at K4 hA
  have hpw : w.heap.size < pb := by omega
  have HBw : Below w.heap.size w w2 := hb1.trans (hb2.mono (by omega))
  have K20 := K2
  have HL : Below pb w2 w2 := Below.refl _ _
  have cellsN : ∀ {wy : World}, Below w.heap.size w wy → ∀ {j : Nat} {x : NoteV}, N[j]? = some x → ∃ ad, A = some ad ∧ wy.cell? (ad.add (j * 7)) = some (.int .i64 x.kind) ∧ ∀ d u, 0 < d → (noteL7 x)[d]? = some u → wy.cell? ⟨(ad.add (j * 7)).block, (ad.add (j * 7)).off + d, none⟩ = some u := fun {wy} hb {j x} hx => by
    obtain ⟨ad, e, hadl, kz, kk'⟩ := hr.cell hx
    exact ⟨ad, e, (hb.cell (by rw [block_of_add]; exact hadl)).trans (kz _ rfl), fun d u hd hu => (hb.cell (by show (ad.add _).block < _; rw [block_of_add]; exact hadl)).trans (kk' d _ hd hu)⟩
  refine wp_loop_at (fun kk a wx => ∃ (j : Nat), j + kk = n ∧ At 176 [(0, .slice A n c), (2, .pointer (some ⟨w.heap.size, 0, none⟩)), (4, .pointer (some ⟨pb, 0, none⟩)), (16, .int .i64 (n : Nat)), (17, .int .i64 (j : Nat))] a ∧ Blk wx pb 50 #[.string (ofNm (LB.take j)), .int .u32 (ofEp (LB.take j) : Nat), .int .u32 1, .slice none 0 0] ∧ Below pb w2 wx) (n) ?_ ?_
  · exact ⟨0, by omega, hA, K4, HL⟩
  clear K4 HL
  rintro kk a wx ⟨j, hjk, hA, K4, HL⟩
  refine wS (wR ?_)
  revert a; refine wo rfl rfl (by decide) (fun ev e h => by simp [go_sem, h] <;> rfl) ?_; intro a hA
  replace hA := hA.keepN [0, 2, 4, 16, 17, 18]
  refine wN (nT (wS ?_))
  refine wp_if hA 18 _ rfl (fun hq => ?yI) (fun hq => ?nI)
  case yI =>
    have hlt : j < n := by simp at hq; omega
    obtain ⟨x, hx⟩ : ∃ x, N[j]? = some x := ⟨_, List.getElem?_eq_getElem (by omega)⟩
    have hxB : LB[j]? = some x.b := by rw [← hLB, List.getElem?_map, hx]; rfl
    have cl := fun {wy} (hb : Below w.heap.size w wy) => cellsN hb hx
    obtain ⟨ad, rfl, -⟩ := cl (Below.refl _ _)
    have zz : ∀ {wy : World}, Below w.heap.size w wy → wy.cell? (ad.add (j * 7)) = some (.int .i64 x.kind) ∧ ∀ d u, 0 < d → (noteL7 x)[d]? = some u → wy.cell? ⟨(ad.add (j * 7)).block, (ad.add (j * 7)).off + d, none⟩ = some u := fun hb => by
      obtain ⟨ad', e, h⟩ := cl hb
      injection e with e
      subst e
      exact h
    have jj0 : (0 : Int) ≤ (j : Int) := by omega
    have jj1 : (j : Int) < (n : Int) := by omega
    have hwj : IntKind.i64.wrap ((j : Int) + 1) = (j : Int) + 1 := IntWalk.i64_in _ (by omega)
    have e1 := ofEp_take hxB
    have e2 := ofNm_take hxB
    have hpx := K4.lt
    refine wp_skip (nT (wS (wB (wS (wR ?_)))))
    revert a; (iterate 2 refine wo rfl rfl (by decide) (fun ev e h => by simp [go_sem, h] <;> rfl) ?_); intro a hA
    replace hA := hA.keepN [0, 2, 4, 5, 16, 17]
    have pD := fun (wo : World) (hC : (fun wy => Below wx.heap.size wx wy) wo) => have Kx := K4.below hC K4.lt; have HBx := HBw.trans ((HL.mono (by omega)).trans (hC.mono (by have := HL.size; have := hb1.size; have := hb2.size; omega))); have z1 := (zz HBx).2 1 _ (by decide) rfl; And.intro (Kx.cell) (z1)
    refine wN (nT (wS ?_))
    refine wp_region_split 8 ?_
    simp only [List.take_succ_cons, List.take_zero, List.drop_succ_cons, List.drop_zero]
    refine wp_any_split_at hA [(.det ?dD0), (.det ?dD1), (.det ?dD2), (.det ?dD3), (.det ?dD4), (.det ?dD5), (.det ?dD6), (.det ?dD7)] [] (fun wy => Below wx.heap.size wx wy) (TSp [] Grows) (by kernel_rfl) rfl (by kernel_rfl) (by kernel_rfl) rfl (by kernel_rfl) (by kernel_rfl) (by kernel_rfl) (by kernel_rfl) ((Below.refl wx.heap.size wx).drew) (stab_sp [] [true, true, true, true, true, true, true, true] [true, true, true, true, true, true, true, true] [] rfl rfl rfl (by kernel_rfl) ⟨trivial, trivial, trivial, trivial, trivial, trivial, trivial, trivial, trivial⟩ trivial) (fun _ h => by cases h) (fun _ _ _ _ _ h => by cases h) (fun _ h => by cases h) ⟨?oD0, ?oD1, ?oD2, ?oD3, ?oD4, ?oD5, ?oD6, ?oD7, trivial⟩ (by kernel_rfl) ?fD
    case oD0 => intro ev wo hev hC hs hph; have x0 := se hA hs 4; exact od rfl rfl (by kernel_rfl) hC (TSp.of rfl (Grows.refl _)) (by simp [go_sem, x0] <;> rfl)
    case oD1 => intro ev wo hev hC hs hph; have x0 := sd hs 20 0; exact od rfl rfl (by kernel_rfl) hC (TSp.of rfl (Grows.refl _)) (by simp [go_sem, x0, pD _ hC] <;> rfl)
    case oD2 => intro ev wo hev hC hs hph; have x0 := se hA hs 0; exact od rfl rfl (by kernel_rfl) hC (TSp.of rfl (Grows.refl _)) (by simp [go_sem, x0] <;> rfl)
    case oD3 => intro ev wo hev hC hs hph; have x0 := se hA hs 5; exact od rfl rfl (by kernel_rfl) hC (TSp.of rfl (Grows.refl _)) (by simp [go_sem, x0] <;> rfl)
    case oD4 => intro ev wo hev hC hs hph; have x0 := sd hs 22 2; have x1 := sd hs 23 3; exact od rfl rfl (by kernel_rfl) hC (TSp.of rfl (Grows.refl _)) (by simp [go_sem, x0, x1, jj0, jj1] <;> rfl)
    case oD5 => intro ev wo hev hC hs hph; have x0 := sd hs 24 4; exact od rfl rfl (by kernel_rfl) hC (TSp.of rfl (Grows.refl _)) (by simp [go_sem, x0] <;> rfl)
    case oD6 => intro ev wo hev hC hs hph; have x0 := sd hs 25 5; exact od rfl rfl (by kernel_rfl) hC (TSp.of rfl (Grows.refl _)) (by simp [go_sem, x0, pD _ hC] <;> rfl)
    case oD7 => intro ev wo hev hC hs hph; have x0 := sd hs 21 1; have x1 := sd hs 26 6; exact od rfl rfl (by kernel_rfl) hC (TSp.of rfl (Grows.refl _)) (by simp [go_sem, x0, x1] <;> rfl)
    intro sg wf hC hph
    intro a hA
    replace hA := hA.keepN [0, 2, 4, 5, 16, 17, 27]
    replace K4 := K4.below hC hpx
    replace HL := HL.trans (hC.mono (Nat.le_of_lt hpx))
    clear hC
    revert a; refine wo rfl rfl (by decide) (fun ev e h => by simp [go_sem, h] <;> rfl) ?_; intro a hA
    refine wl_setf ([.string (ofNm (LB.take j)), .int .u32 (max (ofEp (LB.take j) : Int) (x.ep : Int)), .int .u32 1, .slice none 0 0]) _ hA rfl rfl K4 (j := 1) (by rfl) (fun ev h => by simp [go_sem, h.get 28 rfl, h.get 27 rfl, K4.cell, K4.frozen]; try first | exact ⟨rfl, rfl⟩ | rfl) fun w3 (K4 : Blk _ _ _ _) hs3 => ?_
    replace HL := hs3.below HL (Nat.le_refl _)
    have HBx := HBw.trans (HL.mono (Nat.le_of_lt hpw))
    have z0 := (zz HBx).1
    have z2 := (zz HBx).2 2 _ (by decide) rfl
    have eE : max (ofEp (LB.take j) : Int) (x.ep : Int) = ((ofEp (LB.take (j + 1)) : Nat) : Int) := by rw [e1]; show _ = ((max (ofEp (LB.take j)) x.ep : Nat) : Int); omega
    rw [eE] at K4
    replace hA := hA.keepN [0, 2, 4, 5, 16, 17]
    refine wN (nT (wS (wR ?_)))
    revert a; (iterate 6 refine wo rfl rfl (by decide) (fun ev e h => by simp [go_sem, h, z0, z2, jj0, jj1] <;> rfl) ?_); intro a hA
    replace hA := hA.keepN [0, 2, 4, 5, 16, 17, 34]
    refine wN (nT ?_)
    refine wp_if hA 34 _ rfl (fun hq2 => ?yK) (fun hq2 => ?nK)
    case yK =>
      have hq2 : decide (x.b.k < 3) = true := hq2
      rw [hq2, cond_true] at e2
      refine wR ?_
      revert a; (iterate 6 refine wo rfl rfl (by decide) (fun ev e h => by simp [go_sem, h, z0, z2, jj0, jj1] <;> rfl) ?_); intro a hA
      refine wl_setf ([.string x.nm, .int .u32 (ofEp (LB.take (j + 1)) : Nat), .int .u32 1, .slice none 0 0]) _ hA rfl rfl K4 (j := 0) (by rfl) (fun ev h => by simp [go_sem, h.get 40 rfl, h.get 39 rfl, z0, z2, jj0, jj1, K4.cell, K4.frozen]; try first | exact ⟨rfl, rfl⟩ | rfl) fun w4 (K4 : Blk _ _ _ _) hs4 => ?_
      replace hA := hA.keepN [0, 2, 4, 16, 17]
      refine wN (nB (nT (wR ?_)))
      revert a; (iterate 2 refine wo rfl rfl (by decide) (fun ev e h => by simp [go_sem, h, hwj] <;> rfl) ?_); intro a hA
      replace hA := hA.keepN [0, 2, 4, 16, 17]
      refine wN (nT ?_)
      rw [show ((j : Int) + 1) = ((j + 1 : Nat) : Int) by omega] at hA
      exact ⟨kk - 1, by omega, j + 1, by omega, hA, by rw [e2]; exact K4, hs4.below HL (Nat.le_refl _)⟩
    case nK =>
      have hq2 : decide (x.b.k < 3) = false := hq2
      rw [hq2, cond_false] at e2
      refine wp_skip (nB (nT (wR ?_)))
      revert a; (iterate 2 refine wo rfl rfl (by decide) (fun ev e h => by simp [go_sem, h, hwj] <;> rfl) ?_); intro a hA
      replace hA := hA.keepN [0, 2, 4, 16, 17]
      refine wN (nT ?_)
      rw [show ((j : Int) + 1) = ((j + 1 : Nat) : Int) by omega] at hA
      exact ⟨kk - 1, by omega, j + 1, by omega, hA, by rw [e2]; exact K4, HL⟩
  case nI =>
    have hjn : j = n := by simp at hq; omega
    rw [List.take_of_length_le (by omega)] at K4
    clear hq hjk
    obtain ⟨E, hE⟩ : ∃ E, ofEp LB = E := ⟨_, rfl⟩
    rw [hE] at K4
    replace hA := hA.keepN [0, 2, 4]
    refine wp_exit (xT (xT (xB (nT (wS (wR ?_))))))
    revert a; refine wo rfl rfl (by decide) (fun ev e h => by simp [go_sem, h] <;> rfl) ?_; intro a hA
    replace hA := hA.keepN [0, 2, 4, 6]
    refine wN (nT (wS (wR ?_)))
    revert a; refine wo rfl rfl (by decide) (fun ev e h => by simp [go_sem, h] <;> rfl) ?_; intro a hA
    replace hA := hA.keepN [0, 2, 4, 6, 7]
    refine wN (nT (wS (wS (wR ?_))))
    revert a; (iterate 3 refine wo rfl rfl (by decide) (fun ev e h => by simp [go_sem, h] <;> rfl) ?_); intro a hA
    replace hA := hA.keepN [0, 2, 4, 6, 7, 43, 44]
    refine wN (nT (wB ?_))
    refine wp_loop_at (fun kk a wx => ∃ (j : Nat) (v : Value) (M : List MsgV) (Pl : List NoteB), j + kk = n ∧ At 176 [(0, .slice A n c), (2, .pointer (some ⟨w.heap.size, 0, none⟩)), (4, .pointer (some ⟨pb, 0, none⟩)), (6, .bool (riseN E 0 Pl)), (7, .int .u32 (lastN 0 Pl : Nat)), (43, .int .i64 (n : Nat)), (44, .int .i64 (j : Nat))] a ∧ Blk wx pb 50 #[.string (ofNm LB), .int .u32 (E : Nat), .int .u32 (ofNx E (LB.take j) : Nat), v] ∧ OwnR msgSh (pb + 1) wx v M ∧ M.map msgB = Pl.map bare4 ∧ ofLive LB = Pl ++ ofLive (LB.drop j) ∧ M.length ≤ j ∧ (∀ m ∈ M, ∃ x ∈ N, m.a = x.m.a ∧ m.b = x.m.b) ∧ Below pb w2 wx) (n) ?_ ?_
    · exact ⟨0, _, [], [], by omega, hA, K4, OwnR.nil _ _, rfl, rfl, Nat.zero_le _, fun _ h => (by cases h), HL⟩
    clear K4 HL
    rintro kk a wx ⟨j, v, M, Pl, hjk, hA, K4, ho, hM, hPl, hMl, hMN, HL⟩
    obtain ⟨Av, cv, rfl, _⟩ := ho.reads
    have hpx := K4.lt
    have hmn : w2.heap.size ≤ wx.heap.size := HL.size
    refine wS (wR ?_)
    revert a; refine wo rfl rfl (by decide) (fun ev e h => by simp [go_sem, h] <;> rfl) ?_; intro a hA
    replace hA := hA.keepN [0, 2, 4, 6, 7, 43, 44, 45]
    refine wN (nT (wS ?_))
    refine wp_if hA 45 _ rfl (fun hq => ?yJ) (fun hq => ?nJ)
    case yJ =>
      have hlt : j < n := by simp at hq; omega
      obtain ⟨x, hx⟩ : ∃ x, N[j]? = some x := ⟨_, List.getElem?_eq_getElem (by omega)⟩
      have hxB : LB[j]? = some x.b := by rw [← hLB, List.getElem?_map, hx]; rfl
      have hxu := hu x (List.mem_of_getElem? hx)
      have hxr0 := hr.octs x (List.mem_of_getElem? hx) (x.m.a, x.m.b) (List.mem_singleton.2 rfl)
      obtain ⟨ad, rfl, z0', zz'⟩ := cellsN (HBw.trans (HL.mono (Nat.le_of_lt hpw))) hx
      have jj0 : (0 : Int) ≤ (j : Int) := by omega
      have jj1 : (j : Int) < (n : Int) := by omega
      have hwj : IntKind.i64.wrap ((j : Int) + 1) = (j : Int) + 1 := IntWalk.i64_in _ (by omega)
      have z1 := zz' 1 _ (by decide) rfl
      have z2 := zz' 2 _ (by decide) rfl
      have z3 := zz' 3 _ (by decide) rfl
      have z4 := zz' 4 _ (by decide) rfl
      have z5 := zz' 5 _ (by decide) rfl
      have z6 := zz' 6 _ (by decide) rfl
      have e3 := ofNx_take (E := E) hxB
      have e4 := ofLive_drop hxB
      refine wp_skip (nT (wS (wB (wS (wR ?_)))))
      revert a; (iterate 2 refine wo rfl rfl (by decide) (fun ev e h => by simp [go_sem, h, z0', z1, z2, z3, z4, z5, z6, jj0, jj1] <;> rfl) ?_); intro a hA
      replace hA := hA.keepN [0, 2, 4, 6, 7, 8, 43, 44]
      refine wN (nT (wS (wR ?_)))
      revert a; (iterate 4 refine wo rfl rfl (by decide) (fun ev e h => by simp [go_sem, h, z0', z1, z2, z3, z4, z5, z6, jj0, jj1] <;> rfl) ?_); intro a hA
      refine wl_local [.int .i64 x.kind, .int .u32 (x.ep : Nat), .string x.nm, .int .u32 (x.m.uid : Nat), .int .i64 x.m.date, .int .i64 x.m.flags, .slice x.m.a x.m.b.length x.m.c] hA rfl rfl (by decide) (fun ev h => by simp [go_sem, z0', z1, z2, z3, z4, z5, z6, jj0, jj1]; try first | exact ⟨rfl, rfl⟩ | rfl) rfl rfl (by rfl) (fun w1 g ev hb h => by simp [go_sem, h.get 9 rfl, h.get 50 rfl, z0', z1, z2, z3, z4, z5, z6, jj0, jj1, setAll, hb.cell, hb.frozen]) fun w5 a (K9 : Blk _ _ _ _) hz5 hb5 hA => ?_
      replace K4 := K4.below hb5 K4.lt
      replace ho := ho.below hb5
      obtain ⟨pn, hpn⟩ : ∃ y, wx.heap.size = y := ⟨_, rfl⟩
      rw [hpn] at K9 hpx hA
      replace HL := HL.trans (hb5.mono (by omega))
      clear z0' zz' z1 z2 z3 z4 z5 z6 hb5
      replace hA := hA.keepN [0, 2, 4, 6, 7, 8, 9, 43, 44]
      refine wN (nT (wS (wS (wR ?_))))
      revert a; (iterate 4 refine wo rfl rfl (by decide) (fun ev e h => by simp [go_sem, h, K9.cell, K4.cell] <;> rfl) ?_); (iterate 5 refine wg _ rfl rfl rfl rfl (by decide) (fun hq ev e h => by simp [go_sem, h, ↓gw_t (beq_t hq), K9.cell, K4.cell] <;> rfl) ?_); refine wka rfl rfl (by decide) rfl rfl rfl ?_; intro a hA
      replace hA := hA.keepN [0, 2, 4, 6, 7, 8, 9, 43, 44, 60]
      refine wN (nT ?_)
      refine wp_join (fun a wx => At 176 [(0, .slice (some ad) n c), (2, .pointer (some ⟨w.heap.size, 0, none⟩)), (4, .pointer (some ⟨pb, 0, none⟩)), (6, .bool (riseN E 0 Pl)), (7, .int .u32 (lastN 0 Pl : Nat)), (8, .int .i64 (j : Nat)), (9, .pointer (some ⟨pn, 0, none⟩)), (43, .int .i64 (n : Nat)), (44, .int .i64 (j : Nat))] a ∧ Blk wx pb 50 #[.string (ofNm LB), .int .u32 (E : Nat), .int .u32 (ofNx E (LB.take (j + 1)) : Nat), .slice Av M.length cv] ∧ Blk wx pn 27 (noteL7 x).toArray ∧ OwnR msgSh (pb + 1) wx (.slice Av M.length cv) M ∧ Below pb w2 wx) ?jfX ?jrX
      case jfX =>
        have hstep : nxStep E (ofNx E (LB.take j)) x.b = bif decide ((1 : Int) < x.kind) && ((x.ep : Int) == (E : Int)) then max (ofNx E (LB.take j)) (behindN x.m.uid) else ofNx E (LB.take j) := by
          rw [nat_eq]
          rfl
        refine wp_if hA 60 _ rfl (fun hq1 => ?yA1) (fun hq1 => ?nA1)
        case nA1 =>
          rw [hq1, cond_false] at hstep
          replace hA := hA.keepN [0, 2, 4, 6, 7, 8, 9, 43, 44]
          refine wp_skip (nT ?_)
          refine ⟨hA, ?_, K9, ho, HL⟩
          rw [e3, hstep]
          exact K4
        case yA1 =>
          rw [hq1, cond_true] at hstep
          rw [hstep] at e3
          refine wS (wR ?_)
          revert a; (iterate 4 refine wo rfl rfl (by decide) (fun ev e h => by simp [go_sem, h, K9.cell, K4.cell] <;> rfl) ?_); intro a hA
          replace hA := hA.keepN [0, 2, 4, 6, 7, 8, 9, 10, 43, 44]
          refine wN (nT (wS (wS (wR ?_))))
          revert a; (iterate 2 refine wo rfl rfl (by decide) (fun ev e h => by simp [go_sem, h, K9.cell, K4.cell] <;> rfl) ?_); intro a hA
          replace hA := hA.keepN [0, 2, 4, 6, 7, 8, 9, 10, 43, 44, 65]
          refine wN (nT ?_)
          refine wp_if hA 65 _ rfl (fun hq2 => ?yA2) (fun hq2 => ?nA2)
          case yA2 =>
            have hlu : x.m.uid < 4294967295 := by simp at hq2; omega
            have hwu : IntKind.u32.wrap ((x.m.uid : Int) + 1) = (x.m.uid : Int) + 1 := IntWalk.u32_in _ (by omega)
            have hbe : behindN x.m.uid = x.m.uid + 1 := by unfold behindN; rw [if_neg (by omega)]
            refine wR ?_
            revert a; (iterate 3 refine wo rfl rfl (by decide) (fun ev e h => by simp [go_sem, h, K4.cell, hwu] <;> rfl) ?_); intro a hA
            replace hA := hA.keepN [0, 2, 4, 6, 7, 8, 9, 10, 43, 44]
            refine wN (nT (wR ?_))
            revert a; (iterate 5 refine wo rfl rfl (by decide) (fun ev e h => by simp [go_sem, h, K4.cell, hwu] <;> rfl) ?_); intro a hA
            have K40 := K4
            refine wl_setf ([.string (ofNm LB), .int .u32 (E : Nat), .int .u32 (max (ofNx E (LB.take j) : Int) ((x.m.uid : Int) + 1)), .slice Av M.length cv]) _ hA rfl rfl K4 (j := 2) (by rfl) (fun ev h => by simp [go_sem, h.get 72 rfl, h.get 71 rfl, K4.cell, hwu, K4.cell, K4.frozen]; try first | exact ⟨rfl, rfl⟩ | rfl) fun w6 (K4 : Blk _ _ _ _) hs6 => ?_
            replace hA := hA.keepN [0, 2, 4, 6, 7, 8, 9, 43, 44]
            refine wN (nT ?_)
            refine ⟨hA, ?_, hs6.blk K9 (by omega), ho.onlyK hs6 K40 (by decide) (by simp [noB8]), hs6.below HL (Nat.le_refl _)⟩
            rw [e3, hbe, show ((max (ofNx E (LB.take j)) (x.m.uid + 1) : Nat) : Int) = max (ofNx E (LB.take j) : Int) ((x.m.uid : Int) + 1) by omega]
            exact K4
          case nA2 =>
            have hlu : x.m.uid = 4294967295 := by simp at hq2; omega
            have hbe : behindN x.m.uid = x.m.uid := by unfold behindN; rw [if_pos hlu]
            refine wp_skip (nT (wR ?_))
            revert a; (iterate 5 refine wo rfl rfl (by decide) (fun ev e h => by simp [go_sem, h, K4.cell] <;> rfl) ?_); intro a hA
            have K40 := K4
            refine wl_setf ([.string (ofNm LB), .int .u32 (E : Nat), .int .u32 (max (ofNx E (LB.take j) : Int) (x.m.uid : Int)), .slice Av M.length cv]) _ hA rfl rfl K4 (j := 2) (by rfl) (fun ev h => by simp [go_sem, h.get 72 rfl, h.get 71 rfl, K4.cell, K4.cell, K4.frozen]; try first | exact ⟨rfl, rfl⟩ | rfl) fun w6 (K4 : Blk _ _ _ _) hs6 => ?_
            replace hA := hA.keepN [0, 2, 4, 6, 7, 8, 9, 43, 44]
            refine wN (nT ?_)
            refine ⟨hA, ?_, hs6.blk K9 (by omega), ho.onlyK hs6 K40 (by decide) (by simp [noB8]), hs6.below HL (Nat.le_refl _)⟩
            rw [e3, hbe, show ((max (ofNx E (LB.take j)) x.m.uid : Nat) : Int) = max (ofNx E (LB.take j) : Int) (x.m.uid : Int) by omega]
            exact K4
      clear K4 K9 ho HL
      rintro a wx ⟨hA, K4, K9, ho, HL⟩
      unfold noteL7 at K9
      refine wS (wR ?_)
      revert a; (iterate 4 refine wo rfl rfl (by decide) (fun ev e h => by simp [go_sem, h, K9.cell, hwj] <;> rfl) ?_); intro a hA
      replace hA := hA.keepN [0, 2, 4, 6, 7, 8, 9, 11, 43, 44]
      refine wN (nT (wS (wS (wR ?_))))
      revert a; (iterate 3 refine wo rfl rfl (by decide) (fun ev e h => by simp [go_sem, h, K9.cell, hwj] <;> rfl) ?_); intro a hA
      replace hA := hA.keepN [0, 2, 4, 6, 7, 9, 11, 12, 43, 44]
      refine wN (nT (wB ?_))
      rw [show ((j : Int) + 1) = ((j + 1 : Nat) : Int) by omega] at hA
      refine wp_loop_at (fun kk a wy => ∃ (k : Nat) (gg : Bool), k + kk = n ∧ At 176 [(0, .slice (some ad) n c), (2, .pointer (some ⟨w.heap.size, 0, none⟩)), (4, .pointer (some ⟨pb, 0, none⟩)), (6, .bool (riseN E 0 Pl)), (7, .int .u32 (lastN 0 Pl : Nat)), (9, .pointer (some ⟨pn, 0, none⟩)), (11, .bool gg), (12, .int .i64 (k : Nat)), (43, .int .i64 (n : Nat)), (44, .int .i64 (j : Nat))] a ∧ goneIn x.b (LB.drop (j + 1)) = (gg || (LB.drop k).any fun m => m.k == 3 && goneB m x.b) ∧ Below wx.heap.size wx wy) (n - (j + 1)) ?_ ?_
      · exact ⟨j + 1, _, by omega, hA, rfl, Below.refl _ _⟩
      rintro kk2 a wy ⟨k, gg, hkk, hA, hgo, HY⟩
      have hpxx := K4.lt
      have hpnx := K9.lt
      have HLy : Below pb w2 wy := HL.trans (HY.mono (Nat.le_of_lt hpxx))
      refine wS (wS (wR ?_))
      revert a; (iterate 4 refine wo rfl rfl (by decide) (fun ev e h => by simp [go_sem, h] <;> rfl) ?_); intro a hA
      replace hA := hA.keepN [0, 2, 4, 6, 7, 9, 11, 12, 43, 44, 81]
      refine wN (nT ?_)
      refine wp_if hA 81 _ rfl (fun hq3 => ?yL) (fun hq3 => ?nL)
      case yL =>
        have hltk : k < n := by simp at hq3; omega
        obtain ⟨y, hy⟩ : ∃ y, N[k]? = some y := ⟨_, List.getElem?_eq_getElem (by omega)⟩
        have hyB : LB[k]? = some y.b := by rw [← hLB, List.getElem?_map, hy]; rfl
        rw [any_drop hyB] at hgo
        have zz : ∀ {wz : World}, Below w.heap.size w wz → wz.cell? (ad.add (k * 7)) = some (.int .i64 y.kind) ∧ ∀ d u, 0 < d → (noteL7 y)[d]? = some u → wz.cell? ⟨(ad.add (k * 7)).block, (ad.add (k * 7)).off + d, none⟩ = some u := fun hb => by
          obtain ⟨ad', e, h⟩ := cellsN hb hy
          injection e with e
          subst e
          exact h
        have kk0 : (0 : Int) ≤ (k : Int) := by omega
        have kk1 : (k : Int) < (n : Int) := by omega
        have hwk : IntKind.i64.wrap ((k : Int) + 1) = (k : Int) + 1 := IntWalk.i64_in _ (by omega)
        have K9y := K9.below HY K9.lt
        have pG := fun (wo : World) (hC : (fun wz => Below wy.heap.size wy wz) wo) => have Kx := K9y.below hC K9y.lt; have HBx := HBw.trans ((HLy.mono (Nat.le_of_lt hpw)).trans (hC.mono (by have := HLy.size; have := hb1.size; have := hb2.size; omega))); have y0 := (zz HBx).1; have y1 := (zz HBx).2 1 _ (by decide) rfl; have y3 := (zz HBx).2 3 _ (by decide) rfl; And.intro (Kx.cell) (And.intro (y0) (And.intro (y1) (y3)))
        refine wp_skip (nT (wS (wB ?_)))
        refine wp_region_split 31 ?_
        simp only [List.take_succ_cons, List.take_zero, List.drop_succ_cons, List.drop_zero]
        refine wp_any_split_at hA ((.det ?dG0) :: (.det ?dG1) :: (.det ?dG2) :: (.det ?dG3) :: (.det ?dG4) :: (.det ?dG5) :: (.det ?dG6) :: (.det ?dG7) :: (.det ?dG8) :: (.det ?dG9) :: (.det ?dG10) :: (.det ?dG11) :: (.det ?dG12) :: (.det ?dG13) :: (.det ?dG14) :: (.det ?dG15) :: (.det ?dG16) :: (.det ?dG17) :: (.det ?dG18) :: (.det ?dG19) :: (.det ?dG20) :: (.det ?dG21) :: (.det ?dG22) :: (.det ?dG23) :: (.det ?dG24) :: (.det ?dG25) :: (.det ?dG26) :: (.det ?dG27) :: (.det ?dG28) :: (.det ?dG29) :: (.det ?dG30) :: []) [] (fun wz => Below wy.heap.size wy wz) (TSp [] Grows) (by kernel_rfl) rfl (by kernel_rfl) (by kernel_rfl) rfl (by kernel_rfl) (by kernel_rfl) (by kernel_rfl) (by kernel_rfl) ((Below.refl wy.heap.size wy).drew) (stab_sp [] (true :: true :: true :: true :: true :: true :: true :: true :: true :: true :: true :: true :: true :: true :: true :: true :: true :: true :: true :: true :: true :: true :: true :: true :: true :: true :: true :: true :: true :: true :: true :: []) (true :: true :: true :: true :: true :: true :: true :: true :: true :: true :: true :: true :: true :: true :: true :: true :: true :: true :: true :: true :: true :: true :: true :: true :: true :: true :: true :: true :: true :: true :: true :: []) [] rfl rfl rfl (by kernel_rfl) ⟨trivial, trivial, trivial, trivial, trivial, trivial, trivial, trivial, trivial, trivial, trivial, trivial, trivial, trivial, trivial, trivial, trivial, trivial, trivial, trivial, trivial, trivial, trivial, trivial, trivial, trivial, trivial, trivial, trivial, trivial, trivial, trivial⟩ trivial) (fun _ h => by cases h) (fun _ _ _ _ _ h => by cases h) (fun _ h => by cases h) ⟨?oG0, ?oG1, ?oG2, ?oG3, ?oG4, ?oG5, ?oG6, ?oG7, ?oG8, ?oG9, ?oG10, ?oG11, ?oG12, ?oG13, ?oG14, ?oG15, ?oG16, ?oG17, ?oG18, ?oG19, ?oG20, ?oG21, ?oG22, ?oG23, ?oG24, ?oG25, ?oG26, ?oG27, ?oG28, ?oG29, ?oG30, trivial⟩ (by kernel_rfl) ?fG
        case oG0 => intro ev wo hev hC hs hph; have x0 := se hA hs 11; exact od rfl rfl (by kernel_rfl) hC (TSp.of rfl (Grows.refl _)) (by simp [go_sem, x0] <;> rfl)
        case oG1 => intro ev wo hev hC hs hph; have x0 := sd hs 84 0; exact od rfl rfl (by kernel_rfl) hC (TSp.of rfl (Grows.refl _)) (by simp [go_sem, x0] <;> rfl)
        case oG2 => intro ev wo hev hC hs hph; have x0 := se hA hs 0; have y := sd hs 85 1; exact ob_gv _ rfl rfl y rfl (by kernel_rfl) hC (TSp.of rfl (Grows.refl _)) (fun hq => by simp [go_sem, x0] <;> rfl) (by rfl)
        case oG3 => intro ev wo hev hC hs hph; have x0 := se hA hs 12; have y := sd hs 85 1; exact ob_gv _ rfl rfl y rfl (by kernel_rfl) hC (TSp.of rfl (Grows.refl _)) (fun hq => by simp [go_sem, x0] <;> rfl) (by rfl)
        case oG4 => intro ev wo hev hC hs hph; have x0 := sd hs 86 2; have x1 := sd hs 87 3; have y := sd hs 85 1; exact ob_gv _ rfl rfl y rfl (by kernel_rfl) hC (TSp.of rfl (Grows.refl _)) (fun hq => by simp [go_sem, (x0.trans (gw_t (beq_t hq))), (x1.trans (gw_t (beq_t hq))), kk0, kk1] <;> rfl) (by rfl)
        case oG5 => intro ev wo hev hC hs hph; have x0 := sd hs 88 4; have y := sd hs 85 1; exact ob_gv _ rfl rfl y rfl (by kernel_rfl) hC (TSp.of rfl (Grows.refl _)) (fun hq => by simp [go_sem, (x0.trans (gw_t (beq_t hq)))] <;> rfl) (by rfl)
        case oG6 => intro ev wo hev hC hs hph; have x0 := sd hs 89 5; have y := sd hs 85 1; exact ob_gv _ rfl rfl y rfl (by kernel_rfl) hC (TSp.of rfl (Grows.refl _)) (fun hq => by simp [go_sem, (x0.trans (gw_t (beq_t hq))), pG _ hC] <;> rfl) (by rfl)
        case oG7 => intro ev wo hev hC hs hph; have x0 := sd hs 90 6; have y := sd hs 85 1; exact ob_gv _ rfl rfl y rfl (by kernel_rfl) hC (TSp.of rfl (Grows.refl _)) (fun hq => by simp [go_sem, (x0.trans (gw_t (beq_t hq))), hev.const] <;> rfl) (by rfl)
        case oG8 => intro ev wo hev hC hs hph; have x0 := sd hs 91 7; have y := sd hs 85 1; exact ob_gv _ rfl rfl y rfl (by kernel_rfl) hC (TSp.of rfl (Grows.refl _)) (fun hq => by simp [go_sem, (x0.trans (gw_t (beq_t hq)))] <;> rfl) (by rfl)
        case oG9 => intro ev wo hev hC hs hph; have x0 := se hA hs 0; have y := sd hs 92 8; exact ob_gw _ _ rfl rfl y rfl (by kernel_rfl) hC (TSp.of rfl (Grows.refl _)) (fun hq hr => by simp [go_sem, x0] <;> rfl) (by rfl)
        case oG10 => intro ev wo hev hC hs hph; have x0 := se hA hs 12; have y := sd hs 92 8; exact ob_gw _ _ rfl rfl y rfl (by kernel_rfl) hC (TSp.of rfl (Grows.refl _)) (fun hq hr => by simp [go_sem, x0] <;> rfl) (by rfl)
        case oG11 => intro ev wo hev hC hs hph; have x0 := sd hs 93 9; have x1 := sd hs 94 10; have y := sd hs 92 8; exact ob_gw _ _ rfl rfl y rfl (by kernel_rfl) hC (TSp.of rfl (Grows.refl _)) (fun hq hr => by simp [go_sem, (x0.trans (gw_t (and_beq hq hr))), (x1.trans (gw_t (and_beq hq hr))), kk0, kk1] <;> rfl) (by rfl)
        case oG12 => intro ev wo hev hC hs hph; have x0 := sd hs 95 11; have y := sd hs 92 8; exact ob_gw _ _ rfl rfl y rfl (by kernel_rfl) hC (TSp.of rfl (Grows.refl _)) (fun hq hr => by simp [go_sem, (x0.trans (gw_t (and_beq hq hr)))] <;> rfl) (by rfl)
        case oG13 => intro ev wo hev hC hs hph; have x0 := sd hs 96 12; have y := sd hs 92 8; exact ob_gw _ _ rfl rfl y rfl (by kernel_rfl) hC (TSp.of rfl (Grows.refl _)) (fun hq hr => by simp [go_sem, (x0.trans (gw_t (and_beq hq hr))), pG _ hC] <;> rfl) (by rfl)
        case oG14 => intro ev wo hev hC hs hph; have x0 := se hA hs 9; have y := sd hs 92 8; exact ob_gw _ _ rfl rfl y rfl (by kernel_rfl) hC (TSp.of rfl (Grows.refl _)) (fun hq hr => by simp [go_sem, x0] <;> rfl) (by rfl)
        case oG15 => intro ev wo hev hC hs hph; have x0 := sd hs 98 14; have y := sd hs 92 8; exact ob_gw _ _ rfl rfl y rfl (by kernel_rfl) hC (TSp.of rfl (Grows.refl _)) (fun hq hr => by simp [go_sem, (x0.trans (gw_t (and_beq hq hr))), pG _ hC] <;> rfl) (by rfl)
        case oG16 => intro ev wo hev hC hs hph; have x0 := sd hs 97 13; have x1 := sd hs 99 15; have y := sd hs 92 8; exact ob_gw _ _ rfl rfl y rfl (by kernel_rfl) hC (TSp.of rfl (Grows.refl _)) (fun hq hr => by simp [go_sem, (x0.trans (gw_t (and_beq hq hr))), (x1.trans (gw_t (and_beq hq hr)))] <;> rfl) (by rfl)
        case oG17 => intro ev wo hev hC hs hph; have x0 := sd hs 92 8; have x1 := sd hs 100 16; have y := sd hs 85 1; exact ob_gv _ rfl rfl y rfl (by kernel_rfl) hC (TSp.of rfl (Grows.refl _)) (fun hq => by rw [pick_and rfl (x0.trans (gw_t (beq_t hq))) (x1.trans (gw_a (beq_t hq))) (hev.const _)] <;> rfl) (by rfl)
        case oG18 => intro ev wo hev hC hs hph; have x0 := sd hs 101 17; have y := sd hs 85 1; exact ob_gv _ rfl rfl y rfl (by kernel_rfl) hC (TSp.of rfl (Grows.refl _)) (fun hq => by simp [go_sem, (x0.trans (gw_t (beq_t hq)))] <;> rfl) (by rfl)
        case oG19 => intro ev wo hev hC hs hph; have x0 := se hA hs 0; have y := sd hs 102 18; exact ob_gw _ _ rfl rfl y rfl (by kernel_rfl) hC (TSp.of rfl (Grows.refl _)) (fun hq hr => by simp [go_sem, x0] <;> rfl) (by rfl)
        case oG20 => intro ev wo hev hC hs hph; have x0 := se hA hs 12; have y := sd hs 102 18; exact ob_gw _ _ rfl rfl y rfl (by kernel_rfl) hC (TSp.of rfl (Grows.refl _)) (fun hq hr => by simp [go_sem, x0] <;> rfl) (by rfl)
        case oG21 => intro ev wo hev hC hs hph; have x0 := sd hs 103 19; have x1 := sd hs 104 20; have y := sd hs 102 18; exact ob_gw _ _ rfl rfl y rfl (by kernel_rfl) hC (TSp.of rfl (Grows.refl _)) (fun hq hr => by simp [go_sem, (x0.trans (gw_t (and_beq hq hr))), (x1.trans (gw_t (and_beq hq hr))), kk0, kk1] <;> rfl) (by rfl)
        case oG22 => intro ev wo hev hC hs hph; have x0 := sd hs 105 21; have y := sd hs 102 18; exact ob_gw _ _ rfl rfl y rfl (by kernel_rfl) hC (TSp.of rfl (Grows.refl _)) (fun hq hr => by simp [go_sem, (x0.trans (gw_t (and_beq hq hr)))] <;> rfl) (by rfl)
        case oG23 => intro ev wo hev hC hs hph; have x0 := sd hs 106 22; have y := sd hs 102 18; exact ob_gw _ _ rfl rfl y rfl (by kernel_rfl) hC (TSp.of rfl (Grows.refl _)) (fun hq hr => by simp [go_sem, (x0.trans (gw_t (and_beq hq hr)))] <;> rfl) (by rfl)
        case oG24 => intro ev wo hev hC hs hph; have x0 := sd hs 107 23; have y := sd hs 102 18; exact ob_gw _ _ rfl rfl y rfl (by kernel_rfl) hC (TSp.of rfl (Grows.refl _)) (fun hq hr => by simp [go_sem, (x0.trans (gw_t (and_beq hq hr))), pG _ hC] <;> rfl) (by rfl)
        case oG25 => intro ev wo hev hC hs hph; have x0 := se hA hs 9; have y := sd hs 102 18; exact ob_gw _ _ rfl rfl y rfl (by kernel_rfl) hC (TSp.of rfl (Grows.refl _)) (fun hq hr => by simp [go_sem, x0] <;> rfl) (by rfl)
        case oG26 => intro ev wo hev hC hs hph; have x0 := sd hs 109 25; have y := sd hs 102 18; exact ob_gw _ _ rfl rfl y rfl (by kernel_rfl) hC (TSp.of rfl (Grows.refl _)) (fun hq hr => by simp [go_sem, (x0.trans (gw_t (and_beq hq hr)))] <;> rfl) (by rfl)
        case oG27 => intro ev wo hev hC hs hph; have x0 := sd hs 110 26; have y := sd hs 102 18; exact ob_gw _ _ rfl rfl y rfl (by kernel_rfl) hC (TSp.of rfl (Grows.refl _)) (fun hq hr => by simp [go_sem, (x0.trans (gw_t (and_beq hq hr))), pG _ hC] <;> rfl) (by rfl)
        case oG28 => intro ev wo hev hC hs hph; have x0 := sd hs 108 24; have x1 := sd hs 111 27; have y := sd hs 102 18; exact ob_gw _ _ rfl rfl y rfl (by kernel_rfl) hC (TSp.of rfl (Grows.refl _)) (fun hq hr => by simp [go_sem, (x0.trans (gw_t (and_beq hq hr))), (x1.trans (gw_t (and_beq hq hr)))] <;> rfl) (by rfl)
        case oG29 => intro ev wo hev hC hs hph; have x0 := sd hs 102 18; have x1 := sd hs 112 28; have y := sd hs 85 1; exact ob_gv _ rfl rfl y rfl (by kernel_rfl) hC (TSp.of rfl (Grows.refl _)) (fun hq => by rw [pick_and rfl (x0.trans (gw_t (beq_t hq))) (x1.trans (gw_a (beq_t hq))) (hev.const _)] <;> rfl) (by rfl)
        case oG30 => intro ev wo hev hC hs hph; have x0 := sd hs 85 1; have x1 := sd hs 113 29; exact od rfl rfl (by kernel_rfl) hC (TSp.of rfl (Grows.refl _)) (by rw [pick_or rfl x0 (hev.const _) x1] <;> rfl)
        intro sg wf hC hph
        intro a hA
        replace hA := hA.keepN [0, 2, 4, 6, 7, 9, 12, 43, 44, 114]
        revert a; refine wo rfl rfl (by decide) (fun ev e h => by simp [go_sem, h, hwk] <;> rfl) ?_; intro a hA
        replace hA := hA.keepN [0, 2, 4, 6, 7, 9, 11, 12, 43, 44]
        refine wN (nB (nT (wR ?_)))
        revert a; (iterate 3 refine wo rfl rfl (by decide) (fun ev e h => by simp [go_sem, h, hwk] <;> rfl) ?_); intro a hA
        replace hA := hA.keepN [0, 2, 4, 6, 7, 9, 11, 12, 43, 44]
        refine wN (nT ?_)
        rw [show ((k : Int) + 1) = ((k + 1 : Nat) : Int) by omega] at hA
        refine ⟨kk2 - 1, by omega, k + 1, _, by omega, hA, ?_, HY.trans (hC.mono HY.size)⟩
        rw [hgo, nat_eqc, nat_eqc, ← Bool.or_assoc]
        congr 2
        show (y.kind == 3 && (x.ep == y.ep && x.m.uid == y.m.uid)) = _
        rw [← Bool.and_assoc]
      case nL =>
        have hkn : k = n := by simp at hq3; omega
        rw [hkn, List.drop_of_length_le (i := n) (by omega), List.any_nil, Bool.or_false] at hgo
        rw [hgo] at e4
        replace K4 := K4.below HY K4.lt
        replace K9 := K9.below HY K9.lt
        replace ho := ho.below HY
        replace hA := hA.keepN [0, 2, 4, 6, 7, 9, 11, 43, 44]
        refine wp_exit (xT (xT (xB (nT (wS (wS (wR ?_)))))))
        revert a; refine wo rfl rfl (by decide) (fun ev e h => by simp [go_sem, h] <;> rfl) ?_; intro a hA
        replace hA := hA.keepN [0, 2, 4, 6, 7, 9, 43, 44, 115]
        refine wN (nT ?_)
        refine wp_if hA 115 _ rfl (fun hq4 => ?yP) (fun hq4 => ?nP)
        case yP =>
          subst hq4
          rw [cond_true, List.nil_append] at e4
          replace hA := hA.keepN [0, 2, 4, 6, 7, 43, 44]
          refine wp_exit (xT (xB (nT (wR ?_))))
          revert a; (iterate 2 refine wo rfl rfl (by decide) (fun ev e h => by simp [go_sem, h, hwj] <;> rfl) ?_); intro a hA
          replace hA := hA.keepN [0, 2, 4, 6, 7, 43, 44]
          refine wN (nT ?_)
          rw [show ((j : Int) + 1) = ((j + 1 : Nat) : Int) by omega] at hA
          exact ⟨kk - 1, by omega, j + 1, _, M, Pl, by omega, hA, K4, ho, hM, by rw [hPl, e4], by omega, hMN, HLy⟩
        case nP =>
          subst hq4
          rw [cond_false] at e4
          refine wp_skip (nT (wS (wR ?_)))
          revert a; (iterate 4 refine wo rfl rfl (by decide) (fun ev e h => by simp [go_sem, h, K9.cell, K4.cell] <;> rfl) ?_); intro a hA
          refine wl_new hA rfl rfl (by decide) (fun ev h => by simp [go_sem, h.get 119 rfl, K9.cell, K4.cell]; try first | exact ⟨rfl, rfl⟩ | rfl) fun w7 a (K11 : Blk _ _ _ _) hz7 hb7 hA => ?_
          replace K4 := K4.below hb7 K4.lt
          replace K9 := K9.below hb7 K9.lt
          replace ho := ho.below hb7
          replace HLy := HLy.trans (hb7.mono (Nat.le_trans (Nat.le_of_lt hpxx) HY.size))
          have HB7 : Below w.heap.size w w7 := HBw.trans (HLy.mono (Nat.le_of_lt hpw))
          have hxr := hxr0.below HB7
          have hrow : RowR msgSh w7 _ [x.m] := rowR_blk (s := msgSh) (x := x.m) K11 (fun p hp => by rw [List.mem_singleton.1 hp]; exact hxr)
          have hvlt := World.ownsRow.lt ho.row
          obtain ⟨r, w8, hr8, ho8, hg8, -⟩ := run_appR ho hrow (fun g hg m hm p hp => by
            rw [List.mem_singleton.1 hm] at hp
            rw [List.mem_singleton.1 hp]
            intro hn' ad' ha he
            obtain ⟨ad2, e2, hlt2, _⟩ := hxr0.2 hn'
            have h1 := (hvlt g hg).1
            have e3 : x.m.a = some ad' := ha
            rw [e3] at e2
            injection e2 with e2
            subst e2
            omega) (by simp; omega) (by have := K4.lt; omega)
          refine wl_op hA rfl rfl (by decide) (fun ev h => exec_append rfl (h.get 117 rfl) (h.get 120 rfl) hr8) fun a hA => ?_
          have K48 := K4.grown hg8 (fun e => by have := (hvlt pb e.symm).1; omega)
          have K98 := K9.grown hg8 (fun e => own_ne ho.row K9 (by decide) _ e.symm rfl)
          have hHL := below_appR HLy ho hg8 (by omega) (by have := K4.lt; omega)
          obtain ⟨A9, c9, rfl, _⟩ := ho8.reads
          have K480 := K48
          clear ho K4 K9 K11 hrow
          revert a; refine wo rfl rfl (by decide) (fun ev e h => by simp [go_sem, h, K48.cell, K98.cell] <;> rfl) ?_; intro a hA
          refine wl_setf ([.string (ofNm LB), .int .u32 (E : Nat), .int .u32 (ofNx E (LB.take (j + 1)) : Nat), .slice A9 (M ++ [x.m]).length c9]) _ hA rfl rfl K48 (j := 3) (by rfl) (fun ev h => by simp [go_sem, h.get 122 rfl, h.get 121 rfl, K48.cell, K98.cell, K48.cell, K48.frozen]; try first | exact ⟨rfl, rfl⟩ | rfl) fun w9 (K48 : Blk _ _ _ _) hs9 => ?_
          have ho9 := ho8.onlyK hs9 K480 (by decide) rfl
          have hH9 := hs9.below hHL (Nat.le_refl _)
          have K99 := hs9.blk K98 (by omega)
          have hsn := riseN_snoc E x.b 0 Pl
          have hls := lastN_snoc 0 Pl x.b
          have hcs := clean_step x.ep (lastN 0 Pl) E x.m.uid
          have hfin : ofLive LB = (Pl ++ [x.b]) ++ ofLive (LB.drop (j + 1)) := by rw [hPl, e4, List.append_assoc]
          have hMN9 : ∀ m ∈ M ++ [x.m], ∃ x ∈ N, m.a = x.m.a ∧ m.b = x.m.b := fun m hm => by
            rcases List.mem_append.1 hm with hm | hm
            · exact hMN m hm
            · rw [List.mem_singleton.1 hm]; exact ⟨x, List.mem_of_getElem? hx, rfl, rfl⟩
          have hMs : (M ++ [x.m]).map msgB = (Pl ++ [x.b]).map bare4 := by rw [List.map_append, List.map_append, hM]; rfl
          replace hA := hA.keepN [0, 2, 4, 6, 7, 9, 43, 44]
          refine wN (nT (wS (wS (wR ?_))))
          revert a; (iterate 6 refine wo rfl rfl (by decide) (fun ev e h => by simp [go_sem, h, K99.cell, K48.cell] <;> rfl) ?_); (iterate 4 refine wg _ rfl rfl rfl rfl (by decide) (fun hq ev e h => by simp [go_sem, h, ↓gw_t (beq_t hq), K99.cell, K48.cell] <;> rfl) ?_); intro a hA
          replace hA := hA.keepN [0, 2, 4, 6, 9, 43, 44, 128, 131, 132]
          revert a; refine wg _ rfl rfl rfl rfl (by decide) (fun hq ev e h => by simp [go_sem, h, ↓gw_t (beq_t hq), K99.cell, K48.cell] <;> rfl) ?_; refine wko rfl rfl (by decide) rfl rfl rfl ?_; refine wo rfl rfl (by decide) (fun ev e h => by simp [go_sem, h, K99.cell, K48.cell] <;> rfl) ?_; (iterate 4 refine wg _ rfl rfl rfl rfl (by decide) (fun hq ev e h => by simp [go_sem, h, ↓gw_t (beq_t hq), K99.cell, K48.cell] <;> rfl) ?_); refine wko rfl rfl (by decide) rfl rfl rfl ?_; intro a hA
          replace hA := hA.keepN [0, 2, 4, 6, 9, 43, 44, 140]
          refine wN (nT ?_)
          rw [hcs] at hA
          refine wp_if hA 140 _ rfl (fun hq5 => ?yQ) (fun hq5 => ?nQ)
          case yQ =>
            have hq5 : (x.ep == E && decide (lastN 0 Pl < x.m.uid) && !(x.m.uid == 4294967295)) = false := by rw [Bool.not_eq_true'] at hq5; exact hq5
            have hsn2 : riseN E 0 (Pl ++ [x.b]) = false := by rw [hsn]; show (_ && (x.ep == E && decide (lastN 0 Pl < x.m.uid) && !(x.m.uid == 4294967295))) = false; rw [hq5, Bool.and_false]
            refine wR ?_
            revert a; refine wo rfl rfl (by decide) (fun ev e h => by simp [go_sem, h, K99.cell, hwj] <;> rfl) ?_; intro a hA
            replace hA := hA.keepN [0, 2, 4, 6, 9, 43, 44]
            refine wN (nT (wR ?_))
            revert a; (iterate 4 refine wo rfl rfl (by decide) (fun ev e h => by simp [go_sem, h, K99.cell, hwj] <;> rfl) ?_); intro a hA
            replace hA := hA.keepN [0, 2, 4, 6, 7, 43, 44]
            refine wN (nB (nT (wR ?_)))
            revert a; (iterate 2 refine wo rfl rfl (by decide) (fun ev e h => by simp [go_sem, h, K99.cell, hwj] <;> rfl) ?_); intro a hA
            replace hA := hA.keepN [0, 2, 4, 6, 7, 43, 44]
            refine wN (nT ?_)
            rw [show ((j : Int) + 1) = ((j + 1 : Nat) : Int) by omega] at hA
            exact ⟨kk - 1, by omega, j + 1, _, M ++ [x.m], Pl ++ [x.b], by omega, by rw [hsn2, hls]; exact hA, K48, ho9, hMs, hfin, by simp; omega, hMN9, hH9⟩
          case nQ =>
            have hq5 : (x.ep == E && decide (lastN 0 Pl < x.m.uid) && !(x.m.uid == 4294967295)) = true := by rw [Bool.not_eq_false'] at hq5; exact hq5
            have hsn2 : riseN E 0 (Pl ++ [x.b]) = riseN E 0 Pl := by rw [hsn]; show (_ && (x.ep == E && decide (lastN 0 Pl < x.m.uid) && !(x.m.uid == 4294967295))) = _; rw [hq5, Bool.and_true]
            refine wp_skip (nT (wR ?_))
            revert a; (iterate 4 refine wo rfl rfl (by decide) (fun ev e h => by simp [go_sem, h, K99.cell, hwj] <;> rfl) ?_); intro a hA
            replace hA := hA.keepN [0, 2, 4, 6, 7, 43, 44]
            refine wN (nB (nT (wR ?_)))
            revert a; (iterate 2 refine wo rfl rfl (by decide) (fun ev e h => by simp [go_sem, h, K99.cell, hwj] <;> rfl) ?_); intro a hA
            replace hA := hA.keepN [0, 2, 4, 6, 7, 43, 44]
            refine wN (nT ?_)
            rw [show ((j : Int) + 1) = ((j + 1 : Nat) : Int) by omega] at hA
            exact ⟨kk - 1, by omega, j + 1, _, M ++ [x.m], Pl ++ [x.b], by omega, by rw [hsn2, hls]; exact hA, K48, ho9, hMs, hfin, by simp; omega, hMN9, hH9⟩
    case nJ =>
      have hjn2 : j = n := by simp at hq; omega
      rw [List.take_of_length_le (by omega)] at K4
      rw [List.drop_of_length_le (by omega)] at hPl
      have hPl : Pl = ofLive LB := by rw [hPl]; unfold ofLive; rw [List.append_nil]
      subst hPl
      have hof : ofAll LB = ⟨ofNm LB, E, ofNx E LB, ofLive LB⟩ := by unfold ofAll; rw [hE]
      have hcl : cleanS (ofAll LB) = riseN E 0 (ofLive LB) := by rw [hof]; rfl
      have K2x := K20.below HL hpw
      have HBx : Below w.heap.size w wx := HBw.trans (HL.mono (Nat.le_of_lt hpw))
      rw [hcl]
      replace hA := hA.keepN [2, 4, 6]
      refine wp_exit (xT (xT (xB (nT (wS (wS (wR ?_)))))))
      revert a; refine wo rfl rfl (by decide) (fun ev e h => by simp [go_sem, h] <;> rfl) ?_; intro a hA
      replace hA := hA.keepN [2, 4, 145]
      refine wN (nT ?_)
      obtain ⟨X, hX⟩ : ∃ X, ofNx E LB = X := ⟨_, rfl⟩
      rw [hX] at K4 hof
      obtain ⟨nm, hnm⟩ : ∃ X, ofNm LB = X := ⟨_, rfl⟩
      rw [hnm] at K4 hof
      obtain ⟨cq, hcq⟩ : ∃ X, riseN E 0 (ofLive LB) = X := ⟨_, rfl⟩
      rw [hcq] at hcl hA
      rw [hcq]
      refine wp_if hA 145 _ rfl (fun hq6 => ?yC) (fun hq6 => ?nC)
      case yC =>
        subst hq6
        have hbx : boxS (ofAll LB) = ⟨nm, E, X, (ofLive LB).map bare4⟩ := by unfold boxS; rw [hcl, hof]; rfl
        rw [hbx]
        refine wS (wR ?_)
        revert a; refine wo rfl rfl (by decide) (fun ev e h => by simp [go_sem, h, K4.cell] <;> rfl) ?_; intro a hA
        have K2y := K2x
        refine wl_set [.string nm, .int .u32 (E : Nat), .int .u32 (X : Nat), .slice Av M.length cv] hA rfl rfl K2x (by rfl) (fun ev h => by simp [go_sem, h.get 2 rfl, h.get 146 rfl, K4.cell, setAll, K2x.cell, K2x.frozen]) fun w12 (K2x : Blk _ _ _ _) hs12 => ?_
        revert a; refine wo rfl rfl (by decide) (fun ev e h => by simp [go_sem, h, K2x.cell] <;> rfl) ?_; intro a hA
        replace hA := hA.keepN [2, 3]
        refine wN (nT (wp_ret (rT ?_)))
        refine bodyPost_ret (by simp [results, Tryz.results21, go_sem, hA.env 2 _ rfl, hA.env 3 _ rfl, K2x.cell]; try first | exact ⟨rfl, rfl⟩ | rfl) hA.defers ?_
        exact ⟨_, M, rfl, (ho.onlyK hs12 K2y (by decide) rfl).mono (by omega), hM, hMN, hs12.below HBx (by omega)⟩
      case nC =>
        subst hq6
        have hbx : boxS (ofAll LB) = ⟨nm, behindN E, ((ofLive LB).length + 1) % 4294967296, renum 0 (ofLive LB)⟩ := by unfold boxS; rw [hcl, hof]; rfl
        rw [hbx]
        have hEu : E < 4294967296 := by
          rw [← hE]
          suffices H : ∀ (l : List NoteB) (e : Nat), e < 4294967296 → (∀ m ∈ l, m.ep < 4294967296) → l.foldl (fun e n => max e n.ep) e < 4294967296 from H LB 0 (by decide) (fun m hm => by
            rw [← hLB] at hm
            obtain ⟨y, hy, e⟩ := List.mem_map.1 hm
            rw [← e]
            exact (hu y hy).2)
          intro l
          induction l with
          | nil => intro e h _; exact h
          | cons y r ih =>
            intro e h h2
            rw [List.foldl_cons]
            refine ih _ ?_ fun m hm => h2 m (List.mem_cons_of_mem _ hm)
            have := h2 y List.mem_cons_self
            omega
        have hMn : M.length = (ofLive LB).length := by
          have := congrArg List.length hM
          rw [List.length_map, List.length_map] at this
          omega
        have hLn := ofLive_len LB
        obtain ⟨q, hqM⟩ : ∃ q, M.length = q := ⟨_, rfl⟩
        have hqn : q ≤ n := by omega
        rw [hqM] at K4 ho
        refine wp_skip (nT (wS (wS (wR ?_))))
        revert a; (iterate 3 refine wo rfl rfl (by decide) (fun ev e h => by simp [go_sem, h, K4.cell] <;> rfl) ?_); intro a hA
        replace hA := hA.keepN [2, 4, 149]
        refine wN (nT ?_)
        refine wp_join (fun a wx => At 176 [(2, .pointer (some ⟨w.heap.size, 0, none⟩)), (4, .pointer (some ⟨pb, 0, none⟩))] a ∧ Blk wx pb 50 #[.string nm, .int .u32 (behindN E : Nat), .int .u32 (X : Nat), .slice Av q cv] ∧ OwnR msgSh (pb + 1) wx (.slice Av q cv) M ∧ Below pb w2 wx) ?jfY ?jrY
        case jfY =>
          refine wp_if hA 149 _ rfl (fun hq7 => ?yR) (fun hq7 => ?nR)
          case yR =>
            have hlu : E < 4294967295 := by simp at hq7; omega
            have hwu : IntKind.u32.wrap ((E : Int) + 1) = (E : Int) + 1 := IntWalk.u32_in _ (by omega)
            have hbe : behindN E = E + 1 := by unfold behindN; rw [if_neg (by omega)]
            refine wR ?_
            revert a; (iterate 4 refine wo rfl rfl (by decide) (fun ev e h => by simp [go_sem, h, K4.cell, hwu] <;> rfl) ?_); intro a hA
            have K40 := K4
            refine wl_setf ([.string nm, .int .u32 ((E : Int) + 1), .int .u32 (X : Nat), .slice Av q cv]) _ hA rfl rfl K4 (j := 1) (by rfl) (fun ev h => by simp [go_sem, h.get 153 rfl, h.get 152 rfl, K4.cell, hwu, K4.cell, K4.frozen]; try first | exact ⟨rfl, rfl⟩ | rfl) fun w13 (K4 : Blk _ _ _ _) hs13 => ?_
            replace hA := hA.keepN [2, 4]
            refine wN (nT ?_)
            exact ⟨hA, by rw [hbe]; exact K4, ho.onlyK hs13 K40 (by decide) rfl, hs13.below HL (Nat.le_refl _)⟩
          case nR =>
            have hlu : E = 4294967295 := by simp at hq7; omega
            have hbe : behindN E = E := by unfold behindN; rw [if_pos hlu]
            replace hA := hA.keepN [2, 4]
            refine wp_skip (nT ?_)
            exact ⟨hA, by rw [hbe]; exact K4, ho, HL⟩
        clear K4 ho HL K2x
        rintro a wx ⟨hA, K4, ho, HL⟩
        refine wS (wS (wR ?_))
        revert a; (iterate 4 refine wo rfl rfl (by decide) (fun ev e h => by simp [go_sem, h, K4.cell] <;> rfl) ?_); intro a hA
        replace hA := hA.keepN [2, 4, 156, 157]
        refine wN (nT (wB ?_))
        refine wp_loop_at (fun kk a wy => ∃ (j : Nat) (M' : List MsgV), j + kk = q ∧ At 176 [(2, .pointer (some ⟨w.heap.size, 0, none⟩)), (4, .pointer (some ⟨pb, 0, none⟩)), (156, .int .i64 (q : Nat)), (157, .int .i64 (j : Nat))] a ∧ Blk wy pb 50 #[.string nm, .int .u32 (behindN E : Nat), .int .u32 (X : Nat), .slice Av q cv] ∧ OwnR msgSh (pb + 1) wy (.slice Av q cv) M' ∧ renumM j M M' ∧ Below pb w2 wy) (q) ?_ ?_
        · exact ⟨0, M, by omega, hA, K4, ho, renumM_zero M, HL⟩
        clear K4 ho HL
        rintro kk a wy ⟨j, M', hjk, hA, K4, ho, hMi, HL⟩
        have hlen' : M'.length = q := by
          obtain ⟨A', c', e, _⟩ := ho.reads
          injection e with _ e _
          exact e.symm
        refine wS (wR ?_)
        revert a; refine wo rfl rfl (by decide) (fun ev e h => by simp [go_sem, h] <;> rfl) ?_; intro a hA
        replace hA := hA.keepN [2, 4, 156, 157, 158]
        refine wN (nT (wS ?_))
        refine wp_if hA 158 _ rfl (fun hq8 => ?yS) (fun hq8 => ?nS)
        case yS =>
          have hlt : j < q := by simp at hq8; omega
          obtain ⟨y, hy⟩ : ∃ y, M'[j]? = some y := ⟨_, List.getElem?_eq_getElem (by omega)⟩
          obtain ⟨g, c', hv, hgB, hglt⟩ := ho.at_ (by omega)
          injection hv with hv1 _ hv3
          subst hv1
          have z0 : wy.cell? ⟨g, j * 4, none⟩ = some (.int .u32 (y.uid : Nat)) := ho.cellAt (j := 0) hy rfl
          have jj0 : (0 : Int) ≤ (j : Int) := by omega
          have jj1 : (j : Int) < (q : Int) := by omega
          have hwj : IntKind.i64.wrap ((j : Int) + 1) = (j : Int) + 1 := IntWalk.i64_in _ (by omega)
          have hwv : IntKind.u32.wrap ((j : Int) + 1) = ((j + 1 : Nat) : Int) := by rw [IntWalk.u32_in _ (by omega)]; omega
          obtain ⟨h8, h9⟩ := ho.put1 (j := 0) (x := (⟨j + 1, y.date, y.flags, y.a, y.c, y.b⟩ : MsgV)) (u := .int .u32 ((j + 1 : Nat) : Int)) hy (by decide) rfl rfl
          refine wp_skip (nT (wS (wB (wS (wR ?_)))))
          revert a; (iterate 2 refine wo rfl rfl (by decide) (fun ev e h => by simp [go_sem, h, K4.cell, add0, jj0, jj1, hwj, hwv, z0, ho.frozenAt] <;> rfl) ?_); intro a hA
          replace hA := hA.keepN [2, 4, 13, 156, 157]
          refine wN (nT (wR ?_))
          revert a; (iterate 5 refine wo rfl rfl (by decide) (fun ev e h => by simp [go_sem, h, K4.cell, add0, jj0, jj1, hwj, hwv, z0, ho.frozenAt] <;> rfl) ?_); intro a hA
          refine wl_op hA rfl rfl (by decide) (fun ev h => by simp [go_sem, h.get 164 rfl, K4.cell, add0, jj0, jj1, hwj, hwv, z0, ho.frozenAt]; try first | exact ⟨rfl, rfl⟩ | rfl) fun a hA => ?_
          revert a; (iterate 2 refine wo rfl rfl (by decide) (fun ev e h => by simp [go_sem, h, K4.cell, add0, jj0, jj1, hwj, hwv, z0, ho.frozenAt] <;> rfl) ?_); intro a hA
          refine wl_skip hA rfl rfl (fun ev h => by simp [go_sem, h.get 167 rfl, h.get 165 rfl, K4.cell, add0, jj0, jj1, hwj, hwv, z0, ho.frozenAt]; try first | exact ⟨rfl, rfl⟩ | rfl) ?_
          replace hA := hA.keepN [2, 4, 156, 157]
          refine wN (nB (nT (wR ?_)))
          revert a; (iterate 2 refine wo rfl rfl (by decide) (fun ev e h => by simp [go_sem, h, hwj] <;> rfl) ?_); intro a hA
          replace hA := hA.keepN [2, 4, 156, 157]
          refine wN (nT ?_)
          rw [show ((j : Int) + 1) = ((j + 1 : Nat) : Int) by omega] at hA
          exact ⟨kk - 1, by omega, j + 1, _, by omega, hA, K4.grown h9 (fun e => by injection e with e; omega), h8, renumM_succ hMi hy, HL.grown h9 (by have := HL.size; have := hb2.size; omega) (fun k e => by injection e with e; omega)⟩
        case nS =>
          have hjn : j = q := by simp at hq8; omega
          subst hjn
          have hwj : IntKind.i64.wrap ((j : Int) + 1) = (j : Int) + 1 := IntWalk.i64_in _ (by omega)
          have hwv : IntKind.u32.wrap ((j : Int) + 1) = ((((ofLive LB).length + 1) % 4294967296 : Nat) : Int) := by rw [IntWalk.u32_in _ (by omega)]; omega
          have K2x := K20.below HL hpw
          have HBx : Below w.heap.size w wy := HBw.trans (HL.mono (Nat.le_of_lt hpw))
          replace hA := hA.keepN [2, 4]
          refine wp_exit (xT (xT (xB (nT (wS (wR ?_))))))
          revert a; (iterate 4 refine wo rfl rfl (by decide) (fun ev e h => by simp [go_sem, h, K4.cell, hwj, hwv] <;> rfl) ?_); intro a hA
          refine wl_op hA rfl rfl (by decide) (fun ev h => by simp [go_sem, h.get 172 rfl, K4.cell, hwj, hwv]; try first | exact ⟨rfl, rfl⟩ | rfl) fun a hA => ?_
          revert a; refine wo rfl rfl (by decide) (fun ev e h => by simp [go_sem, h, K4.cell, hwj, hwv] <;> rfl) ?_; intro a hA
          have K40 := K4
          refine wl_setf ([.string nm, .int .u32 (behindN E : Nat), .int .u32 (((ofLive LB).length + 1) % 4294967296 : Nat), .slice Av j cv]) _ hA rfl rfl K4 (j := 2) (by rfl) (fun ev h => by simp [go_sem, h.get 174 rfl, h.get 173 rfl, K4.cell, hwj, hwv, K4.cell, K4.frozen]; try first | exact ⟨rfl, rfl⟩ | rfl) fun w14 (K4 : Blk _ _ _ _) hs14 => ?_
          replace ho := ho.onlyK hs14 K40 (by decide) rfl
          replace HBx := hs14.below HBx (by omega)
          replace K2x := hs14.blk K2x (by omega)
          replace hA := hA.keepN [2, 4]
          refine wN (nT (wS (wR ?_)))
          revert a; refine wo rfl rfl (by decide) (fun ev e h => by simp [go_sem, h, K4.cell] <;> rfl) ?_; intro a hA
          have K2y := K2x
          refine wl_set [.string nm, .int .u32 (behindN E : Nat), .int .u32 (((ofLive LB).length + 1) % 4294967296 : Nat), .slice Av j cv] hA rfl rfl K2x (by rfl) (fun ev h => by simp [go_sem, h.get 2 rfl, h.get 175 rfl, K4.cell, setAll, K2x.cell, K2x.frozen]) fun w15 (K2x : Blk _ _ _ _) hs15 => ?_
          revert a; refine wo rfl rfl (by decide) (fun ev e h => by simp [go_sem, h, K2x.cell] <;> rfl) ?_; intro a hA
          replace hA := hA.keepN [2, 3]
          refine wN (nT (wp_ret ?_))
          refine bodyPost_ret (by simp [results, Tryz.results21, go_sem, hA.env 2 _ rfl, hA.env 3 _ rfl, K2x.cell]; try first | exact ⟨rfl, rfl⟩ | rfl) hA.defers ?_
          exact ⟨_, M', rfl, (ho.onlyK hs15 K2y (by decide) rfl).mono (by omega), renumM_all hMi hqM (by omega) hM, renumM_parts hMi hMN, hs15.below HBx (by omega)⟩
end Go.Proofs.YtmjikfeaopmejaaGreatDoor
/-
  Walk: a note's frame (body.Frame).
-/
namespace Go.Proofs.YtmjikfeaopmejaaGreatDoor
open Go.RowKit
set_option linter.unusedSimpArgs false
set_option linter.unusedVariables false
theorem encV_len {k : Int} {e : Nat} {nm : ByteArray} {m : MsgV} (h : formedV k e nm m = true) : (encV k e nm m).length ≤ 20100 := by
  obtain ⟨_, h60, h20, _, _⟩ := formed_parts h
  have l1 := enc1_len k m
  have l2 := enc2_len k m
  have l3 := enc3_len k nm
  unfold encV
  simp only [List.length_append, be_length]
  omega
theorem formed_kind {k : Int} {e : Nat} {nm : ByteArray} {m : MsgV} (h : formedV k e nm m = true) : ∃ q : Nat, k = (q : Int) ∧ 1 ≤ q ∧ q ≤ 3 := by
  obtain ⟨_, _, _, hk, _⟩ := formed_parts h
  rcases hk with rfl | rfl | rfl
  · exact ⟨1, rfl, by decide, by decide⟩
  · exact ⟨2, rfl, by decide, by decide⟩
  · exact ⟨3, rfl, by decide, by decide⟩
/-- a note's frame -/
def frameV (k : Int) (e : Nat) (nm : ByteArray) (m : MsgV) : List UInt8 := frameB k.toNat (encV k e nm m)
set_option maxRecDepth 100000 in
theorem bodyFrame_any (k : Int) (e : Nat) (nm : ByteArray) (m : MsgV) (w : World) (hm : MaxCell w) (hg : 0 < w.heap.size) (htab : Lib.TabIs Tryz.prog w "internal/strconv.uint64pow10" .u64 Lib.pow10Tab) (hs : nm.size ≤ 9223372036854775807) (he : e < 4294967296) (hu : m.uid < 4294967296) (hr : Reads w w.heap.size 1 m.a m.b.length (u8s m.b)) :
    Calls Tryz.prog 11 #[.agg (noteC k e nm m)] w fun ev w' => ∃ r, ev = .returned (.tuple #[r, .int .i64 (bif formedV k e nm m then 0 else 1)]) ∧ Own8 w.heap.size w' r (bif formedV k e nm m then frameV k e nm m else []) ∧ Below w.heap.size w w' := by
  have Ht := Lib.tabBelow_of_tabIs htab
  refine calls_at 20 Tryz.func11 rfl rfl (Nat.le_of_ble_eq_true rfl) ?_
  intro a hA; replace hA := hA.norm
  refine wS (wR ?_)
  refine wl_new hA rfl rfl (by decide) (fun ev h => by simp [go_sem, h.get 0 rfl]; try first | exact ⟨rfl, rfl⟩ | rfl) fun w1 a (K : Blk _ _ _ _) hz hb0 hA => ?_
  unfold noteC at K
  have HB := hb0
  revert a; (iterate 2 refine wo rfl rfl (by decide) (fun ev e h => by simp [go_sem, h, K.cell] <;> rfl) ?_); intro a hA
  replace hA := hA.keepN [1]
  refine wN (nT (wS (wR ?_)))
  revert a; refine wo rfl rfl (by decide) (fun ev e h => by simp [go_sem, h, K.cell] <;> rfl) ?_; intro a hA
  refine wl_call hA rfl rfl (by decide) (fun ev h => exec_call Tryz.func10 (by kernel_rfl) rfl (h.f _) (by first | (simp only [mL, h.get 7 rfl, h.c] <;> rfl) | (simp [mL, h.get 7 rfl, h.c, K.cell] <;> rfl))) (encode_any k e nm m _ (hm.below hg hb0) (Nat.lt_of_lt_of_le hg hb0.size) (htab := Ht _ hb0) hs he hu ((hr.below hb0).more hb0.size)) ?_
  rintro e w2 ⟨r, rfl, ho, hb2⟩
  refine ⟨_, rfl, fun a hA => ?_⟩
  replace HB := HB.trans (hb2.mono HB.size)
  replace K := K.below hb2 K.lt
  cases hf : formedV k e nm m with
  | false =>
    rw [hf, cond_false] at hA
    revert a; (iterate 5 refine wo rfl rfl (by decide) (fun ev e h => by simp [go_sem, h] <;> rfl) ?_); intro a hA
    replace hA := hA.keepN [1, 4, 5]
    refine wN (nT (wS (wS (wR ?_))))
    revert a; (iterate 2 refine wo rfl rfl (by decide) (fun ev e h => by simp [go_sem, h] <;> rfl) ?_); intro a hA
    replace hA := hA.keepN [1, 4, 5, 12]
    refine wN (nT ?_)
    refine wp_if hA 12 _ rfl (fun hq => ?yA) (fun hq => ?nA)
    case yA =>
      refine wS (wR ?_)
      revert a; (iterate 3 refine wo rfl rfl (by decide) (fun ev e h => by simp [go_sem, h] <;> rfl) ?_); intro a hA
      replace hA := hA.keepN [2, 3]
      refine wN (nT (wp_ret (rT ?_)))
      refine ret_2 hA 2 3 rfl rfl rfl ?_
      exact ⟨_, rfl, Own8.nil _, HB⟩
    case nA => cases hq
  | true =>
    rw [hf, cond_true] at hA
    rw [hf, cond_true] at ho
    obtain ⟨q, rfl, hq1, hq3⟩ := formed_kind hf
    have hlen := encV_len hf
    obtain ⟨Ar, cr, e0, hR, _⟩ := own_reads ho
    subst e0
    revert a; (iterate 5 refine wo rfl rfl (by decide) (fun ev e h => by simp [go_sem, h, K.cell] <;> rfl) ?_); intro a hA
    replace hA := hA.keepN [1, 4, 5]
    refine wN (nT (wS (wS (wR ?_))))
    revert a; (iterate 2 refine wo rfl rfl (by decide) (fun ev e h => by simp [go_sem, h, K.cell] <;> rfl) ?_); intro a hA
    replace hA := hA.keepN [1, 4, 5, 12]
    refine wN (nT ?_)
    refine wp_if hA 12 _ rfl (fun hq => ?yB) (fun hq => ?nB)
    case yB => cases hq
    case nB =>
      refine wp_skip (nT (wS (wR ?_)))
      revert a; (iterate 3 refine wo rfl rfl (by decide) (fun ev e h => by simp [go_sem, h, K.cell] <;> rfl) ?_); intro a hA
      refine wl_call hA rfl rfl (by decide) (fun ev h => exec_call Tryz.func35 (by kernel_rfl) rfl (h.f _) (by first | (simp only [mL, h.get 15 rfl, h.get 16 rfl, h.c] <;> rfl) | (simp [mL, h.get 15 rfl, h.get 16 rfl, h.c, K.cell] <;> rfl))) (frame_any q hq1 hq3 Ar _ cr (encV q e nm m) rfl (by omega) _ hR) ?_
      rintro e w3 ⟨r3, rfl, ho3, hb3⟩
      refine ⟨_, rfl, fun a hA => ?_⟩
      replace HB := HB.trans (hb3.mono HB.size)
      replace K := K.below hb3 K.lt
      revert a; (iterate 4 refine wo rfl rfl (by decide) (fun ev e h => by simp [go_sem, h, K.cell] <;> rfl) ?_); intro a hA
      replace hA := hA.keepN [2, 3]
      refine wN (nT (wp_ret ?_))
      refine ret_2 hA 2 3 rfl rfl rfl ?_
      exact ⟨_, rfl, own_mono ho3 (Nat.le_trans hb0.size hb2.size), HB⟩
end Go.Proofs.YtmjikfeaopmejaaGreatDoor
/-
  Frames of formed notes, one behind the other: what is read back.
-/
namespace Go.Proofs.YtmjikfeaopmejaaGreatDoor
open Go.RowKit
def NoteV.frame (n : NoteV) : List UInt8 := frameV n.kind n.ep n.nm n.m
def NoteV.at_ (n : NoteV) (p : Nat) : NoteB := ⟨n.kind, n.ep, n.nm, n.m.uid, n.m.date, n.m.flags, n.m.b, p⟩
/-- a note that may be written -/
structure FormedN (n : NoteV) : Prop where
  ok : formedV n.kind n.ep n.nm n.m = true
  ep : n.ep < 4294967296
  uid : n.m.uid < 4294967296
def framesB (l : List NoteV) : List UInt8 := l.flatMap NoteV.frame
/-- the notes, each with the place of its record -/
def notesAt : Nat → List NoteV → List NoteB
  | _, [] => []
  | p, n :: r => n.at_ p :: notesAt (p + n.frame.length) r
theorem notesAt_snoc (n : NoteV) : ∀ (p : Nat) (l : List NoteV), notesAt p (l ++ [n]) = notesAt p l ++ [n.at_ (p + (framesB l).length)]
  | p, [] => rfl
  | p, m :: l => by
    rw [List.cons_append]
    unfold notesAt
    rw [notesAt_snoc n _ l, List.cons_append]
    unfold framesB
    rw [List.flatMap_cons, List.length_append, Nat.add_assoc]
theorem notesAt_z0 : ∀ (p : Nat) (l : List NoteV), (notesAt p l).map z0 = l.map (·.at_ 0)
  | _, [] => rfl
  | p, n :: r => by
    unfold notesAt
    rw [List.map_cons, List.map_cons, notesAt_z0 _ r]
    rfl
def recOf (p : Nat) (n : NoteV) : RecB := ⟨p, n.kind.toNat, encV n.kind n.ep n.nm n.m⟩
def recsOf : Nat → List NoteV → List RecB
  | _, [] => []
  | p, n :: r => recOf p n :: recsOf (p + n.frame.length) r
theorem frame_len {n : NoteV} : n.frame.length = 44 + (encV n.kind n.ep n.nm n.m).length := frameB_length _ _
theorem scan_frames {b r : List UInt8} : ∀ (l : List NoteV) (at_ torn : Nat) (R : List RecB), (∀ n ∈ l, FormedN n) → b.drop at_ = framesB l ++ r → scanAt b at_ torn R = scanAt b (at_ + (framesB l).length) (if l = [] then torn else at_ + (framesB l).length) (R ++ recsOf at_ l)
  | [], at_, torn, R, _, _ => by
    unfold recsOf framesB
    simp
  | n :: l, at_, torn, R, hf, hb => by
    have hn := hf n List.mem_cons_self
    obtain ⟨q, hq, h1, h3⟩ := formed_kind hn.ok
    have hlen := encV_len hn.ok
    have e0 : framesB (n :: l) = n.frame ++ framesB l := by unfold framesB; rw [List.flatMap_cons]
    have hfr : n.frame = frameB q (encV n.kind n.ep n.nm n.m) := by
      unfold NoteV.frame frameV
      rw [hq]
      rfl
    rw [e0, List.append_assoc] at hb
    have hd : b.drop (at_ + n.frame.length) = framesB l ++ r := by
      rw [← List.drop_drop, hb, List.drop_left' rfl]
    rw [scan_frame (k := q) (p := encV n.kind n.ep n.nm n.m) (r := framesB l ++ r) (by rw [hb, hfr]) h1 h3 (by omega)]
    have ea : at_ + 44 + (encV n.kind n.ep n.nm n.m).length = at_ + n.frame.length := by rw [frame_len]; omega
    rw [ea, scan_frames l _ _ _ (fun m hm => hf m (List.mem_cons_of_mem _ hm)) hd]
    have er : recOf at_ n = ⟨at_, q, encV n.kind n.ep n.nm n.m⟩ := by unfold recOf; rw [hq]; rfl
    have et : (if l = [] then at_ + n.frame.length else at_ + n.frame.length + (framesB l).length) = at_ + (framesB (n :: l)).length := by
      rw [e0, List.length_append]
      split
      · rename_i h; rw [h]; rfl
      · omega
    rw [et, if_neg (by simp), e0, List.length_append, List.append_assoc]
    show scanAt b (at_ + n.frame.length + (framesB l).length) _ (R ++ ([(⟨at_, q, encV n.kind n.ep n.nm n.m⟩ : RecB)] ++ _)) = scanAt b _ _ (R ++ (recOf at_ n :: recsOf (at_ + n.frame.length) l))
    rw [er, Nat.add_assoc]
    rfl
theorem notesR_of : ∀ (l : List NoteV) (p : Nat), (∀ n ∈ l, FormedN n) → notesR (recsOf p l) = notesAt p l
  | [], _, _ => rfl
  | n :: l, p, hf => by
    have hn := hf n List.mem_cons_self
    obtain ⟨q, hq, h1, h3⟩ := formed_kind hn.ok
    have ih := notesR_of l (p + n.frame.length) fun m hm => hf m (List.mem_cons_of_mem _ hm)
    unfold notesR at ih ⊢
    unfold recsOf notesAt
    rw [List.flatMap_cons, ih]
    have hk : ((recOf p n).kind : Int) = n.kind := by unfold recOf; rw [hq]; rfl
    have hb : (recOf p n).b = encV n.kind n.ep n.nm n.m := rfl
    rw [hk, hb, decOk_enc hn.ok hn.ep hn.uid, cond_true]
    have e : noteOf (recOf p n).kind (recOf p n).at_ (encV n.kind n.ep n.nm n.m) = n.at_ p := by
      obtain ⟨_, _, _, d0, d1, f0, f1⟩ := formed_rest hn.ok
      unfold noteOf
      rw [hk, rd1_enc hn.ep, rd4_enc hn.ok hn.ep hn.uid, rd2_enc hn.ok hn.ep hn.uid, rd3_enc hn.ok hn.ep hn.uid, rd5_enc hn.ok hn.ep hn.uid]
      show NoteB.mk n.kind n.ep n.nm n.m.uid ((n.m.date.toNat : Nat) : Int) ((n.m.flags.toNat : Nat) : Int) n.m.b p = _
      rw [Int.toNat_of_nonneg d0, Int.toNat_of_nonneg f0]
      rfl
    rw [e]
    rfl
/-- all is read back; nothing is torn -/
theorem scan_all (l : List NoteV) (hf : ∀ n ∈ l, FormedN n) : notesB (framesB l) = notesAt 0 l ∧ (scan (framesB l)).2 = (framesB l).length := by
  have h := scan_frames (b := framesB l) (r := []) l 0 0 [] hf (by simp)
  rw [scan_end (at_ := 0 + (framesB l).length) (by omega)] at h
  unfold notesB scan
  rw [h]
  refine ⟨by rw [List.nil_append]; exact notesR_of l 0 hf, ?_⟩
  show (if l = [] then 0 else 0 + (framesB l).length) = _
  split
  · rename_i h; rw [h]; rfl
  · omega
/-- a torn frame behind says nothing -/
theorem scan_torn_part (l : List NoteV) (hf : ∀ n ∈ l, FormedN n) (n : NoteV) (hn : FormedN n) (t : Nat) (ht : t < n.frame.length) : notesB (framesB l ++ n.frame.take t) = notesAt 0 l ∧ (scan (framesB l ++ n.frame.take t)).2 = (framesB l).length := by
  have h := scan_frames (b := framesB l ++ n.frame.take t) (r := n.frame.take t) l 0 0 [] hf (by simp)
  have hd : (framesB l ++ n.frame.take t).drop (framesB l).length = n.frame.take t := List.drop_left' rfl
  obtain ⟨q, hq, h1, h3⟩ := formed_kind hn.ok
  have hlen := encV_len hn.ok
  have hfr : n.frame = frameB q (encV n.kind n.ep n.nm n.m) := by
    unfold NoteV.frame frameV
    rw [hq]
    rfl
  have hfl : n.frame.length = 44 + (encV n.kind n.ep n.nm n.m).length := frame_len
  have key : ∀ T, (T = (framesB l).length ∨ (l = [] ∧ T = 0)) → scanAt (framesB l ++ n.frame.take t) (framesB l).length T (recsOf 0 l) = (recsOf 0 l, (framesB l).length) := by
    intro T hT
    have hT' : T = (framesB l).length := by
      rcases hT with h | ⟨h, h2⟩
      · exact h
      · rw [h2, h]; rfl
    rcases Nat.lt_or_ge t 44 with ht4 | ht4
    · rw [scan_none, hT']
      intro j hj
      refine headOk_short ?_
      rw [List.length_drop, List.length_append, List.length_take]
      omega
    · obtain ⟨e1, e2, e3, e4, e5⟩ := frame_head (k := q) (p := encV n.kind n.ep n.nm n.m) [] h1 h3 (by omega)
      rw [List.append_nil, ← hfr] at e1 e3
      have hh : headOk (n.frame.take t) = true := by
        have := e1
        unfold headOk at this ⊢
        simp only [Bool.and_eq_true, decide_eq_true_eq] at this ⊢
        obtain ⟨⟨a1, a2⟩, ⟨⟨a3, a4⟩, a5⟩, a6⟩ := this
        have b1 : hdKind (n.frame.take t) = hdKind n.frame := by
          unfold hdKind
          rw [List.getD_eq_getElem?_getD, List.getD_eq_getElem?_getD, List.getElem?_take_of_lt (by omega)]
        have b2 : hdLen (n.frame.take t) = hdLen n.frame := by
          unfold hdLen
          rw [List.drop_take, List.take_take, Nat.min_eq_left (by omega)]
        have b3 : hdCrc (n.frame.take t) = hdCrc n.frame := by
          unfold hdCrc
          rw [List.drop_take, List.take_take, Nat.min_eq_left (by omega)]
        refine ⟨⟨?_, ?_⟩, ⟨⟨?_, ?_⟩, ?_⟩, ?_⟩
        · rw [List.length_take]; omega
        · rw [List.take_take, Nat.min_eq_left (by omega)]; exact a2
        · rw [b1]; exact a3
        · rw [b1]; exact a4
        · rw [b2]; exact a5
        · rw [b3, List.take_take, Nat.min_eq_left (by omega)]; exact a6
      have hl2 : hdLen (n.frame.take t) = (encV n.kind n.ep n.nm n.m).length := by
        rw [← e3]
        unfold hdLen
        rw [List.drop_take, List.take_take, Nat.min_eq_left (by omega)]
      rw [scan_torn (by rw [hd]; exact hh) (by rw [hd, hl2, List.length_append, List.length_take]; omega)]
  rw [Nat.zero_add, List.nil_append, key _ (by
    by_cases hl : l = []
    · exact .inr ⟨hl, by rw [if_pos hl]⟩
    · exact .inl (by rw [if_neg hl]))] at h
  unfold notesB scan
  rw [h]
  exact ⟨notesR_of l 0 hf, rfl⟩
theorem formed_kindOk {n : NoteV} (h : FormedN n) (p : Nat) : KindOk (n.at_ p) := (formed_parts h.ok).2.2.2.1
theorem notesAt_kind : ∀ (p : Nat) (l : List NoteV), (∀ n ∈ l, FormedN n) → ∀ x ∈ notesAt p l, KindOk x
  | _, [], _, x, hx => by cases hx
  | p, n :: r, hf, x, hx => by
    unfold notesAt at hx
    rcases List.mem_cons.1 hx with e | hx
    · subst e; exact formed_kindOk (hf n List.mem_cons_self) p
    · exact notesAt_kind _ r (fun m hm => hf m (List.mem_cons_of_mem _ hm)) x hx
theorem notesB_kind (b : List UInt8) : ∀ x ∈ notesB b, KindOk x := by
  intro x hx
  unfold notesB notesR at hx
  obtain ⟨r, _, hr⟩ := List.mem_flatMap.1 hx
  cases hd : decOk (r.kind : Int) r.b with
  | false => rw [hd] at hr; cases hr
  | true =>
    rw [hd, cond_true, List.mem_singleton] at hr
    subst hr
    exact (decOk_kind hd).1
end Go.Proofs.YtmjikfeaopmejaaGreatDoor
/-
  Walk of the law: what any bytes say as a log, and the mailbox that it is.
-/
namespace Go.Proofs.YtmjikfeaopmejaaGreatDoor
open Go.RowKit
set_option linter.unusedSimpArgs false
set_option linter.unusedVariables false
theorem notesB_nil : notesB [] = [] := by
  unfold notesB scan
  rw [scan_end (by decide)]
  rfl
theorem logAwake_any (w : World) (hm : MaxCell w) (hg : 0 < w.heap.size) (htab : Lib.TabIs Tryz.prog w "internal/strconv.uint64pow10" .u64 Lib.pow10Tab) :
    Calls Tryz.prog 18 #[] w fun ev w' => ev = .returned (.bool true) ∧ Below w.heap.size w w' := by
  refine calls_at 10 Tryz.func18 rfl rfl (Nat.le_of_ble_eq_true rfl) ?_
  intro a hA; replace hA := hA.norm
  refine wS (wR ?_)
  revert a; refine wo rfl rfl (by decide) (fun ev e h => by simp [go_sem, h] <;> rfl) ?_; intro a hA
  replace hA := hA.keepN []
  refine wN (nT (wS (wR ?_)))
  refine wl_call hA rfl rfl (by decide) (fun ev h => exec_call Tryz.func19 (by kernel_rfl) rfl (h.f _) (by first | (simp only [mL, h.c] <;> rfl) | (simp [mL, h.c] <;> rfl))) (read_any none 0 0 [] rfl (Nat.le_refl _) (by decide) w hm hg htab Reads.none8) ?_
  rintro e w1 ⟨v, L, rfl, ho, hlv, hb1⟩
  refine ⟨_, rfl, fun a hA => ?_⟩
  rw [notesB_nil, show (takeAll []).nm = ⟨#[]⟩ from rfl, show (takeAll []).ep = 0 from rfl, show (takeAll []).nx = 1 from rfl, show cleanS (takeAll []) = true from rfl] at hA
  obtain ⟨A0, c0, rfl, _⟩ := ho.reads
  refine wl_local [.string ⟨#[]⟩, .int .u32 0, .int .u32 1, .slice A0 L.length c0, .int .i64 ((scan []).2 : Nat), .bool true] hA rfl rfl (by decide) (fun ev h => by simp [go_sem]; try first | exact ⟨rfl, rfl⟩ | rfl) rfl rfl (by rfl) (fun w1 g ev hb h => by simp [go_sem, h.get 1 rfl, h.get 2 rfl, setAll, hb.cell, hb.frozen]) fun w2 a (K : Blk _ _ _ _) hz2 hb2 hA => ?_
  replace hA := hA.keepN [1]
  refine wN (nT (wS (wR ?_)))
  revert a; (iterate 3 refine wo rfl rfl (by decide) (fun ev e h => by simp [go_sem, h, K.cell] <;> rfl) ?_); (iterate 3 refine wg _ rfl rfl rfl rfl (by decide) (fun hq ev e h => by simp [go_sem, h, ↓gw_t (beq_t hq), K.cell] <;> rfl) ?_); refine wka rfl rfl (by decide) rfl rfl rfl ?_; refine wo rfl rfl (by decide) (fun ev e h => by simp [go_sem, h, K.cell] <;> rfl) ?_; intro a hA
  replace hA := hA.keepN [0]
  refine wN (nT (wp_ret ?_))
  refine ret_1 hA 0 rfl rfl ?_
  exact ⟨rfl, hb1.trans (hb2.mono hb1.size)⟩
theorem boxS_nm (s : LogS) : (boxS s).nm = s.nm := by unfold boxS; cases cleanS s <;> rfl
theorem boxS_len (s : LogS) : (boxS s).msgs.length = s.live.length := by
  unfold boxS
  cases cleanS s
  · rw [cond_false]; exact renum_len 0 s.live
  · rw [cond_true]; exact List.length_map ..
/-- what the notes of bytes are bounded by -/
theorem notesB_small (b : List UInt8) : ∀ y ∈ notesB b, y.o.length ≤ 20000 ∧ y.ep < 4294967296 ∧ y.u < 4294967296 := by
  intro x hx
  unfold notesB notesR at hx
  obtain ⟨r, _, hr⟩ := List.mem_flatMap.1 hx
  cases hd : decOk (r.kind : Int) r.b with
  | false => rw [hd] at hr; cases hr
  | true =>
    rw [hd, cond_true, List.mem_singleton] at hr
    subst hr
    refine ⟨?_, inN_lt _ 4, rd2_lt _ _⟩
    unfold decOk at hd
    simp only [Bool.and_eq_true] at hd
    exact (formed_parts hd.2.1).2.2.1
theorem notesB_len (b : List UInt8) : (notesB b).length ≤ b.length := by
  have h := scan_len b
  suffices H : ∀ l : List RecB, (notesR l).length ≤ l.length by unfold notesB; exact Nat.le_trans (H _) h
  intro l
  induction l with
  | nil => exact Nat.le_refl _
  | cons r l ih =>
    unfold notesR at ih ⊢
    rw [List.flatMap_cons, List.length_append, List.length_cons]
    have : (bif decOk (r.kind : Int) r.b then [noteOf r.kind r.at_ r.b] else []).length ≤ 1 := by
      cases decOk (r.kind : Int) r.b
      · exact Nat.zero_le _
      · exact Nat.le_refl _
    omega
theorem ofEp_lt {l : List NoteB} (h : ∀ y ∈ l, y.ep < 4294967296) : ofEp l < 4294967296 := by
  suffices H : ∀ (l : List NoteB) (e : Nat), e < 4294967296 → (∀ m ∈ l, m.ep < 4294967296) → l.foldl (fun e n => max e n.ep) e < 4294967296 from H l 0 (by decide) h
  intro l
  induction l with
  | nil => intro e h _; exact h
  | cons y r ih =>
    intro e h h2
    rw [List.foldl_cons]
    refine ih _ ?_ fun m hm => h2 m (List.mem_cons_of_mem _ hm)
    have := h2 y List.mem_cons_self
    omega
/-- what is known of the log of few bytes -/
theorem log_small {b : List UInt8} {L : List LiveV} (hn : b.length ≤ 16000000) (hlv : L.map liveL = (ofAll (notesB b)).live.map noteL) : L.length ≤ 16000000 ∧ (∀ x ∈ L, x.m.b.length ≤ 1000000) ∧ (ofAll (notesB b)).ep < 4294967296 := by
  have h1 := notesB_len b
  have h2 := ofLive_len (notesB b)
  have h3 : L.length = (ofLive (notesB b)).length := by have := congrArg List.length hlv; rw [List.length_map, List.length_map] at this; exact this
  refine ⟨by omega, fun x hx => ?_, ofEp_lt fun y hy => (notesB_small b y hy).2.1⟩
  have h2 : liveL x ∈ (ofAll (notesB b)).live.map noteL := by rw [← hlv]; exact List.mem_map_of_mem hx
  obtain ⟨y, hy, e⟩ := List.mem_map.1 h2
  have h3 := congrArg (fun q : Nat × Nat × Int × Int × List UInt8 × Nat => q.2.2.2.2.1) e
  have h4 : y.o = x.m.b := h3
  have := (notesB_small b y (ofLive_mem hy).1).1
  rw [← h4]
  omega
set_option maxRecDepth 100000 in
set_option maxHeartbeats 4000000 in
theorem logReads_law (A : Option Addr) (n c : Nat) (b : List UInt8) (hl : b.length = n) (hc : n ≤ c) (w : World) (hm : MaxCell w) (hg : 0 < w.heap.size) (htab : Lib.TabIs Tryz.prog w "internal/strconv.uint64pow10" .u64 Lib.pow10Tab) (hr : Reads w w.heap.size 1 A n (u8s b)) :
    Calls Tryz.prog 4 #[.slice A n c] w fun ev w' => ev = .returned (.bool true) ∧ Below w.heap.size w w' := by
  have Ht := Lib.tabBelow_of_tabIs htab
  refine calls_at 81 Tryz.func4 rfl rfl (Nat.le_of_ble_eq_true rfl) ?_
  intro a hA; replace hA := hA.norm
  refine wS (wR ?_)
  revert a; refine wo rfl rfl (by decide) (fun ev e h => by simp [go_sem, h] <;> rfl) ?_; intro a hA
  replace hA := hA.keepN [0]
  refine wN (nT (wS (wS (wR ?_))))
  refine wl_call hA rfl rfl (by decide) (fun ev h => exec_call Tryz.func18 (by kernel_rfl) rfl (h.f _) (by first | (simp only [mL, h.c] <;> rfl) | (simp [mL, h.c] <;> rfl))) (logAwake_any w hm hg htab) ?_
  rintro e w1 ⟨rfl, HB⟩
  refine ⟨_, rfl, fun a hA => ?_⟩
  revert a; (iterate 2 refine wo rfl rfl (by decide) (fun ev e h => by simp [go_sem, h] <;> rfl) ?_); (iterate 3 refine wg _ rfl rfl rfl rfl (by decide) (fun hq ev e h => by simp [go_sem, h, ↓gw_t (beq_t hq)] <;> rfl) ?_); refine wko rfl rfl (by decide) rfl rfl rfl ?_; intro a hA
  replace hA := hA.keepN [0, 16]
  refine wN (nT ?_)
  refine wp_if hA 16 _ rfl (fun hq => ?yA) (fun hq => ?nA)
  case yA =>
    refine wS (wR ?_)
    refine wl_call hA rfl rfl (by decide) (fun ev h => exec_call Tryz.func18 (by kernel_rfl) rfl (h.f _) (by first | (simp only [mL, h.c] <;> rfl) | (simp [mL, h.c] <;> rfl))) (logAwake_any _ (hm.below hg HB) (Nat.lt_of_lt_of_le hg HB.size) (Ht _ HB)) ?_
    rintro e w4 ⟨rfl, hb4⟩
    refine ⟨_, rfl, fun a hA => ?_⟩
    replace HB := HB.trans (hb4.mono HB.size)
    revert a; refine wo rfl rfl (by decide) (fun ev e h => by simp [go_sem, h] <;> rfl) ?_; intro a hA
    replace hA := hA.keepN [2]
    refine wN (nT (wp_ret (rT ?_)))
    refine ret_1 hA 2 rfl rfl ?_
    exact ⟨rfl, HB⟩
  case nA =>
    have hn : n ≤ 30000 := by simp at hq; omega
    refine wp_skip (nT (wS (wR ?_)))
    revert a; refine wo rfl rfl (by decide) (fun ev e h => by simp [go_sem, h] <;> rfl) ?_; intro a hA
    refine wl_call hA rfl rfl (by decide) (fun ev h => exec_call Tryz.func19 (by kernel_rfl) rfl (h.f _) (by first | (simp only [mL, h.get 18 rfl, h.c] <;> rfl) | (simp [mL, h.get 18 rfl, h.c] <;> rfl))) (read_any A n c b hl hc (by omega) _ (hm.below hg HB) (Nat.lt_of_lt_of_le hg HB.size) (Ht _ HB) ((hr.below HB).more HB.size)) ?_
    rintro e w3 ⟨v, L, rfl, ho, hlv, hb3⟩
    refine ⟨_, rfl, fun a hA => ?_⟩
    replace HB := HB.trans (hb3.mono HB.size)
    rw [takeAll_of _ (notesB_kind b)] at hA hlv
    obtain ⟨S, hS⟩ : ∃ S, ofAll (notesB b) = S := ⟨_, rfl⟩
    obtain ⟨hLs, hsm, hep⟩ := log_small (by omega) hlv
    rw [hS] at hA hlv hep
    obtain ⟨T, hT⟩ : ∃ T, (scan b).2 = T := ⟨_, rfl⟩
    rw [hT] at hA
    obtain ⟨A0, c0, rfl, hrr, _⟩ := ho.reads
    refine wl_local [.string S.nm, .int .u32 (S.ep : Nat), .int .u32 (S.nx : Nat), .slice A0 L.length c0, .int .i64 (T : Nat), .bool (cleanS S)] hA rfl rfl (by decide) (fun ev h => by simp [go_sem]; try first | exact ⟨rfl, rfl⟩ | rfl) rfl rfl (by rfl) (fun w1 g ev hb h => by simp [go_sem, h.get 3 rfl, h.get 19 rfl, setAll, hb.cell, hb.frozen]) fun w4 a (K3 : Blk _ _ _ _) hz4 hb4 hA => ?_
    replace HB := HB.trans (hb4.mono HB.size)
    replace hrr := hrr.below hb4
    replace hA := hA.keepN [0, 3]
    refine wN (nT (wS (wR ?_)))
    revert a; refine wo rfl rfl (by decide) (fun ev e h => by simp [go_sem, h] <;> rfl) ?_; intro a hA
    refine wl_call hA rfl rfl (by decide) (fun ev h => exec_call Tryz.func20 (by kernel_rfl) rfl (h.f _) (by first | (simp only [mL, h.get 21 rfl, h.c] <;> rfl) | (simp [mL, h.get 21 rfl, h.c] <;> rfl))) (notes_any A n c b hl hc (by omega) _ (hm.below hg HB) (Nat.lt_of_lt_of_le hg HB.size) (Ht _ HB) ((hr.below HB).more HB.size)) ?_
    rintro e w5 ⟨v2, u2, N, P, rfl, hoN, -, hN, -, hNl, hNu, hb5⟩
    refine ⟨_, rfl, fun a hA => ?_⟩
    replace HB := HB.trans (hb5.mono HB.size)
    replace hrr := hrr.below hb5
    replace K3 := K3.below hb5 K3.lt
    rw [hT] at hA
    obtain ⟨A2, c2, rfl, hrN, _⟩ := hoN.reads
    revert a; (iterate 7 refine wo rfl rfl (by decide) (fun ev e h => by simp [go_sem, h] <;> rfl) ?_); intro a hA
    replace hA := hA.keepN [3, 4, 6]
    refine wN (nT (wS (wR ?_)))
    revert a; refine wo rfl rfl (by decide) (fun ev e h => by simp [go_sem, h] <;> rfl) ?_; intro a hA
    refine wl_call hA rfl rfl (by decide) (fun ev h => exec_call Tryz.func21 (by kernel_rfl) rfl (h.f _) (by first | (simp only [mL, h.get 27 rfl, h.c] <;> rfl) | (simp [mL, h.get 27 rfl, h.c] <;> rfl))) (refOf_any A2 N.length c2 N _ rfl (by omega) hrN hNu) ?_
    rintro e w6 ⟨v3, M, rfl, hoM, hM, -, hb6⟩
    refine ⟨_, rfl, fun a hA => ?_⟩
    replace HB := HB.trans (hb6.mono HB.size)
    replace hrr := hrr.below hb6
    replace K3 := K3.below hb6 K3.lt
    rw [hN, boxS_z0, cleanS_z0, hS] at hA
    rw [hN, boxS_z0, hS] at hM
    obtain ⟨Am, cm, rfl, hrM, _⟩ := hoM.reads
    revert a; (iterate 3 refine wo rfl rfl (by decide) (fun ev e h => by simp [go_sem, h] <;> rfl) ?_); intro a hA
    refine wl_local [.string (boxS S).nm, .int .u32 ((boxS S).ep : Nat), .int .u32 ((boxS S).nx : Nat), .slice Am M.length cm] hA rfl rfl (by decide) (fun ev h => by simp [go_sem]; try first | exact ⟨rfl, rfl⟩ | rfl) rfl rfl (by rfl) (fun w1 g ev hb h => by simp [go_sem, h.get 7 rfl, h.get 29 rfl, setAll, hb.cell, hb.frozen]) fun w7 a (K7 : Blk _ _ _ _) hz7 hb7 hA => ?_
    replace HB := HB.trans (hb7.mono HB.size)
    replace hrr := hrr.below hb7
    replace K3 := K3.below hb7 K3.lt
    replace hrM := hrM.below hb7
    revert a; refine wo rfl rfl (by decide) (fun ev e h => by simp [go_sem, h, K3.cell] <;> rfl) ?_; intro a hA
    replace hA := hA.keepN [3, 6, 7, 8]
    refine wN (nT (wS (wR ?_)))
    revert a; refine wo rfl rfl (by decide) (fun ev e h => by simp [go_sem, h, K3.cell] <;> rfl) ?_; intro a hA
    refine wl_call hA rfl rfl (by decide) (fun ev h => exec_call Tryz.func22 (by kernel_rfl) rfl (h.f _) (by first | (simp only [mL, h.get 31 rfl, h.c] <;> rfl) | (simp [mL, h.get 31 rfl, h.c, K3.cell] <;> rfl))) (box_any S (T : Int) A0 c0 L.length L _ hLs rfl hrr hsm hlv hep) ?_
    rintro e w8 ⟨v4, M4, rfl, hoM4, hM4, hb8⟩
    refine ⟨_, rfl, fun a hA => ?_⟩
    replace HB := HB.trans (hb8.mono HB.size)
    replace K3 := K3.below hb8 K3.lt
    replace hrM := hrM.below hb8
    replace K7 := K7.below hb8 K7.lt
    obtain ⟨A4, c4, rfl, hrM4, _⟩ := hoM4.reads
    refine wl_local [.string (boxS S).nm, .int .u32 ((boxS S).ep : Nat), .int .u32 ((boxS S).nx : Nat), .slice A4 M4.length c4] hA rfl rfl (by decide) (fun ev h => by simp [go_sem, K3.cell]; try first | exact ⟨rfl, rfl⟩ | rfl) rfl rfl (by rfl) (fun w1 g ev hb h => by simp [go_sem, h.get 9 rfl, h.get 32 rfl, K3.cell, setAll, hb.cell, hb.frozen]) fun w9 a (K9 : Blk _ _ _ _) hz9 hb9 hA => ?_
    replace HB := HB.trans (hb9.mono HB.size)
    replace K3 := K3.below hb9 K3.lt
    replace hrM := hrM.below hb9
    replace K7 := K7.below hb9 K7.lt
    replace hrM4 := hrM4.below hb9
    have hLl : L.length = S.live.length := by have := congrArg List.length hlv; rw [List.length_map, List.length_map] at this; exact this
    have hML : M.length = L.length := by
      have := congrArg List.length hM
      rw [List.length_map, boxS_len] at this
      omega
    have hnm := boxS_nm S
    rw [hML, hnm] at K7
    rw [hnm] at K9
    replace hA := hA.keepN [3, 6, 7, 8, 9]
    refine wN (nT (wS (wS (wR ?_))))
    revert a; (iterate 5 refine wo rfl rfl (by decide) (fun ev e h => by simp [go_sem, h, K3.cell, K7.cell, K9.cell] <;> rfl) ?_); (iterate 4 refine wg _ rfl rfl rfl rfl (by decide) (fun hq ev e h => by simp [go_sem, h, ↓gw_t (beq_t hq), K3.cell, K7.cell, K9.cell] <;> rfl) ?_); refine wko rfl rfl (by decide) rfl rfl rfl ?_; intro a hA
    replace hA := hA.keepN [3, 7, 8, 9, 42]
    revert a; refine wo rfl rfl (by decide) (fun ev e h => by simp [go_sem, h, K3.cell, K7.cell, K9.cell] <;> rfl) ?_; (iterate 7 refine wg _ rfl rfl rfl rfl (by decide) (fun hq ev e h => by simp [go_sem, h, ↓gw_t (beq_t hq), K3.cell, K7.cell, K9.cell] <;> rfl) ?_); refine wko rfl rfl (by decide) rfl rfl rfl ?_; refine wo rfl rfl (by decide) (fun ev e h => by simp [go_sem, h, K3.cell, K7.cell, K9.cell] <;> rfl) ?_; intro a hA
    replace hA := hA.keepN [3, 7, 8, 9, 52]
    revert a; (iterate 5 refine wg _ rfl rfl rfl rfl (by decide) (fun hq ev e h => by simp [go_sem, h, ↓gw_t (beq_t hq), K3.cell, K7.cell, K9.cell] <;> rfl) ?_); refine wko rfl rfl (by decide) rfl rfl rfl ?_; refine wo rfl rfl (by decide) (fun ev e h => by simp [go_sem, h, K3.cell, K7.cell, K9.cell] <;> rfl) ?_; (iterate 2 refine wg _ rfl rfl rfl rfl (by decide) (fun hq ev e h => by simp [go_sem, h, ↓gw_t (beq_t hq), K3.cell, K7.cell, K9.cell] <;> rfl) ?_); intro a hA
    refine wl_gcallv _ hA rfl rfl rfl rfl (by decide) (fun hq ev h => exec_call Tryz.func23 (by kernel_rfl) rfl (h.f _) (by first | (simp only [mL, ((h.get 60 rfl).trans (gw_t (beq_t hq))), ((h.get 61 rfl).trans (gw_t (beq_t hq))), h.c] <;> rfl) | (simp [mL, ((h.get 60 rfl).trans (gw_t (beq_t hq))), ((h.get 61 rfl).trans (gw_t (beq_t hq))), h.c, K3.cell, K7.cell, K9.cell] <;> rfl))) (fun hq => (refSameBoxR_any S.nm S.nm A4 Am c4 cm M4.length L.length (boxS S).ep (boxS S).ep (boxS S).nx (boxS S).nx M4 M _ (by have := congrArg List.length hM4; rw [List.length_map, boxS_len] at this; omega) hrM4.msgR (hML ▸ hrM.msgR)).mono fun e' w' h => (⟨by rw [h.1, boxSame_msgB (hM4.trans hM.symm)], h.2⟩ : e' = .returned (.bool true) ∧ _)) fun a w10 hb10 hA => ?_
    replace HB := HB.trans (hb10.mono HB.size)
    replace K3 := K3.below hb10 K3.lt
    replace hrM := hrM.below hb10
    replace K7 := K7.below hb10 K7.lt
    replace hrM4 := hrM4.below hb10
    revert a; refine wg _ rfl rfl rfl rfl (by decide) (fun hq ev e h => by simp [go_sem, h, ↓gw_t (beq_t hq), K3.cell, K7.cell, K9.cell] <;> rfl) ?_; intro a hA
    replace hA := hA.keepN [3, 7, 8, 59, 63]
    revert a; refine wko rfl rfl (by decide) rfl rfl rfl ?_; intro a hA
    replace hA := hA.keepN [3, 7, 8, 64]
    refine wN (nT ?_)
    refine wp_if hA 64 _ rfl (fun hq2 => ?yB) (fun hq2 => ?nB)
    case yB =>
      simp at hq2
    case nB =>
      refine wp_skip (nT (wS (wR ?_)))
      revert a; (iterate 3 refine wo rfl rfl (by decide) (fun ev e h => by simp [go_sem, h, K3.cell, K7.cell, K9.cell] <;> rfl) ?_); (iterate 6 refine wg _ rfl rfl rfl rfl (by decide) (fun hq ev e h => by simp [go_sem, h, ↓gw_t (beq_t hq), K3.cell, K7.cell, K9.cell] <;> rfl) ?_); refine wg2 _ _ rfl rfl rfl rfl (by decide) (fun hq hr ev e h => by simp [go_sem, h, ↓gw_t (and_beq hq hr), ↓gw_t hq, K3.cell, K7.cell, K9.cell] <;> rfl) ?_; intro a hA
      replace hA := hA.keepN [7, 67, 73, 74]
      revert a; (iterate 4 refine wg2 _ _ rfl rfl rfl rfl (by decide) (fun hq hr ev e h => by simp [go_sem, h, ↓gw_t (and_beq hq hr), ↓gw_t hq, K3.cell, K7.cell, K9.cell] <;> rfl) ?_); intro a hA
      refine wl_guard _ hA rfl rfl rfl rfl (by decide) (fun hq ev h => by exact pick_and rfl (((h.get 73 rfl).trans (gw_t (beq_t hq)))) (((h.get 78 rfl).trans (gw_a (beq_t hq)))) (h.c _)) fun a hA => ?_
      revert a; refine wko rfl rfl (by decide) rfl rfl rfl ?_; refine wo rfl rfl (by decide) (fun ev e h => by simp [go_sem, h, K3.cell, K7.cell, K9.cell] <;> rfl) ?_; intro a hA
      replace hA := hA.keepN [2]
      refine wN (nT (wp_ret ?_))
      refine ret_1 hA 2 rfl rfl ?_
      refine ⟨ret_bool ?_, HB⟩
      unfold boxS
      cases cleanS S <;> simp
end Go.Proofs.YtmjikfeaopmejaaGreatDoor
/-
  Plainly: of a clean log the place of a live message is that of the last record of its UID.
-/
namespace Go.Proofs.YtmjikfeaopmejaaGreatDoor
def atStep (E u : Nat) (p : Int) (n : NoteB) : Int := bif n.k == 2 && (n.ep == E && n.u == u) then (n.at_ : Int) else p
theorem at_none {E u : Nat} : ∀ (l : List NoteB) (p : Int), (∀ n ∈ l, (n.k == 2 && (n.ep == E && n.u == u)) = false) → l.foldl (atStep E u) p = p
  | [], _, _ => rfl
  | n :: r, p, h => by
    rw [List.foldl_cons]
    have e : atStep E u p n = p := by unfold atStep; rw [h n List.mem_cons_self]; rfl
    rw [e]
    exact at_none r p fun m hm => h m (List.mem_cons_of_mem _ hm)
theorem rise_gt {E : Nat} : ∀ {a : Nat} {l : List NoteB}, riseN E a l = true → ∀ x ∈ l, a < x.u ∧ x.ep = E
  | _, [], _, x, h => by cases h
  | a, n :: r, h, x, hx => by
    unfold riseN at h
    simp only [Bool.and_eq_true, decide_eq_true_eq, beq_iff_eq] at h
    obtain ⟨⟨⟨h0, h1⟩, _⟩, h3⟩ := h
    rcases List.mem_cons.1 hx with e | hx
    · subst e; exact ⟨h1, h0⟩
    · have := rise_gt h3 x hx
      exact ⟨by omega, this.2⟩
theorem live_of {E u : Nat} : ∀ {l : List NoteB}, (∀ m ∈ l, (m.k == 3 && (m.ep == E && m.u == u)) = false) → ∀ n ∈ l, (n.k == 2 && (n.ep == E && n.u == u)) = true → ∃ x ∈ ofLive l, x.u = u
  | [], _, n, h, _ => by cases h
  | y :: r, hg, n, hn, hm => by
    rcases List.mem_cons.1 hn with e | hn
    · subst e
      simp only [Bool.and_eq_true, beq_iff_eq] at hm
      obtain ⟨h2, h3, h4⟩ := hm
      refine ⟨n, ?_, h4⟩
      unfold ofLive
      have e1 : (r.any fun m => m.k == 3 && goneB m n) = false := by
        rw [List.any_eq_false]
        intro m hm hc
        have := hg m (List.mem_cons_of_mem _ hm)
        unfold goneB at hc
        simp only [Bool.and_eq_true, beq_iff_eq] at hc
        rw [← hc.2.1, ← hc.2.2, h3, h4, hc.1] at this
        simp at this
      rw [e1, h2]
      exact List.mem_cons_self
    · obtain ⟨x, hx, e⟩ := live_of (fun m hm => hg m (List.mem_cons_of_mem _ hm)) n hn hm
      refine ⟨x, ?_, e⟩
      unfold ofLive
      cases y.k == 2 && !r.any (fun m => m.k == 3 && goneB m y)
      · exact hx
      · exact List.mem_cons_of_mem _ hx
theorem place_of {E : Nat} : ∀ {a : Nat} {l : List NoteB} (p : Int), riseN E a (ofLive l) = true → ∀ x ∈ ofLive l, l.foldl (atStep E x.u) p = (x.at_ : Int)
  | _, [], _, _, x, h => by cases h
  | a, n :: r, p, hr, x, hx => by
    rw [List.foldl_cons]
    unfold ofLive at hr hx
    cases hc : n.k == 2 && !r.any (fun m => m.k == 3 && goneB m n) with
    | false =>
      rw [hc, cond_false] at hr hx
      exact place_of _ hr x hx
    | true =>
      rw [hc, cond_true] at hr hx
      unfold riseN at hr
      simp only [Bool.and_eq_true, decide_eq_true_eq, beq_iff_eq] at hr
      obtain ⟨⟨⟨h0, h1⟩, _⟩, h3⟩ := hr
      rcases List.mem_cons.1 hx with e | hx
      · subst e
        rw [Bool.and_eq_true, beq_iff_eq] at hc
        have e1 : atStep E x.u p x = (x.at_ : Int) := by
          unfold atStep
          rw [hc.1, h0]
          simp
        rw [e1]
        refine at_none r _ fun m hm => ?_
        cases hq : m.k == 2 && (m.ep == E && m.u == x.u) with
        | false => rfl
        | true =>
          have hng : ∀ m ∈ r, (m.k == 3 && (m.ep == E && m.u == x.u)) = false := by
            intro m hm
            have h5 := hc.2
            rw [Bool.not_eq_true', List.any_eq_false] at h5
            have h6 := h5 m hm
            unfold goneB at h6
            rw [← h0]
            cases h7 : m.k == 3 with
            | false => rfl
            | true =>
              rw [h7] at h6
              rw [Bool.true_and]
              cases h8 : (m.ep == x.ep && m.u == x.u) with
              | false => rfl
              | true =>
                simp only [Bool.and_eq_true, beq_iff_eq] at h8
                exact absurd (by simp [h8.1, h8.2]) h6
          obtain ⟨y, hy, e⟩ := live_of hng m hm hq
          have := (rise_gt h3 y hy).1
          omega
      · exact place_of _ h3 x hx
end Go.Proofs.YtmjikfeaopmejaaGreatDoor
/-
  Walks: is a text a name, as it should be?
-/
namespace Go.Proofs.YtmjikfeaopmejaaGreatDoor
open Go.RowKit
set_option maxRecDepth 100000 in
theorem named_any (s : ByteArray) (hs : s.size ≤ 9223372036854775807) (w : World) (hm : MaxCell w) :
    Calls Tryz.prog 91 #[.string s] w fun e w' => e = .returned (.bool (nameIs s)) ∧ Below w.heap.size w w' := by
  obtain ⟨m, hm⟩ := hm
  have R := Lib.hid (norm_all s m w hs hm)
  unfold nameIs
  generalize (normV s).1 = t at *
  generalize (normV s).2 = ok at *
  clear hm
  go_enter Tryz.func91, Tryz.ntmps91
  go_wp2_with fail
  refine R.out.mono ?_
  rintro e w1 ⟨rfl, hb⟩
  cases ok with
  | true =>
    go_wp2
    go_ret
    exact ⟨rfl, hb⟩
  | false =>
    go_wp2
    go_ret
    exact ⟨rfl, hb⟩
end Go.Proofs.YtmjikfeaopmejaaGreatDoor
/-
  Rows of places; whether a name is among some.
-/
namespace Go.Proofs.YtmjikfeaopmejaaGreatDoor
open Go.RowKit
abbrev PlaceM := Int × ByteArray
def pcell (q : PlaceM) : List Value := [.int .i64 q.1, .string q.2]
def pcells (l : List PlaceM) : List Value := l.flatMap pcell
theorem pcells_length : ∀ l : List PlaceM, (pcells l).length = l.length * 2
  | [] => rfl
  | x :: r => by
    have := pcells_length r
    unfold pcells at this ⊢
    rw [List.flatMap_cons, List.length_append, this, List.length_cons]
    show 2 + _ = _
    omega
theorem pcells_at : ∀ (l : List PlaceM) (i : Nat) (x : PlaceM), l[i]? = some x → ∀ j, j < 2 → (pcells l)[i * 2 + j]? = (pcell x)[j]?
  | y :: r, 0, x, h, j, hj => by
    injection h with h
    subst h
    unfold pcells
    rw [List.flatMap_cons, List.getElem?_append_left (by show 0 * 2 + j < 2; omega), Nat.zero_mul, Nat.zero_add]
  | y :: r, i + 1, x, h, j, hj => by
    have ih := pcells_at r i x h j hj
    unfold pcells at ih ⊢
    rw [List.flatMap_cons, List.getElem?_append_right (by show 2 ≤ _; omega)]
    have e : (i + 1) * 2 + j - (pcell y).length = i * 2 + j := by show (i + 1) * 2 + j - 2 = _; omega
    rw [e]
    exact ih
theorem pcells_append (l m : List PlaceM) : pcells (l ++ m) = pcells l ++ pcells m := List.flatMap_append
theorem pcells_one (l : List PlaceM) : ∀ u ∈ pcells l, u.oneCell' = true := by
  intro u hu
  simp only [pcells, List.mem_flatMap] at hu
  obtain ⟨x, _, hx⟩ := hu
  simp only [pcell, List.mem_cons, List.not_mem_nil, or_false] at hx
  rcases hx with rfl | rfl <;> rfl
theorem add_k2 (ad : Addr) (j k : Nat) (hk : 0 < k) : ad.add (j + k) = ⟨(ad.add j).block, (ad.add j).off + k, none⟩ := by
  unfold Addr.add; by_cases h : j = 0 <;> simp [h] <;> omega
theorem place_at {w : World} {k : Nat} {ad : Addr} {l : List PlaceM} {x : PlaceM} (hc : ∀ j u, (pcells l)[j]? = some u → w.cell? (ad.add j) = some u) (hx : l[k]? = some x) :
    w.cell? (ad.add (k * 2)) = some (.int .i64 x.1) ∧ w.cell? ⟨(ad.add (k * 2)).block, (ad.add (k * 2)).off + 1, none⟩ = some (.string x.2) := by
  have h : ∀ j u, j < 2 → (pcell x)[j]? = some u → w.cell? (ad.add (k * 2 + j)) = some u := fun j u hj hu => hc _ u (by rw [pcells_at l k x hx j hj]; exact hu)
  have h0 := h 0 _ (by omega) rfl
  have h1 := h 1 _ (by omega) rfl
  rw [add_k2 _ _ _ (by omega)] at h1
  exact ⟨h0, h1⟩
/-- which of some places has a name -/
def placeHas (l : List PlaceM) (s : ByteArray) : Bool := l.any fun x => x.2.toList == s.toList
theorem placeHas_snoc (l : List PlaceM) (x : PlaceM) (s : ByteArray) : placeHas (l ++ [x]) s = (placeHas l s || x.2.toList == s.toList) := by simp [placeHas]
theorem placeHas_step {l : List PlaceM} {j : Nat} {x : PlaceM} (hx : l[j]? = some x) (s : ByteArray) : placeHas (l.take (j + 1)) s = (placeHas (l.take j) s || x.2.toList == s.toList) := by
  rw [List.take_add_one, hx, ← placeHas_snoc]; rfl
theorem placeHas_mem {l : List PlaceM} {j : Nat} {x : PlaceM} (hx : l[j]? = some x) (s : ByteArray) (h : (x.2.toList == s.toList) = true) : placeHas l s = true := List.any_eq_true.2 ⟨x, List.mem_of_getElem? hx, h⟩
set_option maxRecDepth 100000 in
theorem eqName_any (x : PlaceM) (gp : Nat) (t0 : Int) (s : ByteArray) (w : World) (hg : Blk w gp 115 #[.int .i64 t0, .string s]) :
    Calls Tryz.prog 93 #[.agg #[.int .i64 x.1, .string x.2], .pointer (some ⟨gp, 0, none⟩)] w fun e w' => e = .returned (.bool (x.2.toList == s.toList)) ∧ Below w.heap.size w w' := by
  have hb := (Below.refl w.heap.size w).alloc (Nat.le_refl _) (.cells #[.int .i64 x.1, .string x.2] 115)
  have hlt := hg.lt
  have k1 : w.cell? ⟨gp, 1, none⟩ = some (.string s) := by rw [hg.cell]; rfl
  have HB := Lib.hid hb
  clear hb hg
  go_enter Tryz.func93, Tryz.ntmps93
  go_wp2
  go_ret
  exact ⟨rfl, HB.out⟩
set_option maxRecDepth 100000 in
theorem index_any (A : Option Addr) (c n : Nat) (l : List PlaceM) (s : ByteArray) (w : World) (hn2 : l.length = n) (hn : n ≤ 100000) (hr : Reads w w.heap.size 2 A n (pcells l)) (gp : Nat) (t0 : Int) (hg : Blk w gp 115 #[.int .i64 t0, .string s]) :
    Calls Tryz.prog 109 #[.slice A n c, .func (Fn.func 93) #[] #[.pointer (some ⟨gp, 0, none⟩)]] w fun e w' => ∃ r : Int, e = .returned (.int .i64 r) ∧ (decide (0 ≤ r) = placeHas l s) ∧ Below w.heap.size w w' := by
  have HR := Lib.hid hr
  have HG := Lib.hid hg
  clear hr hg
  go_enter Tryz.func109, Tryz.ntmps109
  go_wp2
  go_loopw [8] (fun k wr => ∃ (j : Nat), k = .int .i64 j ∧ j ≤ n ∧ Hid (placeHas (l.take j) s = false) ∧ Hid (Below w.heap.size w wr)) (fun k _ => n - (intOf k).toNat)
  case atStart => exact ⟨0, rfl, by omega, rfl, Below.refl _ _⟩
  case round =>
    obtain ⟨j, rfl, hj, hno, hb⟩ := hrel
    by_cases hlt : j < n
    · obtain ⟨x, hx⟩ : ∃ x, l[j]? = some x := ⟨_, List.getElem?_eq_getElem (by omega)⟩
      obtain ⟨ad, rfl, hadl, hc⟩ := (HR.out.below hb.out).2 (by omega)
      obtain ⟨k0, k1⟩ := place_at hc hx
      have jj0 : (0 : Int) ≤ (j : Int) := by omega
      have jj1 : (j : Int) < (n : Int) := by omega
      have hst := placeHas_step hx s
      have hmm := placeHas_mem hx s
      rw [hno.out, Bool.false_or] at hst
      have R := Lib.hid (eqName_any x gp t0 s wr (HG.out.below hb.out HG.out.lt))
      generalize (x.2.toList == s.toList) = eq at *
      have HST := Lib.hid hst
      have HMM := Lib.hid hmm
      clear hst hmm hx hc
      go_wp2_with fail
      refine R.out.mono ?_
      rintro e w1 ⟨rfl, hb1⟩
      have HB1 := Lib.hid (hb.out.trans (hb1.mono hb.out.size))
      clear hb1 R k0 k1
      cases eq with
      | true =>
        go_wp2
        go_ret
        exact ⟨_, rfl, by rw [HMM.out (by first | rfl | trivial)]; simp, HB1.out⟩
      | false =>
        go_wp2
        go_roundw
        case rel => exact ⟨j + 1, by go_num, by omega, HST.out, HB1⟩
        case measure => simp [intOf]; omega
    · obtain rfl : j = n := by omega
      go_wp2
      go_ret
      refine ⟨_, rfl, ?_, hb.out⟩
      have := hno.out
      rw [List.take_of_length_le (by omega)] at this
      rw [this]
      rfl
set_option maxRecDepth 100000 in
theorem contains_any (A : Option Addr) (c n : Nat) (l : List PlaceM) (s : ByteArray) (w : World) (hn2 : l.length = n) (hn : n ≤ 100000) (hr : Reads w w.heap.size 2 A n (pcells l)) (gp : Nat) (t0 : Int) (hg : Blk w gp 115 #[.int .i64 t0, .string s]) :
    Calls Tryz.prog 92 #[.slice A n c, .func (Fn.func 93) #[] #[.pointer (some ⟨gp, 0, none⟩)]] w fun e w' => e = .returned (.bool (placeHas l s)) ∧ Below w.heap.size w w' := by
  have R := Lib.hid (index_any A c n l s w hn2 hn hr gp t0 hg)
  clear hr hg
  go_enter Tryz.func92, Tryz.ntmps92
  go_wp2_with fail
  refine R.out.mono ?_
  rintro e w1 ⟨r, rfl, hr, hb⟩
  go_wp2
  go_ret
  exact ⟨by first | rfl | exact ret_bool hr, hb⟩
end Go.Proofs.YtmjikfeaopmejaaGreatDoor
