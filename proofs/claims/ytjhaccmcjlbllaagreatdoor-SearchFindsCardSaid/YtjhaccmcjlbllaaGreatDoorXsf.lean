/-
  Walk: what is no key finds nothing; a key more finds no more.
-/
import Derived.Test.YtjhaccmcjlbllaaGreatDoorXse
import Derived.Deep.Slices
import Derived.Deep.Fields
import Derived.ChangeSame
import Derived.ChangeSlices
import Derived.Carry
import Derived.SizedLaws
import Derived.Lib.SmallJoins
import Derived.Deep.DeepHandedRow
import Derived.LaidSub
import Derived.Lib.LaidTab
import Derived.MakeChecks
import Derived.Test.YtjhaccmcjlbllaaGreatDoorCards
import Derived.Test.YtjhaccmcjlbllaaGreatDoorTie
import Derived.SevenTiedAt
namespace Go.Proofs.YtjhaccmcjlbllaaGreatDoor
open Go.RowKit
set_option linter.unusedSimpArgs false
set_option linter.unusedVariables false
set_option linter.unusedSimpArgs false
set_option linter.unusedVariables false
theorem sum_part {l : List MsgV} : ∀ m ∈ l, m.b.length ≤ (l.map fun m => m.b.length).sum := by
  induction l with
  | nil => intro m h; cases h
  | cons x r ih =>
    intro m h
    rw [List.map_cons, List.sum_cons]
    rcases List.mem_cons.1 h with rfl | h
    · omega
    · have := ih m h; omega
theorem findS_len (o : Option KeyA) (ms : List MsgV) : (findS o ms).length ≤ ms.length := by
  cases o with
  | none => exact Nat.zero_le _
  | some k =>
    have := List.length_filter_le (isSo k ms) (List.range ms.length)
    rw [List.length_range] at this
    exact this
set_option maxRecDepth 100000 in
set_option maxHeartbeats 8000000 in
theorem none_law (nm : ByteArray) (e nx : Nat) (A : Option Addr) (c : Nat) (l : List MsgV) (A1 : Option Addr) (c1 : Nat) (l1 : List TokI) (A2 : Option Addr) (c2 : Nat) (l2 : List TokI) (w : World) (hw : Fine w)
    (hs : nm.size ≤ 140737488355328) (hn : l.length ≤ 140737488355328) (hsz : ∀ m ∈ l, m.b.length ≤ 140737488355328) (hms : Msgs w A l.length l) (hr1 : RowR tokISh w A1 l1) (hr2 : RowR tokISh w A2 l2) (ht1 : ∀ t ∈ l1, t.t.length ≤ 1048576) (ht2 : ∀ t ∈ l2, t.t.length ≤ 1048576) (hl1 : l1.length ≤ 1048576) (hl2 : l2.length ≤ 1048576) :
    Calls Tryz.prog 5 #[.agg (boxC nm e nx A l.length c), .slice A1 l1.length c1, .slice A2 l2.length c2] w fun ev w' => ev = .returned (.bool true) ∧ Below w.heap.size w w' := by
  refine calls_at 75 Tryz.func5 rfl rfl (Nat.le_of_ble_eq_true rfl) ?_
  intro a hA; replace hA := hA.norm
  refine wS (wR ?_)
  refine wl_new hA rfl rfl (by decide) (fun ev h => by simp [go_sem, h.get 0 rfl]; try first | exact ⟨rfl, rfl⟩ | rfl) fun w1 a (K1 : Blk _ _ _ _) hz1 HB hA => ?_
  replace hms := hms.below HB
  replace hr1 := hr1.below HB
  replace hr2 := hr2.below HB
  replace hw := hw.below HB
  unfold boxC at K1
  revert a; refine wo rfl rfl (by decide) (fun ev e h => by simp [go_sem, h] <;> rfl) ?_; intro a hA
  replace hA := hA.keepN [1, 2, 3]
  refine wN (nT (wS (wS (wR ?_))))
  refine wl_call hA rfl rfl (by decide) (fun ev h => exec_call Tryz.func19 (by kernel_rfl) rfl (h.f _) (by first | (simp only [mL, h.c] <;> rfl) | (simp [mL, h.c] <;> rfl))) (awake17_any _ hw) ?_
  rintro e w2 ⟨rfl, hb2⟩
  refine ⟨_, rfl, fun a hA => ?_⟩
  replace HB := HB.trans (hb2.mono HB.size)
  replace K1 := K1.below hb2 K1.lt
  replace hms := hms.below hb2
  replace hr1 := hr1.below hb2
  replace hr2 := hr2.below hb2
  replace hw := hw.below hb2
  revert a; (iterate 2 refine wo rfl rfl (by decide) (fun ev e h => by simp [go_sem, h, K1.cell] <;> rfl) ?_); refine wg _ rfl rfl rfl rfl (by decide) (fun hq ev e h => by simp [go_sem, h, ↓gw_t (beq_t hq), K1.cell] <;> rfl) ?_; intro a hA
  refine wl_gcallv _ hA rfl rfl rfl rfl (by decide) (fun hq ev h => exec_call Tryz.func20 (by kernel_rfl) rfl (h.f _) (by first | (simp only [mL, ((h.get 14 rfl).trans (gw_t (beq_t hq))), h.c] <;> rfl) | (simp [mL, ((h.get 14 rfl).trans (gw_t (beq_t hq))), h.c, K1.cell] <;> rfl))) (fun hq => few_any nm e nx A l.length c l _ hs hn hsz hms) fun a w3 hb3 hA => ?_
  replace HB := HB.trans (hb3.mono HB.size)
  replace K1 := K1.below hb3 K1.lt
  replace hms := hms.below hb3
  replace hr1 := hr1.below hb3
  replace hr2 := hr2.below hb3
  replace hw := hw.below hb3
  obtain ⟨fw, hfw⟩ : ∃ f, fewS nm.size l = f := ⟨_, rfl⟩
  rw [hfw] at hA
  revert a; refine wg _ rfl rfl rfl rfl (by decide) (fun hq ev e h => by simp [go_sem, h, ↓gw_t (beq_t hq), K1.cell] <;> rfl) ?_; refine wko rfl rfl (by decide) rfl rfl rfl ?_; refine wo rfl rfl (by decide) (fun ev e h => by simp [go_sem, h, K1.cell] <;> rfl) ?_; refine wg _ rfl rfl rfl rfl (by decide) (fun hq ev e h => by simp [go_sem, h, ↓gw_t (beq_t hq), K1.cell] <;> rfl) ?_; intro a hA
  refine wl_gcallv _ hA rfl rfl rfl rfl (by decide) (fun hq ev h => exec_call Tryz.func21 (by kernel_rfl) rfl (h.f _) (by first | (simp only [mL, ((h.get 19 rfl).trans (gw_t (beq_t hq))), h.c] <;> rfl) | (simp [mL, ((h.get 19 rfl).trans (gw_t (beq_t hq))), h.c, K1.cell] <;> rfl))) (fun hq => refRight_any nm A c l.length e nx l _ (by omega) (by omega) hms) fun a w4 hb4 hA => ?_
  replace HB := HB.trans (hb4.mono HB.size)
  replace K1 := K1.below hb4 K1.lt
  replace hms := hms.below hb4
  replace hr1 := hr1.below hb4
  replace hr2 := hr2.below hb4
  replace hw := hw.below hb4
  obtain ⟨br, hbr⟩ : ∃ f, boxRight nm e nx l = f := ⟨_, rfl⟩
  rw [hbr] at hA
  have i1 : IntKind.i64.wrap ((l1.length : Int) + (l2.length : Int)) = (l1.length : Int) + (l2.length : Int) := IntWalk.i64_in _ (by omega)
  revert a; refine wg _ rfl rfl rfl rfl (by decide) (fun hq ev e h => by simp [go_sem, h, ↓gw_t (beq_t hq), i1] <;> rfl) ?_; refine wko rfl rfl (by decide) rfl rfl rfl ?_; refine wo rfl rfl (by decide) (fun ev e h => by simp [go_sem, h, i1] <;> rfl) ?_; intro a hA
  replace hA := hA.keepN [1, 2, 3, 23]
  revert a; (iterate 6 refine wg _ rfl rfl rfl rfl (by decide) (fun hq ev e h => by simp [go_sem, h, ↓gw_t (beq_t hq), i1] <;> rfl) ?_); refine wko rfl rfl (by decide) rfl rfl rfl ?_; intro a hA
  replace hA := hA.keepN [1, 2, 3, 30]
  refine wN (nT ?_)
  refine wp_if hA 30 _ rfl (fun hq => ?yA) (fun hq => ?nA)
  case yA =>
    refine wS (wR ?_)
    refine wl_call hA rfl rfl (by decide) (fun ev h => exec_call Tryz.func19 (by kernel_rfl) rfl (h.f _) (by first | (simp only [mL, h.c] <;> rfl) | (simp [mL, h.c, i1] <;> rfl))) (awake17_any _ hw) ?_
    rintro e w5 ⟨rfl, hb5⟩
    refine ⟨_, rfl, fun a hA => ?_⟩
    replace HB := HB.trans (hb5.mono HB.size)
    replace K1 := K1.below hb5 K1.lt
    replace hms := hms.below hb5
    replace hr1 := hr1.below hb5
    replace hr2 := hr2.below hb5
    replace hw := hw.below hb5
    revert a; refine wo rfl rfl (by decide) (fun ev e h => by simp [go_sem, h, i1] <;> rfl) ?_; intro a hA
    replace hA := hA.keepN [6]
    refine wN (nT (wp_ret (rT ?_)))
    refine ret_1 hA 6 rfl rfl ?_
    exact ⟨rfl, HB⟩
  case nA =>
    have hf : fw = true := by cases fw <;> simp at hq <;> simp_all
    have hlen : l1.length + l2.length ≤ 100 := by simp at hq; omega
    rw [hf] at hfw
    have hbig := fewS_true hfw
    have hoct : ∀ m ∈ l, m.b.length ≤ 1048576 := fun m hm => by have := sum_part m hm; omega
    have htok : ∀ t ∈ l1 ++ l2, t.t.length ≤ 1048576 := fun t h => by
      rcases List.mem_append.1 h with h | h
      · exact ht1 t h
      · exact ht2 t h
    clear hq
    refine wp_skip (nT (wS (wR ?_)))
    revert a; (iterate 2 refine wo rfl rfl (by decide) (fun ev e h => by simp [go_sem, h, K1.cell] <;> rfl) ?_); intro a hA
    refine wl_call hA rfl rfl (by decide) (fun ev h => exec_call Tryz.func23 (by kernel_rfl) rfl (h.f _) (by first | (simp only [mL, h.get 32 rfl, h.get 33 rfl, h.c] <;> rfl) | (simp [mL, h.get 32 rfl, h.get 33 rfl, h.c, K1.cell] <;> rfl))) (find_any nm e nx A c l A1 c1 l1 _ hms (by omega) hoct hr1 hw (by omega) ht1) ?_
    rintro e w5 ⟨x, rfl, hx, hb5⟩
    refine ⟨_, rfl, fun a hA => ?_⟩
    replace HB := HB.trans (hb5.mono HB.size)
    replace K1 := K1.below hb5 K1.lt
    replace hms := hms.below hb5
    replace hr1 := hr1.below hb5
    replace hr2 := hr2.below hb5
    replace hw := hw.below hb5
    revert a; refine wo rfl rfl (by decide) (fun ev e h => by simp [go_sem, h, K1.cell] <;> rfl) ?_; intro a hA
    replace hA := hA.keepN [1, 2, 3, 7]
    have pE := fun (wo : World) (hC : (fun wy => Below w5.heap.size w5 wy) wo) => have Kx1 := K1.below hC K1.lt; (Kx1.cell)
    refine wN (nT (wS ?_))
    refine wp_region_split 6 ?_
    simp only [List.take_succ_cons, List.take_zero, List.drop_succ_cons, List.drop_zero]
    refine wp_any_split_at hA [(.det ?dE0), (.used (fun v wy => ∃ g, v = .slice (some ⟨g, 0, none⟩) 0 0 ∧ w5.heap.size ≤ g ∧ Blk wy g 60 #[])), (.det ?dE2), (.used (fun v wy => OwnR tokISh w5.heap.size wy v l1)), (.det ?dE4), (.held (fun v wy => OwnR tokISh w5.heap.size wy v (l1 ++ l2)))] [] (fun wy => Below w5.heap.size w5 wy) (TSp [(3, fun _ _ => True), (5, fun _ _ => True)] Grows) (by kernel_rfl) rfl (by kernel_rfl) (by kernel_rfl) rfl (by kernel_rfl) (by kernel_rfl) (by kernel_rfl) (by kernel_rfl) ((Below.refl w5.heap.size w5).drew) (stab_sp [(3, fun _ _ => True), (5, fun _ _ => True)] [true, false, true, false, true, false] [true, false, true, false, true, true] [] rfl rfl rfl (by kernel_rfl) ⟨trivial, (fun _ _ _ _ ⟨g, hx, hg, hk⟩ hb => ⟨g, hx, hg, hk.below hb hk.lt⟩), trivial, (fun _ _ _ _ hp hb => hp.below hb), trivial, (fun _ _ _ _ hp hb => hp.below hb), trivial⟩ trivial) (fun _ h => by cases h) (fun _ _ _ _ _ h => by cases h) (fun _ h => by cases h) ⟨?oE0, ?oE1, ?oE2, ?oE3, ?oE4, ?oE5, trivial⟩ (by kernel_rfl) ?fE
    case oE0 => intro ev wo hev hC hs hph; have x0 := se hA hs 3; exact od rfl rfl (by kernel_rfl) hC (TSp.of rfl (Grows.refl _)) (by simp [go_sem, x0, pE _ hC, K1.cell] <;> rfl)
    case oE1 =>
      intro ev wo hev hC hs hph
      have Kx1 := K1.below hC K1.lt
      have hbn := (Below.refl wo.heap.size wo).alloc (Nat.le_refl _) (.cells #[] 60)
      exact ob_yes (wanted_none rfl) (does_value (v := .slice (some ⟨wo.heap.size, 0, none⟩) 0 0) (w' := wo.alloc (.cells #[] 60)) (by simp [go_sem]) ⟨hC.trans (hbn.mono hC.size), TSp.of rfl hbn, ⟨_, rfl, hC.size, Blk.new wo _ _⟩, no_start (by kernel_rfl)⟩)
    case oE2 => intro ev wo hev hC hs hph; have x0 := se hA hs 1; exact od rfl rfl (by kernel_rfl) hC (TSp.of rfl (Grows.refl _)) (by simp [go_sem, x0] <;> rfl)
    case oE3 =>
      intro ev wo hev hC hs hph
      have u36 := su hs 36 1
      have e37 := sd hs 37 2
      have Kx1 := K1.below hC K1.lt
      obtain ⟨g, e36, hgB, hK⟩ := u36
      obtain ⟨r, w', hr, ho, hgr, _⟩ := run_appR (s := tokISh) (c := c1) (OwnR.empty hK hgB) (hr1.below hC) (fun _ _ m _ p hp => by cases hp) (by simp; omega) hC.size
      exact ob_yes (wanted_none rfl) (does_value (exec_append rfl e36 e37 hr) ⟨hC.grown hgr hC.size (fun k hk => by rw [← Option.some.inj hk]; exact hgB), TSp.sp rfl trivial, ho, no_start (by kernel_rfl)⟩)
    case oE4 => intro ev wo hev hC hs hph; have x0 := se hA hs 2; exact od rfl rfl (by kernel_rfl) hC (TSp.of rfl (Grows.refl _)) (by simp [go_sem, x0] <;> rfl)
    case oE5 =>
      intro ev wo hev hC hs hph
      have u38 := su hs 38 3
      have e39 := sd hs 39 4
      have Kx1 := K1.below hC K1.lt
      obtain ⟨r, w', hr, ho, hgr, _⟩ := run_appR (s := tokISh) (c := c2) u38 (hr2.below hC) (fun _ _ m _ p hp => by cases hp) (by omega) hC.size
      exact ob_yes (wanted_none rfl) (does_value (exec_append rfl rfl e39 hr) ⟨below_appR hC u38 hgr (Nat.le_refl _) hC.size, TSp.sp rfl trivial, ho, no_start (by kernel_rfl)⟩)
    intro sg wf hC hph
    intro x36 hx36
    intro x38 hx38
    intro x40 hx40 h40
    intro a hA
    replace hA := hA.keepN [1, 7, 35, 40]
    replace HB := HB.trans (hC.mono HB.size)
    replace K1 := K1.below hC K1.lt
    replace hms := hms.below hC
    replace hr1 := hr1.below hC
    replace hr2 := hr2.below hC
    replace hw := hw.below hC
    replace hx := hx.below hC
    obtain ⟨A5, c5, e5, hr5, -⟩ := h40.reads
    subst e5
    refine wl_call hA rfl rfl (by decide) (fun ev h => exec_call Tryz.func23 (by kernel_rfl) rfl (h.f _) (by first | (simp only [mL, h.get 35 rfl, h.get 40 rfl, h.c] <;> rfl) | (simp [mL, h.get 35 rfl, h.get 40 rfl, h.c, K1.cell] <;> rfl))) (find_any nm e nx A c l A5 c5 (l1 ++ l2) _ hms (by omega) hoct hr5 hw (by rw [List.length_append]; omega) htok) ?_
    rintro e w6 ⟨y, rfl, hy, hb6⟩
    refine ⟨_, rfl, fun a hA => ?_⟩
    replace HB := HB.trans (hb6.mono HB.size)
    replace K1 := K1.below hb6 K1.lt
    replace hms := hms.below hb6
    replace hr1 := hr1.below hb6
    replace hr2 := hr2.below hb6
    replace hw := hw.below hb6
    replace hx := hx.below hb6
    revert a; refine wo rfl rfl (by decide) (fun ev e h => by simp [go_sem, h, K1.cell] <;> rfl) ?_; intro a hA
    replace hA := hA.keepN [1, 7, 8]
    refine wN (nT (wS (wS (wR ?_))))
    revert a; refine wo rfl rfl (by decide) (fun ev e h => by simp [go_sem, h, K1.cell] <;> rfl) ?_; intro a hA
    refine wl_call hA rfl rfl (by decide) (fun ev h => exec_call Tryz.func25 (by kernel_rfl) rfl (h.f _) (by first | (simp only [mL, h.get 42 rfl, h.c] <;> rfl) | (simp [mL, h.get 42 rfl, h.c, K1.cell] <;> rfl))) (right_any A1 c1 l1 _ hr1 hw (by omega) ht1) ?_
    rintro e w7 ⟨rfl, hb7⟩
    refine ⟨_, rfl, fun a hA => ?_⟩
    replace HB := HB.trans (hb7.mono HB.size)
    replace hr1 := hr1.below hb7
    replace hw := hw.below hb7
    replace hx := hx.below hb7
    replace hy := hy.below hb7
    obtain ⟨X, hX⟩ : ∃ X, findS (readP l1) l = X := ⟨_, rfl⟩
    rw [hX] at hx
    obtain ⟨Ax, cx, ex, hrx, -⟩ := hx.reads
    subst ex
    cases hrp : readP l1 with
    | none =>
      have hX0 : X = [] := by rw [← hX, hrp]; rfl
      subst hX0
      rw [hrp] at hA
      revert a; refine wo rfl rfl (by decide) (fun ev e h => by simp [go_sem, h, K1.cell] <;> rfl) ?_; intro a hA
      replace hA := hA.keepN [7, 8, 44]
      refine wN (nT ?_)
      refine wp_if hA 44 _ rfl (fun hq => ?yB) (fun hq => ?nB)
      case nB => cases hq
      case yB =>
        refine wS (wR ?_)
        revert a; (iterate 4 refine wo rfl rfl (by decide) (fun ev e h => by simp [go_sem, h, K1.cell] <;> rfl) ?_); intro a hA
        replace hA := hA.keepN [6]
        refine wN (nT (wp_ret (rT ?_)))
        refine ret_1 hA 6 rfl rfl ?_
        exact ⟨rfl, HB⟩
    | some kk =>
      rw [hrp] at hA
      obtain ⟨Q, hQ⟩ := none_more (c := l2) l hrp
      rw [hX] at hQ
      obtain ⟨Y, hY⟩ : ∃ Y, findS (readP (l1 ++ l2)) l = Y := ⟨_, rfl⟩
      rw [hY] at hy hQ
      obtain ⟨Ay, cy, ey, hry, -⟩ := hy.reads
      subst ey
      revert a; refine wo rfl rfl (by decide) (fun ev e h => by simp [go_sem, h, K1.cell] <;> rfl) ?_; intro a hA
      replace hA := hA.keepN [7, 8, 44]
      refine wN (nT ?_)
      refine wp_if hA 44 _ rfl (fun hq => ?yB) (fun hq => ?nB)
      case yB => cases hq
      case nB =>
        refine wp_skip (nT (wS (wR ?_)))
        revert a; refine wo rfl rfl (by decide) (fun ev e h => by simp [go_sem, h, K1.cell] <;> rfl) ?_; intro a hA
        replace hA := hA.keepN [7, 8, 9]
        refine wN (nT (wS (wS (wR ?_))))
        revert a; (iterate 3 refine wo rfl rfl (by decide) (fun ev e h => by simp [go_sem, h, K1.cell] <;> rfl) ?_); intro a hA
        replace hA := hA.keepN [7, 8, 9, 49, 50]
        refine wN (nT (wB ?_))
        have hXl : X.length ≤ 60000 := by rw [← hX]; exact Nat.le_trans (findS_len _ _) (by omega)
        have hYl : Y.length ≤ 60000 := by rw [← hY]; exact Nat.le_trans (findS_len _ _) (by omega)
        refine wp_loop_at (fun f a wx => ∃ (j k : Nat), j + f = X.length ∧ k ≤ Y.length ∧ Y.drop k = (X.drop j).filter Q ∧ Below w7.heap.size w7 wx ∧ At 75 [(7, .slice Ax X.length cx), (8, .slice Ay Y.length cy), (9, .int .i64 (k : Nat)), (49, .int .i64 (X.length : Nat)), (50, .int .i64 (j : Nat))] a) (X.length) ?_ ?_
        · exact ⟨0, 0, by omega, Nat.zero_le _, by rw [hQ]; rfl, Below.refl _ _, hA⟩
        clear hA
        rintro f a wx ⟨j, k, hjf, hkY, hdr, HBx, hA⟩
        refine wS (wR ?_)
        revert a; refine wo rfl rfl (by decide) (fun ev e h => by simp [go_sem, h] <;> rfl) ?_; intro a hA
        replace hA := hA.keepN [7, 8, 9, 49, 50, 51]
        refine wN (nT (wS ?_))
        refine wp_if hA 51 _ rfl (fun hq2 => ?yC) (fun hq2 => ?nC)
        case nC =>
          have hjn : X.length ≤ j := by simp at hq2; omega
          have hke : k = Y.length := none_end (by rw [show X.length = j by omega]; exact hdr) hkY
          replace hA := hA.keepN [8, 9]
          refine wp_exit (xT (xT (xB (nT (wS (wR ?_))))))
          revert a; (iterate 5 refine wo rfl rfl (by decide) (fun ev e h => by simp [go_sem, h] <;> rfl) ?_); intro a hA
          replace hA := hA.keepN [6]
          refine wN (nT (wp_ret ?_))
          refine ret_1 hA 6 rfl rfl ?_
          exact ⟨ret_bool (by rw [hke]; simp), HB.trans (HBx.mono HB.size)⟩
        case yC =>
          have hjn : j < X.length := by simp at hq2; omega
          obtain ⟨v, hv⟩ : ∃ v, X[j]? = some v := ⟨_, List.getElem?_eq_getElem hjn⟩
          obtain ⟨ax, rfl, haxl, kx0, -⟩ := hrx.cell hv
          have kx : w7.cell? (ax.add j) = some (.int .i64 (v : Nat)) := by
            have h1 : w7.cell? (ax.add (j * 1)) = some (.int .i64 (v : Nat)) := kx0 _ rfl
            rwa [Nat.mul_one] at h1
          have hst := none_step hdr hv
          have jj0 : (0 : Int) ≤ (j : Int) := by omega
          have jj1 : (j : Int) < (X.length : Int) := by omega
          have kk0 : (0 : Int) ≤ (k : Int) := by omega
          have i3 : IntKind.i64.wrap (((j : Nat) : Int) + 1) = ((j + 1 : Nat) : Int) := by rw [IntWalk.i64_in _ (by omega)]; omega
          have i4 : IntKind.i64.wrap (((k : Nat) : Int) + 1) = ((k + 1 : Nat) : Int) := by rw [IntWalk.i64_in _ (by omega)]; omega
          obtain ⟨A0, hA0⟩ : ∃ A0 : Addr, ∀ h : k < Y.length, Ay = some A0 ∧ A0.block < w7.heap.size ∧ w7.cell? (A0.add k) = some (.int .i64 ((Y.getD k 0 : Nat) : Int)) := by
            rcases Nat.lt_or_ge k Y.length with h | h
            · obtain ⟨ay, e, hayl, ky0, -⟩ := hry.cell (i := k) (x := Y[k]) (List.getElem?_eq_getElem h)
              refine ⟨ay, fun _ => ⟨e, hayl, ?_⟩⟩
              have h1 : w7.cell? (ay.add (k * 1)) = some (.int .i64 ((Y[k] : Nat) : Int)) := ky0 _ rfl
              rw [Nat.mul_one] at h1
              rw [List.getD_eq_getElem?_getD, List.getElem?_eq_getElem h]
              exact h1
            · exact ⟨default, fun h' => absurd h' (by omega)⟩
          refine wp_skip (nT (wS (wB (wS (wR ?_)))))
          revert a; (iterate 2 refine wo rfl rfl (by decide) (fun ev e h => by simp [go_sem, h, jj0, jj1] <;> rfl) ?_); intro a hA
          replace hA := hA.keepN [7, 8, 9, 10, 49, 50]
          have pG := fun (wo : World) (hC : (fun wy => Below wx.heap.size wx wy) wo) => have Kx := (hC.cell (p := ax.add j) (by rw [block_of_add]; exact Nat.lt_of_lt_of_le haxl HBx.size)).trans ((HBx.cell (p := ax.add j) (by rw [block_of_add]; exact haxl)).trans kx); have Ky := fun h : k < Y.length => (hC.cell (p := A0.add k) (by rw [block_of_add]; exact Nat.lt_of_lt_of_le (hA0 h).2.1 HBx.size)).trans ((HBx.cell (p := A0.add k) (by rw [block_of_add]; exact (hA0 h).2.1)).trans (hA0 h).2.2); have kk1 := fun h : decide (k < Y.length) = true => (by simpa using h : k < Y.length); (Kx)
          refine wN (nT (wS ?_))
          refine wp_any_at hA [(.det ?dG0), (.det ?dG1), (.det ?dG2), (.det ?dG3), (.det ?dG4), (.det ?dG5), (.det ?dG6), (.det ?dG7), (.det ?dG8), (.det ?dG9), (.det ?dG10), (.det ?dG11), (.det ?dG12), (.det ?dG13), (.det ?dG14)] [] (fun wy => Below wx.heap.size wx wy) (TSp [] Grows) (by kernel_rfl) rfl (by kernel_rfl) (by kernel_rfl) rfl ((Below.refl _ _).drew) (stab_sp [] [true, true, true, true, true, true, true, true, true, true, true, true, true, true, true] [true, true, true, true, true, true, true, true, true, true, true, true, true, true, true] [] rfl rfl rfl (by kernel_rfl) ⟨trivial, trivial, trivial, trivial, trivial, trivial, trivial, trivial, trivial, trivial, trivial, trivial, trivial, trivial, trivial, trivial⟩ trivial) (fun _ h => by cases h) (fun _ _ _ _ _ h => by cases h) (fun _ h => by cases h) ⟨?oG0, ?oG1, ?oG2, ?oG3, ?oG4, ?oG5, ?oG6, ?oG7, ?oG8, ?oG9, ?oG10, ?oG11, ?oG12, ?oG13, ?oG14, trivial⟩ (by kernel_rfl) ?fG
          case oG0 => intro ev wo hev hC hs hph; have x0 := se hA hs 9; exact od rfl rfl (by kernel_rfl) hC (TSp.of rfl (Grows.refl _)) (by simp [go_sem, x0, jj0, jj1, kk0, hjn] <;> rfl)
          case oG1 => intro ev wo hev hC hs hph; have x0 := se hA hs 8; exact od rfl rfl (by kernel_rfl) hC (TSp.of rfl (Grows.refl _)) (by simp [go_sem, x0, jj0, jj1, kk0, hjn] <;> rfl)
          case oG2 => intro ev wo hev hC hs hph; have x0 := sd hs 54 1; exact od rfl rfl (by kernel_rfl) hC (TSp.of rfl (Grows.refl _)) (by simp [go_sem, x0, jj0, jj1, kk0, hjn] <;> rfl)
          case oG3 => intro ev wo hev hC hs hph; have x0 := sd hs 53 0; have x1 := sd hs 55 2; exact od rfl rfl (by kernel_rfl) hC (TSp.of rfl (Grows.refl _)) (by simp [go_sem, x0, x1, jj0, jj1, kk0, hjn] <;> rfl)
          case oG4 => intro ev wo hev hC hs hph; have x0 := sd hs 56 3; exact od rfl rfl (by kernel_rfl) hC (TSp.of rfl (Grows.refl _)) (by simp [go_sem, x0, jj0, jj1, kk0, hjn] <;> rfl)
          case oG5 => intro ev wo hev hC hs hph; have x0 := se hA hs 8; have y := sd hs 57 4; exact ob_gv _ rfl rfl y rfl (by kernel_rfl) hC (TSp.of rfl (Grows.refl _)) (fun hq => by simp [go_sem, x0, jj0, jj1, kk0, hjn] <;> rfl) (by rfl)
          case oG6 => intro ev wo hev hC hs hph; have x0 := se hA hs 9; have y := sd hs 57 4; exact ob_gv _ rfl rfl y rfl (by kernel_rfl) hC (TSp.of rfl (Grows.refl _)) (fun hq => by simp [go_sem, x0, jj0, jj1, kk0, hjn] <;> rfl) (by rfl)
          case oG7 =>
            intro ev wo hev hC hs hph
            have e58 := sd hs 58 5
            have e59 := sd hs 59 6
            have e57 := sd hs 57 4
            have Kx := (hC.cell (p := ax.add j) (by rw [block_of_add]; exact Nat.lt_of_lt_of_le haxl HBx.size)).trans ((HBx.cell (p := ax.add j) (by rw [block_of_add]; exact haxl)).trans kx)
            have Ky := fun h : k < Y.length => (hC.cell (p := A0.add k) (by rw [block_of_add]; exact Nat.lt_of_lt_of_le (hA0 h).2.1 HBx.size)).trans ((HBx.cell (p := A0.add k) (by rw [block_of_add]; exact (hA0 h).2.1)).trans (hA0 h).2.2)
            have kk1 := fun h : decide (k < Y.length) = true => (by simpa using h : k < Y.length)
            exact ob_gv _ rfl rfl e57 rfl (by kernel_rfl) hC (TSp.of rfl (Grows.refl _)) (fun hq => by simp [go_sem, (e58.trans (gw_t (beq_t hq))), (e59.trans (gw_t (beq_t hq))), e57, (hA0 (kk1 hq)).1, (by have := kk1 hq; omega : (k : Int) < (Y.length : Int)), kk1 hq, jj0, jj1, kk0, hjn]; try first | exact ⟨rfl, rfl⟩ | rfl) (by rfl)
          case oG8 =>
            intro ev wo hev hC hs hph
            have e60 := sd hs 60 7
            have e57 := sd hs 57 4
            have Kx := (hC.cell (p := ax.add j) (by rw [block_of_add]; exact Nat.lt_of_lt_of_le haxl HBx.size)).trans ((HBx.cell (p := ax.add j) (by rw [block_of_add]; exact haxl)).trans kx)
            have Ky := fun h : k < Y.length => (hC.cell (p := A0.add k) (by rw [block_of_add]; exact Nat.lt_of_lt_of_le (hA0 h).2.1 HBx.size)).trans ((HBx.cell (p := A0.add k) (by rw [block_of_add]; exact (hA0 h).2.1)).trans (hA0 h).2.2)
            have kk1 := fun h : decide (k < Y.length) = true => (by simpa using h : k < Y.length)
            exact ob_gv _ rfl rfl e57 rfl (by kernel_rfl) hC (TSp.of rfl (Grows.refl _)) (fun hq => by simp [go_sem, (e60.trans (gw_t (beq_t hq))), e57, Kx, jj0, jj1, Ky (kk1 hq), jj0, jj1, kk0, hjn]; try first | exact ⟨rfl, rfl⟩ | rfl) (by rfl)
          case oG9 => intro ev wo hev hC hs hph; have x0 := se hA hs 7; have y := sd hs 57 4; exact ob_gv _ rfl rfl y rfl (by kernel_rfl) hC (TSp.of rfl (Grows.refl _)) (fun hq => by simp [go_sem, x0, jj0, jj1, kk0, hjn] <;> rfl) (by rfl)
          case oG10 => intro ev wo hev hC hs hph; have x0 := se hA hs 10; have y := sd hs 57 4; exact ob_gv _ rfl rfl y rfl (by kernel_rfl) hC (TSp.of rfl (Grows.refl _)) (fun hq => by simp [go_sem, x0, jj0, jj1, kk0, hjn] <;> rfl) (by rfl)
          case oG11 => intro ev wo hev hC hs hph; have x0 := sd hs 62 9; have x1 := sd hs 63 10; have y := sd hs 57 4; exact ob_gv _ rfl rfl y rfl (by kernel_rfl) hC (TSp.of rfl (Grows.refl _)) (fun hq => by simp [go_sem, (x0.trans (gw_t (beq_t hq))), (x1.trans (gw_t (beq_t hq))), jj0, jj1, kk0, hjn] <;> rfl) (by rfl)
          case oG12 => intro ev wo hev hC hs hph; have x0 := sd hs 64 11; have y := sd hs 57 4; exact ob_gv _ rfl rfl y rfl (by kernel_rfl) hC (TSp.of rfl (Grows.refl _)) (fun hq => by simp [go_sem, (x0.trans (gw_t (beq_t hq))), pG _ hC, jj0, jj1, jj0, jj1, kk0, hjn] <;> rfl) (by rfl)
          case oG13 => intro ev wo hev hC hs hph; have x0 := sd hs 61 8; have x1 := sd hs 65 12; have y := sd hs 57 4; exact ob_gv _ rfl rfl y rfl (by kernel_rfl) hC (TSp.of rfl (Grows.refl _)) (fun hq => by simp [go_sem, (x0.trans (gw_t (beq_t hq))), (x1.trans (gw_t (beq_t hq))), jj0, jj1, kk0, hjn] <;> rfl) (by rfl)
          case oG14 => intro ev wo hev hC hs hph; have x0 := sd hs 57 4; have x1 := sd hs 66 13; exact od rfl rfl (by kernel_rfl) hC (TSp.of rfl (Grows.refl _)) (by rw [pick_and rfl x0 x1 (hev.const _)] <;> rfl)
          intro sg wf hC hph
          intro a hA
          replace hA := hA.keepN [7, 8, 9, 49, 50, 67]
          refine nT ?_
          refine wp_if hA 67 _ rfl (fun hq3 => ?yD) (fun hq3 => ?nD)
          case yD =>
            have h3 := Bool.and_eq_true_iff.1 hq3
            have hkl : k < Y.length := by simpa using h3.1
            have hyk : Y[k]? = some v := by
              have h4 := h3.2
              rw [List.getElem?_eq_getElem hkl] at h4 ⊢
              have h5 : Y[k] = v := by simp at h4; omega
              rw [h5]
            have hQv : Q v = true := by
              cases hqv : Q v with
              | true => rfl
              | false => exact absurd hyk (hst.2 hqv).1
            refine wR ?_
            revert a; (iterate 3 refine wo rfl rfl (by decide) (fun ev e h => by simp [go_sem, h, i3, i4] <;> rfl) ?_); intro a hA
            replace hA := hA.keepN [7, 8, 9, 49, 50]
            refine wN (nB (nT (wR ?_)))
            revert a; (iterate 2 refine wo rfl rfl (by decide) (fun ev e h => by simp [go_sem, h, i3, i4] <;> rfl) ?_); intro a hA
            replace hA := hA.keepN [7, 8, 9, 49, 50]
            refine wN (nT ?_)
            exact ⟨f - 1, by omega, j + 1, k + 1, by omega, by omega, (hst.1 hQv).2, HBx.trans (hC.mono HBx.size), hA⟩
          case nD =>
            have hQv : Q v = false := by
              cases hqv : Q v with
              | false => rfl
              | true =>
                have h1 := (hst.1 hqv).1
                have h2 := (List.getElem?_eq_some_iff.1 h1).1
                rw [h1] at hq3
                simp [h2] at hq3
            refine wp_skip (nB (nT (wR ?_)))
            revert a; (iterate 2 refine wo rfl rfl (by decide) (fun ev e h => by simp [go_sem, h, i3] <;> rfl) ?_); intro a hA
            replace hA := hA.keepN [7, 8, 9, 49, 50]
            refine wN (nT ?_)
            exact ⟨f - 1, by omega, j + 1, k, by omega, by omega, (hst.2 hQv).2, HBx.trans (hC.mono HBx.size), hA⟩
end Go.Proofs.YtjhaccmcjlbllaaGreatDoor
/-
  Walk: of any mailbox just those are found, for any keys, that are so.
-/
namespace Go.Proofs.YtjhaccmcjlbllaaGreatDoor
open Go.RowKit
set_option linter.unusedSimpArgs false
set_option linter.unusedVariables false
set_option linter.unusedSimpArgs false
set_option linter.unusedVariables false
theorem read_keys {L : List KeyV} {ts : List TokI} (hL : L ≠ []) (hf : ∀ x ∈ L, KeyFits 10 x) (h : allK (toksK 10) L = some ts) : readP ts = some (.both (L.map (keyOf 10))) := by
  have := both_keys (z := []) (.inl rfl) hL (fun x hx a ha => key_toks 10 x a (hf x hx) ha) h
  rw [List.append_nil] at this
  unfold readP
  rw [this]
theorem range_at {N n : Nat} (h : n < N) : (List.range N)[n]? = some n := by
  rw [List.getElem?_eq_getElem (by rw [List.length_range]; exact h), List.getElem_range]
theorem so_both (ks : List KeyA) (ms : List MsgV) (n : Nat) (m : MsgV) (h : ms[n]? = some m) : isSo (.both ks) ms n = evalL ks (seesM ms n m) := by
  unfold isSo
  rw [h]
  show evalK _ _ = _
  rw [evalK]
set_option maxRecDepth 100000 in
set_option maxHeartbeats 16000000 in
theorem finds_law (nm : ByteArray) (e nx : Nat) (A : Option Addr) (c : Nat) (l : List MsgV) (A2 : Option Addr) (c2 : Nat) (L : List KeyV) (w : World) (hw : Fine w)
    (hs : nm.size ≤ 140737488355328) (hn : l.length ≤ 140737488355328) (hsz : ∀ m ∈ l, m.b.length ≤ 140737488355328) (hms : Msgs w A l.length l) (hr : RowR keySh w A2 L) (hf : ∀ x ∈ L, KeyFits 10 x) (hk : ∀ x ∈ L, KeyMem w 10 x) (hLl : L.length ≤ 140737488355328) :
    Calls Tryz.prog 4 #[.agg (boxC nm e nx A l.length c), .slice A2 L.length c2] w fun ev w' => ev = .returned (.bool true) ∧ Below w.heap.size w w' := by
  have HB := Below.refl w.heap.size w
  obtain ⟨q, hq0⟩ : ∃ q, L.length = q := ⟨_, rfl⟩
  rw [hq0] at hLl
  rw [hq0]
  refine calls_at 105 Tryz.func4 rfl rfl (Nat.le_of_ble_eq_true rfl) ?_
  intro a hA; replace hA := hA.norm
  refine wS (wR ?_)
  refine wl_new hA rfl rfl (by decide) (fun ev h => by simp [go_sem, h.get 0 rfl]; try first | exact ⟨rfl, rfl⟩ | rfl) fun w1 a (K1 : Blk _ _ _ _) hz1 hb1 hA => ?_
  replace HB := HB.trans (hb1.mono HB.size)
  unfold boxC at K1
  revert a; refine wo rfl rfl (by decide) (fun ev e h => by simp [go_sem, h] <;> rfl) ?_; intro a hA
  replace hA := hA.keepN [1, 2]
  refine wN (nT (wS (wS (wR ?_))))
  refine wl_call hA rfl rfl (by decide) (fun ev h => exec_call Tryz.func19 (by kernel_rfl) rfl (h.f _) (by first | (simp only [mL, h.c] <;> rfl) | (simp [mL, h.c] <;> rfl))) (awake17_any _ (hw.below HB)) ?_
  rintro e w2 ⟨rfl, hb2⟩
  refine ⟨_, rfl, fun a hA => ?_⟩
  replace K1 := K1.below hb2 K1.lt
  replace HB := HB.trans (hb2.mono HB.size)
  revert a; (iterate 2 refine wo rfl rfl (by decide) (fun ev e h => by simp [go_sem, h, K1.cell] <;> rfl) ?_); refine wg _ rfl rfl rfl rfl (by decide) (fun hq ev e h => by simp [go_sem, h, ↓gw_t (beq_t hq), K1.cell] <;> rfl) ?_; intro a hA
  refine wl_gcallv _ hA rfl rfl rfl rfl (by decide) (fun hq ev h => exec_call Tryz.func20 (by kernel_rfl) rfl (h.f _) (by first | (simp only [mL, ((h.get 17 rfl).trans (gw_t (beq_t hq))), h.c] <;> rfl) | (simp [mL, ((h.get 17 rfl).trans (gw_t (beq_t hq))), h.c, K1.cell] <;> rfl))) (fun hq => few_any nm e nx A l.length c l _ hs hn hsz (hms.below HB)) fun a w3 hb3 hA => ?_
  replace K1 := K1.below hb3 K1.lt
  replace HB := HB.trans (hb3.mono HB.size)
  obtain ⟨fw, hfw⟩ : ∃ f, fewS nm.size l = f := ⟨_, rfl⟩
  rw [hfw] at hA
  revert a; refine wg _ rfl rfl rfl rfl (by decide) (fun hq ev e h => by simp [go_sem, h, ↓gw_t (beq_t hq), K1.cell] <;> rfl) ?_; refine wko rfl rfl (by decide) rfl rfl rfl ?_; refine wo rfl rfl (by decide) (fun ev e h => by simp [go_sem, h, K1.cell] <;> rfl) ?_; refine wg _ rfl rfl rfl rfl (by decide) (fun hq ev e h => by simp [go_sem, h, ↓gw_t (beq_t hq), K1.cell] <;> rfl) ?_; intro a hA
  refine wl_gcallv _ hA rfl rfl rfl rfl (by decide) (fun hq ev h => exec_call Tryz.func21 (by kernel_rfl) rfl (h.f _) (by first | (simp only [mL, ((h.get 22 rfl).trans (gw_t (beq_t hq))), h.c] <;> rfl) | (simp [mL, ((h.get 22 rfl).trans (gw_t (beq_t hq))), h.c, K1.cell] <;> rfl))) (fun hq => refRight_any nm A c l.length e nx l _ (by omega) (by omega) (hms.below HB)) fun a w4 hb4 hA => ?_
  replace K1 := K1.below hb4 K1.lt
  replace HB := HB.trans (hb4.mono HB.size)
  obtain ⟨br, hbr⟩ : ∃ f, boxRight nm e nx l = f := ⟨_, rfl⟩
  rw [hbr] at hA
  revert a; refine wg _ rfl rfl rfl rfl (by decide) (fun hq ev e h => by simp [go_sem, h, ↓gw_t (beq_t hq), K1.cell] <;> rfl) ?_; refine wko rfl rfl (by decide) rfl rfl rfl ?_; refine wo rfl rfl (by decide) (fun ev e h => by simp [go_sem, h, K1.cell] <;> rfl) ?_; intro a hA
  replace hA := hA.keepN [1, 2, 26]
  revert a; (iterate 3 refine wg _ rfl rfl rfl rfl (by decide) (fun hq ev e h => by simp [go_sem, h, ↓gw_t (beq_t hq), K1.cell] <;> rfl) ?_); refine wko rfl rfl (by decide) rfl rfl rfl ?_; refine wo rfl rfl (by decide) (fun ev e h => by simp [go_sem, h, K1.cell] <;> rfl) ?_; (iterate 3 refine wg _ rfl rfl rfl rfl (by decide) (fun hq ev e h => by simp [go_sem, h, ↓gw_t (beq_t hq), K1.cell] <;> rfl) ?_); refine wko rfl rfl (by decide) rfl rfl rfl ?_; intro a hA
  replace hA := hA.keepN [1, 2, 35]
  refine wN (nT ?_)
  refine wp_if hA 35 _ rfl (fun hq => ?yA) (fun hq => ?nA)
  case yA =>
    refine wS (wR ?_)
    refine wl_call hA rfl rfl (by decide) (fun ev h => exec_call Tryz.func19 (by kernel_rfl) rfl (h.f _) (by first | (simp only [mL, h.c] <;> rfl) | (simp [mL, h.c, K1.cell] <;> rfl))) (awake17_any _ (hw.below HB)) ?_
    rintro e w5 ⟨rfl, hb5⟩
    refine ⟨_, rfl, fun a hA => ?_⟩
    revert a; refine wo rfl rfl (by decide) (fun ev e h => by simp [go_sem, h, K1.cell] <;> rfl) ?_; intro a hA
    replace hA := hA.keepN [4]
    refine wN (nT (wp_ret (rT ?_)))
    refine ret_1 hA 4 rfl rfl ?_
    exact ⟨rfl, HB.trans (hb5.mono HB.size)⟩
  case nA =>
    have hft : fw = true := by cases fw <;> simp at hq <;> simp_all
    have hlen : 1 ≤ q ∧ q ≤ 6 := by simp at hq; omega
    rw [hft] at hfw
    have hbig := fewS_true hfw
    have hoct : ∀ m ∈ l, m.b.length ≤ 1048576 := fun m hm => by have := sum_part m hm; omega
    clear hq
    have hLne : L ≠ [] := fun e => by rw [e] at hq0; simp at hq0; omega
    have tenw : IntKind.i64.wrap 10 = 10 := rfl
    refine wp_skip (nT (wS (wR ?_)))
    revert a; refine wo rfl rfl (by decide) (fun ev e h => by simp [go_sem, h, K1.cell] <;> rfl) ?_; intro a hA
    replace hA := hA.keepN [1, 2, 5]
    refine wN (nT (wS (wS (wR ?_))))
    revert a; (iterate 3 refine wo rfl rfl (by decide) (fun ev e h => by simp [go_sem, h, K1.cell] <;> rfl) ?_); intro a hA
    replace hA := hA.keepN [1, 2, 5, 38, 39]
    refine wN (nT (wB ?_))
    refine wp_loop_at (fun f a wx => ∃ (j : Nat) (V : Value) (ts : List TokI), j + f = q ∧ allK (toksK 10) (L.take j) = some ts ∧ OwnR tokISh w4.heap.size wx V ts ∧ Below w4.heap.size w4 wx ∧ At 105 [(1, .slice A2 q c2), (2, .pointer (some ⟨w.heap.size, 0, none⟩)), (5, V), (38, .int .i64 (q : Nat)), (39, .int .i64 (j : Nat))] a) (q) ?_ ?_
    · exact ⟨0, _, [], by omega, rfl, OwnR.nil _ _, Below.refl _ _, hA⟩
    clear hA
    rintro f a wx ⟨j, V, ts, hjf, hts, ho, HX, hA⟩
    have HW := HB.trans (HX.mono HB.size)
    have K1x := K1.below HX K1.lt
    have htl := all_most (L.take j) ts (m := mostT 10) (fun x hx a ha => (toks_most 10 x a (hf x (List.mem_of_mem_take hx)) ha).1) hts
    have hm10 := most_10 (e := 10) (by omega)
    have hmul : mostT 10 * (L.take j).length ≤ 4882812 * 6 := Nat.mul_le_mul hm10 (by rw [List.length_take]; omega)
    have jw : IntKind.i64.wrap ((j : Int) + 1) = ((j + 1 : Nat) : Int) := IntWalk.i64_in _ (by omega)
    refine wS (wR ?_)
    revert a; refine wo rfl rfl (by decide) (fun ev e h => by simp [go_sem, h] <;> rfl) ?_; intro a hA
    replace hA := hA.keepN [1, 2, 5, 38, 39, 40]
    refine wN (nT (wS ?_))
    refine wp_if hA 40 _ rfl (fun hq1 => ?yB) (fun hq1 => ?nB)
    case yB =>
      have hjq : j < q := by simp at hq1; omega
      have jj0 : (0 : Int) ≤ (j : Int) := by omega
      have jj1 : (j : Int) < (q : Int) := by omega
      obtain ⟨x, hx⟩ : ∃ x, L[j]? = some x := ⟨_, List.getElem?_eq_getElem (by omega)⟩
      have hxm := List.mem_of_getElem? hx
      obtain ⟨ad, rfl, hadb, hc0, hc1⟩ := (hr.below HW).cell hx
      have z0 : wx.cell? (ad.add (j * 6)) = some (.int .u8 (x.kind : Nat)) := hc0 _ rfl
      have z1 : wx.cell? ⟨(ad.add (j * 6)).block, (ad.add (j * 6)).off + 1, none⟩ = some (.string (St x.word)) := hc1 1 _ (by decide) rfl
      have z2 : wx.cell? ⟨(ad.add (j * 6)).block, (ad.add (j * 6)).off + 2, none⟩ = some (.int .u16 (x.n : Nat)) := hc1 2 _ (by decide) rfl
      have z3 : wx.cell? ⟨(ad.add (j * 6)).block, (ad.add (j * 6)).off + 3, none⟩ = some (.int .u32 (x.fr : Nat)) := hc1 3 _ (by decide) rfl
      have z4 : wx.cell? ⟨(ad.add (j * 6)).block, (ad.add (j * 6)).off + 4, none⟩ = some (.int .u32 (x.up : Nat)) := hc1 4 _ (by decide) rfl
      have z5 : wx.cell? ⟨(ad.add (j * 6)).block, (ad.add (j * 6)).off + 5, none⟩ = some (.slice x.A x.len x.c) := hc1 5 _ (by decide) rfl
      have hct : Calls Tryz.prog 22 #[.agg #[.int .u8 (x.kind : Nat), .string (St x.word), .int .u16 (x.n : Nat), .int .u32 (x.fr : Nat), .int .u32 (x.up : Nat), .slice x.A x.len x.c], .int .i64 10] wx _ := tokens_any 10 (by omega) x wx (hf x hxm) ((hk x hxm).below HW)
      refine wp_skip (nT (wS (wB (wS (wR ?_)))))
      revert a; (iterate 2 refine wo rfl rfl (by decide) (fun ev e h => by simp [go_sem, h, z0, z1, z2, z3, z4, z5, jj0, jj1, hjq] <;> rfl) ?_); intro a hA
      replace hA := hA.keepN [1, 2, 5, 6, 38, 39]
      refine wN (nT (wS (wR ?_)))
      revert a; (iterate 4 refine wo rfl rfl (by decide) (fun ev e h => by simp [go_sem, h, z0, z1, z2, z3, z4, z5, jj0, jj1, hjq] <;> rfl) ?_); intro a hA
      refine wl_call hA rfl rfl (by decide) (fun ev h => exec_call Tryz.func22 (by kernel_rfl) rfl (h.f _) (by first | (simp only [mL, h.get 46 rfl, h.c] <;> rfl) | (simp [mL, h.get 46 rfl, h.c, z0, z1, z2, z3, z4, z5, jj0, jj1, hjq] <;> rfl))) (hct) ?_
      rintro e w5 ⟨V2, ok, rfl, hok, hts2, hb5⟩
      refine ⟨_, rfl, fun a hA => ?_⟩
      replace ho := ho.below hb5
      replace HX := HX.trans (hb5.mono HX.size)
      replace HW := HW.trans (hb5.mono HW.size)
      revert a; (iterate 5 refine wo rfl rfl (by decide) (fun ev e h => by simp [go_sem, h, z0, z1, z2, z3, z4, z5, jj0, jj1, hjq] <;> rfl) ?_); intro a hA
      replace hA := hA.keepN [1, 2, 5, 7, 8, 38, 39]
      refine wN (nT (wS (wS (wR ?_))))
      revert a; (iterate 2 refine wo rfl rfl (by decide) (fun ev e h => by simp [go_sem, h, z0, z1, z2, z3, z4, z5, jj0, jj1, hjq] <;> rfl) ?_); intro a hA
      replace hA := hA.keepN [1, 2, 5, 7, 38, 39, 51]
      refine wN (nT ?_)
      refine wp_if hA 51 _ rfl (fun hq2 => ?yC) (fun hq2 => ?nC)
      case yC =>
        refine wS (wR ?_)
        revert a; refine wo rfl rfl (by decide) (fun ev e h => by simp [go_sem, h, z0, z1, z2, z3, z4, z5, jj0, jj1, hjq] <;> rfl) ?_; intro a hA
        replace hA := hA.keepN [4]
        refine wN (nT (wp_ret (rT (rB (rT (rT (rB (rT ?_))))))))
        refine ret_1 hA 4 rfl rfl ?_
        exact ⟨rfl, HW⟩
      case nC =>
        have hok2 : ok = true := by simpa using hq2
        obtain ⟨t2, ht2⟩ : ∃ t2, toksK 10 x = some t2 := by
          rw [hok2] at hok
          cases hh : toksK 10 x with
          | none => rw [hh] at hok; cases hok
          | some t => exact ⟨t, rfl⟩
        obtain ⟨A3, c3, rfl, hr3⟩ := hts2 t2 ht2
        have h2l := (toks_most 10 x t2 (hf x hxm) ht2).1
        obtain ⟨r6, w6, hrun, ho6, hg6, -⟩ := run_appR (s := tokISh) (c := c3) ho hr3 (fun _ _ m _ p hp => (by cases hp)) (by omega) HX.size
        refine wp_skip (nT (wR ?_))
        revert a; (iterate 2 refine wo rfl rfl (by decide) (fun ev e h => by simp [go_sem, h, z0, z1, z2, z3, z4, z5, jj0, jj1, hjq] <;> rfl) ?_); intro a hA
        refine wl_op hA rfl rfl (by decide) (fun ev h => exec_append rfl (h.get 52 rfl) (h.get 53 rfl) hrun) fun a hA => ?_
        have HX6 := below_appR HX ho hg6 (Nat.le_refl _) HX.size
        revert a; refine wo rfl rfl (by decide) (fun ev e h => by simp [go_sem, h, jw] <;> rfl) ?_; intro a hA
        replace hA := hA.keepN [1, 2, 5, 38, 39]
        refine wN (nB (nT (wR ?_)))
        revert a; (iterate 2 refine wo rfl rfl (by decide) (fun ev e h => by simp [go_sem, h, jw] <;> rfl) ?_); intro a hA
        replace hA := hA.keepN [1, 2, 5, 38, 39]
        refine wN (nT ?_)
        exact ⟨f - 1, by omega, j + 1, _, ts ++ t2, by omega, all_take hx hts ht2, ho6, HX6, hA⟩
    case nB =>
      have hjq : j = q := by simp at hq1; omega
      rw [hjq, ← hq0, List.take_length] at hts
      rw [hjq, ← hq0, List.take_length] at htl
      rw [hjq, ← hq0, List.take_length] at hmul
      obtain ⟨A5, c5, rfl, hr5, -⟩ := ho.reads
      have htok : ∀ t ∈ ts, t.t.length ≤ 1048576 := fun t ht => by
        have := all_mem (P := fun t => t.t.length ≤ 100) L ts (fun x hx a ha => (toks_most 10 x a (hf x hx) ha).2) hts t ht
        omega
      have hread := read_keys hLne hf hts
      replace hA := hA.keepN [1, 2, 5]
      refine wp_exit (xT (xT (xB (nT (wS (wR ?_))))))
      revert a; (iterate 2 refine wo rfl rfl (by decide) (fun ev e h => by simp [go_sem, h, K1x.cell] <;> rfl) ?_); intro a hA
      refine wl_call hA rfl rfl (by decide) (fun ev h => exec_call Tryz.func23 (by kernel_rfl) rfl (h.f _) (by first | (simp only [mL, h.get 56 rfl, h.get 57 rfl, h.c] <;> rfl) | (simp [mL, h.get 56 rfl, h.get 57 rfl, h.c, K1x.cell] <;> rfl))) (find_any nm e nx A c l A5 c5 ts _ (hms.below HW) (by omega) hoct hr5 (hw.below HW) (by omega) htok) ?_
      rintro e w6 ⟨x, rfl, hx, hb6⟩
      refine ⟨_, rfl, fun a hA => ?_⟩
      have HW6 := HW.trans (hb6.mono HW.size)
      have K16 := K1x.below hb6 K1x.lt
      replace hr5 := hr5.below hb6
      obtain ⟨X, hX⟩ : ∃ X, findS (readP ts) l = X := ⟨_, rfl⟩
      rw [hX] at hx
      have hXf : X = (List.range l.length).filter (isSo (.both (L.map (keyOf 10))) l) := by rw [← hX, hread]; rfl
      have hXl : X.length ≤ 60000 := by rw [← hX]; exact Nat.le_trans (findS_len _ _) (by omega)
      obtain ⟨Ax, cx, rfl, hrx, -⟩ := hx.reads
      obtain ⟨N, hN⟩ : ∃ N, l.length = N := ⟨_, rfl⟩
      rw [hN] at hXf K16
      revert a; refine wo rfl rfl (by decide) (fun ev e h => by simp [go_sem, h, K16.cell] <;> rfl) ?_; intro a hA
      replace hA := hA.keepN [1, 2, 5, 9]
      refine wN (nT (wS (wR ?_)))
      revert a; refine wo rfl rfl (by decide) (fun ev e h => by simp [go_sem, h, K16.cell] <;> rfl) ?_; intro a hA
      replace hA := hA.keepN [1, 2, 5, 9, 10]
      refine wN (nT (wS (wS (wR ?_))))
      revert a; (iterate 4 refine wo rfl rfl (by decide) (fun ev e h => by simp [go_sem, h, K16.cell] <;> rfl) ?_); intro a hA
      replace hA := hA.keepN [1, 2, 5, 9, 10, 61, 62]
      refine wN (nT (wB ?_))
      refine wp_loop_at (fun f a wy => ∃ (n k : Nat), n + f = N ∧ k ≤ X.length ∧ X.drop k = ((List.range N).drop n).filter (isSo (.both (L.map (keyOf 10))) l) ∧ Below w6.heap.size w6 wy ∧ At 105 [(1, .slice A2 q c2), (2, .pointer (some ⟨w.heap.size, 0, none⟩)), (5, .slice A5 ts.length c5), (9, .slice Ax X.length cx), (10, .int .i64 (k : Nat)), (61, .int .i64 (N : Nat)), (62, .int .i64 (n : Nat))] a) (N) ?_ ?_
      · exact ⟨0, 0, by omega, Nat.zero_le _, by rw [List.drop_zero, List.drop_zero]; exact hXf, Below.refl _ _, hA⟩
      clear hA
      rintro f a wy ⟨n, k, hnf, hkX, hdr, HY, hA⟩
      have HWy := HW6.trans (HY.mono HW6.size)
      have K1y := K16.below HY K16.lt
      have nw : IntKind.i64.wrap ((n : Int) + 1) = ((n + 1 : Nat) : Int) := IntWalk.i64_in _ (by omega)
      have kw : IntKind.i64.wrap ((k : Int) + 1) = ((k + 1 : Nat) : Int) := IntWalk.i64_in _ (by omega)
      refine wS (wR ?_)
      revert a; refine wo rfl rfl (by decide) (fun ev e h => by simp [go_sem, h] <;> rfl) ?_; intro a hA
      replace hA := hA.keepN [1, 2, 5, 9, 10, 61, 62, 63]
      refine wN (nT (wS ?_))
      refine wp_if hA 63 _ rfl (fun hq3 => ?yD) (fun hq3 => ?nD)
      case nD =>
        have hnN : n = N := by simp at hq3; omega
        have hke : k = X.length := none_end (x := List.range N) (by rw [List.length_range]; rw [hnN] at hdr; exact hdr) hkX
        replace hA := hA.keepN [5, 9, 10]
        refine wp_exit (xT (xT (xB (nT (wS (wR ?_))))))
        revert a; refine wo rfl rfl (by decide) (fun ev e h => by simp [go_sem, h] <;> rfl) ?_; intro a hA
        refine wl_call hA rfl rfl (by decide) (fun ev h => exec_call Tryz.func25 (by kernel_rfl) rfl (h.f _) (by first | (simp only [mL, h.get 97 rfl, h.c] <;> rfl) | (simp [mL, h.get 97 rfl, h.c] <;> rfl))) (right_any A5 c5 ts _ (hr5.below HY) (hw.below HWy) (by omega) htok) ?_
        rintro e w7 ⟨rfl, hb7⟩
        refine ⟨_, rfl, fun a hA => ?_⟩
        rw [hread] at hA
        revert a; refine wo rfl rfl (by decide) (fun ev e h => by simp [go_sem, h] <;> rfl) ?_; (iterate 4 refine wg _ rfl rfl rfl rfl (by decide) (fun hq ev e h => by simp [go_sem, h, ↓gw_t (beq_t hq)] <;> rfl) ?_); refine wka rfl rfl (by decide) rfl rfl rfl ?_; refine wo rfl rfl (by decide) (fun ev e h => by simp [go_sem, h] <;> rfl) ?_; intro a hA
        replace hA := hA.keepN [4]
        refine wN (nT (wp_ret ?_))
        refine ret_1 hA 4 rfl rfl ?_
        exact ⟨ret_bool (by rw [hke]; simp), HWy.trans (hb7.mono HWy.size)⟩
      case yD =>
        have hnN : n < N := by simp at hq3; omega
        obtain ⟨m, hm⟩ : ∃ m, l[n]? = some m := ⟨_, List.getElem?_eq_getElem (by omega)⟩
        have hstep := none_step hdr (range_at hnN)
        rw [so_both _ _ _ _ hm] at hstep
        refine wp_skip (nT (wS (wB (wS (wR ?_)))))
        revert a; (iterate 2 refine wo rfl rfl (by decide) (fun ev e h => by simp [go_sem, h] <;> rfl) ?_); intro a hA
        replace hA := hA.keepN [1, 2, 5, 9, 10, 11, 61, 62]
        refine wN (nT (wS (wR ?_)))
        revert a; refine wo rfl rfl (by decide) (fun ev e h => by simp [go_sem, h] <;> rfl) ?_; intro a hA
        replace hA := hA.keepN [1, 2, 5, 9, 10, 11, 12, 61, 62]
        refine wN (nT (wS (wS (wR ?_))))
        revert a; (iterate 3 refine wo rfl rfl (by decide) (fun ev e h => by simp [go_sem, h] <;> rfl) ?_); intro a hA
        replace hA := hA.keepN [1, 2, 5, 9, 10, 11, 12, 61, 62, 66, 67]
        refine wN (nT (wB ?_))
        refine wp_loop_at (fun g a wz => ∃ (j : Nat), j + g = q ∧ Below wy.heap.size wy wz ∧ At 105 [(1, .slice A2 q c2), (2, .pointer (some ⟨w.heap.size, 0, none⟩)), (5, .slice A5 ts.length c5), (9, .slice Ax X.length cx), (10, .int .i64 (k : Nat)), (11, .int .i64 (n : Nat)), (12, .bool (evalL ((L.take j).map (keyOf 10)) (seesM l n m))), (61, .int .i64 (N : Nat)), (62, .int .i64 (n : Nat)), (66, .int .i64 (q : Nat)), (67, .int .i64 (j : Nat))] a) (q) ?_ ?_
        · refine ⟨0, by omega, Below.refl _ _, ?_⟩
          rw [List.take_zero, List.map_nil, evalL_nil]
          exact hA
        clear hA
        rintro g a wz ⟨j, hjg, HZ, hA⟩
        have HWz := HWy.trans (HZ.mono HWy.size)
        have K1z := K1y.below HZ K1y.lt
        have jw2 : IntKind.i64.wrap ((j : Int) + 1) = ((j + 1 : Nat) : Int) := IntWalk.i64_in _ (by omega)
        refine wS (wR ?_)
        revert a; refine wo rfl rfl (by decide) (fun ev e h => by simp [go_sem, h] <;> rfl) ?_; intro a hA
        replace hA := hA.keepN [1, 2, 5, 9, 10, 11, 12, 61, 62, 66, 67, 68]
        refine wN (nT (wS ?_))
        refine wp_if hA 68 _ rfl (fun hq4 => ?yE) (fun hq4 => ?nE)
        case yE =>
          have hjq2 : j < q := by simp at hq4; omega
          have jj0 : (0 : Int) ≤ (j : Int) := by omega
          have jj1 : (j : Int) < (q : Int) := by omega
          obtain ⟨x, hx⟩ : ∃ x, L[j]? = some x := ⟨_, List.getElem?_eq_getElem (by omega)⟩
          have hxm := List.mem_of_getElem? hx
          have htx : (toksK 10 x).isSome = true := all_some hxm (by rw [hts]; rfl)
          obtain ⟨ex, hex⟩ : ∃ b, evalK (keyOf 10 x) (seesM l n m) = b := ⟨_, rfl⟩
          have hat : ∀ (wo : World), Below w.heap.size w wo → Calls Tryz.prog 24 #[.agg #[.string nm, .int .u32 (e : Nat), .int .u32 (nx : Nat), .slice A N c], .int .i64 (n : Nat), .agg #[.int .u8 (x.kind : Nat), .string (St x.word), .int .u16 (x.n : Nat), .int .u32 (x.fr : Nat), .int .u32 (x.up : Nat), .slice x.A x.len x.c]] wo fun ev w' => ev = .returned (.bool ex) ∧ Below wo.heap.size wo w' := fun wo hb => by
            have h := is_any 10 (by omega) x nm e nx A c l n m wo (hms.below hb) hm (by omega) (hoct m (List.mem_of_getElem? hm)) (hf x hxm) ((hk x hxm).below hb) htx
            rw [hN, hex] at h
            exact h
          have htake : evalL ((L.take (j + 1)).map (keyOf 10)) (seesM l n m) = (evalL ((L.take j).map (keyOf 10)) (seesM l n m) && ex) := by
            rw [List.take_add_one, hx]
            show evalL (List.map _ (_ ++ [x])) _ = _
            rw [List.map_append, evalL_app, List.map_cons, List.map_nil, evalL_cons, evalL_nil, hex, Bool.and_true]
          obtain ⟨so, hso⟩ : ∃ b, evalL ((L.take j).map (keyOf 10)) (seesM l n m) = b := ⟨_, rfl⟩
          rw [hso] at htake hA
          obtain ⟨ag, hA2, hagb, -⟩ := (hr.below HWz).cell hx
          have hcell : ∀ (wo : World), Below w.heap.size w wo → wo.cell? (ag.add (j * 6)) = some (.int .u8 (x.kind : Nat)) ∧ wo.cell? ⟨(ag.add (j * 6)).block, (ag.add (j * 6)).off + 1, none⟩ = some (.string (St x.word)) ∧ wo.cell? ⟨(ag.add (j * 6)).block, (ag.add (j * 6)).off + 2, none⟩ = some (.int .u16 (x.n : Nat)) ∧ wo.cell? ⟨(ag.add (j * 6)).block, (ag.add (j * 6)).off + 3, none⟩ = some (.int .u32 (x.fr : Nat)) ∧ wo.cell? ⟨(ag.add (j * 6)).block, (ag.add (j * 6)).off + 4, none⟩ = some (.int .u32 (x.up : Nat)) ∧ wo.cell? ⟨(ag.add (j * 6)).block, (ag.add (j * 6)).off + 5, none⟩ = some (.slice x.A x.len x.c) := fun wo hb => by
            obtain ⟨ag', e9, -, hc0, hc1⟩ := (hr.below hb).cell hx
            have : ag = ag' := Option.some.inj (hA2.symm.trans e9)
            subst this
            exact ⟨hc0 _ rfl, hc1 1 _ (by decide) rfl, hc1 2 _ (by decide) rfl, hc1 3 _ (by decide) rfl, hc1 4 _ (by decide) rfl, hc1 5 _ (by decide) rfl⟩
          refine wp_skip (nT (wS (wB (wS (wR ?_)))))
          revert a; (iterate 2 refine wo rfl rfl (by decide) (fun ev e h => by simp [go_sem, h] <;> rfl) ?_); intro a hA
          replace hA := hA.keepN [1, 2, 5, 9, 10, 11, 12, 13, 61, 62, 66, 67]
          have pR21 := fun (wo : World) (hC : (fun wo => Below wz.heap.size wz wo) wo) => have HBo := HWz.trans (hC.mono HWz.size); have Kx := K1z.below hC K1z.lt; have zc := hcell wo HBo; And.intro (Kx.cell) (And.intro (zc.1) (And.intro (zc.2.1) (And.intro (zc.2.2.1) (And.intro (zc.2.2.2.1) (And.intro (zc.2.2.2.2.1) (zc.2.2.2.2.2))))))
          refine wN (nT ?_)
          refine wp_any_at hA [(.det ?dR210), (.det ?dR211), (.det ?dR212), (.det ?dR213), (.det ?dR214), (.det ?dR215), (.det ?dR216), (.det ?dR217), (.det ?dR218), (.det ?dR219), (.det ?dR2110)] [] (fun wo => Below wz.heap.size wz wo) (TSp [] Grows) (by kernel_rfl) rfl (by kernel_rfl) (by kernel_rfl) rfl ((Below.refl _ _).drew) (stab_sp [] [true, true, true, true, true, true, true, true, true, true, true] [true, true, true, true, true, true, true, true, true, true, true] [] rfl rfl rfl (by kernel_rfl) ⟨trivial, trivial, trivial, trivial, trivial, trivial, trivial, trivial, trivial, trivial, trivial, trivial⟩ trivial) (fun _ h => by cases h) (fun _ _ _ _ _ h => by cases h) (fun _ h => by cases h) ⟨?oR210, ?oR211, ?oR212, ?oR213, ?oR214, ?oR215, ?oR216, ?oR217, ?oR218, ?oR219, ?oR2110, trivial⟩ (by kernel_rfl) ?fR21
          case oR210 => intro ev wo hev hC hs hph; have x0 := se hA hs 12; exact od rfl rfl (by kernel_rfl) hC (TSp.of rfl (Grows.refl _)) (by simp [go_sem, x0] <;> rfl)
          case oR211 => intro ev wo hev hC hs hph; have x0 := sd hs 70 0; exact od rfl rfl (by kernel_rfl) hC (TSp.of rfl (Grows.refl _)) (by simp [go_sem, x0] <;> rfl)
          case oR212 => intro ev wo hev hC hs hph; have x0 := se hA hs 2; have y := sd hs 71 1; exact ob_gv _ rfl rfl y rfl (by kernel_rfl) hC (TSp.of rfl (Grows.refl _)) (fun hq => by simp [go_sem, x0, pR21 _ hC] <;> rfl) (by rfl)
          case oR213 => intro ev wo hev hC hs hph; have x0 := se hA hs 11; have y := sd hs 71 1; exact ob_gv _ rfl rfl y rfl (by kernel_rfl) hC (TSp.of rfl (Grows.refl _)) (fun hq => by simp [go_sem, x0] <;> rfl) (by rfl)
          case oR214 => intro ev wo hev hC hs hph; have x0 := se hA hs 1; have y := sd hs 71 1; exact ob_gv _ rfl rfl y rfl (by kernel_rfl) hC (TSp.of rfl (Grows.refl _)) (fun hq => by simp [go_sem, x0] <;> rfl) (by rfl)
          case oR215 => intro ev wo hev hC hs hph; have x0 := se hA hs 13; have y := sd hs 71 1; exact ob_gv _ rfl rfl y rfl (by kernel_rfl) hC (TSp.of rfl (Grows.refl _)) (fun hq => by simp [go_sem, x0] <;> rfl) (by rfl)
          case oR216 => intro ev wo hev hC hs hph; have x0 := sd hs 74 4; have x1 := sd hs 75 5; have y := sd hs 71 1; exact ob_gv _ rfl rfl y rfl (by kernel_rfl) hC (TSp.of rfl (Grows.refl _)) (fun hq => by simp [go_sem, (x0.trans (gw_t (beq_t hq))), (x1.trans (gw_t (beq_t hq))), hA2, jj0, jj1, hjq2] <;> rfl) (by rfl)
          case oR217 => intro ev wo hev hC hs hph; have x0 := sd hs 76 6; have y := sd hs 71 1; exact ob_gv _ rfl rfl y rfl (by kernel_rfl) hC (TSp.of rfl (Grows.refl _)) (fun hq => by simp [go_sem, (x0.trans (gw_t (beq_t hq))), pR21 _ hC] <;> rfl) (by rfl)
          case oR218 =>
            intro ev wo hev hC hs hph
            have e72 := sd hs 72 2
            have e73 := sd hs 73 3
            have e77 := sd hs 77 7
            have e71 := sd hs 71 1
            have HBo := HWz.trans (hC.mono HWz.size)
            have Kx := K1z.below hC K1z.lt
            have zc := hcell wo HBo
            exact ob_gcall _ rfl rfl e71 rfl (by kernel_rfl) (by rfl) (fun hq => exec_call Tryz.func24 (by kernel_rfl) rfl (hev.func _) (by first | (simp only [mL, (e72.trans (gw_t (beq_t hq))), (e73.trans (gw_t (beq_t hq))), (e77.trans (gw_t (beq_t hq))), e71, hev.const] <;> rfl) | (simp [mL, (e72.trans (gw_t (beq_t hq))), (e73.trans (gw_t (beq_t hq))), (e77.trans (gw_t (beq_t hq))), e71, hev.const] <;> rfl))) (fun hq => hat wo HBo) (fun w3 hb3 => ⟨hC.trans (hb3.mono hC.size), TSp.of rfl hb3⟩)
          case oR219 => intro ev wo hev hC hs hph; have x0 := sd hs 71 1; have x1 := sd hs 78 8; exact od rfl rfl (by kernel_rfl) hC (TSp.of rfl (Grows.refl _)) (by rw [pick_and rfl x0 x1 (hev.const _)] <;> rfl)
          case oR2110 => intro ev wo hev hC hs hph; have x0 := sd hs 79 9; exact od rfl rfl (by kernel_rfl) hC (TSp.of rfl (Grows.refl _)) (by simp [go_sem, x0] <;> rfl)
          intro sg wf hC hph
          intro a hA
          replace hA := hA.keepN [1, 2, 5, 9, 10, 11, 12, 61, 62, 66, 67]
          refine nB (nT (wR ?_))
          revert a; (iterate 2 refine wo rfl rfl (by decide) (fun ev e h => by simp [go_sem, h, jw2] <;> rfl) ?_); intro a hA
          replace hA := hA.keepN [1, 2, 5, 9, 10, 11, 12, 61, 62, 66, 67]
          refine wN (nT ?_)
          refine ⟨g - 1, by omega, j + 1, by omega, HZ.trans (hC.mono HZ.size), ?_⟩
          rw [htake]
          exact hA
        case nE =>
          have hjq2 : j = q := by simp at hq4; omega
          rw [hjq2, ← hq0, List.take_length, hq0] at hA
          obtain ⟨so, hso⟩ : ∃ b, evalL (L.map (keyOf 10)) (seesM l n m) = b := ⟨_, rfl⟩
          rw [hso] at hstep hA
          replace hA := hA.keepN [1, 2, 5, 9, 10, 11, 12, 61, 62]
          refine wp_exit (xT (xT (xB (nT (wS (wR ?_))))))
          revert a; refine wo rfl rfl (by decide) (fun ev e h => by simp [go_sem, h] <;> rfl) ?_; intro a hA
          replace hA := hA.keepN [1, 2, 5, 9, 10, 11, 61, 62, 81]
          refine wN (nT ?_)
          refine wp_if hA 81 _ rfl (fun hq5 => ?yF) (fun hq5 => ?nF)
          case nF =>
            have hs0 : so = false := by simpa using hq5
            refine wp_skip (nB (nT (wR ?_)))
            revert a; (iterate 2 refine wo rfl rfl (by decide) (fun ev e h => by simp [go_sem, h, nw] <;> rfl) ?_); intro a hA
            replace hA := hA.keepN [1, 2, 5, 9, 10, 61, 62]
            refine wN (nT ?_)
            exact ⟨f - 1, by omega, n + 1, k, by omega, hkX, (hstep.2 hs0).2, HY.trans (HZ.mono HY.size), hA⟩
          case yF =>
            have hs1 : so = true := by simpa using hq5
            obtain ⟨hXk, hdr2⟩ := hstep.1 hs1
            have hkl := (List.getElem?_eq_some_iff.1 hXk).1
            have HX6 := HY.trans (HZ.mono HY.size)
            obtain ⟨ax, hAx, haxl, kx0, -⟩ := hrx.cell hXk
            have kx : w6.cell? (ax.add k) = some (.int .i64 (n : Nat)) := by
              have h1 : w6.cell? (ax.add (k * 1)) = some (.int .i64 (n : Nat)) := kx0 _ rfl
              rwa [Nat.mul_one] at h1
            have kz := (HX6.cell (p := ax.add k) (by rw [block_of_add]; exact haxl)).trans kx
            have kk0 : (0 : Int) ≤ (k : Int) := by omega
            have kk1 : (k : Int) < (X.length : Int) := by omega
            refine wS (wS (wR ?_))
            revert a; (iterate 5 refine wo rfl rfl (by decide) (fun ev e h => by simp [go_sem, h, hAx, kz, kk0, kk1, hkl] <;> rfl) ?_); (iterate 5 refine wg _ rfl rfl rfl rfl (by decide) (fun hq ev e h => by simp [go_sem, h, ↓gw_t (beq_t hq), hAx, kz, kk0, kk1, hkl] <;> rfl) ?_); intro a hA
            replace hA := hA.keepN [1, 2, 5, 9, 10, 61, 62, 86, 90, 91]
            revert a; refine wg _ rfl rfl rfl rfl (by decide) (fun hq ev e h => by simp [go_sem, h, ↓gw_t (beq_t hq), hAx, kz, kk0, kk1, hkl] <;> rfl) ?_; refine wko rfl rfl (by decide) rfl rfl rfl ?_; intro a hA
            replace hA := hA.keepN [1, 2, 5, 9, 10, 61, 62, 93]
            refine wN (nT ?_)
            refine wp_if hA 93 _ rfl (fun hq6 => ?yG) (fun hq6 => ?nG)
            case yG =>
              have : False := by
                simp at hq6
                omega
              exact this.elim
            case nG =>
              refine wp_skip (nT (wR ?_))
              revert a; (iterate 3 refine wo rfl rfl (by decide) (fun ev e h => by simp [go_sem, h, kw, nw] <;> rfl) ?_); intro a hA
              replace hA := hA.keepN [1, 2, 5, 9, 10, 61, 62]
              refine wN (nB (nT (wR ?_)))
              revert a; (iterate 2 refine wo rfl rfl (by decide) (fun ev e h => by simp [go_sem, h, kw, nw] <;> rfl) ?_); intro a hA
              replace hA := hA.keepN [1, 2, 5, 9, 10, 61, 62]
              refine wN (nT ?_)
              exact ⟨f - 1, by omega, n + 1, k + 1, by omega, by omega, hdr2, HX6, hA⟩
end Go.Proofs.YtjhaccmcjlbllaaGreatDoor
/-
  Arguments, opened by their types: numbers, texts, structs of one-cell fields, slices of what reads.
-/
namespace Go.Proofs.YtjhaccmcjlbllaaGreatDoor
open Go.ChangeShapes Go.WideShapes Go.Deep Go.RowKit
theorem cell_lt' {w : World} {a : Addr} {v : Value} (h : w.cell? a = some v) : a.block < w.heap.size := by
  rcases Nat.lt_or_ge a.block w.heap.size with hlt | hge
  · exact hlt
  · unfold World.cell? at h
    simp [Array.getElem?_eq_none hge] at h
/-- cells that read at a type -/
def Fits {H : Type} (enc : TypeId × Value → H) (P : Program) (w : World) (t : TypeId) (cs : List Value) : Prop := ∃ base spare held fuel x, DataW.trod enc P w base spare held fuel t cs = some x
section
variable {H : Type} {enc : TypeId × Value → H} {P : Program} {w : World} {t e : TypeId} {cs : List Value}
theorem fits_int {k : IntKind} (h : Fits enc P w t cs) (ht : P.underlying t = some (.int k)) : ∃ n, cs = [.int k n] ∧ (Lit.int k n).wf = true := by
  obtain ⟨_, _, _, _, _, h⟩ := h
  obtain ⟨n, e, _, hw⟩ := DataW.trod_int ht h
  exact ⟨n, e, hw⟩
theorem fits_string (h : Fits enc P w t cs) (ht : P.underlying t = some .string) : ∃ s : ByteArray, cs = [.string s] ∧ s.size ≤ maxLen := by
  obtain ⟨_, _, _, _, _, h⟩ := h
  obtain ⟨s, e, _, hw⟩ := DataW.trod_string ht h
  exact ⟨s, e, hw⟩
theorem fits_bool (h : Fits enc P w t cs) (ht : P.underlying t = some .bool) : ∃ b, cs = [.bool b] := by
  obtain ⟨_, _, _, _, _, h⟩ := h
  obtain ⟨s, e, _⟩ := DataW.trod_bool ht h
  exact ⟨s, e⟩
theorem fits_fields {fs : Array Field} (h : Fits enc P w t cs) (ht : P.underlying t = some (.struct fs)) (hone : oneCellFields P fs = true) (hC : P.cellsOf t = fs.size) : cs.length = fs.size ∧ ∀ (j : Nat) (f : Field) (c : Value), fs[j]? = some f → cs[j]? = some c → Fits enc P w f.type [c] := by
  obtain ⟨base, spare, held, fuel, x, h⟩ := h
  obtain ⟨ys, n, _, _, hl, hyl, hat⟩ := DataW.trod_struct ht h
  refine ⟨by rw [hl, hC], fun j f c hf hc => ?_⟩
  obtain ⟨ho, hk⟩ := hone_of hone j f hf
  have h1 := hat j f hf
  have hj := (Array.getElem?_eq_some_iff.1 hf).1
  rw [ho, hk] at h1
  have hd1 : (List.drop j cs).take 1 = [c] := by
    have hjl := (List.getElem?_eq_some_iff.1 hc).1
    rw [List.drop_eq_getElem_cons hjl, (List.getElem?_eq_some_iff.1 hc).2]
    rfl
  rw [hd1, List.getElem?_eq_getElem (by omega)] at h1
  exact ⟨base, spare, held, n, _, h1⟩
theorem rows_at (k : Nat) : ∀ (L : List (List Value)) (i j : Nat) (x : List Value), (∀ x ∈ L, x.length = k) → L[i]? = some x → j < k → L.flatten[i * k + j]? = x[j]?
  | y :: r, 0, j, x, hL, h, hj => by
    have e : y = x := by simpa using h
    subst e
    have := hL y List.mem_cons_self
    rw [List.flatten_cons, Nat.zero_mul, Nat.zero_add, List.getElem?_append_left (by omega)]
  | y :: r, i + 1, j, x, hL, h, hj => by
    have ih := rows_at k r i j x (fun z hz => hL z (List.mem_cons_of_mem _ hz)) (by simpa using h) hj
    have := hL y List.mem_cons_self
    have hm : k ≤ (i + 1) * k + j := by rw [Nat.succ_mul]; omega
    rw [List.flatten_cons, List.getElem?_append_right (by omega)]
    have e : (i + 1) * k + j - y.length = i * k + j := by rw [Nat.succ_mul]; omega
    rw [e]; exact ih
theorem rows_len (k : Nat) : ∀ (L : List (List Value)), (∀ x ∈ L, x.length = k) → L.flatten.length = L.length * k
  | [], _ => by simp
  | y :: r, h => by
    have := rows_len k r fun z hz => h z (List.mem_cons_of_mem _ hz)
    rw [List.flatten_cons, List.length_append, this, h y List.mem_cons_self, List.length_cons, Nat.succ_mul]; omega
theorem fits_slice (h : Fits enc P w t cs) (ht : P.underlying t = some (.slice e)) (hk : 0 < P.cellsOf e) :
    ∃ (A : Option Addr) (n c : Nat) (L : List (List Value)), cs = [.slice A n c] ∧ n ≤ c ∧ c ≤ maxLen ∧ L.length = n ∧ (∀ x ∈ L, x.length = P.cellsOf e ∧ Fits enc P w e x) ∧ Reads w w.heap.size (P.cellsOf e) A n L.flatten := by
  obtain ⟨base, spare, held, fuel, x, hf⟩ := h
  rcases open_slice ht hf with ⟨hcs, _⟩ | ⟨a, len, cap, m, n0, D, Pl, hcs, _, hl, hm, hmm, hdx, hx⟩
  · exact ⟨none, 0, 0, [], hcs, Nat.le_refl _, Nat.zero_le _, rfl, fun x hx => (by cases hx), by simp, fun hn => absurd hn (by simp)⟩
  · have hml : len ≤ m := by rw [hmm]; split <;> omega
    have hall : ∀ n, n ≤ len → ∃ L : List (List Value), L.length = n ∧ (∀ x ∈ L, x.length = P.cellsOf e ∧ Fits enc P w e x) ∧ ∀ i x, L[i]? = some x → ∀ j u, x[j]? = some u → w.cell? (a.add (i * P.cellsOf e + j)) = some u := by
      intro n
      induction n with
      | zero => intro _; exact ⟨[], rfl, by simp, by simp⟩
      | succ n ih =>
        intro hnl
        obtain ⟨L, hl1, hl2, hl3⟩ := ih (by omega)
        obtain ⟨cs', hcc, htr⟩ := hx n (by omega)
        obtain ⟨_, hlen, hat⟩ := World.cells?_some hcc
        refine ⟨L ++ [cs'], by simp [hl1], ?_, ?_⟩
        · intro y hy
          rcases List.mem_append.1 hy with h | h
          · exact hl2 y h
          · rw [List.mem_singleton] at h
            subst h
            exact ⟨hlen, base, spare, held, n0, _, htr⟩
        · intro i y hi' j u hj
          rcases Nat.lt_or_ge i L.length with h | h
          · rw [List.getElem?_append_left h] at hi'; exact hl3 i y hi' j u hj
          · rw [List.getElem?_append_right h] at hi'
            have h0 : i - L.length = 0 := by
              rcases Nat.eq_zero_or_pos (i - L.length) with h' | h'
              · exact h'
              · rw [List.getElem?_eq_none (by simp; omega)] at hi'; cases hi'
            rw [h0] at hi'
            have hy : cs' = y := by simpa using hi'
            subst hy
            obtain rfl : i = n := by omega
            have hj2 : j < P.cellsOf e := by
              have := (List.getElem?_eq_some_iff.1 hj).1
              omega
            have := hat j hj2
            rw [hj, Go.Deep.add_add] at this
            exact this
    obtain ⟨L, hL1, hL2, hL3⟩ := hall len (Nat.le_refl _)
    refine ⟨some a, len, cap, L, hcs, hl, hm, hL1, hL2, ?_, fun hn => ⟨a, rfl, ?_, ?_⟩⟩
    · rw [rows_len _ L fun x hx => (hL2 x hx).1, hL1]
    · obtain ⟨x, hx0⟩ : ∃ x, L[0]? = some x := ⟨_, List.getElem?_eq_getElem (by omega)⟩
      have hxl := (hL2 x (List.mem_of_getElem? hx0)).1
      obtain ⟨u, hu⟩ : ∃ u, x[0]? = some u := ⟨_, List.getElem?_eq_getElem (by omega)⟩
      have := cell_lt' (hL3 0 x hx0 0 u hu)
      rwa [block_of_add] at this
    · intro j u hj
      have hjl := (List.getElem?_eq_some_iff.1 hj).1
      rw [rows_len _ L fun x hx => (hL2 x hx).1] at hjl
      have hq : j / P.cellsOf e < L.length := Nat.div_lt_of_lt_mul (by rw [Nat.mul_comm]; exact hjl)
      have he2 : j / P.cellsOf e * P.cellsOf e + j % P.cellsOf e = j := by rw [Nat.mul_comm]; exact Nat.div_add_mod j _
      have hp := rows_at (P.cellsOf e) L (j / P.cellsOf e) (j % P.cellsOf e) _ (fun x hx => (hL2 x hx).1) (List.getElem?_eq_getElem hq) (Nat.mod_lt _ hk)
      rw [he2, hj] at hp
      have := hL3 _ _ (List.getElem?_eq_getElem hq) _ u hp.symm
      rw [he2] at this
      exact this
theorem fits_top {base0 : Nat} {spare : Nat → Bool} {held : Bool} {v : Value} {d : DataW H} {ps : List MemPlace} (h : DataW.Trod enc P w base0 spare held t v d ps) : Fits enc P w t v.cells.toList := by
  obtain ⟨fuel, hf⟩ := h
  exact ⟨_, _, _, fuel, _, hf⟩
theorem fits_struct {base0 : Nat} {spare : Nat → Bool} {held : Bool} {r : Reach} {b0 : Nat} {fs : Array Field} {v : Value} {d : DataW H} {ps : List MemPlace} (hv : Value.okWide P w r b0 t v) (ht : P.underlying t = some (.struct fs)) (h : DataW.Trod enc P w base0 spare held t v d ps) : ∃ cs : Array Value, v = .agg cs ∧ Fits enc P w t cs.toList := by
  obtain ⟨cs, rfl, _⟩ := okWide_struct ht hv
  exact ⟨cs, rfl, fits_top h⟩
theorem fits_plain {base0 : Nat} {spare : Nat → Bool} {held : Bool} {v : Value} {d : DataW H} {ps : List MemPlace} (h : DataW.Trod enc P w base0 spare held t v d ps) (hc : v.cells = #[v]) : Fits enc P w t [v] := by
  have := fits_top h
  rwa [hc] at this
theorem choose_list {M : Type} {f : M → List Value} {Q : M → Prop} : ∀ {L : List (List Value)}, (∀ x ∈ L, ∃ m, x = f m ∧ Q m) → ∃ l : List M, L = l.map f ∧ ∀ m ∈ l, Q m
  | [], _ => ⟨[], rfl, by simp⟩
  | x :: r, h => by
    obtain ⟨m, rfl, hm⟩ := h x List.mem_cons_self
    obtain ⟨l, rfl, hl⟩ := choose_list (L := r) fun y hy => h y (List.mem_cons_of_mem _ hy)
    exact ⟨m :: l, rfl, fun y hy => by
      rcases List.mem_cons.1 hy with e | e
      · subst e; exact hm
      · exact hl y e⟩
/-- all arguments stay behind a call that writes below nothing -/
theorem args_stay (hl : laidOutB P = true) {W W' : World} {sp : Nat → Bool} : ∀ {ts : List TypeId} {vs : List Value} {ds : List (DataW H)} {ps : List MemPlace}, (ts.all fun t => P.readableRec t && decide (t < P.types.size)) = true →
    DataW.TrodAll enc P W 0 (fun _ => true) true ts vs ds ps → (∀ x ∈ ps, W.sameAt W' x) → (∀ x ∈ ps, sp x.block = true) → DataW.TrodAll enc P W' 0 sp true ts vs ds ps
  | [], [], [], _, _, h, _, _ => h
  | _ :: _, _ :: _, _ :: _, _, ha, ⟨p, q, h1, h2, e⟩, hsame, hs => by
    rw [List.all_cons, Bool.and_eq_true, Bool.and_eq_true, decide_eq_true_eq] at ha
    subst e
    exact ⟨p, q, WideElems.Trod_stays hl ha.1.1 ha.1.2 h1 (fun x hx => hsame x (List.mem_append_left _ hx)) (fun x hx => hs x (List.mem_append_left _ hx)),
      args_stay hl ha.2 h2 (fun x hx => hsame x (List.mem_append_right _ hx)) (fun x hx => hs x (List.mem_append_right _ hx)), rfl⟩
end
end Go.Proofs.YtjhaccmcjlbllaaGreatDoor
/-
  Arguments, opened by their types, with a bound on their sizes.
-/
namespace Go.Proofs.YtjhaccmcjlbllaaGreatDoor
open Go.ChangeShapes Go.WideShapes Go.Deep Go.RowKit
/-- cells that read at a type; no part is longer than R -/
def FitsZ {H : Type} (R : Nat) (enc : TypeId × Value → H) (P : Program) (w : World) (t : TypeId) (cs : List Value) : Prop := ∃ base spare held fuel d ps, DataW.trod enc P w base spare held fuel t cs = some (d, ps) ∧ ∀ k ∈ d.weights P t, k ≤ R
section
variable {H : Type} {enc : TypeId × Value → H} {P : Program} {w : World} {t e : TypeId} {cs : List Value} {R : Nat}
theorem FitsZ.fits (h : FitsZ R enc P w t cs) : Fits enc P w t cs := by
  obtain ⟨b, s, hd, f, d, ps, h, _⟩ := h
  exact ⟨b, s, hd, f, _, h⟩
theorem mem_weightsAll {e : TypeId} {dd : DataW H} {k : Nat} : ∀ {l : List (DataW H)}, dd ∈ l → k ∈ dd.weights P e → k ∈ DataW.weightsAll P e l
  | y :: r, h, hk => by
    unfold DataW.weightsAll
    rw [List.mem_append]
    rcases List.mem_cons.1 h with rfl | h
    · exact .inl hk
    · exact .inr (mem_weightsAll h hk)
theorem fitsZ_string (h : FitsZ R enc P w t cs) (ht : P.underlying t = some .string) : ∃ s : ByteArray, cs = [.string s] ∧ s.size ≤ maxLen ∧ s.size ≤ R := by
  obtain ⟨_, _, _, _, d, ps, h, hz⟩ := h
  obtain ⟨s, e, hx, hw⟩ := DataW.trod_string ht h
  refine ⟨s, e, hw, hz _ ?_⟩
  rw [(Prod.mk.inj hx).1]
  show s.size ∈ [s.data.toList.length]
  rw [List.mem_singleton, Array.length_toList]; rfl
theorem fitsZ_fields {fs : Array Field} (h : FitsZ R enc P w t cs) (ht : P.underlying t = some (.struct fs)) (hone : oneCellFields P fs = true) (hC : P.cellsOf t = fs.size) : cs.length = fs.size ∧ ∀ (j : Nat) (f : Field) (c : Value), fs[j]? = some f → cs[j]? = some c → FitsZ R enc P w f.type [c] := by
  obtain ⟨base, spare, held, fuel, d, ps, h, hz⟩ := h
  obtain ⟨ys, n, _, hx, hl, hyl, hat⟩ := DataW.trod_struct ht h
  refine ⟨by rw [hl, hC], fun j f c hf hc => ?_⟩
  obtain ⟨ho, hk⟩ := hone_of hone j f hf
  have h1 := hat j f hf
  have hj := (Array.getElem?_eq_some_iff.1 hf).1
  rw [ho, hk] at h1
  have hd1 : (List.drop j cs).take 1 = [c] := by
    have hjl := (List.getElem?_eq_some_iff.1 hc).1
    rw [List.drop_eq_getElem_cons hjl, (List.getElem?_eq_some_iff.1 hc).2]
    rfl
  have hy : ys[j]? = some (ys[j]'(by omega)) := List.getElem?_eq_getElem (by omega)
  rw [hd1, hy] at h1
  refine ⟨base, spare, held, n, _, _, h1, fun k hk => hz k ?_⟩
  rw [(Prod.mk.inj hx).1]
  unfold DataW.weights
  rw [ht]
  refine DataW.weights_mem_each (j := j) (t := f.type) (d := (ys[j]'(by omega)).1) ?_ ?_ k hk
  · rw [List.getElem?_map, Array.getElem?_toList, hf]; rfl
  · rw [List.getElem?_map, hy]; rfl
theorem fitsZ_slice (h : FitsZ R enc P w t cs) (ht : P.underlying t = some (.slice e)) (hk : 0 < P.cellsOf e) (heb : 1 ≤ P.bytesOf e) :
    ∃ (A : Option Addr) (n c : Nat) (L : List (List Value)), cs = [.slice A n c] ∧ n ≤ c ∧ c ≤ maxLen ∧ n ≤ R ∧ L.length = n ∧ (∀ x ∈ L, x.length = P.cellsOf e ∧ FitsZ R enc P w e x) ∧ Reads w w.heap.size (P.cellsOf e) A n L.flatten := by
  obtain ⟨base, spare, held, fuel, d, ps, hf, hz⟩ := h
  rcases open_slice ht hf with ⟨hcs, _⟩ | ⟨a, len, cap, m, n0, D, Pl, hcs, _, hl, hm, hmm, hdx, hx⟩
  · exact ⟨none, 0, 0, [], hcs, Nat.le_refl _, Nat.zero_le _, Nat.zero_le _, rfl, fun x hx => (by cases hx), by simp, fun hn => absurd hn (by simp)⟩
  · have hml : len ≤ m := by rw [hmm]; split <;> omega
    have hdw : d = .slice ((List.range len).map D) ((List.range (m - len)).map fun j => D (len + j)) := congrArg Prod.fst hdx
    have hall : ∀ n, n ≤ len → ∃ L : List (List Value), L.length = n ∧ (∀ x ∈ L, x.length = P.cellsOf e ∧ FitsZ R enc P w e x) ∧ ∀ i x, L[i]? = some x → ∀ j u, x[j]? = some u → w.cell? (a.add (i * P.cellsOf e + j)) = some u := by
      intro n
      induction n with
      | zero => intro _; exact ⟨[], rfl, by simp, by simp⟩
      | succ n ih =>
        intro hnl
        obtain ⟨L, hl1, hl2, hl3⟩ := ih (by omega)
        obtain ⟨cs', hcc, htr⟩ := hx n (by omega)
        obtain ⟨_, hlen, hat⟩ := World.cells?_some hcc
        refine ⟨L ++ [cs'], by simp [hl1], ?_, ?_⟩
        · intro y hy
          rcases List.mem_append.1 hy with h | h
          · exact hl2 y h
          · rw [List.mem_singleton] at h
            subst h
            refine ⟨hlen, base, spare, held, n0, _, _, htr, fun k hk' => hz k ?_⟩
            rw [hdw]
            unfold DataW.weights
            rw [ht]
            simp only [List.mem_cons, List.mem_append]
            exact .inr (.inl (mem_weightsAll (List.mem_map.2 ⟨n, List.mem_range.2 (by omega), rfl⟩) hk'))
        · intro i y hi' j u hj
          rcases Nat.lt_or_ge i L.length with h | h
          · rw [List.getElem?_append_left h] at hi'; exact hl3 i y hi' j u hj
          · rw [List.getElem?_append_right h] at hi'
            have h0 : i - L.length = 0 := by
              rcases Nat.eq_zero_or_pos (i - L.length) with h' | h'
              · exact h'
              · rw [List.getElem?_eq_none (by simp; omega)] at hi'; cases hi'
            rw [h0] at hi'
            have hy : cs' = y := by simpa using hi'
            subst hy
            obtain rfl : i = n := by omega
            have hj2 : j < P.cellsOf e := by
              have := (List.getElem?_eq_some_iff.1 hj).1
              omega
            have := hat j hj2
            rw [hj, Go.Deep.add_add] at this
            exact this
    obtain ⟨L, hL1, hL2, hL3⟩ := hall len (Nat.le_refl _)
    refine ⟨some a, len, cap, L, hcs, hl, hm, ?_, hL1, hL2, ?_, fun hn => ⟨a, rfl, ?_, ?_⟩⟩
    · have hq := hz ((len + (m - len)) * P.bytesOf e) (by rw [hdw]; simp [DataW.weights, ht])
      have e2 : (len + (m - len)) * 1 ≤ (len + (m - len)) * P.bytesOf e := Nat.mul_le_mul_left _ heb
      omega
    · rw [rows_len _ L fun x hx => (hL2 x hx).1, hL1]
    · obtain ⟨x, hx0⟩ : ∃ x, L[0]? = some x := ⟨_, List.getElem?_eq_getElem (by omega)⟩
      have hxl := (hL2 x (List.mem_of_getElem? hx0)).1
      obtain ⟨u, hu⟩ : ∃ u, x[0]? = some u := ⟨_, List.getElem?_eq_getElem (by omega)⟩
      have := cell_lt' (hL3 0 x hx0 0 u hu)
      rwa [block_of_add] at this
    · intro j u hj
      have hjl := (List.getElem?_eq_some_iff.1 hj).1
      rw [rows_len _ L fun x hx => (hL2 x hx).1] at hjl
      have hq : j / P.cellsOf e < L.length := Nat.div_lt_of_lt_mul (by rw [Nat.mul_comm]; exact hjl)
      have he2 : j / P.cellsOf e * P.cellsOf e + j % P.cellsOf e = j := by rw [Nat.mul_comm]; exact Nat.div_add_mod j _
      have hp := rows_at (P.cellsOf e) L (j / P.cellsOf e) (j % P.cellsOf e) _ (fun x hx => (hL2 x hx).1) (List.getElem?_eq_getElem hq) (Nat.mod_lt _ hk)
      rw [he2, hj] at hp
      have := hL3 _ _ (List.getElem?_eq_getElem hq) _ u hp.symm
      rw [he2] at this
      exact this
theorem sized_at {ts : List TypeId} {ds : List (DataW H)} (h : (DataW.weightsEach P ts ds).all (· ≤ reachBytes) = true) {j : Nat} {t : TypeId} {d : DataW H} (ht : ts[j]? = some t) (hd : ds[j]? = some d) : ∀ k ∈ d.weights P t, k ≤ 140737488355328 := by
  intro k hk
  have := List.all_eq_true.1 h _ (DataW.weights_mem_each ht hd k hk)
  have h2 : reachBytes < 2 ^ 47 := reachBytes_lt
  simp only [decide_eq_true_eq] at this
  omega
theorem fitsZ_top {base0 : Nat} {spare : Nat → Bool} {held : Bool} {v : Value} {d : DataW H} {ps : List MemPlace} (h : DataW.Trod enc P w base0 spare held t v d ps) (hz : ∀ k ∈ d.weights P t, k ≤ R) : FitsZ R enc P w t v.cells.toList := by
  obtain ⟨fuel, hf⟩ := h
  exact ⟨_, _, _, fuel, _, _, hf, hz⟩
theorem fitsZ_struct {base0 : Nat} {spare : Nat → Bool} {held : Bool} {r : Reach} {b0 : Nat} {fs : Array Field} {v : Value} {d : DataW H} {ps : List MemPlace} (hv : Value.okWide P w r b0 t v) (ht : P.underlying t = some (.struct fs)) (h : DataW.Trod enc P w base0 spare held t v d ps) (hz : ∀ k ∈ d.weights P t, k ≤ R) : ∃ cs : Array Value, v = .agg cs ∧ FitsZ R enc P w t cs.toList := by
  obtain ⟨cs, rfl, _⟩ := okWide_struct ht hv
  exact ⟨cs, rfl, fitsZ_top h hz⟩
theorem fitsZ_plain {base0 : Nat} {spare : Nat → Bool} {held : Bool} {v : Value} {d : DataW H} {ps : List MemPlace} (h : DataW.Trod enc P w base0 spare held t v d ps) (hc : v.cells = #[v]) (hz : ∀ k ∈ d.weights P t, k ≤ R) : FitsZ R enc P w t [v] := by
  have := fitsZ_top h hz
  rwa [hc] at this
end
end Go.Proofs.YtjhaccmcjlbllaaGreatDoor
/-
  Arguments, opened: numbers, truths, bytes.
-/
namespace Go.Proofs.YtjhaccmcjlbllaaGreatDoor
open Go.RowKit Go.ChangeShapes Go.WideShapes
theorem u32_range {n : Int} (h : (Lit.int .u32 n).wf = true) : ∃ k : Nat, n = (k : Nat) ∧ k < 4294967296 := by
  simp [Lit.wf, IntKind.min, IntKind.max, IntKind.signed, IntKind.bits] at h
  exact ⟨n.toNat, by omega, by omega⟩
theorem u8_range {n : Int} (h : (Lit.int .u8 n).wf = true) : ∃ k : UInt8, n = (k.toNat : Nat) := by
  simp [Lit.wf, IntKind.min, IntKind.max, IntKind.signed, IntKind.bits] at h
  refine ⟨UInt8.ofNat n.toNat, ?_⟩
  rw [UInt8.toNat_ofNat']
  omega
theorem i64_range {n : Int} (h : (Lit.int .i64 n).wf = true) : -9223372036854775808 ≤ n ∧ n ≤ 9223372036854775807 := by
  simp [Lit.wf, IntKind.min, IntKind.max, IntKind.signed, IntKind.bits] at h
  omega
theorem map_flat {M : Type} (f : M → List Value) (l : List M) : (l.map f).flatten = l.flatMap f := by
  induction l with
  | nil => rfl
  | cons x r ih => rw [List.map_cons, List.flatten_cons, List.flatMap_cons, ih]
theorem flat_one {M : Type} (f : M → Value) (l : List M) : (l.map fun x => [f x]).flatten = l.map f := by
  induction l with
  | nil => rfl
  | cons x r ih => rw [List.map_cons, List.flatten_cons, ih]; rfl
theorem list1 {α : Type} {x : List α} (h : x.length = 1) : ∃ a, x = [a] := by
  match x, h with
  | [a], _ => exact ⟨a, rfl⟩
theorem list4 {α : Type} {x : List α} (h : x.length = 4) : ∃ a b c d, x = [a, b, c, d] := by
  match x, h with
  | [a, b, c, d], _ => exact ⟨a, b, c, d, rfl⟩
theorem array4 {α : Type} {x : Array α} (h : x.toList.length = 4) : ∃ a b c d, x = #[a, b, c, d] := by
  obtain ⟨l⟩ := x
  obtain ⟨a, b, c, d, e⟩ := list4 (show l.length = 4 from h)
  exact ⟨a, b, c, d, by rw [e]⟩
section
variable {H : Type} {enc : TypeId × Value → H} {w : World} {R : Nat}
theorem open_bytesZ {c1 : Value} (h : FitsZ R enc Tryz.prog w 23 [c1]) : ∃ (A : Option Addr) (c : Nat) (l : List UInt8), c1 = .slice A l.length c ∧ l.length ≤ c ∧ c ≤ maxLen ∧ l.length ≤ R ∧ Reads w w.heap.size 1 A l.length (u8s l) := by
  have hk : Tryz.prog.cellsOf 5 = 1 := by kernel_rfl
  obtain ⟨A, n, c, L, hcs, hn, hc, hR, hl, hL, hr⟩ := fitsZ_slice h Tryz.underlying23 (by rw [hk]; omega) (Nat.le_of_ble_eq_true (by kernel_rfl))
  rw [hk] at hr
  obtain ⟨l, rfl, _⟩ := choose_list (f := fun b : UInt8 => [.int .u8 ((b.toNat : Nat) : Int)]) (Q := fun _ => True) fun x hx => by
    obtain ⟨hx1, hx2⟩ := hL x hx
    rw [hk] at hx1
    obtain ⟨a, rfl⟩ := list1 hx1
    obtain ⟨u, e0, hu⟩ := fits_int hx2.fits Tryz.underlying5
    obtain ⟨k, rfl⟩ := u8_range hu
    exact ⟨k, e0, trivial⟩
  rw [List.length_map] at hl
  rw [flat_one (fun b : UInt8 => .int .u8 ((b.toNat : Nat) : Int))] at hr
  subst hl
  simp only [List.cons.injEq, and_true] at hcs
  exact ⟨A, c, l, hcs, hn, hc, hR, hr⟩
theorem fitsZ_part {t : TypeId} {cs : List Value} {fs : Array Field} (h : FitsZ R enc Tryz.prog w t cs) (ht : Tryz.prog.underlying t = some (.struct fs)) : cs.length = Tryz.prog.cellsOf t ∧ ∀ (j : Nat) (f : Field), fs[j]? = some f → FitsZ R enc Tryz.prog w f.type ((cs.drop f.offset).take (Tryz.prog.cellsOf f.type)) := by
  obtain ⟨base, spare, held, fuel, d, ps, h, hz⟩ := h
  obtain ⟨ys, n, _, hx, hl, hyl, hat⟩ := DataW.trod_struct ht h
  refine ⟨hl, fun j f hf => ?_⟩
  have h1 := hat j f hf
  have hj := (Array.getElem?_eq_some_iff.1 hf).1
  have hy : ys[j]? = some (ys[j]'(by omega)) := List.getElem?_eq_getElem (by omega)
  rw [hy] at h1
  refine ⟨base, spare, held, n, _, _, h1, fun k hk => hz k ?_⟩
  rw [(Prod.mk.inj hx).1]
  unfold DataW.weights
  rw [ht]
  refine DataW.weights_mem_each (j := j) (t := f.type) (d := (ys[j]'(by omega)).1) ?_ ?_ k hk
  · rw [List.getElem?_map, Array.getElem?_toList, hf]; rfl
  · rw [List.getElem?_map, hy]; rfl
end
theorem tab_met {l : List (String × DataW Unit)} {W : World} (h : laidMetH Tryz.prog l W) (hl : l.filter (fun x => x.1 == "internal/strconv.uint64pow10") = [("internal/strconv.uint64pow10", Lib.tabData .u64 Lib.pow10Tab)]) :
    Lib.TabIs Tryz.prog W "internal/strconv.uint64pow10" .u64 Lib.pow10Tab := by
  have h1 := laidMetH.filter (fun x => x.1 == "internal/strconv.uint64pow10") h
  rw [hl, MakeChecks.laidMetH_plain _ _ _ (by kernel_rfl)] at h1
  exact Lib.tabIs_of_head (g := 1) (t := 200) (e := 35) (n := 20) (by kernel_rfl) (by kernel_rfl) Tryz.underlying200 Tryz.underlying35 (by kernel_rfl) (by kernel_rfl) h1
section
variable {H : Type} {enc : TypeId × Value → H} {W : World} {base0 b0 : Nat} {spare : Nat → Bool} {held : Bool} {r : Reach} {R : Nat}
set_option maxRecDepth 100000 in
theorem i64_arg {v : Value} {d : DataW H} {ps : List MemPlace} (hv : Value.okWide Tryz.prog W r b0 3 v) (h : DataW.Trod enc Tryz.prog W base0 spare held 3 v d ps) : ∃ k : Int, v = .int .i64 k ∧ -9223372036854775808 ≤ k ∧ k ≤ 9223372036854775807 := by
  obtain ⟨x0, rfl, _, _, h0⟩ := open_int Tryz.underlying3 hv h
  exact ⟨x0, rfl, i64_range h0⟩
set_option maxRecDepth 100000 in
theorem bytes_arg {v : Value} {d : DataW H} {ps : List MemPlace} (hv : Value.okWide Tryz.prog W r b0 23 v) (h : DataW.Trod enc Tryz.prog W base0 spare held 23 v d ps) (hz : ∀ k ∈ d.weights Tryz.prog 23, k ≤ R) :
    ∃ (A : Option Addr) (c : Nat) (l : List UInt8), v = .slice A l.length c ∧ l.length ≤ c ∧ c ≤ maxLen ∧ l.length ≤ R ∧ Reads W W.heap.size 1 A l.length (u8s l) := by
  obtain ⟨A, n, c, rfl⟩ := okWide_slice Tryz.underlying23 hv
  obtain ⟨A', c', l, e, b⟩ := open_bytesZ (fitsZ_plain h rfl hz)
  exact ⟨A', c', l, e, b⟩
set_option maxRecDepth 100000 in
theorem u32_arg {v : Value} {d : DataW H} {ps : List MemPlace} (hv : Value.okWide Tryz.prog W r b0 22 v) (h : DataW.Trod enc Tryz.prog W base0 spare held 22 v d ps) : ∃ k : Nat, v = .int .u32 (k : Nat) ∧ k < 4294967296 := by
  obtain ⟨x0, rfl, _, _, h0⟩ := open_int Tryz.underlying22 hv h
  obtain ⟨k, rfl, hk⟩ := u32_range h0
  exact ⟨k, rfl, hk⟩
set_option maxRecDepth 100000 in
theorem bool_arg {v : Value} {d : DataW H} {ps : List MemPlace} (hv : Value.okWide Tryz.prog W r b0 4 v) (h : DataW.Trod enc Tryz.prog W base0 spare held 4 v d ps) : ∃ b : Bool, v = .bool b := by
  obtain ⟨b, rfl, _⟩ := open_bool Tryz.underlying4 hv h
  exact ⟨b, rfl⟩
end
end Go.Proofs.YtjhaccmcjlbllaaGreatDoor
/-
  Arguments, opened: messages, mailboxes.
-/
namespace Go.Proofs.YtjhaccmcjlbllaaGreatDoor
open Go.RowKit Go.ChangeShapes Go.WideShapes
section
variable {H : Type} {enc : TypeId × Value → H} {w : World} {R : Nat}
/-- a message whose octets read -/
structure MsgOk (R : Nat) (w : World) (m : MsgV) : Prop where
  octs : Reads w w.heap.size 1 m.a m.b.length (u8s m.b)
  uid : m.uid < 4294967296
  cap : m.b.length ≤ m.c ∧ m.c ≤ 9223372036854775807
  size : m.b.length ≤ R
  date : -9223372036854775808 ≤ m.date ∧ m.date ≤ 9223372036854775807
  flags : -9223372036854775808 ≤ m.flags ∧ m.flags ≤ 9223372036854775807
set_option maxRecDepth 100000 in
theorem open_msgZ {x : List Value} (h : FitsZ R enc Tryz.prog w 25 x) : ∃ m : MsgV, x = msgC m ∧ MsgOk R w m := by
  obtain ⟨hx3, hx4⟩ := fitsZ_fields h Tryz.underlying25 (by kernel_rfl) (by kernel_rfl)
  obtain ⟨a0, a1, a2, a3, rfl⟩ := list4 hx3
  obtain ⟨u, e0, hu⟩ := fits_int (hx4 0 _ a0 rfl rfl).fits Tryz.underlying22
  obtain ⟨d, e1, hd⟩ := fits_int (hx4 1 _ a1 rfl rfl).fits Tryz.underlying2
  obtain ⟨f, e2, hf⟩ := fits_int (hx4 2 _ a2 rfl rfl).fits Tryz.underlying3
  obtain ⟨k, rfl, hk⟩ := u32_range hu
  obtain ⟨A, c, l, rfl, h1, h2, h3, h4⟩ := open_bytesZ (hx4 3 _ a3 rfl rfl)
  simp only [List.cons.injEq, and_true] at e0 e1 e2
  subst e0 e1 e2
  exact ⟨⟨k, d, f, A, c, l⟩, rfl, h4, hk, ⟨h1, by unfold maxLen at h2; exact h2⟩, h3, i64_range hd, i64_range hf⟩
set_option maxRecDepth 100000 in
theorem open_msgsZ {c1 : Value} (h : FitsZ R enc Tryz.prog w 42 [c1]) : ∃ (A : Option Addr) (c : Nat) (l : List MsgV), c1 = .slice A l.length c ∧ l.length ≤ c ∧ c ≤ maxLen ∧ l.length ≤ R ∧ Msgs w A l.length l ∧ ∀ m ∈ l, MsgOk R w m := by
  have hk : Tryz.prog.cellsOf 25 = 4 := by kernel_rfl
  obtain ⟨A, n, c, L, hcs, hn, hc, hR, hl, hL, hr⟩ := fitsZ_slice h Tryz.underlying42 (by rw [hk]; omega) (Nat.le_of_ble_eq_true (by kernel_rfl))
  rw [hk] at hr
  obtain ⟨l, rfl, hq⟩ := choose_list (f := msgC) (Q := MsgOk R w) fun x hx => open_msgZ (hL x hx).2
  rw [List.length_map] at hl
  rw [map_flat] at hr
  subst hl
  simp only [List.cons.injEq, and_true] at hcs
  exact ⟨A, c, l, hcs, hn, hc, hR, ⟨rfl, hr, fun m hm => (hq m hm).octs, fun m hm => (hq m hm).uid, fun m hm => (hq m hm).cap⟩, hq⟩
set_option maxRecDepth 100000 in
theorem open_boxZ {cs : Array Value} (h : FitsZ R enc Tryz.prog w 44 cs.toList) : ∃ (nm : ByteArray) (e nx : Nat) (A : Option Addr) (c : Nat) (l : List MsgV), cs = boxC nm e nx A l.length c ∧ nm.size ≤ maxLen ∧ nm.size ≤ R ∧ e < 4294967296 ∧ nx < 4294967296 ∧ l.length ≤ c ∧ c ≤ maxLen ∧ l.length ≤ R ∧ Msgs w A l.length l ∧ ∀ m ∈ l, MsgOk R w m := by
  obtain ⟨hx3, hx4⟩ := fitsZ_fields h Tryz.underlying44 (by kernel_rfl) (by kernel_rfl)
  obtain ⟨a0, a1, a2, a3, rfl⟩ := array4 (show cs.toList.length = 4 from hx3)
  obtain ⟨s, e0, hs, hsR⟩ := fitsZ_string (hx4 0 _ a0 rfl rfl) Tryz.underlying9
  obtain ⟨u1, e1, hu1⟩ := fits_int (hx4 1 _ a1 rfl rfl).fits Tryz.underlying22
  obtain ⟨u2, e2, hu2⟩ := fits_int (hx4 2 _ a2 rfl rfl).fits Tryz.underlying22
  obtain ⟨k1, rfl, hk1⟩ := u32_range hu1
  obtain ⟨k2, rfl, hk2⟩ := u32_range hu2
  obtain ⟨A, c, l, rfl, h1, h2, h3, h4, h5⟩ := open_msgsZ (hx4 3 _ a3 rfl rfl)
  simp only [List.cons.injEq, and_true] at e0 e1 e2
  subst e0 e1 e2
  exact ⟨s, k1, k2, A, c, l, rfl, hs, hsR, hk1, hk2, h1, h2, h3, h4, h5⟩
end
section
variable {H : Type} {enc : TypeId × Value → H} {W : World} {base0 b0 : Nat} {spare : Nat → Bool} {held : Bool} {r : Reach} {R : Nat}
set_option maxRecDepth 100000 in
theorem box_arg {v : Value} {d : DataW H} {ps : List MemPlace} (hv : Value.okWide Tryz.prog W r b0 44 v) (h : DataW.Trod enc Tryz.prog W base0 spare held 44 v d ps) (hz : ∀ k ∈ d.weights Tryz.prog 44, k ≤ R) :
    ∃ (nm : ByteArray) (e nx : Nat) (A : Option Addr) (c : Nat) (l : List MsgV), v = .agg (boxC nm e nx A l.length c) ∧ nm.size ≤ maxLen ∧ nm.size ≤ R ∧ e < 4294967296 ∧ nx < 4294967296 ∧ l.length ≤ c ∧ c ≤ maxLen ∧ l.length ≤ R ∧ Msgs W A l.length l ∧ ∀ m ∈ l, MsgOk R W m := by
  obtain ⟨cs, rfl, hf⟩ := fitsZ_struct hv Tryz.underlying44 h hz
  obtain ⟨nm, e, nx, A, c, l, rfl, b⟩ := open_boxZ hf
  exact ⟨nm, e, nx, A, c, l, rfl, b⟩
set_option maxRecDepth 100000 in
theorem msg_arg {v : Value} {d : DataW H} {ps : List MemPlace} (hv : Value.okWide Tryz.prog W r b0 25 v) (h : DataW.Trod enc Tryz.prog W base0 spare held 25 v d ps) (hz : ∀ k ∈ d.weights Tryz.prog 25, k ≤ R) :
    ∃ m : MsgV, v = .agg #[.int .u32 (m.uid : Nat), .int .i64 m.date, .int .i64 m.flags, .slice m.a m.b.length m.c] ∧ MsgOk R W m := by
  obtain ⟨cs, rfl, hf⟩ := fitsZ_struct hv Tryz.underlying25 h hz
  obtain ⟨m, e, hm⟩ := open_msgZ hf
  exact ⟨m, by congr 1; exact Array.ext' e, hm⟩
end
end Go.Proofs.YtjhaccmcjlbllaaGreatDoor
/-
  Arguments that are keys, opened so deep as is looked at.
-/
namespace Go.Proofs.YtjhaccmcjlbllaaGreatDoor
open Go.RowKit Go.ChangeShapes Go.WideShapes
theorem list6K {α : Type} {x : List α} (h : x.length = 6) : ∃ a b c d e f, x = [a, b, c, d, e, f] := by
  match x, h with
  | [a, b, c, d, e, f], _ => exact ⟨a, b, c, d, e, f, rfl⟩
theorem u16_rangeK {n : Int} (h : (Lit.int .u16 n).wf = true) : ∃ k : Nat, n = (k : Nat) ∧ k < 65536 := by
  simp [Lit.wf, IntKind.min, IntKind.max, IntKind.signed, IntKind.bits] at h
  exact ⟨n.toNat, by omega, by omega⟩
theorem st_of (s : ByteArray) : s = St s.data.toList := rfl
section
variable {H : Type} {enc : TypeId × Value → H} {w W : World} {R base0 b0 : Nat} {spare : Nat → Bool} {held : Bool} {r : Reach}
set_option maxRecDepth 100000 in
theorem open_key : ∀ (d : Nat) {x : List Value}, FitsZ R enc Tryz.prog w 52 x → ∃ k : KeyV, x = keyC k ∧ KeyFits d k ∧ KeyMem w d k
  | d, x, h => by
    obtain ⟨hx3, hx4⟩ := fitsZ_fields h Tryz.underlying52 (by kernel_rfl) (by kernel_rfl)
    obtain ⟨a0, a1, a2, a3, a4, a5, rfl⟩ := list6K hx3
    obtain ⟨k, e0, hk⟩ := fits_int (hx4 0 _ a0 rfl rfl).fits Tryz.underlying5
    obtain ⟨s, e1, _⟩ := fits_string (hx4 1 _ a1 rfl rfl).fits Tryz.underlying9
    obtain ⟨n, e2, hn⟩ := fits_int (hx4 2 _ a2 rfl rfl).fits Tryz.underlying50
    obtain ⟨fr, e3, hfr⟩ := fits_int (hx4 3 _ a3 rfl rfl).fits Tryz.underlying22
    obtain ⟨up, e4, hup⟩ := fits_int (hx4 4 _ a4 rfl rfl).fits Tryz.underlying22
    obtain ⟨k, rfl⟩ := u8_range hk
    obtain ⟨n, rfl, hn2⟩ := u16_rangeK hn
    obtain ⟨fr, rfl, hfr2⟩ := u32_range hfr
    obtain ⟨up, rfl, hup2⟩ := u32_range hup
    have hcz : Tryz.prog.cellsOf 52 = 6 := by kernel_rfl
    obtain ⟨A, m, c, L, hcs, hmc, hc, hR, hl, hL, hr⟩ := fitsZ_slice (hx4 5 _ a5 rfl rfl) Tryz.underlying45 (by rw [hcz]; omega) (Nat.le_of_ble_eq_true (by kernel_rfl))
    simp only [List.cons.injEq, and_true] at e0 e1 e2 e3 e4 hcs
    subst e0 e1 e2 e3 e4 hcs
    match d with
    | 0 => exact ⟨.mk k.toNat s.data.toList n fr up A m c [], rfl, trivial, trivial⟩
    | d + 1 =>
      rw [hcz] at hr
      obtain ⟨l, rfl, hq⟩ := choose_list (f := keyC) (Q := fun k => KeyFits d k ∧ KeyMem w d k) fun x hx => open_key d (hL x hx).2
      rw [List.length_map] at hl
      rw [map_flat] at hr
      exact ⟨.mk k.toNat s.data.toList n fr up A m c l, rfl, ⟨hl, k.toNat_lt, hn2, hfr2, hup2, fun x hx => (hq x hx).1⟩, ⟨hr, fun x hx => (hq x hx).2⟩⟩
set_option maxRecDepth 100000 in
theorem keys_arg {v : Value} {d : DataW H} {ps : List MemPlace} (hv : Value.okWide Tryz.prog W r b0 45 v) (h : DataW.Trod enc Tryz.prog W base0 spare held 45 v d ps) (hz : ∀ k ∈ d.weights Tryz.prog 45, k ≤ R) :
    ∃ (A : Option Addr) (c : Nat) (l : List KeyV), v = .slice A l.length c ∧ l.length ≤ R ∧ RowR keySh W A l ∧ (∀ x ∈ l, KeyFits 10 x) ∧ ∀ x ∈ l, KeyMem W 10 x := by
  obtain ⟨A, n, c, rfl⟩ := okWide_slice Tryz.underlying45 hv
  have hcz : Tryz.prog.cellsOf 52 = 6 := by kernel_rfl
  obtain ⟨A', m, c', L, hcs, hmc, hc, hR, hl, hL, hr⟩ := fitsZ_slice (fitsZ_plain h rfl hz) Tryz.underlying45 (by rw [hcz]; omega) (Nat.le_of_ble_eq_true (by kernel_rfl))
  rw [hcz] at hr
  obtain ⟨l, rfl, hq⟩ := choose_list (f := keyC) (Q := fun k => KeyFits 10 k ∧ KeyMem W 10 k) fun x hx => open_key 10 (hL x hx).2
  rw [List.length_map] at hl
  rw [map_flat] at hr
  subst hl
  simp only [List.cons.injEq, and_true] at hcs
  exact ⟨A', c', l, hcs, hR, ⟨hr, fun m _ p hp => by cases hp⟩, fun x hx => (hq x hx).1, fun x hx => (hq x hx).2⟩
end
end Go.Proofs.YtjhaccmcjlbllaaGreatDoor
/-
  Of any mailbox just those are found, for any keys, that are so: cubbylaw17.SearchFinds answers true, for every mailbox and every keys.
-/
namespace Go.Proofs.YtjhaccmcjlbllaaGreatDoor.SearchFinds
open Go.RowKit Go.ChangeShapes Go.WideShapes Go.ChangeAt
open Go.ChangeMaps (open_string shut_string)
set_option linter.unusedVariables false
theorem own : ownKnob Tryz.prog.godebug = none := by kernel_rfl
set_option maxRecDepth 100000 in
theorem contract (H : Type) (enc : TypeId × Value → H) (W : World) (base : Nat) (args : Array Value) (ds gs : List (DataW H)) (before : List MemPlace)
    (hval : ∀ (j : Nat) t v, Tryz.f4.params[j]? = some t → args[j]? = some v → Value.okWide Tryz.prog W .any base t v)
    (hW : DataW.Whole enc Tryz.prog Tryz.f4.params.toList Rows.searchFindsSpec.vars false W args.toList ds gs before) (hz : (DataW.weightsEach Tryz.prog (Tryz.f4.params.toList ++ (OpenSpec.ofChange Rows.searchFindsSpec).bare.plain.varTypes Tryz.prog) (ds ++ gs)).all (· ≤ reachBytes) = true) (hL : laidMetH Tryz.prog Rows.searchFindsRow.laid W) (hsh : W.ShapedOpen Tryz.prog) :
    Calls Tryz.prog 4 args W fun e W' => ∃ v, e = .returned v ∧ Rows.searchFindsSpec.post enc Tryz.prog Tryz.f4 false true false false W args v W' := by
  have hW' := hW
  obtain ⟨p, q, hA0, hV, rfl, hfz, hnd⟩ := hW
  have hA : DataW.TrodAll enc Tryz.prog W 0 (fun _ => true) true Tryz.f4.params.toList args.toList ds p := hA0
  rw [Tryz.params4] at hA hval
  have hAk := hA
  obtain ⟨v0, v1, d0, d1, p0, p1, rfl, rfl, rfl, g0, g1⟩ := trodAll_two hA
  obtain ⟨rfl, rfl⟩ := trodVars_none hV
  obtain ⟨nm, e, nx, A, c, l, rfl, b1, b2, b3, b4, b5, b6, b7, b8, b9⟩ := box_arg (hval 0 44 v0 rfl rfl) g0 (sized_at hz (j := 0) (t := 44) (by kernel_rfl) rfl)
  obtain ⟨A2, c2, l2, rfl, p2, p3, p4, p5⟩ := keys_arg (hval 1 45 v1 rfl rfl) g1 (sized_at hz (j := 1) (t := 45) (by kernel_rfl) rfl)
  have hw : Fine W := fine_met hL hsh (by kernel_rfl) (by kernel_rfl) (by kernel_rfl)
  clear hA0
  refine (finds_law nm e nx A c l A2 c2 l2 W hw b2 b7 (fun x hx => (b9 x hx).size) b8 p3 p4 p5 p2).mono fun e W' ⟨he, hb⟩ => ?_
  subst he
  exact ⟨_, rfl, post_of_below (pv := []) hW' (fun _ _ _ => trodAll_mk1 (shut_bool Tryz.underlying4 _)) (fun sp hsp => args_stay (by kernel_rfl) (by kernel_rfl) hAk (fun x hx => hb.same (by simpa using hW'.lt x (List.mem_append_left _ hx))) (fun x hx => hsp x (List.mem_append_left _ hx))) (fun _ _ => rfl) rfl
    hb (ok_one (by kernel_rfl) rfl (okWide_bool_mk Tryz.underlying4 _))⟩
set_option maxRecDepth 100000 in
theorem reads (os : Os) {H : Type} (enc : TypeId × Value → H) : ∃ places, DataW.whole enc Tryz.prog ((World.laidAll Tryz.prog os Rows.searchFindsRow.laid).forCall (fun _ _ => 0) ⟨#[], #[.agg #[.string ⟨#[]⟩, .int .u32 0, .int .u32 0, .slice none 0 0], .slice none 0 0], []⟩).memory Tryz.f4.params.toList Rows.searchFindsSpec.vars false #[Value.agg #[.string ⟨#[]⟩, .int .u32 0, .int .u32 0, .slice none 0 0], Value.slice none 0 0].toList 8 = some ([.agg [.lit (.string []), .lit (.int .u32 0), .lit (.int .u32 0), .nil], .nil], [], places) :=
  ⟨[], by kernel_rfl⟩
set_option maxRecDepth 100000 in
theorem lifted (os : Os) (started : os.Started) (H : Type) (enc : TypeId × Value → H) (F : Stop.Interp) :
    ReturnsInHanded {} Tryz.checked os 4 .any ((OpenSpec.ofChange Rows.searchFindsSpec).preRow enc Tryz.prog Tryz.f4 Rows.searchFindsRow.domain false Rows.searchFindsRow.laid) (((OpenSpec.ofChange Rows.searchFindsSpec).at F).post enc Tryz.prog Tryz.f4 false true false false) := by
  obtain ⟨places, hx⟩ := reads os enc
  refine returnsInHanded_of_row (C := Tryz.checked) (s := OpenSpec.ofChange Rows.searchFindsSpec) own started (by kernel_rfl) Tryz.func4
    (witness_row_shaped (enc := enc) (C := Tryz.checked) false (World.laidAll Tryz.prog os Rows.searchFindsRow.laid) #[.agg #[.string ⟨#[]⟩, .int .u32 0, .int .u32 0, .slice none 0 0], .slice none 0 0] (World.laidAll_os _ _ _) (World.shaped_of_ZipB (by kernel_rfl) (by kernel_rfl)) (by kernel_rfl)
      (OpenSpec.preRow_of_cond 8 hx (by kernel_rfl) (fun k hk => by cases hk) (by kernel_rfl) (laidMet_laidAll _ (by kernel_rfl) (by kernel_rfl)))) ?_
  intro W base args ds gs before hval hW _ _ hz hL hsh _
  exact contract H enc W base args ds gs before hval hW hz hL hsh
theorem said : Rows.SearchFindsSaid :=
  OpenClaim.holds_of_cond 4 Tryz.f4 rfl rfl rfl rfl rfl rfl rfl ⟨rfl, rfl, rfl, rfl, rfl⟩ rfl rfl rfl rfl rfl (by kernel_rfl) Tryz.func4 (by kernel_rfl)
    (of_decide_eq_true (by kernel_rfl)) (by unfold Func.isWrapper; first | (rw [if_pos (by decide +kernel)]; kernel_rfl) | (rw [if_neg (by decide +kernel)]; exact ⟨rfl, rfl⟩))
    (fun os started H enc _ F => by rw [OpenClaim.pre_eq_preRow]; exact lifted os started H enc F)
theorem plain (f : FuncId) (fn : Func) (hf : Tryz.pinned.checked.prog.funcNamed "cubby/cubbylaw17.SearchFinds" = some f) (hfn : Tryz.pinned.checked.prog.funcs[f]? = some fn) :
    true = Tryz.pinned.checked.prog.looks [] ∧ ∀ (j : Nat) t, fn.params[j]? = some t → Tryz.pinned.checked.prog.wantsStandIn t = false := by
  obtain rfl : f = 4 := Option.some.inj ((show Tryz.prog.funcNamed "cubby/cubbylaw17.SearchFinds" = some 4 by kernel_rfl).symm.trans hf) |>.symm
  obtain rfl : fn = Tryz.f4 := (Option.some.inj (Tryz.func4.symm.trans hfn)).symm
  refine ⟨by kernel_rfl, fun j t ht => ?_⟩
  rw [Tryz.params4] at ht
  have hm : t ∈ [44, 45] := by simpa using Array.mem_of_getElem? ht
  have hall : ([44, 45].all fun u => !Tryz.prog.wantsStandIn u) = true := by kernel_rfl
  exact (show Tryz.prog.wantsStandIn t = false by simpa using List.all_eq_true.1 hall t hm)
theorem holds : Rows.SearchFindsCardSaid :=
  Claim7.holds_tied_plain_at .later [] _ _ _ _ said (fun _ h => by cases h) (by kernel_rfl) (fun _ h => by cases h) searchFinds_row_tie rfl ⟨rfl, rfl⟩ (by kernel_rfl) rfl plain (by kernel_rfl)
#print axioms holds
end Go.Proofs.YtjhaccmcjlbllaaGreatDoor.SearchFinds
