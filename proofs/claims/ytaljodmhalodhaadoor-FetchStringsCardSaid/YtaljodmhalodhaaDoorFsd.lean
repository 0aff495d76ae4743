/-
  Walk of the statement: tokens, written down, are read as they were (cubbylaw15.LexBack).
-/
import Derived.Test.YtaljodmhalodhaaDoorFsc
import Derived.Deep.Slices
import Derived.Deep.Fields
import Derived.ChangeSame
import Derived.ChangeSlices
import Derived.Carry
import Derived.SizedLaws
import Derived.Lib.SmallJoins
import Derived.Deep.DeepHandedRow
import Derived.LaidSub
import Derived.Lib.LaidTab
import Derived.MakeChecks
import Derived.ChangeMaps
import Derived.Test.YtaljodmhalodhaaDoorCards
import Derived.Test.YtaljodmhalodhaaDoorTie
import Derived.SevenTiedAt
namespace Go.Proofs.YtaljodmhalodhaaDoor
open Go.RowKit
set_option linter.unusedSimpArgs false
set_option linter.unusedVariables false
theorem good_toks {lit : Bool} {l : List TokI} {s : ByteArray} (h : GoodS lit l s) : ∃ l', l = l'.map TokS.i ∧ s.data.toList = writtenS lit l' ∧ tokS 202 0 0 s.data.toList = some l' ∧ (∀ t ∈ l', okTok lit t) ∧ deepOk 0 l' ∧ l'.length ≤ 200 := by
  obtain ⟨l', h1, h2, h3, h4, rfl⟩ := h
  exact ⟨l', h1, rfl, tok_back lit l' 202 h2 h3 h4 (by omega), h2, h3, h4⟩
theorem writ_len (lit : Bool) : ∀ (l : List TokS) (N : Nat), (∀ t ∈ l, t.t.length ≤ N) → (writtenS lit l).length ≤ l.length * (2 * N + 21) := by
  intro l N
  have hr : ∀ (l : List TokS) (p : Nat), (∀ t ∈ l, t.t.length ≤ N) → (restS lit p l).length ≤ l.length * (2 * N + 21) := by
    intro l
    induction l with
    | nil => intro p _; simp [restS]
    | cons t r ih =>
      intro p h
      have h1 := ih t.k (fun x hx => h x (List.mem_cons_of_mem _ hx))
      have h2 := body_len lit t
      have h3 := h t List.mem_cons_self
      have h4 : (sepS p t.k).length ≤ 1 := by unfold sepS; split <;> simp
      show (sepS p t.k ++ bodyS lit t ++ restS lit t.k r).length ≤ _
      rw [List.length_append, List.length_append, List.length_cons, Nat.add_mul, Nat.one_mul]
      omega
  intro h
  cases l with
  | nil => simp [writtenS]
  | cons t r =>
    have h1 := hr r t.k (fun x hx => h x (List.mem_cons_of_mem _ hx))
    have h2 := body_len lit t
    have h3 := h t List.mem_cons_self
    show (bodyS lit t ++ restS lit t.k r).length ≤ _
    rw [List.length_append, List.length_cons, Nat.add_mul, Nat.one_mul]
    omega
set_option maxRecDepth 100000 in
set_option maxHeartbeats 4000000 in
theorem lexBack_law (A : Option Addr) (n c : Nat) (l : List TokI) (lit : Bool) (m : Int) (w : World) (hm : w.cell? ⟨0, 0, none⟩ = some (.int .i64 m)) (hl : l.length = n) (hn : n ≤ 140737488355328) (hr : RowR tokISh w A l) (hz : ∀ x ∈ l, x.t.length ≤ 140737488355328) :
    Calls Tryd.prog 4 #[.slice A n c, .bool lit] w fun ev w' => ev = .returned (.bool true) ∧ Below w.heap.size w w' := by
  have HB := Below.refl w.heap.size w
  have hm0 : 0 < w.heap.size := block_lt_of_cell hm
  refine calls_at 70 Tryd.func4 rfl rfl (Nat.le_of_ble_eq_true rfl) ?_
  intro a hA; replace hA := hA.norm
  refine wS (wR ?_)
  revert a; refine wo rfl rfl (by decide) (fun ev e h => by simp [go_sem, h] <;> rfl) ?_; intro a hA
  replace hA := hA.keepN [0, 1]
  refine wN (nT (wS (wS (wR ?_))))
  refine wl_call hA rfl rfl (by decide) (fun ev h => exec_call Tryd.func7 (by kernel_rfl) rfl (h.f _) (by first | (simp only [mL, h.c] <;> rfl) | (simp [mL, h.c] <;> rfl))) (awake15_any _) ?_
  rintro e w1 ⟨rfl, hb1⟩
  refine ⟨_, rfl, fun a hA => ?_⟩
  replace HB := HB.trans (hb1.mono HB.size)
  revert a; (iterate 2 refine wo rfl rfl (by decide) (fun ev e h => by simp [go_sem, h] <;> rfl) ?_); (iterate 3 refine wg _ rfl rfl rfl rfl (by decide) (fun hq ev e h => by simp [go_sem, h, ↓gw_t (beq_t hq)] <;> rfl) ?_); refine wko rfl rfl (by decide) rfl rfl rfl ?_; intro a hA
  replace hA := hA.keepN [0, 1, 17]
  refine wN (nT ?_)
  refine wp_if hA 17 _ rfl (fun hq => ?yA) (fun hq => ?nA)
  case yA =>
    refine wS (wR ?_)
    refine wl_call hA rfl rfl (by decide) (fun ev h => exec_call Tryd.func7 (by kernel_rfl) rfl (h.f _) (by first | (simp only [mL, h.c] <;> rfl) | (simp [mL, h.c] <;> rfl))) (awake15_any _) ?_
    rintro e w2 ⟨rfl, hb2⟩
    refine ⟨_, rfl, fun a hA => ?_⟩
    replace HB := HB.trans (hb2.mono HB.size)
    revert a; refine wo rfl rfl (by decide) (fun ev e h => by simp [go_sem, h] <;> rfl) ?_; intro a hA
    replace hA := hA.keepN [4]
    refine wN (nT (wp_ret (rT ?_)))
    refine ret_1 hA 4 rfl rfl ?_
    exact ⟨rfl, HB⟩
  case nA =>
    have hn2 : n ≤ 250 := by simp at hq; omega
    refine wp_skip (nT (wS (wS (wR ?_))))
    revert a; (iterate 3 refine wo rfl rfl (by decide) (fun ev e h => by simp [go_sem, h] <;> rfl) ?_); intro a hA
    replace hA := hA.keepN [0, 1, 20, 21]
    refine wN (nT (wB ?_))
    refine wp_loop_at (fun f a wx => ∃ (j : Nat), j + f = n ∧ (∀ x ∈ l.take j, x.t.length ≤ 300) ∧ wx = w1 ∧ At 70 [(0, .slice A n c), (1, .bool lit), (20, .int .i64 (n : Nat)), (21, .int .i64 (j : Nat))] a) (n) ?_ ?_
    · exact ⟨0, by omega, fun _ h => (by cases h), rfl, hA⟩
    clear hA
    rintro f a wx ⟨j, hjf, hpl, rfl, hA⟩
    refine wS (wR ?_)
    revert a; refine wo rfl rfl (by decide) (fun ev e h => by simp [go_sem, h] <;> rfl) ?_; intro a hA
    replace hA := hA.keepN [0, 1, 20, 21, 22]
    refine wN (nT (wS ?_))
    refine wp_if hA 22 _ rfl (fun hq2 => ?yB) (fun hq2 => ?nB)
    case yB =>
      have hjn : j < n := by simp at hq2; omega
      obtain ⟨x, hx⟩ : ∃ x, l[j]? = some x := ⟨_, List.getElem?_eq_getElem (by omega)⟩
      obtain ⟨ad, rfl, hadl, k0, k1⟩ := (hr.below HB).cell hx
      have hxz := hz x (List.mem_of_getElem? hx)
      obtain ⟨xk, t⟩ := x
      have z1 : wx.cell? ⟨(ad.add (j * 2)).block, (ad.add (j * 2)).off + 1, none⟩ = some (.string (St t)) := k1 1 _ (by decide) rfl
      have jj0 : (0 : Int) ≤ (j : Int) := by omega
      have jj1 : (j : Int) < (n : Int) := by omega
      have htz : (St t).size = t.length := rfl
      have i3 : IntKind.i64.wrap (((j : Nat) : Int) + 1) = ((j + 1 : Nat) : Int) := by rw [IntWalk.i64_in _ (by omega)]; omega
      refine wp_skip (nT (wS (wB (wS (wR ?_)))))
      revert a; (iterate 2 refine wo rfl rfl (by decide) (fun ev e h => by simp [go_sem, h, jj0, jj1, z1, htz] <;> rfl) ?_); intro a hA
      replace hA := hA.keepN [0, 1, 5, 20, 21]
      refine wN (nT (wS (wR ?_)))
      revert a; (iterate 7 refine wo rfl rfl (by decide) (fun ev e h => by simp [go_sem, h, jj0, jj1, z1, htz] <;> rfl) ?_); intro a hA
      replace hA := hA.keepN [0, 1, 20, 21, 30]
      refine wN (nT ?_)
      refine wp_if hA 30 _ rfl (fun hq3 => ?yC) (fun hq3 => ?nC)
      case yC =>
        refine wS (wR ?_)
        revert a; refine wo rfl rfl (by decide) (fun ev e h => by simp [go_sem, h, jj0, jj1, z1, htz] <;> rfl) ?_; intro a hA
        replace hA := hA.keepN [4]
        refine wN (nT (wp_ret (rB (rT (rT (rB (rT ?_)))))))
        refine ret_1 hA 4 rfl rfl ?_
        exact ⟨rfl, HB⟩
      case nC =>
        have ht : t.length ≤ 300 := by simp at hq3; omega
        refine wp_skip (nB (nT (wR ?_)))
        revert a; (iterate 2 refine wo rfl rfl (by decide) (fun ev e h => by simp [go_sem, h, i3] <;> rfl) ?_); intro a hA
        replace hA := hA.keepN [0, 1, 20, 21]
        refine wN (nT ?_)
        refine ⟨f - 1, by omega, j + 1, by omega, fun x hx2 => ?_, rfl, hA⟩
        rw [List.take_add_one, hx] at hx2
        rcases List.mem_append.1 hx2 with h | h
        · exact hpl x h
        · rw [List.mem_singleton.1 h]; exact ht
    case nB =>
      have hjn : n ≤ j := by simp at hq2; omega
      rw [List.take_of_length_le (by omega)] at hpl
      replace hA := hA.keepN [0, 1]
      refine wp_exit (xT (xT (xB (nT (wS (wR ?_))))))
      revert a; (iterate 2 refine wo rfl rfl (by decide) (fun ev e h => by simp [go_sem, h] <;> rfl) ?_); intro a hA
      refine wl_call hA rfl rfl (by decide) (fun ev h => exec_call Tryd.func10 (by kernel_rfl) rfl (h.f _) (by first | (simp only [mL, h.get 33 rfl, h.get 34 rfl, h.c] <;> rfl) | (simp [mL, h.get 33 rfl, h.get 34 rfl, h.c] <;> rfl))) (written_any A n c l lit _ hl hn2 (hr.below HB) (fun x hx => Nat.le_trans (hpl x hx) (by decide))) ?_
      rintro e w2 ⟨s, ok, rfl, hok1, hok2, hb2⟩
      refine ⟨_, rfl, fun a hA => ?_⟩
      replace HB := HB.trans (hb2.mono HB.size)
      revert a; (iterate 5 refine wo rfl rfl (by decide) (fun ev e h => by simp [go_sem, h] <;> rfl) ?_); intro a hA
      replace hA := hA.keepN [0, 6, 7]
      refine wN (nT (wS (wS (wR ?_))))
      revert a; (iterate 2 refine wo rfl rfl (by decide) (fun ev e h => by simp [go_sem, h] <;> rfl) ?_); intro a hA
      replace hA := hA.keepN [0, 6, 39]
      refine wN (nT ?_)
      refine wp_if hA 39 _ rfl (fun hq3 => ?yD) (fun hq3 => ?nD)
      case yD =>
        refine wS (wR ?_)
        revert a; refine wo rfl rfl (by decide) (fun ev e h => by simp [go_sem, h] <;> rfl) ?_; intro a hA
        replace hA := hA.keepN [4]
        refine wN (nT (wp_ret (rT ?_)))
        refine ret_1 hA 4 rfl rfl ?_
        exact ⟨rfl, HB⟩
      case nD =>
        have hok : ok = true := by simpa using hq3
        obtain ⟨l', rfl, hs, htk, _, _, hl200⟩ := good_toks (hok1 hok)
        have hsz : s.data.toList.length ≤ 900000 := by
          have h1 := writ_len lit l' 300 (fun t ht => hpl t.i (List.mem_map_of_mem ht))
          rw [hs]
          omega
        obtain ⟨b, hb⟩ : ∃ b, s.data.toList = b := ⟨_, rfl⟩
        have hsb : s = St b := by rw [← hb]
        rw [hb] at htk hsz
        subst hsb
        refine wp_skip (nT (wS (wR ?_)))
        revert a; refine wo rfl rfl (by decide) (fun ev e h => by simp [go_sem, h] <;> rfl) ?_; intro a hA
        obtain ⟨c3, w3, hcv, hrd, hb3⟩ := conv_str b w2
        refine wl_op hA rfl rfl (by decide) (fun ev h => by simp [go_sem, h.get 41 rfl, hcv]; try first | exact ⟨rfl, rfl⟩ | rfl) fun a hA => ?_
        replace HB := HB.trans (hb3.mono HB.size)
        refine wl_call hA rfl rfl (by decide) (fun ev h => exec_call Tryd.func11 (by kernel_rfl) rfl (h.f _) (by first | (simp only [mL, h.get 42 rfl, h.c] <;> rfl) | (simp [mL, h.get 42 rfl, h.c] <;> rfl))) (tokens_any _ b.length c3 b m _ ((HB.cell hm0).trans hm) rfl hsz hrd) ?_
        rintro e w4 ⟨v, ts, ok4, rfl, hots, hts, hb4⟩
        refine ⟨_, rfl, fun a hA => ?_⟩
        replace HB := HB.trans (hb4.mono HB.size)
        unfold toksR at hts
        rw [htk] at hts
        obtain ⟨rfl, rfl⟩ := hts
        obtain ⟨A4, c4, rfl, hr4, hc4⟩ := hots.reads
        have hr4 := rowR_i hr4
        have hn4 : ts.length = n := by rw [← hl, List.length_map]
        rw [hn4] at hA
        revert a; (iterate 5 refine wo rfl rfl (by decide) (fun ev e h => by simp [go_sem, h] <;> rfl) ?_); intro a hA
        replace hA := hA.keepN [0, 8, 9]
        refine wN (nT (wS (wS (wR ?_))))
        revert a; (iterate 3 refine wo rfl rfl (by decide) (fun ev e h => by simp [go_sem, h] <;> rfl) ?_); (iterate 5 refine wg _ rfl rfl rfl rfl (by decide) (fun hq ev e h => by simp [go_sem, h, ↓gw_t (beq_t hq)] <;> rfl) ?_); refine wko rfl rfl (by decide) rfl rfl rfl ?_; intro a hA
        replace hA := hA.keepN [0, 8, 54]
        refine wN (nT ?_)
        refine wp_if hA 54 _ rfl (fun hq4 => ?yE) (fun hq4 => ?nE)
        case yE => simp at hq4
        case nE =>
          refine wp_skip (nT (wS (wS (wR ?_))))
          revert a; (iterate 3 refine wo rfl rfl (by decide) (fun ev e h => by simp [go_sem, h] <;> rfl) ?_); intro a hA
          replace hA := hA.keepN [0, 8, 56, 57]
          refine wN (nT (wB ?_))
          refine wp_loop_at (fun f a wx => ∃ (j : Nat), j + f = n ∧ Below w4.heap.size w4 wx ∧ At 70 [(0, .slice A n c), (8, .slice A4 n c4), (56, .int .i64 (n : Nat)), (57, .int .i64 (j : Nat))] a) (n) ?_ ?_
          · exact ⟨0, by omega, Below.refl _ _, hA⟩
          clear hA
          rintro f a wz ⟨j, hjf, HX, hA⟩
          refine wS (wR ?_)
          revert a; refine wo rfl rfl (by decide) (fun ev e h => by simp [go_sem, h] <;> rfl) ?_; intro a hA
          replace hA := hA.keepN [0, 8, 56, 57, 58]
          refine wN (nT (wS ?_))
          refine wp_if hA 58 _ rfl (fun hq5 => ?yF) (fun hq5 => ?nF)
          case nF =>
            replace hA := hA.keepN []
            refine wp_exit (xT (xT (xB (nT (wS (wR ?_))))))
            revert a; refine wo rfl rfl (by decide) (fun ev e h => by simp [go_sem, h] <;> rfl) ?_; intro a hA
            replace hA := hA.keepN [4]
            refine wN (nT (wp_ret ?_))
            refine ret_1 hA 4 rfl rfl ?_
            exact ⟨rfl, HB.trans (HX.mono HB.size)⟩
          case yF =>
            have hjn : j < n := by simp at hq5; omega
            obtain ⟨x, hx⟩ : ∃ x, (ts.map TokS.i)[j]? = some x := ⟨_, List.getElem?_eq_getElem (by omega)⟩
            obtain ⟨ad, rfl, hadl, k0, k1⟩ := (hr.below (HB.trans (HX.mono HB.size))).cell hx
            obtain ⟨ad2, rfl, hadl2, l0, l1⟩ := (hr4.below HX).cell hx
            obtain ⟨xk, t⟩ := x
            have z0 : wz.cell? (ad.add (j * 2)) = some (.int .i64 xk) := k0 _ rfl
            have z1 : wz.cell? ⟨(ad.add (j * 2)).block, (ad.add (j * 2)).off + 1, none⟩ = some (.string (St t)) := k1 1 _ (by decide) rfl
            have y0 : wz.cell? (ad2.add (j * 2)) = some (.int .i64 xk) := l0 _ rfl
            have y1 : wz.cell? ⟨(ad2.add (j * 2)).block, (ad2.add (j * 2)).off + 1, none⟩ = some (.string (St t)) := l1 1 _ (by decide) rfl
            replace hadl : (ad.add (j * 2)).block < wz.heap.size := by rw [block_of_add]; exact hadl
            replace hadl2 : (ad2.add (j * 2)).block < wz.heap.size := by rw [block_of_add]; exact hadl2
            have jj0 : (0 : Int) ≤ (j : Int) := by omega
            have jj1 : (j : Int) < (n : Int) := by omega
            have i3 : IntKind.i64.wrap (((j : Nat) : Int) + 1) = ((j + 1 : Nat) : Int) := by rw [IntWalk.i64_in _ (by omega)]; omega
            refine wp_skip (nT (wS (wB (wS (wR ?_)))))
            revert a; (iterate 2 refine wo rfl rfl (by decide) (fun ev e h => by simp [go_sem, h] <;> rfl) ?_); intro a hA
            replace hA := hA.keepN [0, 8, 10, 56, 57]
            have pS := fun (wo : World) (hC : (fun wy => Below wz.heap.size wz wy) wo) => have p0 := (hC.cell (p := ad.add (j * 2)) hadl).trans z0; have p1 := (hC.cell (p := ⟨(ad.add (j * 2)).block, (ad.add (j * 2)).off + 1, none⟩) hadl).trans z1; have p2 := (hC.cell (p := ad2.add (j * 2)) hadl2).trans y0; have p3 := (hC.cell (p := ⟨(ad2.add (j * 2)).block, (ad2.add (j * 2)).off + 1, none⟩) hadl2).trans y1; And.intro (p0) (And.intro (p1) (And.intro (p2) (p3)))
            refine wN (nT (wS ?_))
            refine wp_any_at hA [(.det ?dS0), (.det ?dS1), (.det ?dS2), (.det ?dS3), (.det ?dS4), (.det ?dS5), (.det ?dS6), (.det ?dS7), (.det ?dS8)] [] (fun wy => Below wz.heap.size wz wy) (TSp [] Grows) (by kernel_rfl) rfl (by kernel_rfl) (by kernel_rfl) rfl ((Below.refl _ _).drew) (stab_sp [] [true, true, true, true, true, true, true, true, true] [true, true, true, true, true, true, true, true, true] [] rfl rfl rfl (by kernel_rfl) ⟨trivial, trivial, trivial, trivial, trivial, trivial, trivial, trivial, trivial, trivial⟩ trivial) (fun _ h => by cases h) (fun _ _ _ _ _ h => by cases h) (fun _ h => by cases h) ⟨?oS0, ?oS1, ?oS2, ?oS3, ?oS4, ?oS5, ?oS6, ?oS7, ?oS8, trivial⟩ (by kernel_rfl) ?fS
            case oS0 => intro ev wo hev hC hs hph; have x0 := se hA hs 8; exact od rfl rfl (by kernel_rfl) hC (TSp.of rfl (Grows.refl _)) (by simp [go_sem, x0] <;> rfl)
            case oS1 => intro ev wo hev hC hs hph; have x0 := se hA hs 10; exact od rfl rfl (by kernel_rfl) hC (TSp.of rfl (Grows.refl _)) (by simp [go_sem, x0] <;> rfl)
            case oS2 => intro ev wo hev hC hs hph; have x0 := sd hs 60 0; have x1 := sd hs 61 1; exact od rfl rfl (by kernel_rfl) hC (TSp.of rfl (Grows.refl _)) (by simp [go_sem, x0, x1, jj0, jj1] <;> rfl)
            case oS3 => intro ev wo hev hC hs hph; have x0 := sd hs 62 2; exact od rfl rfl (by kernel_rfl) hC (TSp.of rfl (Grows.refl _)) (by simp [go_sem, x0, pS _ hC] <;> rfl)
            case oS4 => intro ev wo hev hC hs hph; have x0 := se hA hs 0; exact od rfl rfl (by kernel_rfl) hC (TSp.of rfl (Grows.refl _)) (by simp [go_sem, x0] <;> rfl)
            case oS5 => intro ev wo hev hC hs hph; have x0 := se hA hs 10; exact od rfl rfl (by kernel_rfl) hC (TSp.of rfl (Grows.refl _)) (by simp [go_sem, x0] <;> rfl)
            case oS6 => intro ev wo hev hC hs hph; have x0 := sd hs 64 4; have x1 := sd hs 65 5; exact od rfl rfl (by kernel_rfl) hC (TSp.of rfl (Grows.refl _)) (by simp [go_sem, x0, x1, jj0, jj1] <;> rfl)
            case oS7 => intro ev wo hev hC hs hph; have x0 := sd hs 66 6; exact od rfl rfl (by kernel_rfl) hC (TSp.of rfl (Grows.refl _)) (by simp [go_sem, x0, pS _ hC] <;> rfl)
            case oS8 => intro ev wo hev hC hs hph; have x0 := sd hs 63 3; have x1 := sd hs 67 7; exact od rfl rfl (by kernel_rfl) hC (TSp.of rfl (Grows.refl _)) (by simp [go_sem, x0, x1] <;> rfl)
            intro sg wf hC hph
            intro a hA
            replace hA := hA.keepN [0, 8, 56, 57, 68]
            refine nT ?_
            refine wp_if hA 68 _ rfl (fun hq6 => ?yG) (fun hq6 => ?nG)
            case yG => simp at hq6
            case nG =>
              refine wp_skip (nB (nT (wR ?_)))
              revert a; (iterate 2 refine wo rfl rfl (by decide) (fun ev e h => by simp [go_sem, h, i3] <;> rfl) ?_); intro a hA
              replace hA := hA.keepN [0, 8, 56, 57]
              refine wN (nT ?_)
              exact ⟨f - 1, by omega, j + 1, by omega, HX.trans (hC.mono HX.size), hA⟩
end Go.Proofs.YtaljodmhalodhaaDoor
/-
  Walk of the statement: what bytes are read as is, written down, read as the same (cubbylaw15.LexTokens).
-/
namespace Go.Proofs.YtaljodmhalodhaaDoor
open Go.RowKit
set_option linter.unusedSimpArgs false
set_option linter.unusedVariables false
theorem quoted_sum : ∀ (n : Nat) {s acc t r : List UInt8}, s.length ≤ n → quotedS acc s = some (t, r) → t.length + r.length ≤ acc.length + s.length
  | _, [], acc, t, r, _, h => by cases h
  | 0, c :: s, acc, t, r, hn, h => by simp at hn
  | n + 1, c :: s, acc, t, r, hn, h => by
    rw [List.length_cons] at hn ⊢
    rw [quoted_cons] at h
    split at h
    · injection h with h
      injection h with h1 h2
      subst h1 h2
      omega
    · split at h
      · cases s with
        | nil => cases h
        | cons y s =>
          simp only [] at h
          split at h
          · rw [List.length_cons] at hn ⊢
            have := quoted_sum n (by omega) h
            rw [List.length_append, List.length_singleton] at this
            omega
          · cases h
      · split at h
        · cases h
        · have := quoted_sum n (by omega) h
          rw [List.length_append, List.length_singleton] at this
          omega
theorem counted_sum {s t r : List UInt8} (h : countedS s = some (t, r)) : t.length + r.length ≤ s.length := by
  unfold countedS at h
  cases hc : crlf s with
  | none => rw [hc] at h; cases h
  | some p =>
    obtain ⟨head, rest⟩ := p
    have hs := congrArg List.length (crlf_some hc)
    rw [List.length_append] at hs
    rw [hc] at h
    simp only [] at h
    cases hl : litP head with
    | none => rw [hl] at h; cases h
    | some n =>
      rw [hl] at h
      simp only [] at h
      split at h
      · injection h with h
        injection h with h1 h2
        subst h1 h2
        rw [List.length_take, List.length_drop]
        omega
      · cases h
theorem one_sum {s r : List UInt8} {t : TokS} (h : oneS s = some (t, r)) : t.t.length + r.length ≤ s.length := by
  cases s with
  | nil => cases h
  | cons c s =>
    rw [one_cons] at h
    split at h
    · injection h with h
      injection h with h1 h2
      subst h1 h2
      simp
    · split at h
      · injection h with h
        injection h with h1 h2
        subst h1 h2
        simp
      · split at h
        · cases hq : quotedS [] s with
          | none => rw [hq] at h; cases h
          | some p =>
            rw [hq] at h
            injection h with h
            injection h with h1 h2
            subst h1 h2
            have := quoted_sum s.length (Nat.le_refl _) (t := p.1) (r := p.2) hq
            rw [List.length_cons]
            rw [List.length_nil] at this
            show p.1.length + p.2.length ≤ _
            omega
        · split at h
          · cases hq : countedS (c :: s) with
            | none => rw [hq] at h; cases h
            | some p =>
              rw [hq] at h
              injection h with h
              injection h with h1 h2
              subst h1 h2
              exact counted_sum (t := p.1) (r := p.2) hq
          · split at h
            · injection h with h
              injection h with h1 h2
              subst h1 h2
              have := congrArg List.length (List.takeWhile_append_dropWhile (p := plainB) (l := c :: s))
              rw [List.length_append] at this
              show ((c :: s).takeWhile plainB).length + _ ≤ _
              omega
            · cases h
/-- how long all texts are -/
def sumT : List TokS → Nat
  | [] => 0
  | t :: r => t.t.length + sumT r
theorem sumT_mem : ∀ {l : List TokS}, ∀ t ∈ l, t.t.length ≤ sumT l
  | [], t, h => by cases h
  | x :: r, t, h => by
    unfold sumT
    rcases List.mem_cons.1 h with e | h
    · rw [e]; omega
    · have := sumT_mem t h; omega
theorem tok_sum : ∀ (f : Nat) (d : Int) (n : Nat) (s : List UInt8) (l : List TokS), tokS f d n s = some l → sumT l ≤ s.length
  | 0, d, n, s, l, h => by cases h
  | f + 1, d, n, s, l, h => by
    unfold tokS at h
    split at h
    · split at h
      · injection h with h
        subst h
        exact Nat.zero_le _
      · cases h
    · cases ho : oneS s with
      | none => rw [ho] at h; cases h
      | some p =>
        obtain ⟨t, rest⟩ := p
        rw [ho] at h
        simp only [] at h
        split at h
        · cases h
        · have h2 := one_sum ho
          cases ha : apartS rest t.k with
          | none => rw [ha] at h; cases h
          | some s' =>
            have h3 := apart_len ha
            rw [ha] at h
            simp only [] at h
            cases hr : tokS f (deepS d t.k) (n + 1) s' with
            | none => rw [hr] at h; cases h
            | some l' =>
              rw [hr] at h
              injection h with h
              subst h
              have ih := tok_sum f (deepS d t.k) (n + 1) s' l' hr
              show t.t.length + sumT l' ≤ _
              omega
theorem body_lenT (t : TokS) : (bodyS true t).length ≤ t.t.length + 20 := by
  have h1 := countB_len 7 t.t.length
  unfold bodyS
  split
  · omega
  · split
    · rw [if_pos rfl]
      simp only [List.length_append, List.length_cons, List.length_nil]; omega
    · split <;> simp
theorem writ_lenT : ∀ (l : List TokS), (writtenS true l).length ≤ sumT l + l.length * 21 := by
  intro l
  have hr : ∀ (l : List TokS) (p : Nat), (restS true p l).length ≤ sumT l + l.length * 21 := by
    intro l
    induction l with
    | nil => intro p; simp [restS]
    | cons t r ih =>
      intro p
      have h1 := ih t.k
      have h2 := body_lenT t
      have h4 : (sepS p t.k).length ≤ 1 := by unfold sepS; split <;> simp
      show (sepS p t.k ++ bodyS true t ++ restS true t.k r).length ≤ t.t.length + sumT r + _
      rw [List.length_append, List.length_append, List.length_cons, Nat.add_mul, Nat.one_mul]
      omega
  cases l with
  | nil => simp [writtenS]
  | cons t r =>
    have h1 := hr r t.k
    have h2 := body_lenT t
    show (bodyS true t ++ restS true t.k r).length ≤ t.t.length + sumT r + _
    rw [List.length_append, List.length_cons, Nat.add_mul, Nat.one_mul]
    omega
set_option maxRecDepth 100000 in
set_option maxHeartbeats 4000000 in
theorem lexTokens_law (A : Option Addr) (n c : Nat) (b : List UInt8) (m : Int) (w : World) (hm : w.cell? ⟨0, 0, none⟩ = some (.int .i64 m)) (hl : b.length = n) (hn : n ≤ 140737488355328) (hr : Reads w w.heap.size 1 A n (u8s b)) :
    Calls Tryd.prog 5 #[.slice A n c] w fun ev w' => ev = .returned (.bool true) ∧ Below w.heap.size w w' := by
  have HB := Below.refl w.heap.size w
  have hm0 : 0 < w.heap.size := block_lt_of_cell hm
  refine calls_at 67 Tryd.func5 rfl rfl (Nat.le_of_ble_eq_true rfl) ?_
  intro a hA; replace hA := hA.norm
  refine wS (wR ?_)
  revert a; refine wo rfl rfl (by decide) (fun ev e h => by simp [go_sem, h] <;> rfl) ?_; intro a hA
  replace hA := hA.keepN [0]
  refine wN (nT (wS (wS (wR ?_))))
  refine wl_call hA rfl rfl (by decide) (fun ev h => exec_call Tryd.func7 (by kernel_rfl) rfl (h.f _) (by first | (simp only [mL, h.c] <;> rfl) | (simp [mL, h.c] <;> rfl))) (awake15_any _) ?_
  rintro e w1 ⟨rfl, hb1⟩
  refine ⟨_, rfl, fun a hA => ?_⟩
  replace HB := HB.trans (hb1.mono HB.size)
  revert a; (iterate 2 refine wo rfl rfl (by decide) (fun ev e h => by simp [go_sem, h] <;> rfl) ?_); (iterate 3 refine wg _ rfl rfl rfl rfl (by decide) (fun hq ev e h => by simp [go_sem, h, ↓gw_t (beq_t hq)] <;> rfl) ?_); refine wko rfl rfl (by decide) rfl rfl rfl ?_; intro a hA
  replace hA := hA.keepN [0, 16]
  refine wN (nT ?_)
  refine wp_if hA 16 _ rfl (fun hq => ?yA) (fun hq => ?nA)
  case yA =>
    refine wS (wR ?_)
    refine wl_call hA rfl rfl (by decide) (fun ev h => exec_call Tryd.func7 (by kernel_rfl) rfl (h.f _) (by first | (simp only [mL, h.c] <;> rfl) | (simp [mL, h.c] <;> rfl))) (awake15_any _) ?_
    rintro e w2 ⟨rfl, hb2⟩
    refine ⟨_, rfl, fun a hA => ?_⟩
    replace HB := HB.trans (hb2.mono HB.size)
    revert a; refine wo rfl rfl (by decide) (fun ev e h => by simp [go_sem, h] <;> rfl) ?_; intro a hA
    replace hA := hA.keepN [2]
    refine wN (nT (wp_ret (rT ?_)))
    refine ret_1 hA 2 rfl rfl ?_
    exact ⟨rfl, HB⟩
  case nA =>
    have hn2 : n ≤ 5000 := by simp at hq; omega
    refine wp_skip (nT (wS (wR ?_)))
    revert a; refine wo rfl rfl (by decide) (fun ev e h => by simp [go_sem, h] <;> rfl) ?_; intro a hA
    refine wl_call hA rfl rfl (by decide) (fun ev h => exec_call Tryd.func11 (by kernel_rfl) rfl (h.f _) (by first | (simp only [mL, h.get 19 rfl, h.c] <;> rfl) | (simp [mL, h.get 19 rfl, h.c] <;> rfl))) (tokens_any A n c b m _ ((HB.cell hm0).trans hm) hl (by omega) ((hr.below HB).more HB.size)) ?_
    rintro e w2 ⟨v, ts, ok, rfl, ho1, hts, hb2⟩
    refine ⟨_, rfl, fun a hA => ?_⟩
    replace HB := HB.trans (hb2.mono HB.size)
    unfold toksR at hts
    cases hT : tokS 202 0 0 b with
    | none =>
      rw [hT] at hts
      obtain ⟨rfl, rfl⟩ := hts
      obtain ⟨A1, c1, rfl, hr1, hc1⟩ := ho1.reads
      revert a; (iterate 5 refine wo rfl rfl (by decide) (fun ev e h => by simp [go_sem, h] <;> rfl) ?_); intro a hA
      replace hA := hA.keepN [3, 4]
      refine wN (nT (wS (wS (wR ?_))))
      revert a; (iterate 2 refine wo rfl rfl (by decide) (fun ev e h => by simp [go_sem, h] <;> rfl) ?_); intro a hA
      replace hA := hA.keepN [3, 24]
      refine wN (nT ?_)
      refine wp_if hA 24 _ rfl (fun hq2 => ?yB) (fun hq2 => ?nB)
      case nB => simp at hq2
      case yB =>
        refine wS (wR ?_)
        revert a; (iterate 4 refine wo rfl rfl (by decide) (fun ev e h => by simp [go_sem, h] <;> rfl) ?_); intro a hA
        replace hA := hA.keepN [2]
        refine wN (nT (wp_ret (rT ?_)))
        refine ret_1 hA 2 rfl rfl ?_
        exact ⟨rfl, HB⟩
    | some l' =>
      rw [hT] at hts
      obtain ⟨rfl, rfl⟩ := hts
      obtain ⟨hok, hdeep, h200⟩ := tok_ok 202 0 0 b ts (by omega) (by omega) hT
      have hsum := tok_sum 202 0 0 b ts hT
      have htz : ∀ t ∈ ts, t.t.length ≤ 5000 := fun t ht => by have := sumT_mem t ht; omega
      obtain ⟨A1, c1, rfl, hr1, hc1⟩ := ho1.reads
      obtain ⟨q, hq9⟩ : ∃ q, ts.length = q := ⟨_, rfl⟩
      have hr1 := rowR_i hr1
      have hg : GoodS true (ts.map TokS.i) (St (writtenS true ts)) := ⟨ts, rfl, hok, hdeep, by omega, rfl⟩
      have hlq : (ts.map TokS.i).length = q := by rw [List.length_map, hq9]
      rw [hq9] at hA
      revert a; (iterate 5 refine wo rfl rfl (by decide) (fun ev e h => by simp [go_sem, h] <;> rfl) ?_); intro a hA
      replace hA := hA.keepN [3, 4]
      refine wN (nT (wS (wS (wR ?_))))
      revert a; (iterate 2 refine wo rfl rfl (by decide) (fun ev e h => by simp [go_sem, h] <;> rfl) ?_); intro a hA
      replace hA := hA.keepN [3, 24]
      refine wN (nT ?_)
      refine wp_if hA 24 _ rfl (fun hq2 => ?yB) (fun hq2 => ?nB)
      case yB => simp at hq2
      case nB =>
        refine wp_skip (nT (wS (wR ?_)))
        revert a; refine wo rfl rfl (by decide) (fun ev e h => by simp [go_sem, h] <;> rfl) ?_; intro a hA
        refine wl_call hA rfl rfl (by decide) (fun ev h => exec_call Tryd.func10 (by kernel_rfl) rfl (h.f _) (by first | (simp only [mL, h.get 29 rfl, h.c] <;> rfl) | (simp [mL, h.get 29 rfl, h.c] <;> rfl))) (written_any A1 q c1 (ts.map TokS.i) true _ hlq (by omega) (hr1.below (Below.refl _ _)) (fun x hx => by obtain ⟨t, ht, rfl⟩ := List.mem_map.1 hx; exact htz t ht)) ?_
        rintro e w3 ⟨s, ok2, rfl, hok1, hok2, hb3⟩
        refine ⟨_, rfl, fun a hA => ?_⟩
        replace HB := HB.trans (hb3.mono HB.size)
        have hok2t : ok2 = true := by
          cases ok2 with
          | true => rfl
          | false => exact absurd hg (hok2 rfl _)
        subst hok2t
        obtain ⟨l2, hl2, hs, htk, _, _, _⟩ := good_toks (hok1 rfl)
        have e := map_i_inj hl2
        subst e
        have hsz : s.data.toList.length ≤ 900000 := by
          have h1 := writ_lenT ts
          rw [hs]
          omega
        obtain ⟨b2, hb2'⟩ : ∃ b, s.data.toList = b := ⟨_, rfl⟩
        have hsb : s = St b2 := by rw [← hb2']
        rw [hb2'] at htk hsz
        subst hsb
        revert a; (iterate 5 refine wo rfl rfl (by decide) (fun ev e h => by simp [go_sem, h] <;> rfl) ?_); intro a hA
        replace hA := hA.keepN [3, 5, 6]
        refine wN (nT (wS (wR ?_)))
        revert a; refine wo rfl rfl (by decide) (fun ev e h => by simp [go_sem, h] <;> rfl) ?_; intro a hA
        obtain ⟨c4, w4, hcv, hrd, hb4⟩ := conv_str b2 w3
        refine wl_op hA rfl rfl (by decide) (fun ev h => by simp [go_sem, h.get 34 rfl, hcv]; try first | exact ⟨rfl, rfl⟩ | rfl) fun a hA => ?_
        replace HB := HB.trans (hb4.mono HB.size)
        refine wl_call hA rfl rfl (by decide) (fun ev h => exec_call Tryd.func11 (by kernel_rfl) rfl (h.f _) (by first | (simp only [mL, h.get 35 rfl, h.c] <;> rfl) | (simp [mL, h.get 35 rfl, h.c] <;> rfl))) (tokens_any _ b2.length c4 b2 m _ ((HB.cell hm0).trans hm) rfl hsz hrd) ?_
        rintro e w5 ⟨v5, ts5, ok5, rfl, hots, hts5, hb5⟩
        refine ⟨_, rfl, fun a hA => ?_⟩
        replace HB := HB.trans (hb5.mono HB.size)
        unfold toksR at hts5
        rw [htk] at hts5
        obtain ⟨rfl, rfl⟩ := hts5
        obtain ⟨A5, c5, rfl, hr5, hc5⟩ := hots.reads
        have hr5 := rowR_i hr5
        rw [hq9] at hA
        revert a; (iterate 5 refine wo rfl rfl (by decide) (fun ev e h => by simp [go_sem, h] <;> rfl) ?_); intro a hA
        replace hA := hA.keepN [3, 6, 7, 8]
        refine wN (nT (wS (wS (wR ?_))))
        revert a; (iterate 3 refine wo rfl rfl (by decide) (fun ev e h => by simp [go_sem, h] <;> rfl) ?_); (iterate 2 refine wg _ rfl rfl rfl rfl (by decide) (fun hq ev e h => by simp [go_sem, h, ↓gw_t (beq_t hq)] <;> rfl) ?_); refine wko rfl rfl (by decide) rfl rfl rfl ?_; refine wo rfl rfl (by decide) (fun ev e h => by simp [go_sem, h] <;> rfl) ?_; (iterate 3 refine wg _ rfl rfl rfl rfl (by decide) (fun hq ev e h => by simp [go_sem, h, ↓gw_t (beq_t hq)] <;> rfl) ?_); intro a hA
        replace hA := hA.keepN [3, 7, 45, 47, 48]
        revert a; (iterate 2 refine wg _ rfl rfl rfl rfl (by decide) (fun hq ev e h => by simp [go_sem, h, ↓gw_t (beq_t hq)] <;> rfl) ?_); refine wko rfl rfl (by decide) rfl rfl rfl ?_; intro a hA
        replace hA := hA.keepN [3, 7, 51]
        refine wN (nT ?_)
        refine wp_if hA 51 _ rfl (fun hq4 => ?yE) (fun hq4 => ?nE)
        case yE => simp at hq4
        case nE =>
          refine wp_skip (nT (wS (wS (wR ?_))))
          revert a; (iterate 3 refine wo rfl rfl (by decide) (fun ev e h => by simp [go_sem, h] <;> rfl) ?_); intro a hA
          replace hA := hA.keepN [3, 7, 53, 54]
          refine wN (nT (wB ?_))
          refine wp_loop_at (fun f a wx => ∃ (j : Nat), j + f = q ∧ Below w5.heap.size w5 wx ∧ At 67 [(3, .slice A1 q c1), (7, .slice A5 q c5), (53, .int .i64 (q : Nat)), (54, .int .i64 (j : Nat))] a) (q) ?_ ?_
          · exact ⟨0, by omega, Below.refl _ _, hA⟩
          clear hA
          rintro f a wz ⟨j, hjf, HX, hA⟩
          refine wS (wR ?_)
          revert a; refine wo rfl rfl (by decide) (fun ev e h => by simp [go_sem, h] <;> rfl) ?_; intro a hA
          replace hA := hA.keepN [3, 7, 53, 54, 55]
          refine wN (nT (wS ?_))
          refine wp_if hA 55 _ rfl (fun hq5 => ?yF) (fun hq5 => ?nF)
          case nF =>
            replace hA := hA.keepN []
            refine wp_exit (xT (xT (xB (nT (wS (wR ?_))))))
            revert a; refine wo rfl rfl (by decide) (fun ev e h => by simp [go_sem, h] <;> rfl) ?_; intro a hA
            replace hA := hA.keepN [2]
            refine wN (nT (wp_ret ?_))
            refine ret_1 hA 2 rfl rfl ?_
            exact ⟨rfl, HB.trans (HX.mono HB.size)⟩
          case yF =>
            have hjn : j < q := by simp at hq5; omega
            obtain ⟨x, hx⟩ : ∃ x, (ts5.map TokS.i)[j]? = some x := ⟨_, List.getElem?_eq_getElem (by omega)⟩
            have HB25 : Below w2.heap.size w2 wz := ((hb3.trans (hb4.mono hb3.size)).trans (hb5.mono (by have := hb3.size; have := hb4.size; omega))).trans (HX.mono (by have := hb3.size; have := hb4.size; have := hb5.size; omega))
            obtain ⟨ad, rfl, hadl, k0, k1⟩ := (hr1.below HB25).cell hx
            obtain ⟨ad2, rfl, hadl2, l0, l1⟩ := (hr5.below HX).cell hx
            obtain ⟨xk, t⟩ := x
            have z0 : wz.cell? (ad.add (j * 2)) = some (.int .i64 xk) := k0 _ rfl
            have z1 : wz.cell? ⟨(ad.add (j * 2)).block, (ad.add (j * 2)).off + 1, none⟩ = some (.string (St t)) := k1 1 _ (by decide) rfl
            have y0 : wz.cell? (ad2.add (j * 2)) = some (.int .i64 xk) := l0 _ rfl
            have y1 : wz.cell? ⟨(ad2.add (j * 2)).block, (ad2.add (j * 2)).off + 1, none⟩ = some (.string (St t)) := l1 1 _ (by decide) rfl
            replace hadl : (ad.add (j * 2)).block < wz.heap.size := by rw [block_of_add]; exact hadl
            replace hadl2 : (ad2.add (j * 2)).block < wz.heap.size := by rw [block_of_add]; exact hadl2
            have jj0 : (0 : Int) ≤ (j : Int) := by omega
            have jj1 : (j : Int) < (q : Int) := by omega
            have i3 : IntKind.i64.wrap (((j : Nat) : Int) + 1) = ((j + 1 : Nat) : Int) := by rw [IntWalk.i64_in _ (by omega)]; omega
            refine wp_skip (nT (wS (wB (wS (wR ?_)))))
            revert a; (iterate 2 refine wo rfl rfl (by decide) (fun ev e h => by simp [go_sem, h] <;> rfl) ?_); intro a hA
            replace hA := hA.keepN [3, 7, 9, 53, 54]
            have pS := fun (wo : World) (hC : (fun wy => Below wz.heap.size wz wy) wo) => have p0 := (hC.cell (p := ad.add (j * 2)) hadl).trans z0; have p1 := (hC.cell (p := ⟨(ad.add (j * 2)).block, (ad.add (j * 2)).off + 1, none⟩) hadl).trans z1; have p2 := (hC.cell (p := ad2.add (j * 2)) hadl2).trans y0; have p3 := (hC.cell (p := ⟨(ad2.add (j * 2)).block, (ad2.add (j * 2)).off + 1, none⟩) hadl2).trans y1; And.intro (p0) (And.intro (p1) (And.intro (p2) (p3)))
            refine wN (nT (wS ?_))
            refine wp_any_at hA [(.det ?dS0), (.det ?dS1), (.det ?dS2), (.det ?dS3), (.det ?dS4), (.det ?dS5), (.det ?dS6), (.det ?dS7), (.det ?dS8)] [] (fun wy => Below wz.heap.size wz wy) (TSp [] Grows) (by kernel_rfl) rfl (by kernel_rfl) (by kernel_rfl) rfl ((Below.refl _ _).drew) (stab_sp [] [true, true, true, true, true, true, true, true, true] [true, true, true, true, true, true, true, true, true] [] rfl rfl rfl (by kernel_rfl) ⟨trivial, trivial, trivial, trivial, trivial, trivial, trivial, trivial, trivial, trivial⟩ trivial) (fun _ h => by cases h) (fun _ _ _ _ _ h => by cases h) (fun _ h => by cases h) ⟨?oS0, ?oS1, ?oS2, ?oS3, ?oS4, ?oS5, ?oS6, ?oS7, ?oS8, trivial⟩ (by kernel_rfl) ?fS
            case oS0 => intro ev wo hev hC hs hph; have x0 := se hA hs 7; exact od rfl rfl (by kernel_rfl) hC (TSp.of rfl (Grows.refl _)) (by simp [go_sem, x0] <;> rfl)
            case oS1 => intro ev wo hev hC hs hph; have x0 := se hA hs 9; exact od rfl rfl (by kernel_rfl) hC (TSp.of rfl (Grows.refl _)) (by simp [go_sem, x0] <;> rfl)
            case oS2 => intro ev wo hev hC hs hph; have x0 := sd hs 57 0; have x1 := sd hs 58 1; exact od rfl rfl (by kernel_rfl) hC (TSp.of rfl (Grows.refl _)) (by simp [go_sem, x0, x1, jj0, jj1] <;> rfl)
            case oS3 => intro ev wo hev hC hs hph; have x0 := sd hs 59 2; exact od rfl rfl (by kernel_rfl) hC (TSp.of rfl (Grows.refl _)) (by simp [go_sem, x0, pS _ hC] <;> rfl)
            case oS4 => intro ev wo hev hC hs hph; have x0 := se hA hs 3; exact od rfl rfl (by kernel_rfl) hC (TSp.of rfl (Grows.refl _)) (by simp [go_sem, x0] <;> rfl)
            case oS5 => intro ev wo hev hC hs hph; have x0 := se hA hs 9; exact od rfl rfl (by kernel_rfl) hC (TSp.of rfl (Grows.refl _)) (by simp [go_sem, x0] <;> rfl)
            case oS6 => intro ev wo hev hC hs hph; have x0 := sd hs 61 4; have x1 := sd hs 62 5; exact od rfl rfl (by kernel_rfl) hC (TSp.of rfl (Grows.refl _)) (by simp [go_sem, x0, x1, jj0, jj1] <;> rfl)
            case oS7 => intro ev wo hev hC hs hph; have x0 := sd hs 63 6; exact od rfl rfl (by kernel_rfl) hC (TSp.of rfl (Grows.refl _)) (by simp [go_sem, x0, pS _ hC] <;> rfl)
            case oS8 => intro ev wo hev hC hs hph; have x0 := sd hs 60 3; have x1 := sd hs 64 7; exact od rfl rfl (by kernel_rfl) hC (TSp.of rfl (Grows.refl _)) (by simp [go_sem, x0, x1] <;> rfl)
            intro sg wf hC hph
            intro a hA
            replace hA := hA.keepN [3, 7, 53, 54, 65]
            refine nT ?_
            refine wp_if hA 65 _ rfl (fun hq6 => ?yG) (fun hq6 => ?nG)
            case yG => simp at hq6
            case nG =>
              refine wp_skip (nB (nT (wR ?_)))
              revert a; (iterate 2 refine wo rfl rfl (by decide) (fun ev e h => by simp [go_sem, h, i3] <;> rfl) ?_); intro a hA
              replace hA := hA.keepN [3, 7, 53, 54]
              refine wN (nT ?_)
              exact ⟨f - 1, by omega, j + 1, by omega, HX.trans (hC.mono HX.size), hA⟩
end Go.Proofs.YtaljodmhalodhaaDoor
/-
  Walk of the statement: any text, as it is told, is read as it (cubbylaw18.FetchStrings).
-/
namespace Go.Proofs.YtaljodmhalodhaaDoor
open Go.RowKit
set_option linter.unusedSimpArgs false
set_option linter.unusedVariables false
set_option maxRecDepth 100000 in
set_option maxHeartbeats 4000000 in
theorem marks_one {g : Nat} (w : World) (K : Blk w g 52 #[.int .i64 6, .bool false]) : Calls Tryd.prog 22 #[.slice (some ⟨g, 0, none⟩) 1 1] w fun ev w' => ev = .returned (.bool true) ∧ Below w.heap.size w w' := by
  have HB := Below.refl w.heap.size w
  refine calls_at 25 Tryd.func22 rfl rfl (Nat.le_of_ble_eq_true rfl) ?_
  intro a hA; replace hA := hA.norm
  refine wS (wR ?_)
  revert a; refine wo rfl rfl (by decide) (fun ev e h => by simp [go_sem, h] <;> rfl) ?_; intro a hA
  replace hA := hA.keepN [0]
  refine wN (nT (wS (wS (wR ?_))))
  revert a; (iterate 3 refine wo rfl rfl (by decide) (fun ev e h => by simp [go_sem, h] <;> rfl) ?_); intro a hA
  replace hA := hA.keepN [5, 6, 7]
  refine wN (nT (wB ?_))
  refine wp_loop_at (fun f a wx => wx = w ∧ At 25 [(5, .slice (some ⟨g, 0, none⟩) 1 1), (6, .int .i64 1), (7, .int .i64 0)] a) (1) ?_ ?_
  · exact ⟨rfl, hA⟩
  clear hA
  rintro f a wx ⟨rfl, hA⟩
  refine wS (wR ?_)
  revert a; refine wo rfl rfl (by decide) (fun ev e h => by simp [go_sem, h, K.cell] <;> rfl) ?_; intro a hA
  replace hA := hA.keepN [5, 6, 7, 8]
  refine wN (nT (wS ?_))
  refine wp_if hA 8 _ rfl (fun hq => ?yA) (fun hq => ?nA)
  case nA => simp at hq
  case yA =>
    refine wp_skip (nT (wS (wB (wS (wR ?_)))))
    revert a; (iterate 2 refine wo rfl rfl (by decide) (fun ev e h => by simp [go_sem, h, K.cell] <;> rfl) ?_); intro a hA
    refine wl_local [.int .i64 6, .bool false] hA rfl rfl (by decide) (fun ev h => by simp [go_sem, K.cell]; try first | exact ⟨rfl, rfl⟩ | rfl) rfl rfl (by rfl) (fun w1 g ev hb h => by simp [go_sem, h.get 4 rfl, h.get 10 rfl, K.cell, setAll, hb.cell, hb.frozen]) fun w1 a (K1 : Blk _ _ _ _) hz1 hb1 hA => ?_
    replace HB := HB.trans (hb1.mono HB.size)
    replace hA := hA.keepN [4, 5, 6, 7]
    refine wN (nT (wS (wR ?_)))
    revert a; (iterate 4 refine wo rfl rfl (by decide) (fun ev e h => by simp [go_sem, h, K1.cell] <;> rfl) ?_); (iterate 3 refine wg _ rfl rfl rfl rfl (by decide) (fun hq ev e h => by simp [go_sem, h, ↓gw_t (beq_t hq), K1.cell] <;> rfl) ?_); refine wka rfl rfl (by decide) rfl rfl rfl ?_; refine wo rfl rfl (by decide) (fun ev e h => by simp [go_sem, h, K1.cell] <;> rfl) ?_; refine wg _ rfl rfl rfl rfl (by decide) (fun hq ev e h => by simp [go_sem, h, ↓gw_t (beq_t hq), K1.cell] <;> rfl) ?_; intro a hA
    replace hA := hA.keepN [5, 6, 7, 19, 20]
    revert a; (iterate 2 refine wg _ rfl rfl rfl rfl (by decide) (fun hq ev e h => by simp [go_sem, h, ↓gw_t (beq_t hq), K1.cell] <;> rfl) ?_); refine wka rfl rfl (by decide) rfl rfl rfl ?_; intro a hA
    replace hA := hA.keepN [5, 6, 7, 23]
    refine wN (nT ?_)
    refine wp_if hA 23 _ rfl (fun hq2 => ?yB) (fun hq2 => ?nB)
    case nB => simp at hq2
    case yB =>
      refine wS (wR ?_)
      revert a; refine wo rfl rfl (by decide) (fun ev e h => by simp [go_sem, h, K1.cell] <;> rfl) ?_; intro a hA
      replace hA := hA.keepN [2]
      refine wN (nT (wp_ret (rB (rT (rT (rB (rT ?_)))))))
      refine ret_1 hA 2 rfl rfl ?_
      exact ⟨rfl, HB⟩
set_option maxRecDepth 100000 in
set_option maxHeartbeats 4000000 in
theorem awake18_any (m : Int) (w : World) (hm : w.cell? ⟨0, 0, none⟩ = some (.int .i64 m)) (htab : Lib.TabIs Tryd.prog w "internal/strconv.uint64pow10" .u64 Lib.pow10Tab) : Calls Tryd.prog 12 #[] w fun ev w' => ev = .returned (.bool true) ∧ Below w.heap.size w w' := by
  have HB := Below.refl w.heap.size w
  refine calls_at 8 Tryd.func12 rfl rfl (Nat.le_of_ble_eq_true rfl) ?_
  intro a hA; replace hA := hA.norm
  refine wS (wR ?_)
  revert a; refine wo rfl rfl (by decide) (fun ev e h => by simp [go_sem, h] <;> rfl) ?_; intro a hA
  replace hA := hA.keepN []
  refine wN (nT (wS (wR ?_)))
  refine wl_call hA rfl rfl (by decide) (fun ev h => exec_call Tryd.func13 (by kernel_rfl) rfl (h.f _) (by first | (simp only [mL, h.c] <;> rfl) | (simp [mL, h.c] <;> rfl))) (string_any [97, 34] m w hm (by decide) htab) ?_
  rintro e w1 ⟨rfl, hb1⟩
  refine ⟨_, rfl, fun a hA => ?_⟩
  replace HB := HB.trans (hb1.mono HB.size)
  rw [show strF [97, 34] = [34, 97, 92, 34, 34] from rfl] at hA
  revert a; (iterate 2 refine wo rfl rfl (by decide) (fun ev e h => by simp [go_sem, h] <;> rfl) ?_); refine wg _ rfl rfl rfl rfl (by decide) (fun hq ev e h => by simp [go_sem, h, ↓gw_t (beq_t hq)] <;> rfl) ?_; intro a hA
  replace hA := hA.keepN [3, 4]
  refine wl_gnew hA rfl rfl rfl rfl (by decide) (fun ev h => by simp [go_sem, h.get 4 rfl]; try first | exact ⟨rfl, rfl⟩ | rfl) fun w2 a (K : Blk _ _ _ _) hz2 hb2 hA => ?_
  replace HB := HB.trans (hb2.mono HB.size)
  refine wl_gcallv _ hA rfl rfl rfl rfl (by decide) (fun hq ev h => exec_call Tryd.func22 (by kernel_rfl) rfl (h.f _) (by first | (simp only [mL, ((h.get 5 rfl).trans (gw_t (beq_t hq))), h.c] <;> rfl) | (simp [mL, ((h.get 5 rfl).trans (gw_t (beq_t hq))), h.c] <;> rfl))) (fun hq => marks_one _ K) fun a w3 hb3 hA => ?_
  replace HB := HB.trans (hb3.mono HB.size)
  revert a; refine wka rfl rfl (by decide) rfl rfl rfl ?_; refine wo rfl rfl (by decide) (fun ev e h => by simp [go_sem, h] <;> rfl) ?_; intro a hA
  replace hA := hA.keepN [0]
  refine wN (nT (wp_ret ?_))
  refine ret_1 hA 0 rfl rfl ?_
  exact ⟨rfl, HB⟩
theorem strF_head (s : List UInt8) : ∃ x r, strF s = x :: r ∧ (((x.toNat : Nat) : Int) == 34) = s.all plainT := by
  cases h : s.all plainT with
  | true => exact ⟨34, _, by rw [strF_plain h]; rfl, rfl⟩
  | false => exact ⟨123, _, by rw [strF_lit h]; rfl, rfl⟩
theorem strF_len (s : List UInt8) : (strF s).length ≤ 2 * s.length + 20 := body_len _ _
set_option maxRecDepth 100000 in
set_option maxHeartbeats 4000000 in
theorem fetchStrings_law (s : List UInt8) (m : Int) (w : World) (hm : w.cell? ⟨0, 0, none⟩ = some (.int .i64 m)) (htab : Lib.TabIs Tryd.prog w "internal/strconv.uint64pow10" .u64 Lib.pow10Tab) (hs : s.length ≤ 140737488355328) :
    Calls Tryd.prog 6 #[.string (St s)] w fun ev w' => ev = .returned (.bool true) ∧ Below w.heap.size w w' := by
  have HB := Below.refl w.heap.size w
  have Ht := Lib.tabBelow_of_tabIs htab
  have hm0 : 0 < w.heap.size := block_lt_of_cell hm
  have hsz : (St s).size = s.length := rfl
  refine calls_at 80 Tryd.func6 rfl rfl (Nat.le_of_ble_eq_true rfl) ?_
  intro a hA; replace hA := hA.norm
  refine wS (wR ?_)
  revert a; refine wo rfl rfl (by decide) (fun ev e h => by simp [go_sem, h, hsz] <;> rfl) ?_; intro a hA
  replace hA := hA.keepN [0]
  refine wN (nT (wS (wS (wR ?_))))
  refine wl_call hA rfl rfl (by decide) (fun ev h => exec_call Tryd.func12 (by kernel_rfl) rfl (h.f _) (by first | (simp only [mL, h.c] <;> rfl) | (simp [mL, h.c, hsz] <;> rfl))) (awake18_any m w hm htab) ?_
  rintro e w1 ⟨rfl, hb1⟩
  refine ⟨_, rfl, fun a hA => ?_⟩
  replace HB := HB.trans (hb1.mono HB.size)
  revert a; (iterate 2 refine wo rfl rfl (by decide) (fun ev e h => by simp [go_sem, h, hsz] <;> rfl) ?_); (iterate 3 refine wg _ rfl rfl rfl rfl (by decide) (fun hq ev e h => by simp [go_sem, h, ↓gw_t (beq_t hq), hsz] <;> rfl) ?_); refine wko rfl rfl (by decide) rfl rfl rfl ?_; intro a hA
  replace hA := hA.keepN [0, 14]
  refine wN (nT ?_)
  refine wp_if hA 14 _ rfl (fun hq => ?yA) (fun hq => ?nA)
  case yA =>
    refine wS (wR ?_)
    refine wl_call hA rfl rfl (by decide) (fun ev h => exec_call Tryd.func12 (by kernel_rfl) rfl (h.f _) (by first | (simp only [mL, h.c] <;> rfl) | (simp [mL, h.c, hsz] <;> rfl))) (awake18_any m _ ((HB.cell hm0).trans hm) (Ht _ HB)) ?_
    rintro e w2 ⟨rfl, hb2⟩
    refine ⟨_, rfl, fun a hA => ?_⟩
    replace HB := HB.trans (hb2.mono HB.size)
    revert a; refine wo rfl rfl (by decide) (fun ev e h => by simp [go_sem, h, hsz] <;> rfl) ?_; intro a hA
    replace hA := hA.keepN [2]
    refine wN (nT (wp_ret (rT ?_)))
    refine ret_1 hA 2 rfl rfl ?_
    exact ⟨rfl, HB⟩
  case nA =>
    have hn2 : s.length ≤ 3000 := by simp at hq; omega
    refine wp_skip (nT (wS (wR ?_)))
    revert a; refine wo rfl rfl (by decide) (fun ev e h => by simp [go_sem, h, hsz] <;> rfl) ?_; intro a hA
    refine wl_call hA rfl rfl (by decide) (fun ev h => exec_call Tryd.func13 (by kernel_rfl) rfl (h.f _) (by first | (simp only [mL, h.get 16 rfl, h.c] <;> rfl) | (simp [mL, h.get 16 rfl, h.c, hsz] <;> rfl))) (string_any s m _ ((HB.cell hm0).trans hm) (by omega) (Ht _ HB)) ?_
    rintro e w2 ⟨rfl, hb2⟩
    refine ⟨_, rfl, fun a hA => ?_⟩
    replace HB := HB.trans (hb2.mono HB.size)
    have hTl := strF_len s
    have hTt := strF_tok (s := s) (by omega)
    obtain ⟨x0, T0, hT0, hx0⟩ := strF_head s
    obtain ⟨q, hq9⟩ : ∃ q, s.all plainT = q := ⟨_, rfl⟩
    have hTL : q = false → strF s = litB s := fun h => strF_litB (hq9.trans h)
    obtain ⟨T, hT⟩ : ∃ T, strF s = T := ⟨_, rfl⟩
    rw [hT] at hTl hTt hT0 hA hTL
    rw [hq9] at hx0
    revert a; refine wo rfl rfl (by decide) (fun ev e h => by simp [go_sem, h, hsz] <;> rfl) ?_; intro a hA
    replace hA := hA.keepN [0, 3]
    refine wN (nT (wS (wR ?_)))
    revert a; refine wo rfl rfl (by decide) (fun ev e h => by simp [go_sem, h, hsz] <;> rfl) ?_; intro a hA
    obtain ⟨c3, w3, hcv, hrd, hb3⟩ := conv_str T w2
    refine wl_op hA rfl rfl (by decide) (fun ev h => by simp [go_sem, h.get 19 rfl, hsz, hcv]; try first | exact ⟨rfl, rfl⟩ | rfl) fun a hA => ?_
    replace HB := HB.trans (hb3.mono HB.size)
    refine wl_call hA rfl rfl (by decide) (fun ev h => exec_call Tryd.func11 (by kernel_rfl) rfl (h.f _) (by first | (simp only [mL, h.get 20 rfl, h.c] <;> rfl) | (simp [mL, h.get 20 rfl, h.c, hsz] <;> rfl))) (tokens_any _ T.length c3 T m _ ((HB.cell hm0).trans hm) rfl (by omega) hrd) ?_
    rintro e w4 ⟨v, ts, ok4, rfl, hots, hts, hb4⟩
    refine ⟨_, rfl, fun a hA => ?_⟩
    replace HB := HB.trans (hb4.mono HB.size)
    unfold toksR at hts
    rw [hTt] at hts
    obtain ⟨rfl, rfl⟩ := hts
    obtain ⟨A4, c4, rfl, hr4, hc4⟩ := hots.reads
    revert a; (iterate 5 refine wo rfl rfl (by decide) (fun ev e h => by simp [go_sem, h, hsz] <;> rfl) ?_); intro a hA
    replace hA := hA.keepN [0, 3, 4, 5]
    refine wN (nT (wS (wR ?_)))
    revert a; refine wo rfl rfl (by decide) (fun ev e h => by simp [go_sem, h, hsz] <;> rfl) ?_; intro a hA
    replace hA := hA.keepN [0, 3, 4, 5, 6]
    refine wN (nT (wS (wS (wR ?_))))
    revert a; (iterate 3 refine wo rfl rfl (by decide) (fun ev e h => by simp [go_sem, h, hsz] <;> rfl) ?_); intro a hA
    replace hA := hA.keepN [0, 3, 4, 5, 6, 25, 26]
    refine wN (nT (wB ?_))
    refine wp_loop_at (fun f a wx => ∃ (j : Nat) (p : Bool), j + f = s.length ∧ p = (s.take j).all plainT ∧ wx = w4 ∧ At 80 [(0, .string (St s)), (3, .string (St T)), (4, .slice A4 1 c4), (5, .bool true), (6, .bool p), (25, .int .i64 (s.length : Nat)), (26, .int .i64 (j : Nat))] a) (s.length) ?_ ?_
    · exact ⟨0, true, by omega, rfl, rfl, hA⟩
    clear hA
    rintro f a wz ⟨j, p, hjf, hp, rfl, hA⟩
    refine wS (wR ?_)
    revert a; refine wo rfl rfl (by decide) (fun ev e h => by simp [go_sem, h, hsz] <;> rfl) ?_; intro a hA
    replace hA := hA.keepN [0, 3, 4, 5, 6, 25, 26, 27]
    refine wN (nT (wS ?_))
    refine wp_if hA 27 _ rfl (fun hq5 => ?yF) (fun hq5 => ?nF)
    case yF =>
      have hjn : j < s.length := by simp at hq5; omega
      obtain ⟨x, hx⟩ : ∃ x, s[j]? = some x := ⟨_, List.getElem?_eq_getElem hjn⟩
      have g1 : ∀ h : j < (St s).size, (St s)[j] = x := fun h => (List.getElem?_eq_some_iff.1 hx).2
      have i1 : IntKind.i64.wrap ((j : Nat) : Int) = ((j : Nat) : Int) := IntWalk.i64_in _ (by omega)
      have i3 : IntKind.i64.wrap (((j : Nat) : Int) + 1) = ((j + 1 : Nat) : Int) := by rw [IntWalk.i64_in _ (by omega)]; omega
      refine wp_skip (nT (wS (wB (wS (wR ?_)))))
      revert a; (iterate 2 refine wo rfl rfl (by decide) (fun ev e h => by simp [go_sem, h, hsz, g1, i1, hjn, i3] <;> rfl) ?_); intro a hA
      replace hA := hA.keepN [0, 3, 4, 5, 6, 7, 25, 26]
      refine wN (nT (wR ?_))
      revert a; (iterate 2 refine wo rfl rfl (by decide) (fun ev e h => by simp [go_sem, h, hsz, g1, i1, hjn, i3] <;> rfl) ?_); (iterate 4 refine wg _ rfl rfl rfl rfl (by decide) (fun hq ev e h => by simp [go_sem, h, ↓gw_t (beq_t hq), hsz, g1, i1, hjn, i3] <;> rfl) ?_); refine wka rfl rfl (by decide) rfl rfl rfl ?_; refine wo rfl rfl (by decide) (fun ev e h => by simp [go_sem, h, hsz, g1, i1, hjn, i3] <;> rfl) ?_; (iterate 2 refine wg _ rfl rfl rfl rfl (by decide) (fun hq ev e h => by simp [go_sem, h, ↓gw_t (beq_t hq), hsz, g1, i1, hjn, i3] <;> rfl) ?_); intro a hA
      replace hA := hA.keepN [0, 3, 4, 5, 25, 26, 36, 37, 38]
      revert a; (iterate 2 refine wg _ rfl rfl rfl rfl (by decide) (fun hq ev e h => by simp [go_sem, h, ↓gw_t (beq_t hq), hsz, g1, i1, hjn, i3] <;> rfl) ?_); refine wka rfl rfl (by decide) rfl rfl rfl ?_; refine wo rfl rfl (by decide) (fun ev e h => by simp [go_sem, h, hsz, g1, i1, hjn, i3] <;> rfl) ?_; intro a hA
      replace hA := hA.keepN [0, 3, 4, 5, 6, 25, 26]
      refine wN (nB (nT (wR ?_)))
      revert a; (iterate 2 refine wo rfl rfl (by decide) (fun ev e h => by simp [go_sem, h, hsz, g1, i1, hjn, i3] <;> rfl) ?_); intro a hA
      replace hA := hA.keepN [0, 3, 4, 5, 6, 25, 26]
      refine wN (nT ?_)
      refine ⟨f - 1, by omega, j + 1, _, by omega, ?_, rfl, hA⟩
      rw [List.take_add_one, hx, List.all_append, ← hp]
      show _ = (p && (plainT x && true))
      have e := plainT_int x
      have e2 : plainT x = (decide ((32 : Int) ≤ ((x.toNat : Nat) : Int)) && decide (((x.toNat : Nat) : Int) ≤ 126)) := by
        unfold plainT
        rw [decide_eq_decide.2 (show ((32 : Int) ≤ ((x.toNat : Nat) : Int)) ↔ 32 ≤ x.toNat by omega), decide_eq_decide.2 (show (((x.toNat : Nat) : Int) ≤ 126) ↔ x.toNat ≤ 126 by omega)]
      rw [e2, Bool.and_true, Bool.and_assoc]
    case nF =>
      have hjn : s.length ≤ j := by simp at hq5; omega
      rw [List.take_of_length_le hjn, hq9] at hp
      subst hp
      obtain ⟨u, hu⟩ : ∃ u, u = s := ⟨_, rfl⟩
      have hx : ([⟨2, u⟩] : List TokS)[0]? = some ⟨2, u⟩ := rfl
      rw [← hu] at hr4
      obtain ⟨ad, rfl, hadl, k0, k1⟩ := hr4.cell hx
      have z0 : wz.cell? ad = some (.int .i64 2) := by
        have := k0 _ rfl
        rw [Nat.zero_mul] at this
        exact this
      have z1 : wz.cell? ⟨ad.block, ad.off + 1, none⟩ = some (.string (St u)) := by
        have := k1 1 _ (by decide) rfl
        rw [Nat.zero_mul] at this
        exact this
      have hTz : (St T).size = T0.length + 1 := by show T.length = _; rw [hT0]; rfl
      have g1 : ∀ h : 0 < (St T).size, (St T)[0] = x0 := fun h => by subst hT0; rfl
      have i1 : (0 : Int) < ((T0.length : Nat) : Int) + 1 := by omega
      have i2 : 0 < T0.length + 1 := by omega
      replace hA := hA.keepN [0, 3, 4, 5, 6]
      refine wp_exit (xT (xT (xB (nT (wS (wR ?_))))))
      revert a; (iterate 2 refine wo rfl rfl (by decide) (fun ev e h => by simp [go_sem, h, z0, z1, hTz, g1, i1, i2] <;> rfl) ?_); (iterate 3 refine wg _ rfl rfl rfl rfl (by decide) (fun hq ev e h => by simp [go_sem, h, ↓gw_t (beq_t hq), z0, z1, hTz, g1, i1, i2] <;> rfl) ?_); refine wka rfl rfl (by decide) rfl rfl rfl ?_; refine wo rfl rfl (by decide) (fun ev e h => by simp [go_sem, h, z0, z1, hTz, g1, i1, i2] <;> rfl) ?_; (iterate 3 refine wg _ rfl rfl rfl rfl (by decide) (fun hq ev e h => by simp [go_sem, h, ↓gw_t (beq_t hq), z0, z1, hTz, g1, i1, i2] <;> rfl) ?_); intro a hA
      replace hA := hA.keepN [0, 3, 4, 6, 49, 52]
      revert a; (iterate 2 refine wg _ rfl rfl rfl rfl (by decide) (fun hq ev e h => by simp [go_sem, h, ↓gw_t (beq_t hq), z0, z1, hTz, g1, i1, i2] <;> rfl) ?_); refine wka rfl rfl (by decide) rfl rfl rfl ?_; refine wo rfl rfl (by decide) (fun ev e h => by simp [go_sem, h, z0, z1, hTz, g1, i1, i2] <;> rfl) ?_; (iterate 6 refine wg _ rfl rfl rfl rfl (by decide) (fun hq ev e h => by simp [go_sem, h, ↓gw_t (beq_t hq), z0, z1, hTz, g1, i1, i2] <;> rfl) ?_); intro a hA
      replace hA := hA.keepN [0, 3, 6, 56, 62]
      revert a; refine wka rfl rfl (by decide) rfl rfl rfl ?_; refine wo rfl rfl (by decide) (fun ev e h => by simp [go_sem, h, z0, z1, hTz, g1, i1, i2] <;> rfl) ?_; (iterate 2 refine wg _ rfl rfl rfl rfl (by decide) (fun hq ev e h => by simp [go_sem, h, ↓gw_t (beq_t hq), z0, z1, hTz, g1, i1, i2] <;> rfl) ?_); (iterate 2 refine wg2 _ _ rfl rfl rfl rfl (by decide) (fun hq hr ev e h => by simp [go_sem, h, ↓gw_t (and_beq hq hr), ↓gw_t hq, z0, z1, hTz, g1, i1, i2] <;> rfl) ?_); intro a hA
      refine wl_gcallv2 _ _ hA rfl rfl rfl rfl (by decide) (fun hq hr ev h => exec_call Tryd.func14 (by kernel_rfl) rfl (h.f _) (by first | (simp only [mL, ((h.get 68 rfl).trans (gw_t (and_beq hq hr))), h.c] <;> rfl) | (simp [mL, ((h.get 68 rfl).trans (gw_t (and_beq hq hr))), h.c, z0, z1, hTz, g1, i1, i2] <;> rfl))) (fun hq hr => lcounted_any s _ (by omega)) fun a w5 hb5 hA => ?_
      replace HB := HB.trans (hb5.mono HB.size)
      revert a; refine wg2 _ _ rfl rfl rfl rfl (by decide) (fun hq hr ev e h => by simp [go_sem, h, ↓gw_t (and_beq hq hr), ↓gw_t hq, z0, z1, hTz, g1, i1, i2] <;> rfl) ?_; intro a hA
      refine wl_guard _ hA rfl rfl rfl rfl (by decide) (fun hq ev h => by exact pick_or rfl (((h.get 66 rfl).trans (gw_t (beq_t hq)))) (h.c _) (((h.get 70 rfl).trans (gw_a (beq_t hq))))) fun a hA => ?_
      revert a; refine wka rfl rfl (by decide) rfl rfl rfl ?_; refine wo rfl rfl (by decide) (fun ev e h => by simp [go_sem, h, z0, z1, hTz, g1, i1, i2] <;> rfl) ?_; intro a hA
      replace hA := hA.keepN [3, 6, 73]
      revert a; (iterate 5 refine wg _ rfl rfl rfl rfl (by decide) (fun hq ev e h => by simp [go_sem, h, ↓gw_t (beq_t hq), z0, z1, hTz, g1, i1, i2] <;> rfl) ?_); refine wka rfl rfl (by decide) rfl rfl rfl ?_; refine wo rfl rfl (by decide) (fun ev e h => by simp [go_sem, h, z0, z1, hTz, g1, i1, i2] <;> rfl) ?_; intro a hA
      replace hA := hA.keepN [2]
      refine wN (nT (wp_ret ?_))
      refine ret_1 hA 2 rfl rfl ?_
      refine ⟨ret_bool ?_, HB⟩
      subst hu
      rw [hx0]
      cases p with
      | true => simp
      | false => rw [hTL rfl]; simp
end Go.Proofs.YtaljodmhalodhaaDoor
/-
  Arguments, opened by their types: numbers, texts, structs of one-cell fields, slices of what reads.
-/
namespace Go.Proofs.YtaljodmhalodhaaDoor
open Go.ChangeShapes Go.WideShapes Go.Deep Go.RowKit
theorem cell_lt' {w : World} {a : Addr} {v : Value} (h : w.cell? a = some v) : a.block < w.heap.size := by
  rcases Nat.lt_or_ge a.block w.heap.size with hlt | hge
  · exact hlt
  · unfold World.cell? at h
    simp [Array.getElem?_eq_none hge] at h
/-- cells that read at a type -/
def Fits {H : Type} (enc : TypeId × Value → H) (P : Program) (w : World) (t : TypeId) (cs : List Value) : Prop := ∃ base spare held fuel x, DataW.trod enc P w base spare held fuel t cs = some x
section
variable {H : Type} {enc : TypeId × Value → H} {P : Program} {w : World} {t e : TypeId} {cs : List Value}
theorem fits_int {k : IntKind} (h : Fits enc P w t cs) (ht : P.underlying t = some (.int k)) : ∃ n, cs = [.int k n] ∧ (Lit.int k n).wf = true := by
  obtain ⟨_, _, _, _, _, h⟩ := h
  obtain ⟨n, e, _, hw⟩ := DataW.trod_int ht h
  exact ⟨n, e, hw⟩
theorem fits_string (h : Fits enc P w t cs) (ht : P.underlying t = some .string) : ∃ s : ByteArray, cs = [.string s] ∧ s.size ≤ maxLen := by
  obtain ⟨_, _, _, _, _, h⟩ := h
  obtain ⟨s, e, _, hw⟩ := DataW.trod_string ht h
  exact ⟨s, e, hw⟩
theorem fits_bool (h : Fits enc P w t cs) (ht : P.underlying t = some .bool) : ∃ b, cs = [.bool b] := by
  obtain ⟨_, _, _, _, _, h⟩ := h
  obtain ⟨s, e, _⟩ := DataW.trod_bool ht h
  exact ⟨s, e⟩
theorem fits_fields {fs : Array Field} (h : Fits enc P w t cs) (ht : P.underlying t = some (.struct fs)) (hone : oneCellFields P fs = true) (hC : P.cellsOf t = fs.size) : cs.length = fs.size ∧ ∀ (j : Nat) (f : Field) (c : Value), fs[j]? = some f → cs[j]? = some c → Fits enc P w f.type [c] := by
  obtain ⟨base, spare, held, fuel, x, h⟩ := h
  obtain ⟨ys, n, _, _, hl, hyl, hat⟩ := DataW.trod_struct ht h
  refine ⟨by rw [hl, hC], fun j f c hf hc => ?_⟩
  obtain ⟨ho, hk⟩ := hone_of hone j f hf
  have h1 := hat j f hf
  have hj := (Array.getElem?_eq_some_iff.1 hf).1
  rw [ho, hk] at h1
  have hd1 : (List.drop j cs).take 1 = [c] := by
    have hjl := (List.getElem?_eq_some_iff.1 hc).1
    rw [List.drop_eq_getElem_cons hjl, (List.getElem?_eq_some_iff.1 hc).2]
    rfl
  rw [hd1, List.getElem?_eq_getElem (by omega)] at h1
  exact ⟨base, spare, held, n, _, h1⟩
theorem rows_at (k : Nat) : ∀ (L : List (List Value)) (i j : Nat) (x : List Value), (∀ x ∈ L, x.length = k) → L[i]? = some x → j < k → L.flatten[i * k + j]? = x[j]?
  | y :: r, 0, j, x, hL, h, hj => by
    have e : y = x := by simpa using h
    subst e
    have := hL y List.mem_cons_self
    rw [List.flatten_cons, Nat.zero_mul, Nat.zero_add, List.getElem?_append_left (by omega)]
  | y :: r, i + 1, j, x, hL, h, hj => by
    have ih := rows_at k r i j x (fun z hz => hL z (List.mem_cons_of_mem _ hz)) (by simpa using h) hj
    have := hL y List.mem_cons_self
    have hm : k ≤ (i + 1) * k + j := by rw [Nat.succ_mul]; omega
    rw [List.flatten_cons, List.getElem?_append_right (by omega)]
    have e : (i + 1) * k + j - y.length = i * k + j := by rw [Nat.succ_mul]; omega
    rw [e]; exact ih
theorem rows_len (k : Nat) : ∀ (L : List (List Value)), (∀ x ∈ L, x.length = k) → L.flatten.length = L.length * k
  | [], _ => by simp
  | y :: r, h => by
    have := rows_len k r fun z hz => h z (List.mem_cons_of_mem _ hz)
    rw [List.flatten_cons, List.length_append, this, h y List.mem_cons_self, List.length_cons, Nat.succ_mul]; omega
theorem fits_slice (h : Fits enc P w t cs) (ht : P.underlying t = some (.slice e)) (hk : 0 < P.cellsOf e) :
    ∃ (A : Option Addr) (n c : Nat) (L : List (List Value)), cs = [.slice A n c] ∧ n ≤ c ∧ c ≤ maxLen ∧ L.length = n ∧ (∀ x ∈ L, x.length = P.cellsOf e ∧ Fits enc P w e x) ∧ Reads w w.heap.size (P.cellsOf e) A n L.flatten := by
  obtain ⟨base, spare, held, fuel, x, hf⟩ := h
  rcases open_slice ht hf with ⟨hcs, _⟩ | ⟨a, len, cap, m, n0, D, Pl, hcs, _, hl, hm, hmm, hdx, hx⟩
  · exact ⟨none, 0, 0, [], hcs, Nat.le_refl _, Nat.zero_le _, rfl, fun x hx => (by cases hx), by simp, fun hn => absurd hn (by simp)⟩
  · have hml : len ≤ m := by rw [hmm]; split <;> omega
    have hall : ∀ n, n ≤ len → ∃ L : List (List Value), L.length = n ∧ (∀ x ∈ L, x.length = P.cellsOf e ∧ Fits enc P w e x) ∧ ∀ i x, L[i]? = some x → ∀ j u, x[j]? = some u → w.cell? (a.add (i * P.cellsOf e + j)) = some u := by
      intro n
      induction n with
      | zero => intro _; exact ⟨[], rfl, by simp, by simp⟩
      | succ n ih =>
        intro hnl
        obtain ⟨L, hl1, hl2, hl3⟩ := ih (by omega)
        obtain ⟨cs', hcc, htr⟩ := hx n (by omega)
        obtain ⟨_, hlen, hat⟩ := World.cells?_some hcc
        refine ⟨L ++ [cs'], by simp [hl1], ?_, ?_⟩
        · intro y hy
          rcases List.mem_append.1 hy with h | h
          · exact hl2 y h
          · rw [List.mem_singleton] at h
            subst h
            exact ⟨hlen, base, spare, held, n0, _, htr⟩
        · intro i y hi' j u hj
          rcases Nat.lt_or_ge i L.length with h | h
          · rw [List.getElem?_append_left h] at hi'; exact hl3 i y hi' j u hj
          · rw [List.getElem?_append_right h] at hi'
            have h0 : i - L.length = 0 := by
              rcases Nat.eq_zero_or_pos (i - L.length) with h' | h'
              · exact h'
              · rw [List.getElem?_eq_none (by simp; omega)] at hi'; cases hi'
            rw [h0] at hi'
            have hy : cs' = y := by simpa using hi'
            subst hy
            obtain rfl : i = n := by omega
            have hj2 : j < P.cellsOf e := by
              have := (List.getElem?_eq_some_iff.1 hj).1
              omega
            have := hat j hj2
            rw [hj, Go.Deep.add_add] at this
            exact this
    obtain ⟨L, hL1, hL2, hL3⟩ := hall len (Nat.le_refl _)
    refine ⟨some a, len, cap, L, hcs, hl, hm, hL1, hL2, ?_, fun hn => ⟨a, rfl, ?_, ?_⟩⟩
    · rw [rows_len _ L fun x hx => (hL2 x hx).1, hL1]
    · obtain ⟨x, hx0⟩ : ∃ x, L[0]? = some x := ⟨_, List.getElem?_eq_getElem (by omega)⟩
      have hxl := (hL2 x (List.mem_of_getElem? hx0)).1
      obtain ⟨u, hu⟩ : ∃ u, x[0]? = some u := ⟨_, List.getElem?_eq_getElem (by omega)⟩
      have := cell_lt' (hL3 0 x hx0 0 u hu)
      rwa [block_of_add] at this
    · intro j u hj
      have hjl := (List.getElem?_eq_some_iff.1 hj).1
      rw [rows_len _ L fun x hx => (hL2 x hx).1] at hjl
      have hq : j / P.cellsOf e < L.length := Nat.div_lt_of_lt_mul (by rw [Nat.mul_comm]; exact hjl)
      have he2 : j / P.cellsOf e * P.cellsOf e + j % P.cellsOf e = j := by rw [Nat.mul_comm]; exact Nat.div_add_mod j _
      have hp := rows_at (P.cellsOf e) L (j / P.cellsOf e) (j % P.cellsOf e) _ (fun x hx => (hL2 x hx).1) (List.getElem?_eq_getElem hq) (Nat.mod_lt _ hk)
      rw [he2, hj] at hp
      have := hL3 _ _ (List.getElem?_eq_getElem hq) _ u hp.symm
      rw [he2] at this
      exact this
theorem fits_top {base0 : Nat} {spare : Nat → Bool} {held : Bool} {v : Value} {d : DataW H} {ps : List MemPlace} (h : DataW.Trod enc P w base0 spare held t v d ps) : Fits enc P w t v.cells.toList := by
  obtain ⟨fuel, hf⟩ := h
  exact ⟨_, _, _, fuel, _, hf⟩
theorem fits_struct {base0 : Nat} {spare : Nat → Bool} {held : Bool} {r : Reach} {b0 : Nat} {fs : Array Field} {v : Value} {d : DataW H} {ps : List MemPlace} (hv : Value.okWide P w r b0 t v) (ht : P.underlying t = some (.struct fs)) (h : DataW.Trod enc P w base0 spare held t v d ps) : ∃ cs : Array Value, v = .agg cs ∧ Fits enc P w t cs.toList := by
  obtain ⟨cs, rfl, _⟩ := okWide_struct ht hv
  exact ⟨cs, rfl, fits_top h⟩
theorem fits_plain {base0 : Nat} {spare : Nat → Bool} {held : Bool} {v : Value} {d : DataW H} {ps : List MemPlace} (h : DataW.Trod enc P w base0 spare held t v d ps) (hc : v.cells = #[v]) : Fits enc P w t [v] := by
  have := fits_top h
  rwa [hc] at this
theorem choose_list {M : Type} {f : M → List Value} {Q : M → Prop} : ∀ {L : List (List Value)}, (∀ x ∈ L, ∃ m, x = f m ∧ Q m) → ∃ l : List M, L = l.map f ∧ ∀ m ∈ l, Q m
  | [], _ => ⟨[], rfl, by simp⟩
  | x :: r, h => by
    obtain ⟨m, rfl, hm⟩ := h x List.mem_cons_self
    obtain ⟨l, rfl, hl⟩ := choose_list (L := r) fun y hy => h y (List.mem_cons_of_mem _ hy)
    exact ⟨m :: l, rfl, fun y hy => by
      rcases List.mem_cons.1 hy with e | e
      · subst e; exact hm
      · exact hl y e⟩
/-- all arguments stay behind a call that writes below nothing -/
theorem args_stay (hl : laidOutB P = true) {W W' : World} {sp : Nat → Bool} : ∀ {ts : List TypeId} {vs : List Value} {ds : List (DataW H)} {ps : List MemPlace}, (ts.all fun t => P.readableRec t && decide (t < P.types.size)) = true →
    DataW.TrodAll enc P W 0 (fun _ => true) true ts vs ds ps → (∀ x ∈ ps, W.sameAt W' x) → (∀ x ∈ ps, sp x.block = true) → DataW.TrodAll enc P W' 0 sp true ts vs ds ps
  | [], [], [], _, _, h, _, _ => h
  | _ :: _, _ :: _, _ :: _, _, ha, ⟨p, q, h1, h2, e⟩, hsame, hs => by
    rw [List.all_cons, Bool.and_eq_true, Bool.and_eq_true, decide_eq_true_eq] at ha
    subst e
    exact ⟨p, q, WideElems.Trod_stays hl ha.1.1 ha.1.2 h1 (fun x hx => hsame x (List.mem_append_left _ hx)) (fun x hx => hs x (List.mem_append_left _ hx)),
      args_stay hl ha.2 h2 (fun x hx => hsame x (List.mem_append_right _ hx)) (fun x hx => hs x (List.mem_append_right _ hx)), rfl⟩
end
end Go.Proofs.YtaljodmhalodhaaDoor
/-
  Arguments, opened by their types, with a bound on their sizes.
-/
namespace Go.Proofs.YtaljodmhalodhaaDoor
open Go.ChangeShapes Go.WideShapes Go.Deep Go.RowKit
/-- cells that read at a type; no part is longer than R -/
def FitsZ {H : Type} (R : Nat) (enc : TypeId × Value → H) (P : Program) (w : World) (t : TypeId) (cs : List Value) : Prop := ∃ base spare held fuel d ps, DataW.trod enc P w base spare held fuel t cs = some (d, ps) ∧ ∀ k ∈ d.weights P t, k ≤ R
section
variable {H : Type} {enc : TypeId × Value → H} {P : Program} {w : World} {t e : TypeId} {cs : List Value} {R : Nat}
theorem FitsZ.fits (h : FitsZ R enc P w t cs) : Fits enc P w t cs := by
  obtain ⟨b, s, hd, f, d, ps, h, _⟩ := h
  exact ⟨b, s, hd, f, _, h⟩
theorem mem_weightsAll {e : TypeId} {dd : DataW H} {k : Nat} : ∀ {l : List (DataW H)}, dd ∈ l → k ∈ dd.weights P e → k ∈ DataW.weightsAll P e l
  | y :: r, h, hk => by
    unfold DataW.weightsAll
    rw [List.mem_append]
    rcases List.mem_cons.1 h with rfl | h
    · exact .inl hk
    · exact .inr (mem_weightsAll h hk)
theorem fitsZ_string (h : FitsZ R enc P w t cs) (ht : P.underlying t = some .string) : ∃ s : ByteArray, cs = [.string s] ∧ s.size ≤ maxLen ∧ s.size ≤ R := by
  obtain ⟨_, _, _, _, d, ps, h, hz⟩ := h
  obtain ⟨s, e, hx, hw⟩ := DataW.trod_string ht h
  refine ⟨s, e, hw, hz _ ?_⟩
  rw [(Prod.mk.inj hx).1]
  show s.size ∈ [s.data.toList.length]
  rw [List.mem_singleton, Array.length_toList]; rfl
theorem fitsZ_fields {fs : Array Field} (h : FitsZ R enc P w t cs) (ht : P.underlying t = some (.struct fs)) (hone : oneCellFields P fs = true) (hC : P.cellsOf t = fs.size) : cs.length = fs.size ∧ ∀ (j : Nat) (f : Field) (c : Value), fs[j]? = some f → cs[j]? = some c → FitsZ R enc P w f.type [c] := by
  obtain ⟨base, spare, held, fuel, d, ps, h, hz⟩ := h
  obtain ⟨ys, n, _, hx, hl, hyl, hat⟩ := DataW.trod_struct ht h
  refine ⟨by rw [hl, hC], fun j f c hf hc => ?_⟩
  obtain ⟨ho, hk⟩ := hone_of hone j f hf
  have h1 := hat j f hf
  have hj := (Array.getElem?_eq_some_iff.1 hf).1
  rw [ho, hk] at h1
  have hd1 : (List.drop j cs).take 1 = [c] := by
    have hjl := (List.getElem?_eq_some_iff.1 hc).1
    rw [List.drop_eq_getElem_cons hjl, (List.getElem?_eq_some_iff.1 hc).2]
    rfl
  have hy : ys[j]? = some (ys[j]'(by omega)) := List.getElem?_eq_getElem (by omega)
  rw [hd1, hy] at h1
  refine ⟨base, spare, held, n, _, _, h1, fun k hk => hz k ?_⟩
  rw [(Prod.mk.inj hx).1]
  unfold DataW.weights
  rw [ht]
  refine DataW.weights_mem_each (j := j) (t := f.type) (d := (ys[j]'(by omega)).1) ?_ ?_ k hk
  · rw [List.getElem?_map, Array.getElem?_toList, hf]; rfl
  · rw [List.getElem?_map, hy]; rfl
theorem fitsZ_slice (h : FitsZ R enc P w t cs) (ht : P.underlying t = some (.slice e)) (hk : 0 < P.cellsOf e) (heb : 1 ≤ P.bytesOf e) :
    ∃ (A : Option Addr) (n c : Nat) (L : List (List Value)), cs = [.slice A n c] ∧ n ≤ c ∧ c ≤ maxLen ∧ n ≤ R ∧ L.length = n ∧ (∀ x ∈ L, x.length = P.cellsOf e ∧ FitsZ R enc P w e x) ∧ Reads w w.heap.size (P.cellsOf e) A n L.flatten := by
  obtain ⟨base, spare, held, fuel, d, ps, hf, hz⟩ := h
  rcases open_slice ht hf with ⟨hcs, _⟩ | ⟨a, len, cap, m, n0, D, Pl, hcs, _, hl, hm, hmm, hdx, hx⟩
  · exact ⟨none, 0, 0, [], hcs, Nat.le_refl _, Nat.zero_le _, Nat.zero_le _, rfl, fun x hx => (by cases hx), by simp, fun hn => absurd hn (by simp)⟩
  · have hml : len ≤ m := by rw [hmm]; split <;> omega
    have hdw : d = .slice ((List.range len).map D) ((List.range (m - len)).map fun j => D (len + j)) := congrArg Prod.fst hdx
    have hall : ∀ n, n ≤ len → ∃ L : List (List Value), L.length = n ∧ (∀ x ∈ L, x.length = P.cellsOf e ∧ FitsZ R enc P w e x) ∧ ∀ i x, L[i]? = some x → ∀ j u, x[j]? = some u → w.cell? (a.add (i * P.cellsOf e + j)) = some u := by
      intro n
      induction n with
      | zero => intro _; exact ⟨[], rfl, by simp, by simp⟩
      | succ n ih =>
        intro hnl
        obtain ⟨L, hl1, hl2, hl3⟩ := ih (by omega)
        obtain ⟨cs', hcc, htr⟩ := hx n (by omega)
        obtain ⟨_, hlen, hat⟩ := World.cells?_some hcc
        refine ⟨L ++ [cs'], by simp [hl1], ?_, ?_⟩
        · intro y hy
          rcases List.mem_append.1 hy with h | h
          · exact hl2 y h
          · rw [List.mem_singleton] at h
            subst h
            refine ⟨hlen, base, spare, held, n0, _, _, htr, fun k hk' => hz k ?_⟩
            rw [hdw]
            unfold DataW.weights
            rw [ht]
            simp only [List.mem_cons, List.mem_append]
            exact .inr (.inl (mem_weightsAll (List.mem_map.2 ⟨n, List.mem_range.2 (by omega), rfl⟩) hk'))
        · intro i y hi' j u hj
          rcases Nat.lt_or_ge i L.length with h | h
          · rw [List.getElem?_append_left h] at hi'; exact hl3 i y hi' j u hj
          · rw [List.getElem?_append_right h] at hi'
            have h0 : i - L.length = 0 := by
              rcases Nat.eq_zero_or_pos (i - L.length) with h' | h'
              · exact h'
              · rw [List.getElem?_eq_none (by simp; omega)] at hi'; cases hi'
            rw [h0] at hi'
            have hy : cs' = y := by simpa using hi'
            subst hy
            obtain rfl : i = n := by omega
            have hj2 : j < P.cellsOf e := by
              have := (List.getElem?_eq_some_iff.1 hj).1
              omega
            have := hat j hj2
            rw [hj, Go.Deep.add_add] at this
            exact this
    obtain ⟨L, hL1, hL2, hL3⟩ := hall len (Nat.le_refl _)
    refine ⟨some a, len, cap, L, hcs, hl, hm, ?_, hL1, hL2, ?_, fun hn => ⟨a, rfl, ?_, ?_⟩⟩
    · have hq := hz ((len + (m - len)) * P.bytesOf e) (by rw [hdw]; simp [DataW.weights, ht])
      have e2 : (len + (m - len)) * 1 ≤ (len + (m - len)) * P.bytesOf e := Nat.mul_le_mul_left _ heb
      omega
    · rw [rows_len _ L fun x hx => (hL2 x hx).1, hL1]
    · obtain ⟨x, hx0⟩ : ∃ x, L[0]? = some x := ⟨_, List.getElem?_eq_getElem (by omega)⟩
      have hxl := (hL2 x (List.mem_of_getElem? hx0)).1
      obtain ⟨u, hu⟩ : ∃ u, x[0]? = some u := ⟨_, List.getElem?_eq_getElem (by omega)⟩
      have := cell_lt' (hL3 0 x hx0 0 u hu)
      rwa [block_of_add] at this
    · intro j u hj
      have hjl := (List.getElem?_eq_some_iff.1 hj).1
      rw [rows_len _ L fun x hx => (hL2 x hx).1] at hjl
      have hq : j / P.cellsOf e < L.length := Nat.div_lt_of_lt_mul (by rw [Nat.mul_comm]; exact hjl)
      have he2 : j / P.cellsOf e * P.cellsOf e + j % P.cellsOf e = j := by rw [Nat.mul_comm]; exact Nat.div_add_mod j _
      have hp := rows_at (P.cellsOf e) L (j / P.cellsOf e) (j % P.cellsOf e) _ (fun x hx => (hL2 x hx).1) (List.getElem?_eq_getElem hq) (Nat.mod_lt _ hk)
      rw [he2, hj] at hp
      have := hL3 _ _ (List.getElem?_eq_getElem hq) _ u hp.symm
      rw [he2] at this
      exact this
theorem sized_at {ts : List TypeId} {ds : List (DataW H)} (h : (DataW.weightsEach P ts ds).all (· ≤ reachBytes) = true) {j : Nat} {t : TypeId} {d : DataW H} (ht : ts[j]? = some t) (hd : ds[j]? = some d) : ∀ k ∈ d.weights P t, k ≤ 140737488355328 := by
  intro k hk
  have := List.all_eq_true.1 h _ (DataW.weights_mem_each ht hd k hk)
  have h2 : reachBytes < 2 ^ 47 := reachBytes_lt
  simp only [decide_eq_true_eq] at this
  omega
theorem fitsZ_top {base0 : Nat} {spare : Nat → Bool} {held : Bool} {v : Value} {d : DataW H} {ps : List MemPlace} (h : DataW.Trod enc P w base0 spare held t v d ps) (hz : ∀ k ∈ d.weights P t, k ≤ R) : FitsZ R enc P w t v.cells.toList := by
  obtain ⟨fuel, hf⟩ := h
  exact ⟨_, _, _, fuel, _, _, hf, hz⟩
theorem fitsZ_struct {base0 : Nat} {spare : Nat → Bool} {held : Bool} {r : Reach} {b0 : Nat} {fs : Array Field} {v : Value} {d : DataW H} {ps : List MemPlace} (hv : Value.okWide P w r b0 t v) (ht : P.underlying t = some (.struct fs)) (h : DataW.Trod enc P w base0 spare held t v d ps) (hz : ∀ k ∈ d.weights P t, k ≤ R) : ∃ cs : Array Value, v = .agg cs ∧ FitsZ R enc P w t cs.toList := by
  obtain ⟨cs, rfl, _⟩ := okWide_struct ht hv
  exact ⟨cs, rfl, fitsZ_top h hz⟩
theorem fitsZ_plain {base0 : Nat} {spare : Nat → Bool} {held : Bool} {v : Value} {d : DataW H} {ps : List MemPlace} (h : DataW.Trod enc P w base0 spare held t v d ps) (hc : v.cells = #[v]) (hz : ∀ k ∈ d.weights P t, k ≤ R) : FitsZ R enc P w t [v] := by
  have := fitsZ_top h hz
  rwa [hc] at this
end
end Go.Proofs.YtaljodmhalodhaaDoor
/-
  Arguments, opened: numbers, truths, bytes.
-/
namespace Go.Proofs.YtaljodmhalodhaaDoor
open Go.RowKit Go.ChangeShapes Go.WideShapes
theorem u32_range {n : Int} (h : (Lit.int .u32 n).wf = true) : ∃ k : Nat, n = (k : Nat) ∧ k < 4294967296 := by
  simp [Lit.wf, IntKind.min, IntKind.max, IntKind.signed, IntKind.bits] at h
  exact ⟨n.toNat, by omega, by omega⟩
theorem u8_range {n : Int} (h : (Lit.int .u8 n).wf = true) : ∃ k : UInt8, n = (k.toNat : Nat) := by
  simp [Lit.wf, IntKind.min, IntKind.max, IntKind.signed, IntKind.bits] at h
  refine ⟨UInt8.ofNat n.toNat, ?_⟩
  rw [UInt8.toNat_ofNat']
  omega
theorem i64_range {n : Int} (h : (Lit.int .i64 n).wf = true) : -9223372036854775808 ≤ n ∧ n ≤ 9223372036854775807 := by
  simp [Lit.wf, IntKind.min, IntKind.max, IntKind.signed, IntKind.bits] at h
  omega
theorem map_flat {M : Type} (f : M → List Value) (l : List M) : (l.map f).flatten = l.flatMap f := by
  induction l with
  | nil => rfl
  | cons x r ih => rw [List.map_cons, List.flatten_cons, List.flatMap_cons, ih]
theorem flat_one {M : Type} (f : M → Value) (l : List M) : (l.map fun x => [f x]).flatten = l.map f := by
  induction l with
  | nil => rfl
  | cons x r ih => rw [List.map_cons, List.flatten_cons, ih]; rfl
theorem list1 {α : Type} {x : List α} (h : x.length = 1) : ∃ a, x = [a] := by
  match x, h with
  | [a], _ => exact ⟨a, rfl⟩
theorem list4 {α : Type} {x : List α} (h : x.length = 4) : ∃ a b c d, x = [a, b, c, d] := by
  match x, h with
  | [a, b, c, d], _ => exact ⟨a, b, c, d, rfl⟩
theorem array4 {α : Type} {x : Array α} (h : x.toList.length = 4) : ∃ a b c d, x = #[a, b, c, d] := by
  obtain ⟨l⟩ := x
  obtain ⟨a, b, c, d, e⟩ := list4 (show l.length = 4 from h)
  exact ⟨a, b, c, d, by rw [e]⟩
section
variable {H : Type} {enc : TypeId × Value → H} {w : World} {R : Nat}
theorem open_bytesZ {c1 : Value} (h : FitsZ R enc Tryd.prog w 22 [c1]) : ∃ (A : Option Addr) (c : Nat) (l : List UInt8), c1 = .slice A l.length c ∧ l.length ≤ c ∧ c ≤ maxLen ∧ l.length ≤ R ∧ Reads w w.heap.size 1 A l.length (u8s l) := by
  have hk : Tryd.prog.cellsOf 5 = 1 := by kernel_rfl
  obtain ⟨A, n, c, L, hcs, hn, hc, hR, hl, hL, hr⟩ := fitsZ_slice h Tryd.underlying22 (by rw [hk]; omega) (Nat.le_of_ble_eq_true (by kernel_rfl))
  rw [hk] at hr
  obtain ⟨l, rfl, _⟩ := choose_list (f := fun b : UInt8 => [.int .u8 ((b.toNat : Nat) : Int)]) (Q := fun _ => True) fun x hx => by
    obtain ⟨hx1, hx2⟩ := hL x hx
    rw [hk] at hx1
    obtain ⟨a, rfl⟩ := list1 hx1
    obtain ⟨u, e0, hu⟩ := fits_int hx2.fits Tryd.underlying5
    obtain ⟨k, rfl⟩ := u8_range hu
    exact ⟨k, e0, trivial⟩
  rw [List.length_map] at hl
  rw [flat_one (fun b : UInt8 => .int .u8 ((b.toNat : Nat) : Int))] at hr
  subst hl
  simp only [List.cons.injEq, and_true] at hcs
  exact ⟨A, c, l, hcs, hn, hc, hR, hr⟩
theorem fitsZ_part {t : TypeId} {cs : List Value} {fs : Array Field} (h : FitsZ R enc Tryd.prog w t cs) (ht : Tryd.prog.underlying t = some (.struct fs)) : cs.length = Tryd.prog.cellsOf t ∧ ∀ (j : Nat) (f : Field), fs[j]? = some f → FitsZ R enc Tryd.prog w f.type ((cs.drop f.offset).take (Tryd.prog.cellsOf f.type)) := by
  obtain ⟨base, spare, held, fuel, d, ps, h, hz⟩ := h
  obtain ⟨ys, n, _, hx, hl, hyl, hat⟩ := DataW.trod_struct ht h
  refine ⟨hl, fun j f hf => ?_⟩
  have h1 := hat j f hf
  have hj := (Array.getElem?_eq_some_iff.1 hf).1
  have hy : ys[j]? = some (ys[j]'(by omega)) := List.getElem?_eq_getElem (by omega)
  rw [hy] at h1
  refine ⟨base, spare, held, n, _, _, h1, fun k hk => hz k ?_⟩
  rw [(Prod.mk.inj hx).1]
  unfold DataW.weights
  rw [ht]
  refine DataW.weights_mem_each (j := j) (t := f.type) (d := (ys[j]'(by omega)).1) ?_ ?_ k hk
  · rw [List.getElem?_map, Array.getElem?_toList, hf]; rfl
  · rw [List.getElem?_map, hy]; rfl
end
theorem tab_met {l : List (String × DataW Unit)} {W : World} (h : laidMetH Tryd.prog l W) (hl : l.filter (fun x => x.1 == "internal/strconv.uint64pow10") = [("internal/strconv.uint64pow10", Lib.tabData .u64 Lib.pow10Tab)]) :
    Lib.TabIs Tryd.prog W "internal/strconv.uint64pow10" .u64 Lib.pow10Tab := by
  have h1 := laidMetH.filter (fun x => x.1 == "internal/strconv.uint64pow10") h
  rw [hl, MakeChecks.laidMetH_plain _ _ _ (by kernel_rfl)] at h1
  exact Lib.tabIs_of_head (g := 3) (t := 115) (e := 56) (n := 20) (by kernel_rfl) (by kernel_rfl) Tryd.underlying115 Tryd.underlying56 (by kernel_rfl) (by kernel_rfl) h1
section
variable {H : Type} {enc : TypeId × Value → H} {W : World} {base0 b0 : Nat} {spare : Nat → Bool} {held : Bool} {r : Reach} {R : Nat}
set_option maxRecDepth 100000 in
theorem i64_arg {v : Value} {d : DataW H} {ps : List MemPlace} (hv : Value.okWide Tryd.prog W r b0 3 v) (h : DataW.Trod enc Tryd.prog W base0 spare held 3 v d ps) : ∃ k : Int, v = .int .i64 k ∧ -9223372036854775808 ≤ k ∧ k ≤ 9223372036854775807 := by
  obtain ⟨x0, rfl, _, _, h0⟩ := open_int Tryd.underlying3 hv h
  exact ⟨x0, rfl, i64_range h0⟩
set_option maxRecDepth 100000 in
theorem bytes_arg {v : Value} {d : DataW H} {ps : List MemPlace} (hv : Value.okWide Tryd.prog W r b0 22 v) (h : DataW.Trod enc Tryd.prog W base0 spare held 22 v d ps) (hz : ∀ k ∈ d.weights Tryd.prog 22, k ≤ R) :
    ∃ (A : Option Addr) (c : Nat) (l : List UInt8), v = .slice A l.length c ∧ l.length ≤ c ∧ c ≤ maxLen ∧ l.length ≤ R ∧ Reads W W.heap.size 1 A l.length (u8s l) := by
  obtain ⟨A, n, c, rfl⟩ := okWide_slice Tryd.underlying22 hv
  obtain ⟨A', c', l, e, b⟩ := open_bytesZ (fitsZ_plain h rfl hz)
  exact ⟨A', c', l, e, b⟩
set_option maxRecDepth 100000 in
theorem u32_arg {v : Value} {d : DataW H} {ps : List MemPlace} (hv : Value.okWide Tryd.prog W r b0 116 v) (h : DataW.Trod enc Tryd.prog W base0 spare held 116 v d ps) : ∃ k : Nat, v = .int .u32 (k : Nat) ∧ k < 4294967296 := by
  obtain ⟨x0, rfl, _, _, h0⟩ := open_int Tryd.underlying116 hv h
  obtain ⟨k, rfl, hk⟩ := u32_range h0
  exact ⟨k, rfl, hk⟩
set_option maxRecDepth 100000 in
theorem bool_arg {v : Value} {d : DataW H} {ps : List MemPlace} (hv : Value.okWide Tryd.prog W r b0 4 v) (h : DataW.Trod enc Tryd.prog W base0 spare held 4 v d ps) : ∃ b : Bool, v = .bool b := by
  obtain ⟨b, rfl, _⟩ := open_bool Tryd.underlying4 hv h
  exact ⟨b, rfl⟩
end
end Go.Proofs.YtaljodmhalodhaaDoor
/-
  An argument that is a text, opened.
-/
namespace Go.Proofs.YtaljodmhalodhaaDoor
open Go.RowKit Go.ChangeShapes Go.WideShapes
open Go.ChangeMaps (open_string)
section
variable {H : Type} {enc : TypeId × Value → H} {W : World} {base0 b0 : Nat} {spare : Nat → Bool} {held : Bool} {r : Reach} {R : Nat}
set_option maxRecDepth 100000 in
theorem string_arg {v : Value} {d : DataW H} {ps : List MemPlace} (hv : Value.okWide Tryd.prog W r b0 9 v) (h : DataW.Trod enc Tryd.prog W base0 spare held 9 v d ps) (hz : ∀ k ∈ d.weights Tryd.prog 9, k ≤ R) :
    ∃ s : ByteArray, v = .string s ∧ s.size ≤ maxLen ∧ s.size ≤ R := by
  obtain ⟨x0, e, _⟩ := open_string Tryd.underlying9 hv h
  subst e
  obtain ⟨s, e2, h1, h2⟩ := fitsZ_string (fitsZ_plain h rfl hz) Tryd.underlying9
  simp only [List.cons.injEq, and_true] at e2
  exact ⟨s, e2, h1, h2⟩
end
end Go.Proofs.YtaljodmhalodhaaDoor
/-
  Any text, as it is told, is read as it: cubbylaw18.FetchStrings answers true, for all texts.
-/
namespace Go.Proofs.YtaljodmhalodhaaDoor.FetchStrings
open Go.RowKit Go.ChangeShapes Go.WideShapes Go.ChangeAt
open Go.ChangeMaps (open_string shut_string)
set_option linter.unusedVariables false
theorem own : ownKnob Tryd.prog.godebug = none := by kernel_rfl
set_option maxRecDepth 100000 in
theorem contract (H : Type) (enc : TypeId × Value → H) (W : World) (base : Nat) (args : Array Value) (ds gs : List (DataW H)) (before : List MemPlace)
    (hval : ∀ (j : Nat) t v, Tryd.f6.params[j]? = some t → args[j]? = some v → Value.okWide Tryd.prog W .any base t v)
    (hW : DataW.Whole enc Tryd.prog Tryd.f6.params.toList Rows.fetchStringsSpec.vars false W args.toList ds gs before) (hz : (DataW.weightsEach Tryd.prog (Tryd.f6.params.toList ++ (OpenSpec.ofChange Rows.fetchStringsSpec).bare.plain.varTypes Tryd.prog) (ds ++ gs)).all (· ≤ reachBytes) = true) (hL : laidMetH Tryd.prog Rows.fetchStringsRow.laid W) (hsh : W.ShapedOpen Tryd.prog) :
    Calls Tryd.prog 6 args W fun e W' => ∃ v, e = .returned v ∧ Rows.fetchStringsSpec.post enc Tryd.prog Tryd.f6 false true false false W args v W' := by
  have hW' := hW
  obtain ⟨p, q, hA0, hV, rfl, hfz, hnd⟩ := hW
  have hA : DataW.TrodAll enc Tryd.prog W 0 (fun _ => true) true Tryd.f6.params.toList args.toList ds p := hA0
  rw [Tryd.params6] at hA hval
  have hAk := hA
  obtain ⟨v0, d0, rfl, rfl, g0⟩ := trodAll_one hA
  obtain ⟨rfl, rfl⟩ := trodVars_none hV
  obtain ⟨s, rfl, _, hsR⟩ := string_arg (hval 0 9 v0 rfl rfl) g0 (sized_at hz (j := 0) (t := 9) (by kernel_rfl) rfl)
  obtain ⟨mx, hm⟩ : ∃ mx, W.cell? ⟨0, 0, none⟩ = some (.int .i64 mx) := Go.Proofs.cell_of_shapedOpen_int (zero := #[.int .i64 0]) (t := 3) hsh (of_decide_eq_true (by kernel_rfl)) (by kernel_rfl) rfl (by kernel_rfl) (by kernel_rfl) Tryd.underlying3
  have ht : Lib.TabIs Tryd.prog W "internal/strconv.uint64pow10" .u64 Lib.pow10Tab := tab_met hL (by kernel_rfl)
  clear hA0
  refine (fetchStrings_law s.data.toList mx W hm ht hsR).mono fun e W' ⟨he, hb⟩ => ?_
  subst he
  exact ⟨_, rfl, post_of_below (pv := []) hW' (fun _ _ _ => trodAll_mk1 (shut_bool Tryd.underlying4 _)) (fun sp hsp => args_stay (by kernel_rfl) (by kernel_rfl) hAk (fun x hx => hb.same (by simpa using hW'.lt x (List.mem_append_left _ hx))) (fun x hx => hsp x (List.mem_append_left _ hx))) (fun _ _ => rfl) rfl
    hb (ok_one (by kernel_rfl) rfl (okWide_bool_mk Tryd.underlying4 _))⟩
set_option maxRecDepth 100000 in
theorem reads (os : Os) {H : Type} (enc : TypeId × Value → H) : ∃ places, DataW.whole enc Tryd.prog ((World.laidAll Tryd.prog os Rows.fetchStringsRow.laid).forCall (fun _ _ => 0) ⟨#[], #[.string ⟨#[]⟩], []⟩).memory Tryd.f6.params.toList Rows.fetchStringsSpec.vars false #[Value.string ⟨#[]⟩].toList 8 = some ([.lit (.string [])], [], places) :=
  ⟨[], by kernel_rfl⟩
set_option maxRecDepth 100000 in
theorem lifted (os : Os) (started : os.Started) (H : Type) (enc : TypeId × Value → H) (F : Stop.Interp) :
    ReturnsInHanded {} Tryd.checked os 6 .any ((OpenSpec.ofChange Rows.fetchStringsSpec).preRow enc Tryd.prog Tryd.f6 Rows.fetchStringsRow.domain false Rows.fetchStringsRow.laid) (((OpenSpec.ofChange Rows.fetchStringsSpec).at F).post enc Tryd.prog Tryd.f6 false true false false) := by
  obtain ⟨places, hx⟩ := reads os enc
  refine returnsInHanded_of_row (C := Tryd.checked) (s := OpenSpec.ofChange Rows.fetchStringsSpec) own started (by kernel_rfl) Tryd.func6
    (witness_row_shaped (enc := enc) (C := Tryd.checked) false (World.laidAll Tryd.prog os Rows.fetchStringsRow.laid) #[.string ⟨#[]⟩] (World.laidAll_os _ _ _) (World.shaped_of_ZipB (by kernel_rfl) (by kernel_rfl)) (by kernel_rfl)
      (OpenSpec.preRow_of_cond 8 hx (by kernel_rfl) (fun k hk => by cases hk) (by kernel_rfl) (laidMet_laidAll _ (by kernel_rfl) (by kernel_rfl)))) ?_
  intro W base args ds gs before hval hW _ _ hz hL hsh _
  exact contract H enc W base args ds gs before hval hW hz hL hsh
theorem said : Rows.FetchStringsSaid :=
  OpenClaim.holds_of_cond 6 Tryd.f6 rfl rfl rfl rfl rfl rfl rfl ⟨rfl, rfl, rfl, rfl, rfl⟩ rfl rfl rfl rfl rfl (by kernel_rfl) Tryd.func6 (by kernel_rfl)
    (of_decide_eq_true (by kernel_rfl)) (by unfold Func.isWrapper; first | (rw [if_pos (by decide +kernel)]; kernel_rfl) | (rw [if_neg (by decide +kernel)]; exact ⟨rfl, rfl⟩))
    (fun os started H enc _ F => by rw [OpenClaim.pre_eq_preRow]; exact lifted os started H enc F)
theorem plain (f : FuncId) (fn : Func) (hf : Tryd.pinned.checked.prog.funcNamed "cubby/cubbylaw18.FetchStrings" = some f) (hfn : Tryd.pinned.checked.prog.funcs[f]? = some fn) :
    true = Tryd.pinned.checked.prog.looks [] ∧ ∀ (j : Nat) t, fn.params[j]? = some t → Tryd.pinned.checked.prog.wantsStandIn t = false := by
  obtain rfl : f = 6 := Option.some.inj ((show Tryd.prog.funcNamed "cubby/cubbylaw18.FetchStrings" = some 6 by kernel_rfl).symm.trans hf) |>.symm
  obtain rfl : fn = Tryd.f6 := (Option.some.inj (Tryd.func6.symm.trans hfn)).symm
  refine ⟨by kernel_rfl, fun j t ht => ?_⟩
  rw [Tryd.params6] at ht
  have hm : t ∈ [9] := by simpa using Array.mem_of_getElem? ht
  have hall : ([9].all fun u => !Tryd.prog.wantsStandIn u) = true := by kernel_rfl
  exact (show Tryd.prog.wantsStandIn t = false by simpa using List.all_eq_true.1 hall t hm)
theorem holds : Rows.FetchStringsCardSaid :=
  Claim7.holds_tied_plain_at .later [] _ _ _ _ said (fun _ h => by cases h) (by kernel_rfl) (fun _ h => by cases h) fetchStrings_row_tie rfl ⟨rfl, rfl⟩ (by kernel_rfl) rfl plain (by kernel_rfl)
#print axioms holds
end Go.Proofs.YtaljodmhalodhaaDoor.FetchStrings
