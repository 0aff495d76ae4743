/-
  Walk: cubbylaw15.units.
-/
import Derived.Test.YtaljodmhalodhaaDoorLfb
import Derived.Deep.Slices
import Derived.Deep.Fields
import Derived.ChangeSame
import Derived.ChangeSlices
import Derived.Carry
import Derived.SizedLaws
import Derived.Lib.SmallJoins
import Derived.Deep.DeepHandedRow
import Derived.LaidSub
import Derived.Lib.LaidTab
import Derived.MakeChecks
import Derived.Test.YtaljodmhalodhaaDoorCards
import Derived.Test.YtaljodmhalodhaaDoorTie
import Derived.SevenTiedAt
namespace Go.Proofs.YtaljodmhalodhaaDoor
open Go.RowKit
set_option linter.unusedSimpArgs false
set_option linter.unusedVariables false
theorem crlf_step (x : UInt8) (r : List UInt8) : crlf (x :: r) = if x = 13 ∧ r.head? = some 10 then some ([], r.tail) else (crlf r).map fun p => (x :: p.1, p.2) := by
  rw [crlf]
theorem units_step (f : Nat) {d b ln rest : List UInt8} (hcb : crlf b = some (ln, rest)) : unitsS (f + 1) d b = if 2000 < ln.length then ((2, (d ++ ln).take 100) :: (unitsS f [] rest).1, (unitsS f [] rest).2) else match litP ln with
        | some n => if 20000 < n then ((3, (d ++ ln).take 100) :: (unitsS f [] rest).1, (unitsS f [] rest).2) else if rest.length < n then ([(4, [])], true) else ((4, []) :: (unitsS f (d ++ ln ++ [13, 10] ++ rest.take n) (rest.drop n)).1, (unitsS f (d ++ ln ++ [13, 10] ++ rest.take n) (rest.drop n)).2)
        | none => ((1, d ++ ln) :: (unitsS f [] rest).1, (unitsS f [] rest).2) := by
  simp only [unitsS, hcb]
  rfl
theorem conv_str (l : List UInt8) (w : World) : ∃ c w', (convert 9 22 (.string (St l))).run Tryd.prog w = .ok (.slice (some ⟨w.heap.size, 0, none⟩) l.length c) w' ∧ Reads w' w'.heap.size 1 (some ⟨w.heap.size, 0, none⟩) l.length (u8s l) ∧ Below w.heap.size w w' := by
  have hcv := Lib.run_convert_string_bytes (P := Tryd.prog) w 9 22 5 (St l) Tryd.underlying9 Tryd.underlying22 Tryd.underlying5
  refine ⟨_, _, hcv, ?_, ⟨rfl, rfl, rfl, by rw [Lib.bytesWorld_size]; omega, fun k hk => Lib.bytesWorld_at_old w 5 (St l) k hk⟩⟩
  refine ⟨by rw [u8s_length, Nat.mul_one], fun _ => ⟨_, rfl, by rw [Lib.bytesWorld_size]; exact Nat.lt_succ_self _, fun j u hu => ?_⟩⟩
  have hj : j < (St l).size := by
    rcases Nat.lt_or_ge j l.length with h | h
    · exact h
    · rw [u8s_get, List.getElem?_eq_none h] at hu; cases hu
  rw [add0, Lib.bytesWorld_cell w 5 (St l) j hj, ← hu, u8s_get]
  have hj2 : j < l.length := hj
  rw [List.getD_eq_getElem?_getD, List.getElem?_eq_getElem hj2]
  rfl
theorem st_app (a b : List UInt8) : St a ++ St b = St (a ++ b) := by
  refine ByteArray.ext ?_
  simp [ByteArray.data_append]
theorem app_unit {B g : Nat} {w : World} {v : Value} {us : List UnitV} {u : UnitV} (ho : OwnR unitSh B w v us) (K : Blk w g 29 (unitC u).toArray) (hp : ReadsP w (u.a, u.b)) (hoff : ∀ g', v.ownBlock = some g' → OffP g' (u.a, u.b)) (hlen : us.length ≤ 1000000) (hB : B ≤ w.heap.size) :
    ∃ r w', (Builtin.append_ #[24, 24] 24 #[v, .slice (some ⟨g, 0, none⟩) 1 1]).run Tryd.prog w = .ok r w' ∧ OwnR unitSh B w' r (us ++ [u]) ∧ Below B w w' := by
  have hrow : RowR unitSh w (some ⟨g, 0, none⟩) [u] := rowR_blk (s := unitSh) (x := u) K fun p hp' => by rw [List.mem_singleton.1 hp']; exact hp
  obtain ⟨r, w', hr, ho', hg, -⟩ := run_appR (c := 1) ho hrow (fun g' hg' m hm p hp' => by
    rw [List.mem_singleton.1 hm] at hp'
    rw [List.mem_singleton.1 hp']
    exact hoff g' hg') (by simp; omega) hB
  exact ⟨r, w', hr, ho', below_appR (Below.refl _ _) ho hg (Nat.le_refl _) hB⟩
theorem off_new {B g : Nat} {w : World} {v : Value} {us : List UnitV} {n : Nat} {b : List UInt8} (ho : OwnR unitSh B w v us) (h : w.heap.size ≤ g) : ∀ g', v.ownBlock = some g' → OffP g' (some ⟨g, n, none⟩, b) := fun g' hg' _ ad e he => by
  injection e with e
  subst e
  have := (World.ownsRow.lt ho.row g' hg').2
  exact absurd he (by show ¬ g = g'; omega)
set_option maxRecDepth 100000 in
set_option maxHeartbeats 4000000 in
theorem units15_any (l : List UInt8) (w : World) (hl : l.length ≤ 20000) : Calls Tryd.prog 9 #[.string (St l)] w fun ev w' => ∃ v us, ev = .returned (.tuple #[v, .bool (unitsS (l.length + 1) [] l).2]) ∧ OwnR unitSh w.heap.size w' v us ∧ us.map unitB = (unitsS (l.length + 1) [] l).1 ∧ Below w.heap.size w w' := by
  refine calls_at 100 Tryd.func9 rfl rfl (Nat.le_of_ble_eq_true rfl) ?_
  intro a hA; replace hA := hA.norm
  refine wS (wR ?_)
  revert a; (iterate 2 refine wo rfl rfl (by decide) (fun ev e h => by simp [go_sem, h] <;> rfl) ?_); intro a hA
  replace hA := hA.keepN [0]
  refine wN (nT (wS (wR ?_)))
  revert a; refine wo rfl rfl (by decide) (fun ev e h => by simp [go_sem, h] <;> rfl) ?_; intro a hA
  replace hA := hA.keepN [0, 4]
  refine wN (nT (wS (wR ?_)))
  revert a; refine wo rfl rfl (by decide) (fun ev e h => by simp [go_sem, h] <;> rfl) ?_; intro a hA
  replace hA := hA.keepN [0, 4, 5]
  refine wN (nT (wB ?_))
  refine wp_loop_at (fun f a wx => ∃ (d b : List UInt8) (v : Value) (us : List UnitV), b.length < f ∧ d.length + b.length ≤ l.length ∧ (unitsS (l.length + 1) [] l) = (us.map unitB ++ (unitsS f d b).1, (unitsS f d b).2) ∧ us.length + b.length ≤ l.length ∧ OwnR unitSh w.heap.size wx v us ∧ Below w.heap.size w wx ∧ At 100 [(0, .string (St b)), (4, v), (5, .string (St d))] a) (l.length + 1) ?_ ?_
  · exact ⟨[], l, _, [], by omega, by simp, by simp, by simp, OwnR.nil _ _, Below.refl _ _, hA⟩
  clear hA
  rintro f a wx ⟨d, b, v, us, hbf, hdb, hU, hul, ho, HB, hA⟩
  refine wB (wS (wR ?_))
  revert a; refine wo rfl rfl (by decide) (fun ev e h => by simp [go_sem, h] <;> rfl) ?_; intro a hA
  replace hA := hA.keepN [0, 4, 5, 6]
  refine wN (nT (wS (wB ?_)))
  have hbs : (St b).size = b.length := rfl
  refine wp_loop_at (fun g a wy => ∃ i : Nat, i + g = b.length ∧ wy = wx ∧ crlf b = (crlf (b.drop i)).map (fun p => (b.take i ++ p.1, p.2)) ∧ At 100 [(0, .string (St b)), (4, v), (5, .string (St d)), (6, .int .i64 (i : Nat))] a) (b.length) ?_ ?_
  · refine ⟨0, by omega, rfl, ?_, hA⟩
    rw [List.drop_zero]
    cases crlf b with
    | none => rfl
    | some p => rfl
  clear hA
  rintro g a wy ⟨i, hig, rfl, hcr, hA⟩
  have hi1 : IntKind.i64.wrap (((i : Nat) : Int) + 1) = ((i + 1 : Nat) : Int) := by rw [IntWalk.i64_in _ (by omega)]; omega
  rcases Nat.lt_or_ge (i + 1) b.length with hlt | hge
  · obtain ⟨x, hx⟩ : ∃ x, b[i]? = some x := ⟨_, List.getElem?_eq_getElem (by omega)⟩
    obtain ⟨y, hy⟩ : ∃ y, b[i + 1]? = some y := ⟨_, List.getElem?_eq_getElem hlt⟩
    have hd1 : b.drop i = x :: b.drop (i + 1) := by
      rw [← (List.getElem?_eq_some_iff.1 hx).2]
      exact List.drop_eq_getElem_cons (by omega)
    have hd2 : (b.drop (i + 1)).head? = some y := by rw [List.head?_drop, hy]
    have g1 : ∀ h : i < (St b).size, (St b)[i] = x := fun h => (List.getElem?_eq_some_iff.1 hx).2
    have g2 : ∀ h : i + 1 < (St b).size, (St b)[i + 1] = y := fun h => (List.getElem?_eq_some_iff.1 hy).2
    have h5 : (((i : Nat) : Int) + 1 < ((b.length : Nat) : Int)) := by omega
    have h6 : ((i : Nat) : Int) < ((b.length : Nat) : Int) := by omega
    have h7 : i < b.length := by omega
    have h8 : IntKind.i64.wrap ((i : Nat) : Int) = ((i : Nat) : Int) := IntWalk.i64_in _ (by omega)
    have h9 : (0 : Int) ≤ ((i : Nat) : Int) + 1 := by omega
    have h10 : (((i : Nat) : Int) + 1).toNat = i + 1 := by omega
    refine wS (wS (wR ?_))
    revert a; (iterate 6 refine wo rfl rfl (by decide) (fun ev e h => by simp [go_sem, h, hbs, hi1, h5, h6, h7, hlt, h8, h9, h10, g1, g2] <;> rfl) ?_); (iterate 4 refine wg _ rfl rfl rfl rfl (by decide) (fun hq ev e h => by simp [go_sem, h, ↓gw_t (beq_t hq), hbs, hi1, h5, h6, h7, hlt, h8, h9, h10, g1, g2] <;> rfl) ?_); intro a hA
    replace hA := hA.keepN [0, 4, 5, 6, 14, 18]
    revert a; refine wg _ rfl rfl rfl rfl (by decide) (fun hq ev e h => by simp [go_sem, h, ↓gw_t (beq_t hq), hbs, hi1, h5, h6, h7, hlt, h8, h9, h10, g1, g2] <;> rfl) ?_; (iterate 5 refine wg2 _ _ rfl rfl rfl rfl (by decide) (fun hq hr ev e h => by simp [go_sem, h, ↓gw_t (and_beq hq hr), ↓gw_t hq, hbs, hi1, h5, h6, h7, hlt, h8, h9, h10, g1, g2] <;> rfl) ?_); intro a hA
    refine wl_guard _ hA rfl rfl rfl rfl (by decide) (fun hq ev h => by exact pick_or rfl (((h.get 19 rfl).trans (gw_t (beq_t hq)))) (h.c _) (((h.get 24 rfl).trans (gw_a (beq_t hq))))) fun a hA => ?_
    revert a; (first | refine wka rfl rfl (by decide) rfl rfl rfl ?_ | refine wo rfl rfl (by decide) (fun ev e h => by simp [go_sem, h, gv_or, gv_and, hbs, hi1, h5, h6, h7, hlt, h8, h9, h10, g1, g2] <;> rfl) ?_); intro a hA
    replace hA := hA.keepN [0, 4, 5, 6, 26]
    refine wN (nT ?_)
    refine wp_if hA 26 _ rfl (fun hq => ?yM) (fun hq => ?nM)
    case yM =>
      refine wp_skip (nT (wB (wR ?_)))
      revert a; (iterate 3 refine wo rfl rfl (by decide) (fun ev e h => by simp [go_sem, h, hbs, hi1, h5, h6, h7, hlt, h8, h9, h10, g1, g2] <;> rfl) ?_); intro a hA
      replace hA := hA.keepN [0, 4, 5, 6]
      refine wN (nB (nT ?_))
      have hne : ¬ (x = 13 ∧ (b.drop (i + 1)).head? = some 10) := by
        rintro ⟨e1, e2⟩
        rw [hd2] at e2
        injection e2 with e2
        subst e1 e2
        simp at hq
      rw [show ((i : Nat) : Int) + 1 = ((i + 1 : Nat) : Int) by omega] at hA
      refine ⟨g - 1, by omega, i + 1, by omega, rfl, ?_, hA⟩
      rw [hcr, hd1, crlf_step, if_neg hne, Option.map_map]
      congr 1
      funext p
      simp only [Function.comp]
      rw [List.take_add_one, hx, List.append_assoc]
      rfl
    case nM =>
      have hxy : x = 13 ∧ y = 10 := by
        simp at hq
        exact ⟨UInt8.toNat_inj.1 (by show x.toNat = 13; omega), UInt8.toNat_inj.1 (by show y.toNat = 10; omega)⟩
      have hcb : crlf b = some (b.take i, b.drop (i + 2)) := by
        rw [hcr, hd1, crlf_step, if_pos ⟨hxy.1, by rw [hd2, hxy.2]⟩]
        simp [List.tail_drop]
      have hli : (b.take i).length = i := by rw [List.length_take]; omega
      have k1 : (St b).extract 0 i = St (b.take i) := extract_take b i
      have k2 : (St b).extract (i + 2) b.length = St (b.drop (i + 2)) := extract_drop b _ _ rfl
      have k3 : IntKind.i64.wrap (((i : Nat) : Int) + 2) = ((i : Nat) : Int) + 2 := IntWalk.i64_in _ (by omega)
      have k4 : ¬ ((b.length : Nat) : Int) ≤ ((i : Nat) : Int) + 1 := by omega
      have k5 : ((i : Nat) : Int) ≤ ((b.length : Nat) : Int) := by omega
      have k6 : ((i : Nat) : Int) + 2 ≤ ((b.length : Nat) : Int) := by omega
      have k7 : (((i : Nat) : Int) + 2).toNat = i + 2 := by omega
      have k8 : (0 : Int) ≤ ((i : Nat) : Int) + 2 := by omega
      replace hA := hA.keepN [0, 4, 5, 6]
      refine wp_exit (xT (xT (xB (nT (wS (wS (wR ?_)))))))
      revert a; (iterate 5 refine wo rfl rfl (by decide) (fun ev e h => by simp [go_sem, h, hbs, hi1, k3, k4, h8] <;> rfl) ?_); intro a hA
      replace hA := hA.keepN [0, 4, 5, 6, 33]
      refine wN (nT ?_)
      refine wp_if hA 33 _ rfl (fun hq2 => ?yN3) (fun hq2 => ?nN3)
      case yN3 =>
        simp at hq2
      case nN3 =>
        refine wp_skip (nT (wS (wR ?_)))
        revert a; (iterate 4 refine wo rfl rfl (by decide) (fun ev e h => by simp [go_sem, h, hbs, hi1, k1, k2, k3, k5, k6, k7, k8, h8] <;> rfl) ?_); intro a hA
        replace hA := hA.keepN [0, 4, 5, 6, 7]
        refine wN (nT (wS (wR ?_)))
        revert a; (iterate 5 refine wo rfl rfl (by decide) (fun ev e h => by simp [go_sem, h, hbs, hi1, k1, k2, k3, k5, k6, k7, k8, h8] <;> rfl) ?_); intro a hA
        replace hA := hA.keepN [0, 4, 5, 7]
        refine wN (nT (wS (wR ?_)))
        revert a; refine wo rfl rfl (by decide) (fun ev e h => by simp [go_sem, h, hbs, hi1, k1, k2, k3, k5, k6, k7, k8, h8] <;> rfl) ?_; intro a hA
        obtain ⟨f, rfl⟩ : ∃ f', f = f' + 1 := ⟨f - 1, by omega⟩
        have hbl : b.length = i + 2 + (b.drop (i + 2)).length := by rw [List.length_drop]; omega
        obtain ⟨ln, hln⟩ : ∃ ln, b.take i = ln := ⟨_, rfl⟩
        obtain ⟨rest, hrest⟩ : ∃ rest, b.drop (i + 2) = rest := ⟨_, rfl⟩
        rw [hln, hrest] at hcb
        rw [hln] at hli hA
        rw [hrest] at hbl hA
        have hU2 := units_step f (d := d) hcb
        have ka : St d ++ St ln = St (d ++ ln) := st_app d ln
        have kl : (St ln).size = ln.length := rfl
        have kz : ¬ (9223372036854775807 < d.length + ln.length) := by omega
        have kr : (St rest).size = rest.length := rfl
        have e0 : St ([] : List UInt8) = ⟨#[]⟩ := rfl
        refine wl_call hA rfl rfl (by decide) (fun ev h => exec_call Tryd.func17 (by kernel_rfl) rfl (h.f _) (by first | (simp only [mL, h.get 42 rfl, h.c] <;> rfl) | (simp [mL, h.get 42 rfl, h.c, hbs, hi1, k1, k2, k3, k5, k6, k7, k8, h8] <;> rfl))) (wants_any ln _ (by omega)) ?_
        rintro e w2 ⟨rfl, rfl⟩
        refine ⟨_, rfl, fun a hA => ?_⟩
        revert a; refine wo rfl rfl (by decide) (fun ev e h => by simp [go_sem, h, kl, ka, kz] <;> rfl) ?_; intro a hA
        replace hA := hA.keepN [0, 4, 5, 7, 8]
        refine wN (nT (wB (wS (wR ?_))))
        revert a; (iterate 4 refine wo rfl rfl (by decide) (fun ev e h => by simp [go_sem, h, kl, ka, kz] <;> rfl) ?_); intro a hA
        replace hA := hA.keepN [0, 4, 5, 7, 8, 52]
        refine wN (nT ?_)
        refine wp_if hA 52 _ rfl (fun hq4 => ?yL) (fun hq4 => ?nL)
        case yL =>
          have hlong : 2000 < ln.length := by simp at hq4; omega
          rw [if_pos hlong] at hU2
          rw [hU2] at hU
          obtain ⟨t, ht⟩ : ∃ t, (d ++ ln).take 100 = t := ⟨_, rfl⟩
          have hC := some15_any (d ++ ln) w2 (by rw [List.length_append]; omega)
          rw [ht] at hC hU
          refine wS (wR ?_)
          revert a; (iterate 4 refine wo rfl rfl (by decide) (fun ev e h => by simp [go_sem, h, kl, ka, kz] <;> rfl) ?_); intro a hA
          refine wl_call hA rfl rfl (by decide) (fun ev h => exec_call Tryd.func18 (by kernel_rfl) rfl (h.f _) (by first | (simp only [mL, h.get 59 rfl, h.c] <;> rfl) | (simp [mL, h.get 59 rfl, h.c, kl, ka, kz] <;> rfl))) (hC) ?_
          rintro e w3 ⟨rfl, rfl⟩
          refine ⟨_, rfl, fun a hA => ?_⟩
          obtain ⟨c4, w4, hcv, hrd, hb4⟩ := conv_str t w3
          have hfar := off_new (n := 0) (b := t) ho (Nat.le_refl w3.heap.size)
          refine wl_op hA rfl rfl (by decide) (fun ev h => by simp [go_sem, h.get 60 rfl, kl, ka, kz, hcv]; try first | exact ⟨rfl, rfl⟩ | rfl) fun a hA => ?_
          replace ho := ho.below hb4
          replace HB := HB.trans (hb4.mono HB.size)
          revert a; refine wo rfl rfl (by decide) (fun ev e h => by simp [go_sem, h, kl, ka, kz] <;> rfl) ?_; intro a hA
          refine wl_new hA rfl rfl (by decide) (fun ev h => by simp [go_sem, h.get 62 rfl, kl, ka, kz]; try first | exact ⟨rfl, rfl⟩ | rfl) fun w5 a (K5 : Blk _ _ _ _) hz5 hb5 hA => ?_
          replace ho := ho.below hb5
          replace HB := HB.trans (hb5.mono HB.size)
          replace hrd := (hrd.below hb5).more hb5.size
          obtain ⟨r, w6, hr6, ho6, hb6⟩ := app_unit (u := ⟨2, some ⟨w3.heap.size, 0, none⟩, c4, t⟩) ho K5 hrd hfar (by omega) HB.size
          refine wl_op hA rfl rfl (by decide) (fun ev h => exec_append rfl (h.get 56 rfl) (h.get 63 rfl) hr6) fun a hA => ?_
          revert a; refine wo rfl rfl (by decide) (fun ev e h => by simp [go_sem, h, kl, ka, kz] <;> rfl) ?_; intro a hA
          replace hA := hA.keepN [0, 4]
          refine wN (nT (wR ?_))
          revert a; refine wo rfl rfl (by decide) (fun ev e h => by simp [go_sem, h, kl, ka, kz] <;> rfl) ?_; intro a hA
          replace hA := hA.keepN [0, 4, 5]
          refine wN (nB (nB (nT ?_)))
          exact ⟨f, by omega, [], rest, r, us ++ [⟨2, some ⟨w3.heap.size, 0, none⟩, c4, t⟩], by omega, by simp; omega, by rw [hU, List.map_append]; simp [unitB], by simp; omega, ho6, HB.trans hb6, hA⟩
        case nL =>
          have hlong : ¬ 2000 < ln.length := by simp at hq4; omega
          rw [if_neg hlong] at hU2
          refine wS (wR ?_)
          revert a; (iterate 3 refine wo rfl rfl (by decide) (fun ev e h => by simp [go_sem, h, kl, ka, kz] <;> rfl) ?_); intro a hA
          replace hA := hA.keepN [0, 4, 5, 7, 8, 65]
          refine wN (nT ?_)
          refine wp_if hA 65 _ rfl (fun hq5 => ?yG) (fun hq5 => ?nG)
          case yG =>
            have hgr : 20000 < litV ln := by simpa using hq5
            obtain ⟨m, hm⟩ : ∃ m, litP ln = some m := by
              cases h : litP ln with
              | none => rw [litV_none h] at hgr; omega
              | some m => exact ⟨m, rfl⟩
            have hm2 : 20000 < m := by rw [litV_some hm] at hgr; omega
            rw [hm] at hU2
            replace hU2 : unitsS (f + 1) d b = ((3, (d ++ ln).take 100) :: (unitsS f [] rest).1, (unitsS f [] rest).2) := hU2.trans (if_pos hm2)
            rw [hU2] at hU
            obtain ⟨t, ht⟩ : ∃ t, (d ++ ln).take 100 = t := ⟨_, rfl⟩
            have hC := some15_any (d ++ ln) w2 (by rw [List.length_append]; omega)
            rw [ht] at hC hU
            refine wS (wR ?_)
            revert a; (iterate 4 refine wo rfl rfl (by decide) (fun ev e h => by simp [go_sem, h, kl, ka, kz] <;> rfl) ?_); intro a hA
            refine wl_call hA rfl rfl (by decide) (fun ev h => exec_call Tryd.func18 (by kernel_rfl) rfl (h.f _) (by first | (simp only [mL, h.get 71 rfl, h.c] <;> rfl) | (simp [mL, h.get 71 rfl, h.c, kl, ka, kz] <;> rfl))) (hC) ?_
            rintro e w3 ⟨rfl, rfl⟩
            refine ⟨_, rfl, fun a hA => ?_⟩
            obtain ⟨c4, w4, hcv, hrd, hb4⟩ := conv_str t w3
            have hfar := off_new (n := 0) (b := t) ho (Nat.le_refl w3.heap.size)
            refine wl_op hA rfl rfl (by decide) (fun ev h => by simp [go_sem, h.get 72 rfl, kl, ka, kz, hcv]; try first | exact ⟨rfl, rfl⟩ | rfl) fun a hA => ?_
            replace ho := ho.below hb4
            replace HB := HB.trans (hb4.mono HB.size)
            revert a; refine wo rfl rfl (by decide) (fun ev e h => by simp [go_sem, h, kl, ka, kz] <;> rfl) ?_; intro a hA
            refine wl_new hA rfl rfl (by decide) (fun ev h => by simp [go_sem, h.get 74 rfl, kl, ka, kz]; try first | exact ⟨rfl, rfl⟩ | rfl) fun w5 a (K5 : Blk _ _ _ _) hz5 hb5 hA => ?_
            replace ho := ho.below hb5
            replace HB := HB.trans (hb5.mono HB.size)
            replace hrd := (hrd.below hb5).more hb5.size
            obtain ⟨r, w6, hr6, ho6, hb6⟩ := app_unit (u := ⟨3, some ⟨w3.heap.size, 0, none⟩, c4, t⟩) ho K5 hrd hfar (by omega) HB.size
            refine wl_op hA rfl rfl (by decide) (fun ev h => exec_append rfl (h.get 68 rfl) (h.get 75 rfl) hr6) fun a hA => ?_
            revert a; refine wo rfl rfl (by decide) (fun ev e h => by simp [go_sem, h, kl, ka, kz] <;> rfl) ?_; intro a hA
            replace hA := hA.keepN [0, 4]
            refine wN (nT (wR ?_))
            revert a; refine wo rfl rfl (by decide) (fun ev e h => by simp [go_sem, h, kl, ka, kz] <;> rfl) ?_; intro a hA
            replace hA := hA.keepN [0, 4, 5]
            refine wN (nB (nB (nT ?_)))
            exact ⟨f, by omega, [], rest, r, us ++ [⟨3, some ⟨w3.heap.size, 0, none⟩, c4, t⟩], by omega, by simp; omega, by rw [hU, List.map_append]; simp [unitB], by simp; omega, ho6, HB.trans hb6, hA⟩
          case nG =>
            have hgr : ¬ 20000 < litV ln := by simpa using hq5
            refine wS (wR ?_)
            revert a; (iterate 3 refine wo rfl rfl (by decide) (fun ev e h => by simp [go_sem, h, kl, ka, kz] <;> rfl) ?_); intro a hA
            replace hA := hA.keepN [0, 4, 5, 7, 8, 77]
            refine wN (nT ?_)
            refine wp_if hA 77 _ rfl (fun hq6 => ?yH) (fun hq6 => ?nH)
            case yH =>
              have h0 : 0 ≤ litV ln := by simpa using hq6
              obtain ⟨m, hm⟩ : ∃ m, litP ln = some m := by
                cases h : litP ln with
                | none => rw [litV_none h] at h0; omega
                | some m => exact ⟨m, rfl⟩
              have hmv := litV_some hm
              have hm2 : ¬ 20000 < m := by rw [hmv] at hgr; omega
              rw [hm] at hU2
              replace hU2 := hU2.trans (if_neg hm2)
              rw [hmv] at hA
              refine wS (wR ?_)
              revert a; (iterate 2 refine wo rfl rfl (by decide) (fun ev e h => by simp [go_sem, h, kl, ka, kz] <;> rfl) ?_); intro a hA
              refine wl_new hA rfl rfl (by decide) (fun ev h => by simp [go_sem, h.get 81 rfl, kl, ka, kz]; try first | exact ⟨rfl, rfl⟩ | rfl) fun w5 a (K5 : Blk _ _ _ _) hz5 hb5 hA => ?_
              replace ho := ho.below hb5
              replace HB := HB.trans (hb5.mono HB.size)
              obtain ⟨r, w6, hr6, ho6, hb6⟩ := app_unit (u := ⟨4, none, 0, []⟩) ho K5 Reads.none8 (fun _ _ _ _ e => by cases e) (by omega) HB.size
              refine wl_op hA rfl rfl (by decide) (fun ev h => exec_append rfl (h.get 80 rfl) (h.get 82 rfl) hr6) fun a hA => ?_
              revert a; refine wo rfl rfl (by decide) (fun ev e h => by simp [go_sem, h, kr] <;> rfl) ?_; intro a hA
              replace hA := hA.keepN [0, 4, 5, 7, 8]
              refine wN (nT (wS (wS (wR ?_))))
              revert a; (iterate 4 refine wo rfl rfl (by decide) (fun ev e h => by simp [go_sem, h, kr] <;> rfl) ?_); intro a hA
              replace hA := hA.keepN [0, 4, 5, 7, 8, 87]
              refine wN (nT ?_)
              refine wp_if hA 87 _ rfl (fun hq7 => ?yM) (fun hq7 => ?nM)
              case yM =>
                have hlt2 : rest.length < m := by simp at hq7; omega
                replace hU2 := hU2.trans (if_pos hlt2)
                rw [hU2] at hU
                refine wS (wR ?_)
                revert a; (iterate 3 refine wo rfl rfl (by decide) (fun ev e h => by simp [go_sem, h, kr] <;> rfl) ?_); intro a hA
                replace hA := hA.keepN [2, 3]
                refine wN (nT (wp_ret (rT (rB (rB (rT (rB ?_)))))))
                refine ret_2 hA 2 3 rfl rfl rfl ?_
                exact ⟨r, us ++ [⟨4, none, 0, []⟩], by rw [hU], ho6, by rw [hU, List.map_append]; simp [unitB], HB.trans hb6⟩
              case nM =>
                have hlt2 : ¬ rest.length < m := by simp at hq7; omega
                replace hU2 := hU2.trans (if_neg hlt2)
                rw [hU2] at hU
                have q1 : (St rest).extract 0 m = St (rest.take m) := extract_take rest m
                have q2 : (St rest).extract m rest.length = St (rest.drop m) := extract_drop rest _ _ rfl
                have q3 : ((m : Nat) : Int) ≤ ((rest.length : Nat) : Int) := by omega
                have q4 : m ≤ rest.length := by omega
                obtain ⟨d1, hd1⟩ : ∃ d1, d ++ ln ++ [13, 10] = d1 := ⟨_, rfl⟩
                obtain ⟨tk, htk⟩ : ∃ tk, rest.take m = tk := ⟨_, rfl⟩
                obtain ⟨d2, hd2⟩ : ∃ d2, d1 ++ tk = d2 := ⟨_, rfl⟩
                obtain ⟨b2, hb2⟩ : ∃ b2, rest.drop m = b2 := ⟨_, rfl⟩
                have q5 : St (d ++ ln) ++ (⟨#[13, 10]⟩ : ByteArray) = St d1 := by rw [← hd1]; exact st_app (d ++ ln) [13, 10]
                have q6 : St d1 ++ St tk = St d2 := by rw [← hd2]; exact st_app _ _
                have q7 : tk.length = m := by rw [← htk, List.length_take]; omega
                have q8 : b2.length = rest.length - m := by rw [← hb2, List.length_drop]
                have hd1l : d1.length = d.length + ln.length + 2 := by rw [← hd1]; simp; omega
                have hd2l : d2.length = d1.length + m := by rw [← hd2, List.length_append, q7]
                have kz2 : ¬ (9223372036854775807 < d.length + ln.length + 2) := by omega
                have kz3 : ¬ (9223372036854775807 < d1.length + m) := by omega
                rw [hd1, htk, hd2, hb2] at hU
                rw [htk] at q1
                rw [hb2] at q2
                have q9 : (St tk).size = m := q7
                have q10 : (St d1).size = d1.length := rfl
                refine wp_skip (nT (wS (wR ?_)))
                revert a; (iterate 9 refine wo rfl rfl (by decide) (fun ev e h => by simp [go_sem, h, kr, ka, kz, q1, q2, q3, q4, q5, q6, q7, kz2, kz3] <;> rfl) ?_); intro a hA
                replace hA := hA.keepN [0, 4, 5, 8]
                refine wN (nT (wR ?_))
                revert a; (iterate 4 refine wo rfl rfl (by decide) (fun ev e h => by simp [go_sem, h, kr, ka, kz, q1, q2, q3, q4, q5, q6, q7, kz2, kz3] <;> rfl) ?_); intro a hA
                replace hA := hA.keepN [0, 4, 5]
                refine wN (nB (nB (nT ?_)))
                exact ⟨f, by omega, d2, b2, r, us ++ [⟨4, none, 0, []⟩], by omega, by omega, by rw [hU, List.map_append]; simp [unitB], by simp; omega, ho6, HB.trans hb6, hA⟩
            case nH =>
              have h0 : ¬ 0 ≤ litV ln := by simpa using hq6
              have hm : litP ln = none := by
                cases h : litP ln with
                | none => rfl
                | some m => rw [litV_some h] at h0; omega
              rw [hm] at hU2
              replace hU2 : unitsS (f + 1) d b = ((1, d ++ ln) :: (unitsS f [] rest).1, (unitsS f [] rest).2) := hU2
              rw [hU2] at hU
              obtain ⟨t, ht⟩ : ∃ t, d ++ ln = t := ⟨_, rfl⟩
              rw [ht] at ka hU
              refine wS (wR ?_)
              revert a; (iterate 4 refine wo rfl rfl (by decide) (fun ev e h => by simp [go_sem, h, kl, ka, kz] <;> rfl) ?_); intro a hA
              obtain ⟨c4, w4, hcv, hrd, hb4⟩ := conv_str t w2
              have hfar := off_new (n := 0) (b := t) ho (Nat.le_refl w2.heap.size)
              refine wl_op hA rfl rfl (by decide) (fun ev h => by simp [go_sem, h.get 47 rfl, kl, ka, kz, hcv]; try first | exact ⟨rfl, rfl⟩ | rfl) fun a hA => ?_
              replace ho := ho.below hb4
              replace HB := HB.trans (hb4.mono HB.size)
              revert a; refine wo rfl rfl (by decide) (fun ev e h => by simp [go_sem, h, kl, ka, kz] <;> rfl) ?_; intro a hA
              refine wl_new hA rfl rfl (by decide) (fun ev h => by simp [go_sem, h.get 49 rfl, kl, ka, kz]; try first | exact ⟨rfl, rfl⟩ | rfl) fun w5 a (K5 : Blk _ _ _ _) hz5 hb5 hA => ?_
              replace ho := ho.below hb5
              replace HB := HB.trans (hb5.mono HB.size)
              replace hrd := (hrd.below hb5).more hb5.size
              obtain ⟨r, w6, hr6, ho6, hb6⟩ := app_unit (u := ⟨1, some ⟨w2.heap.size, 0, none⟩, c4, t⟩) ho K5 hrd hfar (by omega) HB.size
              refine wl_op hA rfl rfl (by decide) (fun ev h => exec_append rfl (h.get 44 rfl) (h.get 50 rfl) hr6) fun a hA => ?_
              revert a; refine wo rfl rfl (by decide) (fun ev e h => by simp [go_sem, h, kl, ka, kz] <;> rfl) ?_; intro a hA
              replace hA := hA.keepN [0, 4]
              refine wN (nT (wR ?_))
              revert a; refine wo rfl rfl (by decide) (fun ev e h => by simp [go_sem, h, kl, ka, kz] <;> rfl) ?_; intro a hA
              replace hA := hA.keepN [0, 4, 5]
              refine wN (nB (nB (nT ?_)))
              exact ⟨f, by omega, [], rest, r, us ++ [⟨1, some ⟨w2.heap.size, 0, none⟩, c4, t⟩], by omega, by simp; omega, by rw [hU, List.map_append]; simp [unitB], by simp; omega, ho6, HB.trans hb6, hA⟩
  · have hn : crlf b = none := by
      rw [hcr]
      have h0 : (b.drop i).length ≤ 1 := by rw [List.length_drop]; omega
      match hb : b.drop i, h0 with
      | [], _ => rfl
      | [x], _ => rw [crlf_step, if_neg (by simp)]; rfl
    obtain ⟨f, rfl⟩ : ∃ f', f = f' + 1 := ⟨f - 1, by omega⟩
    have hu : unitsS (f + 1) d b = ([], false) := by unfold unitsS; rw [hn]
    rw [hu] at hU
    have h1 : ¬ (i + 1 < b.length) := by omega
    have h2 : b.length ≤ i + 1 := hge
    have h3 : ¬ (((i + 1 : Nat) : Int) < ((b.length : Nat) : Int)) := by omega
    have h4 : ((b.length : Nat) : Int) ≤ ((i + 1 : Nat) : Int) := by omega
    have h5 : ¬ (((i : Nat) : Int) + 1 < ((b.length : Nat) : Int)) := by omega
    have h6 : ((b.length : Nat) : Int) ≤ ((i : Nat) : Int) + 1 := by omega
    refine wS (wS (wR ?_))
    refine wl_op hA rfl rfl (by decide) (fun ev h => by simp [go_sem, h.get 6 rfl, hbs, hi1, h5, h6]; try first | exact ⟨rfl, rfl⟩ | rfl) fun a hA => ?_
    refine wl_op hA rfl rfl (by decide) (fun ev h => by simp [go_sem, h.c, h.get 9 rfl, hbs, hi1, h5, h6]; try first | exact ⟨rfl, rfl⟩ | rfl) fun a hA => ?_
    refine wl_op hA rfl rfl (by decide) (fun ev h => by simp [go_sem, h.get 0 rfl, hbs, hi1, h5, h6]; try first | exact ⟨rfl, rfl⟩ | rfl) fun a hA => ?_
    refine wl_op hA rfl rfl (by decide) (fun ev h => by simp [go_sem, h.get 11 rfl, hbs, hi1, h5, h6]; try first | exact ⟨rfl, rfl⟩ | rfl) fun a hA => ?_
    refine wl_op hA rfl rfl (by decide) (fun ev h => by simp [go_sem, h.get 10 rfl, h.get 12 rfl, hbs, hi1, h5, h6]; try first | exact ⟨rfl, rfl⟩ | rfl) fun a hA => ?_
    refine wl_op hA rfl rfl (by decide) (fun ev h => by simp [go_sem, h.get 13 rfl, hbs, hi1, h5, h6]; try first | exact ⟨rfl, rfl⟩ | rfl) fun a hA => ?_
    refine wl_guard _ (v := .bool false) hA rfl rfl rfl rfl (by decide) (fun hq ev h => by first | (cases hq; done) | (cases hr; done)) fun a hA => ?_
    refine wl_guard _ (v := .bool false) hA rfl rfl rfl rfl (by decide) (fun hq ev h => by first | (cases hq; done) | (cases hr; done)) fun a hA => ?_
    refine wl_guard _ (v := .bool false) hA rfl rfl rfl rfl (by decide) (fun hq ev h => by first | (cases hq; done) | (cases hr; done)) fun a hA => ?_
    refine wl_guard _ (v := .bool false) hA rfl rfl rfl rfl (by decide) (fun hq ev h => by first | (cases hq; done) | (cases hr; done)) fun a hA => ?_
    replace hA := hA.keepN [0, 4, 5, 6, 14, 18]
    refine wl_guard _ (v := .bool false) hA rfl rfl rfl rfl (by decide) (fun hq ev h => by first | (cases hq; done) | (cases hr; done)) fun a hA => ?_
    refine wl_guard2 _ _ (v := .bool false) hA rfl rfl rfl rfl (by decide) (fun hq hr ev h => by first | (cases hq; done) | (cases hr; done)) fun a hA => ?_
    refine wl_guard2 _ _ (v := .bool false) hA rfl rfl rfl rfl (by decide) (fun hq hr ev h => by first | (cases hq; done) | (cases hr; done)) fun a hA => ?_
    refine wl_guard2 _ _ (v := .bool false) hA rfl rfl rfl rfl (by decide) (fun hq hr ev h => by first | (cases hq; done) | (cases hr; done)) fun a hA => ?_
    refine wl_guard2 _ _ (v := .bool false) hA rfl rfl rfl rfl (by decide) (fun hq hr ev h => by first | (cases hq; done) | (cases hr; done)) fun a hA => ?_
    refine wl_guard2 _ _ (v := .bool false) hA rfl rfl rfl rfl (by decide) (fun hq hr ev h => by first | (cases hq; done) | (cases hr; done)) fun a hA => ?_
    refine wl_guard _ (v := .bool false) hA rfl rfl rfl rfl (by decide) (fun hq ev h => by first | (cases hq; done) | (cases hr; done)) fun a hA => ?_
    revert a; (first | refine wka rfl rfl (by decide) rfl rfl rfl ?_ | refine wo rfl rfl (by decide) (fun ev e h => by simp [go_sem, h, gv_or, gv_and, hbs, hi1, h5, h6] <;> rfl) ?_); intro a hA
    replace hA := hA.keepN [0, 4, 5, 6, 26]
    refine wN (nT ?_)
    refine wp_if hA 26 _ rfl (fun hq => ?yN) (fun hq => ?nN)
    case yN =>
      simp at hq
    case nN =>
      replace hA := hA.keepN [0, 4, 5, 6]
      refine wp_exit (xT (xT (xB (nT (wS (wS (wR ?_)))))))
      revert a; (iterate 5 refine wo rfl rfl (by decide) (fun ev e h => by simp [go_sem, h, hbs, hi1, h5, h6] <;> rfl) ?_); intro a hA
      replace hA := hA.keepN [0, 4, 5, 6, 33]
      refine wN (nT ?_)
      refine wp_if hA 33 _ rfl (fun hq2 => ?yN2) (fun hq2 => ?nN2)
      case nN2 =>
        simp at hq2
      case yN2 =>
        refine wS (wR ?_)
        revert a; (iterate 3 refine wo rfl rfl (by decide) (fun ev e h => by simp [go_sem, h, hbs, hi1, h5, h6] <;> rfl) ?_); intro a hA
        replace hA := hA.keepN [2, 3]
        refine wN (nT (wp_ret (rT (rB (rT (rB ?_))))))
        refine ret_2 hA 2 3 rfl rfl rfl ?_
        exact ⟨v, us, by rw [hU], ho, by rw [hU, List.append_nil], HB⟩
end Go.Proofs.YtaljodmhalodhaaDoor
/-
  Walk of the statement on bytes in pieces: cubbylaw15.LexFeeds.
-/
namespace Go.Proofs.YtaljodmhalodhaaDoor
open Go.RowKit
set_option linter.unusedSimpArgs false
set_option linter.unusedVariables false
set_option maxRecDepth 100000 in
set_option maxHeartbeats 4000000 in
theorem lexFeeds_law (A P : Option Addr) (n c np cp : Nat) (b ps : List UInt8) (w : World) (hl : b.length = n) (hn : n ≤ 140737488355328) (hnc : n ≤ c) (hr : Reads w w.heap.size 1 A n (u8s b)) (hp : ps.length = np) (hnp : np ≤ 140737488355328) (hrp : Reads w w.heap.size 1 P np (u8s ps)) :
    Calls Tryd.prog 3 #[.slice A n c, .slice P np cp] w fun ev w' => ev = .returned (.bool true) ∧ Below w.heap.size w w' := by
  have HB := Below.refl w.heap.size w
  refine calls_at 77 Tryd.func3 rfl rfl (Nat.le_of_ble_eq_true rfl) ?_
  intro a hA; replace hA := hA.norm
  refine wS (wR ?_)
  revert a; refine wo rfl rfl (by decide) (fun ev e h => by simp [go_sem, h] <;> rfl) ?_; intro a hA
  replace hA := hA.keepN [0, 1]
  refine wN (nT (wS (wS (wR ?_))))
  refine wl_call hA rfl rfl (by decide) (fun ev h => exec_call Tryd.func7 (by kernel_rfl) rfl (h.f _) (by first | (simp only [mL, h.c] <;> rfl) | (simp [mL, h.c] <;> rfl))) (awake15_any _) ?_
  rintro e w1 ⟨rfl, hb1⟩
  refine ⟨_, rfl, fun a hA => ?_⟩
  replace HB := HB.trans (hb1.mono HB.size)
  revert a; (iterate 2 refine wo rfl rfl (by decide) (fun ev e h => by simp [go_sem, h] <;> rfl) ?_); (iterate 3 refine wg _ rfl rfl rfl rfl (by decide) (fun hq ev e h => by simp [go_sem, h, ↓gw_t (beq_t hq)] <;> rfl) ?_); refine wko rfl rfl (by decide) rfl rfl rfl ?_; refine wo rfl rfl (by decide) (fun ev e h => by simp [go_sem, h] <;> rfl) ?_; (iterate 3 refine wg _ rfl rfl rfl rfl (by decide) (fun hq ev e h => by simp [go_sem, h, ↓gw_t (beq_t hq)] <;> rfl) ?_); intro a hA
  replace hA := hA.keepN [0, 1, 17, 20]
  revert a; refine wko rfl rfl (by decide) rfl rfl rfl ?_; intro a hA
  replace hA := hA.keepN [0, 1, 21]
  refine wN (nT ?_)
  refine wp_if hA 21 _ rfl (fun hq => ?yA) (fun hq => ?nA)
  case yA =>
    refine wS (wR ?_)
    refine wl_call hA rfl rfl (by decide) (fun ev h => exec_call Tryd.func7 (by kernel_rfl) rfl (h.f _) (by first | (simp only [mL, h.c] <;> rfl) | (simp [mL, h.c] <;> rfl))) (awake15_any _) ?_
    rintro e w2 ⟨rfl, hb2⟩
    refine ⟨_, rfl, fun a hA => ?_⟩
    replace HB := HB.trans (hb2.mono HB.size)
    revert a; refine wo rfl rfl (by decide) (fun ev e h => by simp [go_sem, h] <;> rfl) ?_; intro a hA
    replace hA := hA.keepN [4]
    refine wN (nT (wp_ret (rT ?_)))
    refine ret_1 hA 4 rfl rfl ?_
    exact ⟨rfl, HB⟩
  case nA =>
    have hn2 : n ≤ 20000 := by simp at hq; omega
    have hp2 : np ≤ 100 := by simp at hq; omega
    refine wp_skip (nT (wS (wR ?_)))
    revert a; (iterate 2 refine wo rfl rfl (by decide) (fun ev e h => by simp [go_sem, h] <;> rfl) ?_); intro a hA
    have hr1 := (hr.below HB).more HB.size
    refine wl_call hA rfl rfl (by decide) (fun ev h => exec_call Tryd.func8 (by kernel_rfl) rfl (h.f _) (by first | (simp only [mL, h.get 24 rfl, h.get 25 rfl, h.c] <;> rfl) | (simp [mL, h.get 24 rfl, h.get 25 rfl, h.c] <;> rfl))) (fed_any A P n c np cp b ps _ hl hn2 hnc hr1 hp hp2 ((hrp.below HB).more HB.size)) ?_
    rintro e w2 ⟨v1, us1, rfl, ho1, hm1, hb2⟩
    refine ⟨_, rfl, fun a hA => ?_⟩
    replace HB := HB.trans (hb2.mono HB.size)
    have hcv : (convert 22 9 (.slice A n c)).run Tryd.prog w2 = .ok (.string (St b)) w2 := conv_reads hl (hr.below HB)
    revert a; (iterate 5 refine wo rfl rfl (by decide) (fun ev e h => by simp [go_sem, h, hcv] <;> rfl) ?_); intro a hA
    replace hA := hA.keepN [0, 5, 6]
    refine wN (nT (wS (wR ?_)))
    revert a; refine wo rfl rfl (by decide) (fun ev e h => by simp [go_sem, h, hcv] <;> rfl) ?_; intro a hA
    refine wl_op hA rfl rfl (by decide) (fun ev h => by simp [go_sem, h.get 30 rfl, hcv]; try first | exact ⟨rfl, rfl⟩ | rfl) fun a hA => ?_
    refine wl_call hA rfl rfl (by decide) (fun ev h => exec_call Tryd.func9 (by kernel_rfl) rfl (h.f _) (by first | (simp only [mL, h.get 31 rfl, h.c] <;> rfl) | (simp [mL, h.get 31 rfl, h.c, hcv] <;> rfl))) (units15_any b _ (by omega)) ?_
    rintro e w3 ⟨v2, us2, rfl, ho2, hm2, hb3⟩
    refine ⟨_, rfl, fun a hA => ?_⟩
    replace HB := HB.trans (hb3.mono HB.size)
    replace ho1 := ho1.below hb3
    obtain ⟨hf1, hf2⟩ := feed_units (b.length + 1) [] b (by omega)
    have hf1' : (feedS chunk0 b).2 = (unitsS (b.length + 1) [] b).1 := hf1
    have hf2' : decide (0 < (feedS chunk0 b).1.left) = (unitsS (b.length + 1) [] b).2 := hf2
    have hmm : us1.map unitB = us2.map unitB := by rw [hm1, hm2, hf1']
    have hlen : us1.length = us2.length := by have := congrArg List.length hmm; simpa using this
    have hul : us1.length ≤ 2000000 := by
      have h1 := congrArg List.length hm1
      have h2 := feedS_len b chunk0
      have h00 : chunk0.done.length + chunk0.line.length = 0 := rfl
      rw [List.length_map] at h1
      omega
    rw [hf2'] at hA
    obtain ⟨A1, c1, rfl, hr1, hc1⟩ := ho1.reads
    obtain ⟨A2, c2, rfl, hr2, hc2⟩ := ho2.reads
    obtain ⟨q, hqe⟩ : ∃ q, (unitsS (b.length + 1) [] b).2 = q := ⟨_, rfl⟩
    obtain ⟨m, hm⟩ : ∃ m, us2.length = m := ⟨_, rfl⟩
    have hm1' : us1.length = m := by omega
    rw [hqe, hm1', hm] at hA
    revert a; (iterate 5 refine wo rfl rfl (by decide) (fun ev e h => by simp [go_sem, h, hcv] <;> rfl) ?_); intro a hA
    replace hA := hA.keepN [5, 6, 7, 8]
    refine wN (nT (wS (wS (wR ?_))))
    revert a; (iterate 6 refine wo rfl rfl (by decide) (fun ev e h => by simp [go_sem, h, hcv] <;> rfl) ?_); (iterate 3 refine wg _ rfl rfl rfl rfl (by decide) (fun hq ev e h => by simp [go_sem, h, ↓gw_t (beq_t hq), hcv] <;> rfl) ?_); refine wko rfl rfl (by decide) rfl rfl rfl ?_; intro a hA
    replace hA := hA.keepN [5, 7, 44]
    refine wN (nT ?_)
    refine wp_if hA 44 _ rfl (fun hq2 => ?yE) (fun hq2 => ?nE)
    case yE => simp at hq2
    case nE =>
      refine wp_skip (nT (wS (wS (wR ?_))))
      revert a; (iterate 3 refine wo rfl rfl (by decide) (fun ev e h => by simp [go_sem, h, hcv] <;> rfl) ?_); intro a hA
      replace hA := hA.keepN [5, 7, 46, 47]
      refine wN (nT (wB ?_))
      refine wp_loop_at (fun k a wx => ∃ j : Nat, j + k = m ∧ Below w3.heap.size w3 wx ∧ At 77 [(5, .slice A1 m c1), (7, .slice A2 m c2), (46, .int .i64 (m : Nat)), (47, .int .i64 (j : Nat))] a) (m) ?_ ?_
      · exact ⟨0, by omega, Below.refl _ _, hA⟩
      clear hA
      rintro k a wx ⟨j, hjk, HX, hA⟩
      refine wS (wR ?_)
      revert a; refine wo rfl rfl (by decide) (fun ev e h => by simp [go_sem, h] <;> rfl) ?_; intro a hA
      replace hA := hA.keepN [5, 7, 46, 47, 48]
      refine wN (nT (wS ?_))
      refine wp_if hA 48 _ rfl (fun hq3 => ?yL) (fun hq3 => ?nL)
      case nL =>
        replace hA := hA.keepN []
        refine wp_exit (xT (xT (xB (nT (wS (wR ?_))))))
        revert a; refine wo rfl rfl (by decide) (fun ev e h => by simp [go_sem, h] <;> rfl) ?_; intro a hA
        replace hA := hA.keepN [4]
        refine wN (nT (wp_ret ?_))
        refine ret_1 hA 4 rfl rfl ?_
        exact ⟨rfl, HB.trans (HX.mono HB.size)⟩
      case yL =>
        have hlt : j < m := by simp at hq3; omega
        obtain ⟨x, hx⟩ : ∃ x, us1[j]? = some x := ⟨_, List.getElem?_eq_getElem (by omega)⟩
        obtain ⟨y, hy⟩ : ∃ y, us2[j]? = some y := ⟨_, List.getElem?_eq_getElem (by omega)⟩
        have hxy : unitB x = unitB y := by
          have := congrArg (fun l => l[j]?) hmm
          simpa [hx, hy] using this
        obtain ⟨ad, rfl, hadl, k0, k1⟩ := (hr1.below HX).cell hx
        obtain ⟨ad2, rfl, hadl2, l0, l1⟩ := (hr2.below HX).cell hy
        have rx := (hr1.below HX).octs x (List.mem_of_getElem? hx) _ (List.mem_singleton.2 rfl)
        have ry := (hr2.below HX).octs y (List.mem_of_getElem? hy) _ (List.mem_singleton.2 rfl)
        obtain ⟨xk, xa, xc, xb⟩ := x
        obtain ⟨yk, ya, yc, yb⟩ := y
        injection hxy with e1 e2
        have e1 : xk = yk := e1
        have e2 : xb = yb := e2
        subst e1 e2
        have z0 : wx.cell? (ad.add (j * 2)) = some (.int .i64 (xk : Nat)) := k0 _ rfl
        have z1 : wx.cell? ⟨(ad.add (j * 2)).block, (ad.add (j * 2)).off + 1, none⟩ = some (.slice xa xb.length xc) := k1 1 _ (by decide) rfl
        have y0 : wx.cell? (ad2.add (j * 2)) = some (.int .i64 (xk : Nat)) := l0 _ rfl
        have y1 : wx.cell? ⟨(ad2.add (j * 2)).block, (ad2.add (j * 2)).off + 1, none⟩ = some (.slice ya xb.length yc) := l1 1 _ (by decide) rfl
        replace hadl : (ad.add (j * 2)).block < wx.heap.size := by rw [block_of_add]; exact hadl
        replace hadl2 : (ad2.add (j * 2)).block < wx.heap.size := by rw [block_of_add]; exact hadl2
        have rx : Reads wx wx.heap.size 1 xa xb.length (u8s xb) := rx
        have ry : Reads wx wx.heap.size 1 ya xb.length (u8s xb) := ry
        have jj0 : (0 : Int) ≤ (j : Int) := by omega
        have jj1 : (j : Int) < (m : Int) := by omega
        have hwj : IntKind.i64.wrap ((j : Int) + 1) = ((j + 1 : Nat) : Int) := by rw [IntWalk.i64_in _ (by omega)]; omega
        refine wp_skip (nT (wS (wB (wS (wR ?_)))))
        revert a; (iterate 2 refine wo rfl rfl (by decide) (fun ev e h => by simp [go_sem, h] <;> rfl) ?_); intro a hA
        replace hA := hA.keepN [5, 7, 9, 46, 47]
        have pD := fun (wo : World) (hC : (fun wy => Below wx.heap.size wx wy) wo) => have p0 := (hC.cell (p := ad.add (j * 2)) hadl).trans z0; have p1 := (hC.cell (p := ⟨(ad.add (j * 2)).block, (ad.add (j * 2)).off + 1, none⟩) hadl).trans z1; have p2 := (hC.cell (p := ad2.add (j * 2)) hadl2).trans y0; have p3 := (hC.cell (p := ⟨(ad2.add (j * 2)).block, (ad2.add (j * 2)).off + 1, none⟩) hadl2).trans y1; And.intro (p0) (And.intro (p1) (And.intro (p2) (p3)))
        refine wN (nT (wS ?_))
        refine wp_any_at hA [(.det ?dD0), (.det ?dD1), (.det ?dD2), (.det ?dD3), (.det ?dD4), (.det ?dD5), (.det ?dD6), (.det ?dD7), (.det ?dD8), (.det ?dD9), (.det ?dD10), (.det ?dD11), (.det ?dD12), (.det ?dD13), (.det ?dD14), (.det ?dD15), (.det ?dD16), (.det ?dD17), (.det ?dD18), (.det ?dD19), (.det ?dD20), (.det ?dD21), (.det ?dD22), (.det ?dD23), (.det ?dD24), (.det ?dD25)] [] (fun wy => Below wx.heap.size wx wy) (TSp [] Grows) (by kernel_rfl) rfl (by kernel_rfl) (by kernel_rfl) rfl ((Below.refl _ _).drew) (stab_sp [] [true, true, true, true, true, true, true, true, true, true, true, true, true, true, true, true, true, true, true, true, true, true, true, true, true, true] [true, true, true, true, true, true, true, true, true, true, true, true, true, true, true, true, true, true, true, true, true, true, true, true, true, true] [] rfl rfl rfl (by kernel_rfl) ⟨trivial, trivial, trivial, trivial, trivial, trivial, trivial, trivial, trivial, trivial, trivial, trivial, trivial, trivial, trivial, trivial, trivial, trivial, trivial, trivial, trivial, trivial, trivial, trivial, trivial, trivial, trivial⟩ trivial) (fun _ h => by cases h) (fun _ _ _ _ _ h => by cases h) (fun _ h => by cases h) ⟨?oD0, ?oD1, ?oD2, ?oD3, ?oD4, ?oD5, ?oD6, ?oD7, ?oD8, ?oD9, ?oD10, ?oD11, ?oD12, ?oD13, ?oD14, ?oD15, ?oD16, ?oD17, ?oD18, ?oD19, ?oD20, ?oD21, ?oD22, ?oD23, ?oD24, ?oD25, trivial⟩ (by kernel_rfl) ?fD
        case oD0 => intro ev wo hev hC hs hph; have x0 := se hA hs 5; exact od rfl rfl (by kernel_rfl) hC (TSp.of rfl (Grows.refl _)) (by simp [go_sem, x0] <;> rfl)
        case oD1 => intro ev wo hev hC hs hph; have x0 := se hA hs 9; exact od rfl rfl (by kernel_rfl) hC (TSp.of rfl (Grows.refl _)) (by simp [go_sem, x0] <;> rfl)
        case oD2 => intro ev wo hev hC hs hph; have x0 := sd hs 50 0; have x1 := sd hs 51 1; exact od rfl rfl (by kernel_rfl) hC (TSp.of rfl (Grows.refl _)) (by simp [go_sem, x0, x1, jj0, jj1] <;> rfl)
        case oD3 => intro ev wo hev hC hs hph; have x0 := sd hs 52 2; exact od rfl rfl (by kernel_rfl) hC (TSp.of rfl (Grows.refl _)) (by simp [go_sem, x0] <;> rfl)
        case oD4 => intro ev wo hev hC hs hph; have x0 := sd hs 53 3; exact od rfl rfl (by kernel_rfl) hC (TSp.of rfl (Grows.refl _)) (by simp [go_sem, x0, pD _ hC] <;> rfl)
        case oD5 => intro ev wo hev hC hs hph; have x0 := se hA hs 7; exact od rfl rfl (by kernel_rfl) hC (TSp.of rfl (Grows.refl _)) (by simp [go_sem, x0] <;> rfl)
        case oD6 => intro ev wo hev hC hs hph; have x0 := se hA hs 9; exact od rfl rfl (by kernel_rfl) hC (TSp.of rfl (Grows.refl _)) (by simp [go_sem, x0] <;> rfl)
        case oD7 => intro ev wo hev hC hs hph; have x0 := sd hs 55 5; have x1 := sd hs 56 6; exact od rfl rfl (by kernel_rfl) hC (TSp.of rfl (Grows.refl _)) (by simp [go_sem, x0, x1, jj0, jj1] <;> rfl)
        case oD8 => intro ev wo hev hC hs hph; have x0 := sd hs 57 7; exact od rfl rfl (by kernel_rfl) hC (TSp.of rfl (Grows.refl _)) (by simp [go_sem, x0] <;> rfl)
        case oD9 => intro ev wo hev hC hs hph; have x0 := sd hs 58 8; exact od rfl rfl (by kernel_rfl) hC (TSp.of rfl (Grows.refl _)) (by simp [go_sem, x0, pD _ hC] <;> rfl)
        case oD10 => intro ev wo hev hC hs hph; have x0 := sd hs 54 4; have x1 := sd hs 59 9; exact od rfl rfl (by kernel_rfl) hC (TSp.of rfl (Grows.refl _)) (by simp [go_sem, x0, x1] <;> rfl)
        case oD11 => intro ev wo hev hC hs hph; have x0 := sd hs 60 10; exact od rfl rfl (by kernel_rfl) hC (TSp.of rfl (Grows.refl _)) (by simp [go_sem, x0] <;> rfl)
        case oD12 => intro ev wo hev hC hs hph; have x0 := se hA hs 5; have y := sd hs 61 11; exact ob_gv _ rfl rfl y rfl (by kernel_rfl) hC (TSp.of rfl (Grows.refl _)) (fun hq => by simp [go_sem, x0] <;> rfl) (by rfl)
        case oD13 => intro ev wo hev hC hs hph; have x0 := se hA hs 9; have y := sd hs 61 11; exact ob_gv _ rfl rfl y rfl (by kernel_rfl) hC (TSp.of rfl (Grows.refl _)) (fun hq => by simp [go_sem, x0] <;> rfl) (by rfl)
        case oD14 => intro ev wo hev hC hs hph; have x0 := sd hs 62 12; have x1 := sd hs 63 13; have y := sd hs 61 11; exact ob_gv _ rfl rfl y rfl (by kernel_rfl) hC (TSp.of rfl (Grows.refl _)) (fun hq => by simp [go_sem, (x0.trans (gw_t (beq_t hq))), (x1.trans (gw_t (beq_t hq))), jj0, jj1] <;> rfl) (by rfl)
        case oD15 => intro ev wo hev hC hs hph; have x0 := sd hs 64 14; have y := sd hs 61 11; exact ob_gv _ rfl rfl y rfl (by kernel_rfl) hC (TSp.of rfl (Grows.refl _)) (fun hq => by simp [go_sem, (x0.trans (gw_t (beq_t hq)))] <;> rfl) (by rfl)
        case oD16 => intro ev wo hev hC hs hph; have x0 := sd hs 65 15; have y := sd hs 61 11; exact ob_gv _ rfl rfl y rfl (by kernel_rfl) hC (TSp.of rfl (Grows.refl _)) (fun hq => by simp [go_sem, (x0.trans (gw_t (beq_t hq))), pD _ hC] <;> rfl) (by rfl)
        case oD17 => intro ev wo hev hC hs hph; have x0 := sd hs 66 16; have y := sd hs 61 11; exact ob_gv _ rfl rfl y rfl (by kernel_rfl) hC (TSp.of rfl (Grows.refl _)) (fun hq => by simp [go_sem, (x0.trans (gw_t (beq_t hq))), conv_reads (c := xc) rfl (rx.below hC)] <;> rfl) (by rfl)
        case oD18 => intro ev wo hev hC hs hph; have x0 := se hA hs 7; have y := sd hs 61 11; exact ob_gv _ rfl rfl y rfl (by kernel_rfl) hC (TSp.of rfl (Grows.refl _)) (fun hq => by simp [go_sem, x0] <;> rfl) (by rfl)
        case oD19 => intro ev wo hev hC hs hph; have x0 := se hA hs 9; have y := sd hs 61 11; exact ob_gv _ rfl rfl y rfl (by kernel_rfl) hC (TSp.of rfl (Grows.refl _)) (fun hq => by simp [go_sem, x0] <;> rfl) (by rfl)
        case oD20 => intro ev wo hev hC hs hph; have x0 := sd hs 68 18; have x1 := sd hs 69 19; have y := sd hs 61 11; exact ob_gv _ rfl rfl y rfl (by kernel_rfl) hC (TSp.of rfl (Grows.refl _)) (fun hq => by simp [go_sem, (x0.trans (gw_t (beq_t hq))), (x1.trans (gw_t (beq_t hq))), jj0, jj1] <;> rfl) (by rfl)
        case oD21 => intro ev wo hev hC hs hph; have x0 := sd hs 70 20; have y := sd hs 61 11; exact ob_gv _ rfl rfl y rfl (by kernel_rfl) hC (TSp.of rfl (Grows.refl _)) (fun hq => by simp [go_sem, (x0.trans (gw_t (beq_t hq)))] <;> rfl) (by rfl)
        case oD22 => intro ev wo hev hC hs hph; have x0 := sd hs 71 21; have y := sd hs 61 11; exact ob_gv _ rfl rfl y rfl (by kernel_rfl) hC (TSp.of rfl (Grows.refl _)) (fun hq => by simp [go_sem, (x0.trans (gw_t (beq_t hq))), pD _ hC] <;> rfl) (by rfl)
        case oD23 => intro ev wo hev hC hs hph; have x0 := sd hs 72 22; have y := sd hs 61 11; exact ob_gv _ rfl rfl y rfl (by kernel_rfl) hC (TSp.of rfl (Grows.refl _)) (fun hq => by simp [go_sem, (x0.trans (gw_t (beq_t hq))), conv_reads (c := yc) rfl (ry.below hC)] <;> rfl) (by rfl)
        case oD24 => intro ev wo hev hC hs hph; have x0 := sd hs 67 17; have x1 := sd hs 73 23; have y := sd hs 61 11; exact ob_gv _ rfl rfl y rfl (by kernel_rfl) hC (TSp.of rfl (Grows.refl _)) (fun hq => by simp [go_sem, (x0.trans (gw_t (beq_t hq))), (x1.trans (gw_t (beq_t hq)))] <;> rfl) (by rfl)
        case oD25 => intro ev wo hev hC hs hph; have x0 := sd hs 61 11; have x1 := sd hs 74 24; exact od rfl rfl (by kernel_rfl) hC (TSp.of rfl (Grows.refl _)) (by rw [pick_or rfl x0 (hev.const _) x1] <;> rfl)
        intro sg wf hC hph
        intro a hA
        replace hA := hA.keepN [5, 7, 46, 47, 75]
        refine nT ?_
        refine wp_if hA 75 _ rfl (fun hq4 => ?yR) (fun hq4 => ?nR)
        case yR => simp at hq4
        case nR =>
          refine wp_skip (nB (nT (wR ?_)))
          revert a; (iterate 2 refine wo rfl rfl (by decide) (fun ev e h => by simp [go_sem, h, hwj] <;> rfl) ?_); intro a hA
          replace hA := hA.keepN [5, 7, 46, 47]
          refine wN (nT ?_)
          exact ⟨k - 1, by omega, j + 1, by omega, HX.trans (hC.mono HX.size), hA⟩
end Go.Proofs.YtaljodmhalodhaaDoor
/-
  Arguments, opened by their types: numbers, texts, structs of one-cell fields, slices of what reads.
-/
namespace Go.Proofs.YtaljodmhalodhaaDoor
open Go.ChangeShapes Go.WideShapes Go.Deep Go.RowKit
theorem cell_lt' {w : World} {a : Addr} {v : Value} (h : w.cell? a = some v) : a.block < w.heap.size := by
  rcases Nat.lt_or_ge a.block w.heap.size with hlt | hge
  · exact hlt
  · unfold World.cell? at h
    simp [Array.getElem?_eq_none hge] at h
/-- cells that read at a type -/
def Fits {H : Type} (enc : TypeId × Value → H) (P : Program) (w : World) (t : TypeId) (cs : List Value) : Prop := ∃ base spare held fuel x, DataW.trod enc P w base spare held fuel t cs = some x
section
variable {H : Type} {enc : TypeId × Value → H} {P : Program} {w : World} {t e : TypeId} {cs : List Value}
theorem fits_int {k : IntKind} (h : Fits enc P w t cs) (ht : P.underlying t = some (.int k)) : ∃ n, cs = [.int k n] ∧ (Lit.int k n).wf = true := by
  obtain ⟨_, _, _, _, _, h⟩ := h
  obtain ⟨n, e, _, hw⟩ := DataW.trod_int ht h
  exact ⟨n, e, hw⟩
theorem fits_string (h : Fits enc P w t cs) (ht : P.underlying t = some .string) : ∃ s : ByteArray, cs = [.string s] ∧ s.size ≤ maxLen := by
  obtain ⟨_, _, _, _, _, h⟩ := h
  obtain ⟨s, e, _, hw⟩ := DataW.trod_string ht h
  exact ⟨s, e, hw⟩
theorem fits_bool (h : Fits enc P w t cs) (ht : P.underlying t = some .bool) : ∃ b, cs = [.bool b] := by
  obtain ⟨_, _, _, _, _, h⟩ := h
  obtain ⟨s, e, _⟩ := DataW.trod_bool ht h
  exact ⟨s, e⟩
theorem fits_fields {fs : Array Field} (h : Fits enc P w t cs) (ht : P.underlying t = some (.struct fs)) (hone : oneCellFields P fs = true) (hC : P.cellsOf t = fs.size) : cs.length = fs.size ∧ ∀ (j : Nat) (f : Field) (c : Value), fs[j]? = some f → cs[j]? = some c → Fits enc P w f.type [c] := by
  obtain ⟨base, spare, held, fuel, x, h⟩ := h
  obtain ⟨ys, n, _, _, hl, hyl, hat⟩ := DataW.trod_struct ht h
  refine ⟨by rw [hl, hC], fun j f c hf hc => ?_⟩
  obtain ⟨ho, hk⟩ := hone_of hone j f hf
  have h1 := hat j f hf
  have hj := (Array.getElem?_eq_some_iff.1 hf).1
  rw [ho, hk] at h1
  have hd1 : (List.drop j cs).take 1 = [c] := by
    have hjl := (List.getElem?_eq_some_iff.1 hc).1
    rw [List.drop_eq_getElem_cons hjl, (List.getElem?_eq_some_iff.1 hc).2]
    rfl
  rw [hd1, List.getElem?_eq_getElem (by omega)] at h1
  exact ⟨base, spare, held, n, _, h1⟩
theorem rows_at (k : Nat) : ∀ (L : List (List Value)) (i j : Nat) (x : List Value), (∀ x ∈ L, x.length = k) → L[i]? = some x → j < k → L.flatten[i * k + j]? = x[j]?
  | y :: r, 0, j, x, hL, h, hj => by
    have e : y = x := by simpa using h
    subst e
    have := hL y List.mem_cons_self
    rw [List.flatten_cons, Nat.zero_mul, Nat.zero_add, List.getElem?_append_left (by omega)]
  | y :: r, i + 1, j, x, hL, h, hj => by
    have ih := rows_at k r i j x (fun z hz => hL z (List.mem_cons_of_mem _ hz)) (by simpa using h) hj
    have := hL y List.mem_cons_self
    have hm : k ≤ (i + 1) * k + j := by rw [Nat.succ_mul]; omega
    rw [List.flatten_cons, List.getElem?_append_right (by omega)]
    have e : (i + 1) * k + j - y.length = i * k + j := by rw [Nat.succ_mul]; omega
    rw [e]; exact ih
theorem rows_len (k : Nat) : ∀ (L : List (List Value)), (∀ x ∈ L, x.length = k) → L.flatten.length = L.length * k
  | [], _ => by simp
  | y :: r, h => by
    have := rows_len k r fun z hz => h z (List.mem_cons_of_mem _ hz)
    rw [List.flatten_cons, List.length_append, this, h y List.mem_cons_self, List.length_cons, Nat.succ_mul]; omega
theorem fits_slice (h : Fits enc P w t cs) (ht : P.underlying t = some (.slice e)) (hk : 0 < P.cellsOf e) :
    ∃ (A : Option Addr) (n c : Nat) (L : List (List Value)), cs = [.slice A n c] ∧ n ≤ c ∧ c ≤ maxLen ∧ L.length = n ∧ (∀ x ∈ L, x.length = P.cellsOf e ∧ Fits enc P w e x) ∧ Reads w w.heap.size (P.cellsOf e) A n L.flatten := by
  obtain ⟨base, spare, held, fuel, x, hf⟩ := h
  rcases open_slice ht hf with ⟨hcs, _⟩ | ⟨a, len, cap, m, n0, D, Pl, hcs, _, hl, hm, hmm, hdx, hx⟩
  · exact ⟨none, 0, 0, [], hcs, Nat.le_refl _, Nat.zero_le _, rfl, fun x hx => (by cases hx), by simp, fun hn => absurd hn (by simp)⟩
  · have hml : len ≤ m := by rw [hmm]; split <;> omega
    have hall : ∀ n, n ≤ len → ∃ L : List (List Value), L.length = n ∧ (∀ x ∈ L, x.length = P.cellsOf e ∧ Fits enc P w e x) ∧ ∀ i x, L[i]? = some x → ∀ j u, x[j]? = some u → w.cell? (a.add (i * P.cellsOf e + j)) = some u := by
      intro n
      induction n with
      | zero => intro _; exact ⟨[], rfl, by simp, by simp⟩
      | succ n ih =>
        intro hnl
        obtain ⟨L, hl1, hl2, hl3⟩ := ih (by omega)
        obtain ⟨cs', hcc, htr⟩ := hx n (by omega)
        obtain ⟨_, hlen, hat⟩ := World.cells?_some hcc
        refine ⟨L ++ [cs'], by simp [hl1], ?_, ?_⟩
        · intro y hy
          rcases List.mem_append.1 hy with h | h
          · exact hl2 y h
          · rw [List.mem_singleton] at h
            subst h
            exact ⟨hlen, base, spare, held, n0, _, htr⟩
        · intro i y hi' j u hj
          rcases Nat.lt_or_ge i L.length with h | h
          · rw [List.getElem?_append_left h] at hi'; exact hl3 i y hi' j u hj
          · rw [List.getElem?_append_right h] at hi'
            have h0 : i - L.length = 0 := by
              rcases Nat.eq_zero_or_pos (i - L.length) with h' | h'
              · exact h'
              · rw [List.getElem?_eq_none (by simp; omega)] at hi'; cases hi'
            rw [h0] at hi'
            have hy : cs' = y := by simpa using hi'
            subst hy
            obtain rfl : i = n := by omega
            have hj2 : j < P.cellsOf e := by
              have := (List.getElem?_eq_some_iff.1 hj).1
              omega
            have := hat j hj2
            rw [hj, Go.Deep.add_add] at this
            exact this
    obtain ⟨L, hL1, hL2, hL3⟩ := hall len (Nat.le_refl _)
    refine ⟨some a, len, cap, L, hcs, hl, hm, hL1, hL2, ?_, fun hn => ⟨a, rfl, ?_, ?_⟩⟩
    · rw [rows_len _ L fun x hx => (hL2 x hx).1, hL1]
    · obtain ⟨x, hx0⟩ : ∃ x, L[0]? = some x := ⟨_, List.getElem?_eq_getElem (by omega)⟩
      have hxl := (hL2 x (List.mem_of_getElem? hx0)).1
      obtain ⟨u, hu⟩ : ∃ u, x[0]? = some u := ⟨_, List.getElem?_eq_getElem (by omega)⟩
      have := cell_lt' (hL3 0 x hx0 0 u hu)
      rwa [block_of_add] at this
    · intro j u hj
      have hjl := (List.getElem?_eq_some_iff.1 hj).1
      rw [rows_len _ L fun x hx => (hL2 x hx).1] at hjl
      have hq : j / P.cellsOf e < L.length := Nat.div_lt_of_lt_mul (by rw [Nat.mul_comm]; exact hjl)
      have he2 : j / P.cellsOf e * P.cellsOf e + j % P.cellsOf e = j := by rw [Nat.mul_comm]; exact Nat.div_add_mod j _
      have hp := rows_at (P.cellsOf e) L (j / P.cellsOf e) (j % P.cellsOf e) _ (fun x hx => (hL2 x hx).1) (List.getElem?_eq_getElem hq) (Nat.mod_lt _ hk)
      rw [he2, hj] at hp
      have := hL3 _ _ (List.getElem?_eq_getElem hq) _ u hp.symm
      rw [he2] at this
      exact this
theorem fits_top {base0 : Nat} {spare : Nat → Bool} {held : Bool} {v : Value} {d : DataW H} {ps : List MemPlace} (h : DataW.Trod enc P w base0 spare held t v d ps) : Fits enc P w t v.cells.toList := by
  obtain ⟨fuel, hf⟩ := h
  exact ⟨_, _, _, fuel, _, hf⟩
theorem fits_struct {base0 : Nat} {spare : Nat → Bool} {held : Bool} {r : Reach} {b0 : Nat} {fs : Array Field} {v : Value} {d : DataW H} {ps : List MemPlace} (hv : Value.okWide P w r b0 t v) (ht : P.underlying t = some (.struct fs)) (h : DataW.Trod enc P w base0 spare held t v d ps) : ∃ cs : Array Value, v = .agg cs ∧ Fits enc P w t cs.toList := by
  obtain ⟨cs, rfl, _⟩ := okWide_struct ht hv
  exact ⟨cs, rfl, fits_top h⟩
theorem fits_plain {base0 : Nat} {spare : Nat → Bool} {held : Bool} {v : Value} {d : DataW H} {ps : List MemPlace} (h : DataW.Trod enc P w base0 spare held t v d ps) (hc : v.cells = #[v]) : Fits enc P w t [v] := by
  have := fits_top h
  rwa [hc] at this
theorem choose_list {M : Type} {f : M → List Value} {Q : M → Prop} : ∀ {L : List (List Value)}, (∀ x ∈ L, ∃ m, x = f m ∧ Q m) → ∃ l : List M, L = l.map f ∧ ∀ m ∈ l, Q m
  | [], _ => ⟨[], rfl, by simp⟩
  | x :: r, h => by
    obtain ⟨m, rfl, hm⟩ := h x List.mem_cons_self
    obtain ⟨l, rfl, hl⟩ := choose_list (L := r) fun y hy => h y (List.mem_cons_of_mem _ hy)
    exact ⟨m :: l, rfl, fun y hy => by
      rcases List.mem_cons.1 hy with e | e
      · subst e; exact hm
      · exact hl y e⟩
/-- all arguments stay behind a call that writes below nothing -/
theorem args_stay (hl : laidOutB P = true) {W W' : World} {sp : Nat → Bool} : ∀ {ts : List TypeId} {vs : List Value} {ds : List (DataW H)} {ps : List MemPlace}, (ts.all fun t => P.readableRec t && decide (t < P.types.size)) = true →
    DataW.TrodAll enc P W 0 (fun _ => true) true ts vs ds ps → (∀ x ∈ ps, W.sameAt W' x) → (∀ x ∈ ps, sp x.block = true) → DataW.TrodAll enc P W' 0 sp true ts vs ds ps
  | [], [], [], _, _, h, _, _ => h
  | _ :: _, _ :: _, _ :: _, _, ha, ⟨p, q, h1, h2, e⟩, hsame, hs => by
    rw [List.all_cons, Bool.and_eq_true, Bool.and_eq_true, decide_eq_true_eq] at ha
    subst e
    exact ⟨p, q, WideElems.Trod_stays hl ha.1.1 ha.1.2 h1 (fun x hx => hsame x (List.mem_append_left _ hx)) (fun x hx => hs x (List.mem_append_left _ hx)),
      args_stay hl ha.2 h2 (fun x hx => hsame x (List.mem_append_right _ hx)) (fun x hx => hs x (List.mem_append_right _ hx)), rfl⟩
end
end Go.Proofs.YtaljodmhalodhaaDoor
/-
  Arguments, opened by their types, with a bound on their sizes.
-/
namespace Go.Proofs.YtaljodmhalodhaaDoor
open Go.ChangeShapes Go.WideShapes Go.Deep Go.RowKit
/-- cells that read at a type; no part is longer than R -/
def FitsZ {H : Type} (R : Nat) (enc : TypeId × Value → H) (P : Program) (w : World) (t : TypeId) (cs : List Value) : Prop := ∃ base spare held fuel d ps, DataW.trod enc P w base spare held fuel t cs = some (d, ps) ∧ ∀ k ∈ d.weights P t, k ≤ R
section
variable {H : Type} {enc : TypeId × Value → H} {P : Program} {w : World} {t e : TypeId} {cs : List Value} {R : Nat}
theorem FitsZ.fits (h : FitsZ R enc P w t cs) : Fits enc P w t cs := by
  obtain ⟨b, s, hd, f, d, ps, h, _⟩ := h
  exact ⟨b, s, hd, f, _, h⟩
theorem mem_weightsAll {e : TypeId} {dd : DataW H} {k : Nat} : ∀ {l : List (DataW H)}, dd ∈ l → k ∈ dd.weights P e → k ∈ DataW.weightsAll P e l
  | y :: r, h, hk => by
    unfold DataW.weightsAll
    rw [List.mem_append]
    rcases List.mem_cons.1 h with rfl | h
    · exact .inl hk
    · exact .inr (mem_weightsAll h hk)
theorem fitsZ_string (h : FitsZ R enc P w t cs) (ht : P.underlying t = some .string) : ∃ s : ByteArray, cs = [.string s] ∧ s.size ≤ maxLen ∧ s.size ≤ R := by
  obtain ⟨_, _, _, _, d, ps, h, hz⟩ := h
  obtain ⟨s, e, hx, hw⟩ := DataW.trod_string ht h
  refine ⟨s, e, hw, hz _ ?_⟩
  rw [(Prod.mk.inj hx).1]
  show s.size ∈ [s.data.toList.length]
  rw [List.mem_singleton, Array.length_toList]; rfl
theorem fitsZ_fields {fs : Array Field} (h : FitsZ R enc P w t cs) (ht : P.underlying t = some (.struct fs)) (hone : oneCellFields P fs = true) (hC : P.cellsOf t = fs.size) : cs.length = fs.size ∧ ∀ (j : Nat) (f : Field) (c : Value), fs[j]? = some f → cs[j]? = some c → FitsZ R enc P w f.type [c] := by
  obtain ⟨base, spare, held, fuel, d, ps, h, hz⟩ := h
  obtain ⟨ys, n, _, hx, hl, hyl, hat⟩ := DataW.trod_struct ht h
  refine ⟨by rw [hl, hC], fun j f c hf hc => ?_⟩
  obtain ⟨ho, hk⟩ := hone_of hone j f hf
  have h1 := hat j f hf
  have hj := (Array.getElem?_eq_some_iff.1 hf).1
  rw [ho, hk] at h1
  have hd1 : (List.drop j cs).take 1 = [c] := by
    have hjl := (List.getElem?_eq_some_iff.1 hc).1
    rw [List.drop_eq_getElem_cons hjl, (List.getElem?_eq_some_iff.1 hc).2]
    rfl
  have hy : ys[j]? = some (ys[j]'(by omega)) := List.getElem?_eq_getElem (by omega)
  rw [hd1, hy] at h1
  refine ⟨base, spare, held, n, _, _, h1, fun k hk => hz k ?_⟩
  rw [(Prod.mk.inj hx).1]
  unfold DataW.weights
  rw [ht]
  refine DataW.weights_mem_each (j := j) (t := f.type) (d := (ys[j]'(by omega)).1) ?_ ?_ k hk
  · rw [List.getElem?_map, Array.getElem?_toList, hf]; rfl
  · rw [List.getElem?_map, hy]; rfl
theorem fitsZ_slice (h : FitsZ R enc P w t cs) (ht : P.underlying t = some (.slice e)) (hk : 0 < P.cellsOf e) (heb : 1 ≤ P.bytesOf e) :
    ∃ (A : Option Addr) (n c : Nat) (L : List (List Value)), cs = [.slice A n c] ∧ n ≤ c ∧ c ≤ maxLen ∧ n ≤ R ∧ L.length = n ∧ (∀ x ∈ L, x.length = P.cellsOf e ∧ FitsZ R enc P w e x) ∧ Reads w w.heap.size (P.cellsOf e) A n L.flatten := by
  obtain ⟨base, spare, held, fuel, d, ps, hf, hz⟩ := h
  rcases open_slice ht hf with ⟨hcs, _⟩ | ⟨a, len, cap, m, n0, D, Pl, hcs, _, hl, hm, hmm, hdx, hx⟩
  · exact ⟨none, 0, 0, [], hcs, Nat.le_refl _, Nat.zero_le _, Nat.zero_le _, rfl, fun x hx => (by cases hx), by simp, fun hn => absurd hn (by simp)⟩
  · have hml : len ≤ m := by rw [hmm]; split <;> omega
    have hdw : d = .slice ((List.range len).map D) ((List.range (m - len)).map fun j => D (len + j)) := congrArg Prod.fst hdx
    have hall : ∀ n, n ≤ len → ∃ L : List (List Value), L.length = n ∧ (∀ x ∈ L, x.length = P.cellsOf e ∧ FitsZ R enc P w e x) ∧ ∀ i x, L[i]? = some x → ∀ j u, x[j]? = some u → w.cell? (a.add (i * P.cellsOf e + j)) = some u := by
      intro n
      induction n with
      | zero => intro _; exact ⟨[], rfl, by simp, by simp⟩
      | succ n ih =>
        intro hnl
        obtain ⟨L, hl1, hl2, hl3⟩ := ih (by omega)
        obtain ⟨cs', hcc, htr⟩ := hx n (by omega)
        obtain ⟨_, hlen, hat⟩ := World.cells?_some hcc
        refine ⟨L ++ [cs'], by simp [hl1], ?_, ?_⟩
        · intro y hy
          rcases List.mem_append.1 hy with h | h
          · exact hl2 y h
          · rw [List.mem_singleton] at h
            subst h
            refine ⟨hlen, base, spare, held, n0, _, _, htr, fun k hk' => hz k ?_⟩
            rw [hdw]
            unfold DataW.weights
            rw [ht]
            simp only [List.mem_cons, List.mem_append]
            exact .inr (.inl (mem_weightsAll (List.mem_map.2 ⟨n, List.mem_range.2 (by omega), rfl⟩) hk'))
        · intro i y hi' j u hj
          rcases Nat.lt_or_ge i L.length with h | h
          · rw [List.getElem?_append_left h] at hi'; exact hl3 i y hi' j u hj
          · rw [List.getElem?_append_right h] at hi'
            have h0 : i - L.length = 0 := by
              rcases Nat.eq_zero_or_pos (i - L.length) with h' | h'
              · exact h'
              · rw [List.getElem?_eq_none (by simp; omega)] at hi'; cases hi'
            rw [h0] at hi'
            have hy : cs' = y := by simpa using hi'
            subst hy
            obtain rfl : i = n := by omega
            have hj2 : j < P.cellsOf e := by
              have := (List.getElem?_eq_some_iff.1 hj).1
              omega
            have := hat j hj2
            rw [hj, Go.Deep.add_add] at this
            exact this
    obtain ⟨L, hL1, hL2, hL3⟩ := hall len (Nat.le_refl _)
    refine ⟨some a, len, cap, L, hcs, hl, hm, ?_, hL1, hL2, ?_, fun hn => ⟨a, rfl, ?_, ?_⟩⟩
    · have hq := hz ((len + (m - len)) * P.bytesOf e) (by rw [hdw]; simp [DataW.weights, ht])
      have e2 : (len + (m - len)) * 1 ≤ (len + (m - len)) * P.bytesOf e := Nat.mul_le_mul_left _ heb
      omega
    · rw [rows_len _ L fun x hx => (hL2 x hx).1, hL1]
    · obtain ⟨x, hx0⟩ : ∃ x, L[0]? = some x := ⟨_, List.getElem?_eq_getElem (by omega)⟩
      have hxl := (hL2 x (List.mem_of_getElem? hx0)).1
      obtain ⟨u, hu⟩ : ∃ u, x[0]? = some u := ⟨_, List.getElem?_eq_getElem (by omega)⟩
      have := cell_lt' (hL3 0 x hx0 0 u hu)
      rwa [block_of_add] at this
    · intro j u hj
      have hjl := (List.getElem?_eq_some_iff.1 hj).1
      rw [rows_len _ L fun x hx => (hL2 x hx).1] at hjl
      have hq : j / P.cellsOf e < L.length := Nat.div_lt_of_lt_mul (by rw [Nat.mul_comm]; exact hjl)
      have he2 : j / P.cellsOf e * P.cellsOf e + j % P.cellsOf e = j := by rw [Nat.mul_comm]; exact Nat.div_add_mod j _
      have hp := rows_at (P.cellsOf e) L (j / P.cellsOf e) (j % P.cellsOf e) _ (fun x hx => (hL2 x hx).1) (List.getElem?_eq_getElem hq) (Nat.mod_lt _ hk)
      rw [he2, hj] at hp
      have := hL3 _ _ (List.getElem?_eq_getElem hq) _ u hp.symm
      rw [he2] at this
      exact this
theorem sized_at {ts : List TypeId} {ds : List (DataW H)} (h : (DataW.weightsEach P ts ds).all (· ≤ reachBytes) = true) {j : Nat} {t : TypeId} {d : DataW H} (ht : ts[j]? = some t) (hd : ds[j]? = some d) : ∀ k ∈ d.weights P t, k ≤ 140737488355328 := by
  intro k hk
  have := List.all_eq_true.1 h _ (DataW.weights_mem_each ht hd k hk)
  have h2 : reachBytes < 2 ^ 47 := reachBytes_lt
  simp only [decide_eq_true_eq] at this
  omega
theorem fitsZ_top {base0 : Nat} {spare : Nat → Bool} {held : Bool} {v : Value} {d : DataW H} {ps : List MemPlace} (h : DataW.Trod enc P w base0 spare held t v d ps) (hz : ∀ k ∈ d.weights P t, k ≤ R) : FitsZ R enc P w t v.cells.toList := by
  obtain ⟨fuel, hf⟩ := h
  exact ⟨_, _, _, fuel, _, _, hf, hz⟩
theorem fitsZ_struct {base0 : Nat} {spare : Nat → Bool} {held : Bool} {r : Reach} {b0 : Nat} {fs : Array Field} {v : Value} {d : DataW H} {ps : List MemPlace} (hv : Value.okWide P w r b0 t v) (ht : P.underlying t = some (.struct fs)) (h : DataW.Trod enc P w base0 spare held t v d ps) (hz : ∀ k ∈ d.weights P t, k ≤ R) : ∃ cs : Array Value, v = .agg cs ∧ FitsZ R enc P w t cs.toList := by
  obtain ⟨cs, rfl, _⟩ := okWide_struct ht hv
  exact ⟨cs, rfl, fitsZ_top h hz⟩
theorem fitsZ_plain {base0 : Nat} {spare : Nat → Bool} {held : Bool} {v : Value} {d : DataW H} {ps : List MemPlace} (h : DataW.Trod enc P w base0 spare held t v d ps) (hc : v.cells = #[v]) (hz : ∀ k ∈ d.weights P t, k ≤ R) : FitsZ R enc P w t [v] := by
  have := fitsZ_top h hz
  rwa [hc] at this
end
end Go.Proofs.YtaljodmhalodhaaDoor
/-
  Arguments, opened: numbers, truths, bytes.
-/
namespace Go.Proofs.YtaljodmhalodhaaDoor
open Go.RowKit Go.ChangeShapes Go.WideShapes
theorem u32_range {n : Int} (h : (Lit.int .u32 n).wf = true) : ∃ k : Nat, n = (k : Nat) ∧ k < 4294967296 := by
  simp [Lit.wf, IntKind.min, IntKind.max, IntKind.signed, IntKind.bits] at h
  exact ⟨n.toNat, by omega, by omega⟩
theorem u8_range {n : Int} (h : (Lit.int .u8 n).wf = true) : ∃ k : UInt8, n = (k.toNat : Nat) := by
  simp [Lit.wf, IntKind.min, IntKind.max, IntKind.signed, IntKind.bits] at h
  refine ⟨UInt8.ofNat n.toNat, ?_⟩
  rw [UInt8.toNat_ofNat']
  omega
theorem i64_range {n : Int} (h : (Lit.int .i64 n).wf = true) : -9223372036854775808 ≤ n ∧ n ≤ 9223372036854775807 := by
  simp [Lit.wf, IntKind.min, IntKind.max, IntKind.signed, IntKind.bits] at h
  omega
theorem map_flat {M : Type} (f : M → List Value) (l : List M) : (l.map f).flatten = l.flatMap f := by
  induction l with
  | nil => rfl
  | cons x r ih => rw [List.map_cons, List.flatten_cons, List.flatMap_cons, ih]
theorem flat_one {M : Type} (f : M → Value) (l : List M) : (l.map fun x => [f x]).flatten = l.map f := by
  induction l with
  | nil => rfl
  | cons x r ih => rw [List.map_cons, List.flatten_cons, ih]; rfl
theorem list1 {α : Type} {x : List α} (h : x.length = 1) : ∃ a, x = [a] := by
  match x, h with
  | [a], _ => exact ⟨a, rfl⟩
theorem list4 {α : Type} {x : List α} (h : x.length = 4) : ∃ a b c d, x = [a, b, c, d] := by
  match x, h with
  | [a, b, c, d], _ => exact ⟨a, b, c, d, rfl⟩
theorem array4 {α : Type} {x : Array α} (h : x.toList.length = 4) : ∃ a b c d, x = #[a, b, c, d] := by
  obtain ⟨l⟩ := x
  obtain ⟨a, b, c, d, e⟩ := list4 (show l.length = 4 from h)
  exact ⟨a, b, c, d, by rw [e]⟩
section
variable {H : Type} {enc : TypeId × Value → H} {w : World} {R : Nat}
theorem open_bytesZ {c1 : Value} (h : FitsZ R enc Tryd.prog w 22 [c1]) : ∃ (A : Option Addr) (c : Nat) (l : List UInt8), c1 = .slice A l.length c ∧ l.length ≤ c ∧ c ≤ maxLen ∧ l.length ≤ R ∧ Reads w w.heap.size 1 A l.length (u8s l) := by
  have hk : Tryd.prog.cellsOf 5 = 1 := by kernel_rfl
  obtain ⟨A, n, c, L, hcs, hn, hc, hR, hl, hL, hr⟩ := fitsZ_slice h Tryd.underlying22 (by rw [hk]; omega) (Nat.le_of_ble_eq_true (by kernel_rfl))
  rw [hk] at hr
  obtain ⟨l, rfl, _⟩ := choose_list (f := fun b : UInt8 => [.int .u8 ((b.toNat : Nat) : Int)]) (Q := fun _ => True) fun x hx => by
    obtain ⟨hx1, hx2⟩ := hL x hx
    rw [hk] at hx1
    obtain ⟨a, rfl⟩ := list1 hx1
    obtain ⟨u, e0, hu⟩ := fits_int hx2.fits Tryd.underlying5
    obtain ⟨k, rfl⟩ := u8_range hu
    exact ⟨k, e0, trivial⟩
  rw [List.length_map] at hl
  rw [flat_one (fun b : UInt8 => .int .u8 ((b.toNat : Nat) : Int))] at hr
  subst hl
  simp only [List.cons.injEq, and_true] at hcs
  exact ⟨A, c, l, hcs, hn, hc, hR, hr⟩
theorem fitsZ_part {t : TypeId} {cs : List Value} {fs : Array Field} (h : FitsZ R enc Tryd.prog w t cs) (ht : Tryd.prog.underlying t = some (.struct fs)) : cs.length = Tryd.prog.cellsOf t ∧ ∀ (j : Nat) (f : Field), fs[j]? = some f → FitsZ R enc Tryd.prog w f.type ((cs.drop f.offset).take (Tryd.prog.cellsOf f.type)) := by
  obtain ⟨base, spare, held, fuel, d, ps, h, hz⟩ := h
  obtain ⟨ys, n, _, hx, hl, hyl, hat⟩ := DataW.trod_struct ht h
  refine ⟨hl, fun j f hf => ?_⟩
  have h1 := hat j f hf
  have hj := (Array.getElem?_eq_some_iff.1 hf).1
  have hy : ys[j]? = some (ys[j]'(by omega)) := List.getElem?_eq_getElem (by omega)
  rw [hy] at h1
  refine ⟨base, spare, held, n, _, _, h1, fun k hk => hz k ?_⟩
  rw [(Prod.mk.inj hx).1]
  unfold DataW.weights
  rw [ht]
  refine DataW.weights_mem_each (j := j) (t := f.type) (d := (ys[j]'(by omega)).1) ?_ ?_ k hk
  · rw [List.getElem?_map, Array.getElem?_toList, hf]; rfl
  · rw [List.getElem?_map, hy]; rfl
end
theorem tab_met {l : List (String × DataW Unit)} {W : World} (h : laidMetH Tryd.prog l W) (hl : l.filter (fun x => x.1 == "internal/strconv.uint64pow10") = [("internal/strconv.uint64pow10", Lib.tabData .u64 Lib.pow10Tab)]) :
    Lib.TabIs Tryd.prog W "internal/strconv.uint64pow10" .u64 Lib.pow10Tab := by
  have h1 := laidMetH.filter (fun x => x.1 == "internal/strconv.uint64pow10") h
  rw [hl, MakeChecks.laidMetH_plain _ _ _ (by kernel_rfl)] at h1
  exact Lib.tabIs_of_head (g := 3) (t := 115) (e := 56) (n := 20) (by kernel_rfl) (by kernel_rfl) Tryd.underlying115 Tryd.underlying56 (by kernel_rfl) (by kernel_rfl) h1
section
variable {H : Type} {enc : TypeId × Value → H} {W : World} {base0 b0 : Nat} {spare : Nat → Bool} {held : Bool} {r : Reach} {R : Nat}
set_option maxRecDepth 100000 in
theorem i64_arg {v : Value} {d : DataW H} {ps : List MemPlace} (hv : Value.okWide Tryd.prog W r b0 3 v) (h : DataW.Trod enc Tryd.prog W base0 spare held 3 v d ps) : ∃ k : Int, v = .int .i64 k ∧ -9223372036854775808 ≤ k ∧ k ≤ 9223372036854775807 := by
  obtain ⟨x0, rfl, _, _, h0⟩ := open_int Tryd.underlying3 hv h
  exact ⟨x0, rfl, i64_range h0⟩
set_option maxRecDepth 100000 in
theorem bytes_arg {v : Value} {d : DataW H} {ps : List MemPlace} (hv : Value.okWide Tryd.prog W r b0 22 v) (h : DataW.Trod enc Tryd.prog W base0 spare held 22 v d ps) (hz : ∀ k ∈ d.weights Tryd.prog 22, k ≤ R) :
    ∃ (A : Option Addr) (c : Nat) (l : List UInt8), v = .slice A l.length c ∧ l.length ≤ c ∧ c ≤ maxLen ∧ l.length ≤ R ∧ Reads W W.heap.size 1 A l.length (u8s l) := by
  obtain ⟨A, n, c, rfl⟩ := okWide_slice Tryd.underlying22 hv
  obtain ⟨A', c', l, e, b⟩ := open_bytesZ (fitsZ_plain h rfl hz)
  exact ⟨A', c', l, e, b⟩
set_option maxRecDepth 100000 in
theorem u32_arg {v : Value} {d : DataW H} {ps : List MemPlace} (hv : Value.okWide Tryd.prog W r b0 116 v) (h : DataW.Trod enc Tryd.prog W base0 spare held 116 v d ps) : ∃ k : Nat, v = .int .u32 (k : Nat) ∧ k < 4294967296 := by
  obtain ⟨x0, rfl, _, _, h0⟩ := open_int Tryd.underlying116 hv h
  obtain ⟨k, rfl, hk⟩ := u32_range h0
  exact ⟨k, rfl, hk⟩
set_option maxRecDepth 100000 in
theorem bool_arg {v : Value} {d : DataW H} {ps : List MemPlace} (hv : Value.okWide Tryd.prog W r b0 4 v) (h : DataW.Trod enc Tryd.prog W base0 spare held 4 v d ps) : ∃ b : Bool, v = .bool b := by
  obtain ⟨b, rfl, _⟩ := open_bool Tryd.underlying4 hv h
  exact ⟨b, rfl⟩
end
end Go.Proofs.YtaljodmhalodhaaDoor
/-
  Of any bytes, in any pieces, the units are told that the document says: cubbylaw15.LexFeeds answers true, for all bytes and all sizes of pieces.
-/
namespace Go.Proofs.YtaljodmhalodhaaDoor.LexFeeds
open Go.RowKit Go.ChangeShapes Go.WideShapes Go.ChangeAt
open Go.ChangeMaps (open_string shut_string)
set_option linter.unusedVariables false
theorem own : ownKnob Tryd.prog.godebug = none := by kernel_rfl
set_option maxRecDepth 100000 in
theorem contract (H : Type) (enc : TypeId × Value → H) (W : World) (base : Nat) (args : Array Value) (ds gs : List (DataW H)) (before : List MemPlace)
    (hval : ∀ (j : Nat) t v, Tryd.f3.params[j]? = some t → args[j]? = some v → Value.okWide Tryd.prog W .any base t v)
    (hW : DataW.Whole enc Tryd.prog Tryd.f3.params.toList Rows.lexFeedsSpec.vars false W args.toList ds gs before) (hz : (DataW.weightsEach Tryd.prog (Tryd.f3.params.toList ++ (OpenSpec.ofChange Rows.lexFeedsSpec).bare.plain.varTypes Tryd.prog) (ds ++ gs)).all (· ≤ reachBytes) = true) (hL : laidMetH Tryd.prog Rows.lexFeedsRow.laid W) (hsh : W.ShapedOpen Tryd.prog) :
    Calls Tryd.prog 3 args W fun e W' => ∃ v, e = .returned v ∧ Rows.lexFeedsSpec.post enc Tryd.prog Tryd.f3 false true false false W args v W' := by
  have hW' := hW
  obtain ⟨p, q, hA0, hV, rfl, hfz, hnd⟩ := hW
  have hA : DataW.TrodAll enc Tryd.prog W 0 (fun _ => true) true Tryd.f3.params.toList args.toList ds p := hA0
  rw [Tryd.params3] at hA hval
  have hAk := hA
  obtain ⟨v0, v1, d0, d1, p0, p1, rfl, rfl, rfl, g0, g1⟩ := trodAll_two hA
  obtain ⟨rfl, rfl⟩ := trodVars_none hV
  obtain ⟨A, c, b, rfl, hbc, _, hbl, hr⟩ := bytes_arg (hval 0 22 v0 rfl rfl) g0 (sized_at hz (j := 0) (t := 22) (by kernel_rfl) rfl)
  obtain ⟨P, cp, ps, rfl, hpc, _, hpl, hrp⟩ := bytes_arg (hval 1 22 v1 rfl rfl) g1 (sized_at hz (j := 1) (t := 22) (by kernel_rfl) rfl)
  clear hA0
  refine (lexFeeds_law A P b.length c ps.length cp b ps W rfl hbl hbc hr rfl hpl hrp).mono fun e W' ⟨he, hb⟩ => ?_
  subst he
  exact ⟨_, rfl, post_of_below (pv := []) hW' (fun _ _ _ => trodAll_mk1 (shut_bool Tryd.underlying4 _)) (fun sp hsp => args_stay (by kernel_rfl) (by kernel_rfl) hAk (fun x hx => hb.same (by simpa using hW'.lt x (List.mem_append_left _ hx))) (fun x hx => hsp x (List.mem_append_left _ hx))) (fun _ _ => rfl) rfl
    hb (ok_one (by kernel_rfl) rfl (okWide_bool_mk Tryd.underlying4 _))⟩
set_option maxRecDepth 100000 in
theorem reads (os : Os) {H : Type} (enc : TypeId × Value → H) : ∃ places, DataW.whole enc Tryd.prog ((World.laidAll Tryd.prog os Rows.lexFeedsRow.laid).forCall (fun _ _ => 0) ⟨#[], #[.slice none 0 0, .slice none 0 0], []⟩).memory Tryd.f3.params.toList Rows.lexFeedsSpec.vars false #[Value.slice none 0 0, Value.slice none 0 0].toList 8 = some ([.nil, .nil], [], places) :=
  ⟨[], by kernel_rfl⟩
set_option maxRecDepth 100000 in
theorem lifted (os : Os) (started : os.Started) (H : Type) (enc : TypeId × Value → H) (F : Stop.Interp) :
    ReturnsInHanded {} Tryd.checked os 3 .any ((OpenSpec.ofChange Rows.lexFeedsSpec).preRow enc Tryd.prog Tryd.f3 Rows.lexFeedsRow.domain false Rows.lexFeedsRow.laid) (((OpenSpec.ofChange Rows.lexFeedsSpec).at F).post enc Tryd.prog Tryd.f3 false true false false) := by
  obtain ⟨places, hx⟩ := reads os enc
  refine returnsInHanded_of_row (C := Tryd.checked) (s := OpenSpec.ofChange Rows.lexFeedsSpec) own started (by kernel_rfl) Tryd.func3
    (witness_row_shaped (enc := enc) (C := Tryd.checked) false (World.laidAll Tryd.prog os Rows.lexFeedsRow.laid) #[.slice none 0 0, .slice none 0 0] (World.laidAll_os _ _ _) (World.shaped_of_ZipB (by kernel_rfl) (by kernel_rfl)) (by kernel_rfl)
      (OpenSpec.preRow_of_cond 8 hx (by kernel_rfl) (fun k hk => by cases hk) (by kernel_rfl) (laidMet_laidAll _ (by kernel_rfl) (by kernel_rfl)))) ?_
  intro W base args ds gs before hval hW _ _ hz hL hsh _
  exact contract H enc W base args ds gs before hval hW hz hL hsh
theorem said : Rows.LexFeedsSaid :=
  OpenClaim.holds_of_cond 3 Tryd.f3 rfl rfl rfl rfl rfl rfl rfl ⟨rfl, rfl, rfl, rfl, rfl⟩ rfl rfl rfl rfl rfl (by kernel_rfl) Tryd.func3 (by kernel_rfl)
    (of_decide_eq_true (by kernel_rfl)) (by unfold Func.isWrapper; first | (rw [if_pos (by decide +kernel)]; kernel_rfl) | (rw [if_neg (by decide +kernel)]; exact ⟨rfl, rfl⟩))
    (fun os started H enc _ F => by rw [OpenClaim.pre_eq_preRow]; exact lifted os started H enc F)
theorem plain (f : FuncId) (fn : Func) (hf : Tryd.pinned.checked.prog.funcNamed "cubby/cubbylaw15.LexFeeds" = some f) (hfn : Tryd.pinned.checked.prog.funcs[f]? = some fn) :
    true = Tryd.pinned.checked.prog.looks [] ∧ ∀ (j : Nat) t, fn.params[j]? = some t → Tryd.pinned.checked.prog.wantsStandIn t = false := by
  obtain rfl : f = 3 := Option.some.inj ((show Tryd.prog.funcNamed "cubby/cubbylaw15.LexFeeds" = some 3 by kernel_rfl).symm.trans hf) |>.symm
  obtain rfl : fn = Tryd.f3 := (Option.some.inj (Tryd.func3.symm.trans hfn)).symm
  refine ⟨by kernel_rfl, fun j t ht => ?_⟩
  rw [Tryd.params3] at ht
  have hm : t ∈ [22, 22] := by simpa using Array.mem_of_getElem? ht
  have hall : ([22, 22].all fun u => !Tryd.prog.wantsStandIn u) = true := by kernel_rfl
  exact (show Tryd.prog.wantsStandIn t = false by simpa using List.all_eq_true.1 hall t hm)
theorem holds : Rows.LexFeedsCardSaid :=
  Claim7.holds_tied_plain_at .later [] _ _ _ _ said (fun _ h => by cases h) (by kernel_rfl) (fun _ h => by cases h) lexFeeds_row_tie rfl ⟨rfl, rfl⟩ (by kernel_rfl) rfl plain (by kernel_rfl)
#print axioms holds
end Go.Proofs.YtaljodmhalodhaaDoor.LexFeeds
