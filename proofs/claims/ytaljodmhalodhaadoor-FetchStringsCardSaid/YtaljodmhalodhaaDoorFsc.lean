/-
  Walk: cubbylaw15.units.
-/
import Derived.Test.YtaljodmhalodhaaDoorFsb
import Derived.Lib.Replace
import Derived.Lib.SplitLaws
import Derived.Lib.ItoaNum
import Derived.Lib.AppendIntMem
namespace Go.Proofs.YtaljodmhalodhaaDoor
open Go.RowKit
set_option linter.unusedSimpArgs false
set_option linter.unusedVariables false
theorem crlf_step (x : UInt8) (r : List UInt8) : crlf (x :: r) = if x = 13 ∧ r.head? = some 10 then some ([], r.tail) else (crlf r).map fun p => (x :: p.1, p.2) := by
  rw [crlf]
theorem units_step (f : Nat) {d b ln rest : List UInt8} (hcb : crlf b = some (ln, rest)) : unitsS (f + 1) d b = if 2000 < ln.length then ((2, (d ++ ln).take 100) :: (unitsS f [] rest).1, (unitsS f [] rest).2) else match litP ln with
        | some n => if 20000 < n then ((3, (d ++ ln).take 100) :: (unitsS f [] rest).1, (unitsS f [] rest).2) else if rest.length < n then ([(4, [])], true) else ((4, []) :: (unitsS f (d ++ ln ++ [13, 10] ++ rest.take n) (rest.drop n)).1, (unitsS f (d ++ ln ++ [13, 10] ++ rest.take n) (rest.drop n)).2)
        | none => ((1, d ++ ln) :: (unitsS f [] rest).1, (unitsS f [] rest).2) := by
  simp only [unitsS, hcb]
  rfl
theorem conv_str (l : List UInt8) (w : World) : ∃ c w', (convert 9 22 (.string (St l))).run Tryd.prog w = .ok (.slice (some ⟨w.heap.size, 0, none⟩) l.length c) w' ∧ Reads w' w'.heap.size 1 (some ⟨w.heap.size, 0, none⟩) l.length (u8s l) ∧ Below w.heap.size w w' := by
  have hcv := Lib.run_convert_string_bytes (P := Tryd.prog) w 9 22 5 (St l) Tryd.underlying9 Tryd.underlying22 Tryd.underlying5
  refine ⟨_, _, hcv, ?_, ⟨rfl, rfl, rfl, by rw [Lib.bytesWorld_size]; omega, fun k hk => Lib.bytesWorld_at_old w 5 (St l) k hk⟩⟩
  refine ⟨by rw [u8s_length, Nat.mul_one], fun _ => ⟨_, rfl, by rw [Lib.bytesWorld_size]; exact Nat.lt_succ_self _, fun j u hu => ?_⟩⟩
  have hj : j < (St l).size := by
    rcases Nat.lt_or_ge j l.length with h | h
    · exact h
    · rw [u8s_get, List.getElem?_eq_none h] at hu; cases hu
  rw [add0, Lib.bytesWorld_cell w 5 (St l) j hj, ← hu, u8s_get]
  have hj2 : j < l.length := hj
  rw [List.getD_eq_getElem?_getD, List.getElem?_eq_getElem hj2]
  rfl
theorem st_app (a b : List UInt8) : St a ++ St b = St (a ++ b) := by
  refine ByteArray.ext ?_
  simp [ByteArray.data_append]
theorem app_unit {B g : Nat} {w : World} {v : Value} {us : List UnitV} {u : UnitV} (ho : OwnR unitSh B w v us) (K : Blk w g 29 (unitC u).toArray) (hp : ReadsP w (u.a, u.b)) (hoff : ∀ g', v.ownBlock = some g' → OffP g' (u.a, u.b)) (hlen : us.length ≤ 1000000) (hB : B ≤ w.heap.size) :
    ∃ r w', (Builtin.append_ #[24, 24] 24 #[v, .slice (some ⟨g, 0, none⟩) 1 1]).run Tryd.prog w = .ok r w' ∧ OwnR unitSh B w' r (us ++ [u]) ∧ Below B w w' := by
  have hrow : RowR unitSh w (some ⟨g, 0, none⟩) [u] := rowR_blk (s := unitSh) (x := u) K fun p hp' => by rw [List.mem_singleton.1 hp']; exact hp
  obtain ⟨r, w', hr, ho', hg, -⟩ := run_appR (c := 1) ho hrow (fun g' hg' m hm p hp' => by
    rw [List.mem_singleton.1 hm] at hp'
    rw [List.mem_singleton.1 hp']
    exact hoff g' hg') (by simp; omega) hB
  exact ⟨r, w', hr, ho', below_appR (Below.refl _ _) ho hg (Nat.le_refl _) hB⟩
theorem off_new {B g : Nat} {w : World} {v : Value} {us : List UnitV} {n : Nat} {b : List UInt8} (ho : OwnR unitSh B w v us) (h : w.heap.size ≤ g) : ∀ g', v.ownBlock = some g' → OffP g' (some ⟨g, n, none⟩, b) := fun g' hg' _ ad e he => by
  injection e with e
  subst e
  have := (World.ownsRow.lt ho.row g' hg').2
  exact absurd he (by show ¬ g = g'; omega)
set_option maxRecDepth 100000 in
set_option maxHeartbeats 4000000 in
theorem units15_any (l : List UInt8) (w : World) (hl : l.length ≤ 20000) : Calls Tryd.prog 9 #[.string (St l)] w fun ev w' => ∃ v us, ev = .returned (.tuple #[v, .bool (unitsS (l.length + 1) [] l).2]) ∧ OwnR unitSh w.heap.size w' v us ∧ us.map unitB = (unitsS (l.length + 1) [] l).1 ∧ Below w.heap.size w w' := by
  refine calls_at 100 Tryd.func9 rfl rfl (Nat.le_of_ble_eq_true rfl) ?_
  intro a hA; replace hA := hA.norm
  refine wS (wR ?_)
  revert a; (iterate 2 refine wo rfl rfl (by decide) (fun ev e h => by simp [go_sem, h] <;> rfl) ?_); intro a hA
  replace hA := hA.keepN [0]
  refine wN (nT (wS (wR ?_)))
  revert a; refine wo rfl rfl (by decide) (fun ev e h => by simp [go_sem, h] <;> rfl) ?_; intro a hA
  replace hA := hA.keepN [0, 4]
  refine wN (nT (wS (wR ?_)))
  revert a; refine wo rfl rfl (by decide) (fun ev e h => by simp [go_sem, h] <;> rfl) ?_; intro a hA
  replace hA := hA.keepN [0, 4, 5]
  refine wN (nT (wB ?_))
  refine wp_loop_at (fun f a wx => ∃ (d b : List UInt8) (v : Value) (us : List UnitV), b.length < f ∧ d.length + b.length ≤ l.length ∧ (unitsS (l.length + 1) [] l) = (us.map unitB ++ (unitsS f d b).1, (unitsS f d b).2) ∧ us.length + b.length ≤ l.length ∧ OwnR unitSh w.heap.size wx v us ∧ Below w.heap.size w wx ∧ At 100 [(0, .string (St b)), (4, v), (5, .string (St d))] a) (l.length + 1) ?_ ?_
  · exact ⟨[], l, _, [], by omega, by simp, by simp, by simp, OwnR.nil _ _, Below.refl _ _, hA⟩
  clear hA
  rintro f a wx ⟨d, b, v, us, hbf, hdb, hU, hul, ho, HB, hA⟩
  refine wB (wS (wR ?_))
  revert a; refine wo rfl rfl (by decide) (fun ev e h => by simp [go_sem, h] <;> rfl) ?_; intro a hA
  replace hA := hA.keepN [0, 4, 5, 6]
  refine wN (nT (wS (wB ?_)))
  have hbs : (St b).size = b.length := rfl
  refine wp_loop_at (fun g a wy => ∃ i : Nat, i + g = b.length ∧ wy = wx ∧ crlf b = (crlf (b.drop i)).map (fun p => (b.take i ++ p.1, p.2)) ∧ At 100 [(0, .string (St b)), (4, v), (5, .string (St d)), (6, .int .i64 (i : Nat))] a) (b.length) ?_ ?_
  · refine ⟨0, by omega, rfl, ?_, hA⟩
    rw [List.drop_zero]
    cases crlf b with
    | none => rfl
    | some p => rfl
  clear hA
  rintro g a wy ⟨i, hig, rfl, hcr, hA⟩
  have hi1 : IntKind.i64.wrap (((i : Nat) : Int) + 1) = ((i + 1 : Nat) : Int) := by rw [IntWalk.i64_in _ (by omega)]; omega
  rcases Nat.lt_or_ge (i + 1) b.length with hlt | hge
  · obtain ⟨x, hx⟩ : ∃ x, b[i]? = some x := ⟨_, List.getElem?_eq_getElem (by omega)⟩
    obtain ⟨y, hy⟩ : ∃ y, b[i + 1]? = some y := ⟨_, List.getElem?_eq_getElem hlt⟩
    have hd1 : b.drop i = x :: b.drop (i + 1) := by
      rw [← (List.getElem?_eq_some_iff.1 hx).2]
      exact List.drop_eq_getElem_cons (by omega)
    have hd2 : (b.drop (i + 1)).head? = some y := by rw [List.head?_drop, hy]
    have g1 : ∀ h : i < (St b).size, (St b)[i] = x := fun h => (List.getElem?_eq_some_iff.1 hx).2
    have g2 : ∀ h : i + 1 < (St b).size, (St b)[i + 1] = y := fun h => (List.getElem?_eq_some_iff.1 hy).2
    have h5 : (((i : Nat) : Int) + 1 < ((b.length : Nat) : Int)) := by omega
    have h6 : ((i : Nat) : Int) < ((b.length : Nat) : Int) := by omega
    have h7 : i < b.length := by omega
    have h8 : IntKind.i64.wrap ((i : Nat) : Int) = ((i : Nat) : Int) := IntWalk.i64_in _ (by omega)
    have h9 : (0 : Int) ≤ ((i : Nat) : Int) + 1 := by omega
    have h10 : (((i : Nat) : Int) + 1).toNat = i + 1 := by omega
    refine wS (wS (wR ?_))
    revert a; (iterate 6 refine wo rfl rfl (by decide) (fun ev e h => by simp [go_sem, h, hbs, hi1, h5, h6, h7, hlt, h8, h9, h10, g1, g2] <;> rfl) ?_); (iterate 4 refine wg _ rfl rfl rfl rfl (by decide) (fun hq ev e h => by simp [go_sem, h, ↓gw_t (beq_t hq), hbs, hi1, h5, h6, h7, hlt, h8, h9, h10, g1, g2] <;> rfl) ?_); intro a hA
    replace hA := hA.keepN [0, 4, 5, 6, 14, 18]
    revert a; refine wg _ rfl rfl rfl rfl (by decide) (fun hq ev e h => by simp [go_sem, h, ↓gw_t (beq_t hq), hbs, hi1, h5, h6, h7, hlt, h8, h9, h10, g1, g2] <;> rfl) ?_; (iterate 5 refine wg2 _ _ rfl rfl rfl rfl (by decide) (fun hq hr ev e h => by simp [go_sem, h, ↓gw_t (and_beq hq hr), ↓gw_t hq, hbs, hi1, h5, h6, h7, hlt, h8, h9, h10, g1, g2] <;> rfl) ?_); intro a hA
    refine wl_guard _ hA rfl rfl rfl rfl (by decide) (fun hq ev h => by exact pick_or rfl (((h.get 19 rfl).trans (gw_t (beq_t hq)))) (h.c _) (((h.get 24 rfl).trans (gw_a (beq_t hq))))) fun a hA => ?_
    revert a; (first | refine wka rfl rfl (by decide) rfl rfl rfl ?_ | refine wo rfl rfl (by decide) (fun ev e h => by simp [go_sem, h, gv_or, gv_and, hbs, hi1, h5, h6, h7, hlt, h8, h9, h10, g1, g2] <;> rfl) ?_); intro a hA
    replace hA := hA.keepN [0, 4, 5, 6, 26]
    refine wN (nT ?_)
    refine wp_if hA 26 _ rfl (fun hq => ?yM) (fun hq => ?nM)
    case yM =>
      refine wp_skip (nT (wB (wR ?_)))
      revert a; (iterate 3 refine wo rfl rfl (by decide) (fun ev e h => by simp [go_sem, h, hbs, hi1, h5, h6, h7, hlt, h8, h9, h10, g1, g2] <;> rfl) ?_); intro a hA
      replace hA := hA.keepN [0, 4, 5, 6]
      refine wN (nB (nT ?_))
      have hne : ¬ (x = 13 ∧ (b.drop (i + 1)).head? = some 10) := by
        rintro ⟨e1, e2⟩
        rw [hd2] at e2
        injection e2 with e2
        subst e1 e2
        simp at hq
      rw [show ((i : Nat) : Int) + 1 = ((i + 1 : Nat) : Int) by omega] at hA
      refine ⟨g - 1, by omega, i + 1, by omega, rfl, ?_, hA⟩
      rw [hcr, hd1, crlf_step, if_neg hne, Option.map_map]
      congr 1
      funext p
      simp only [Function.comp]
      rw [List.take_add_one, hx, List.append_assoc]
      rfl
    case nM =>
      have hxy : x = 13 ∧ y = 10 := by
        simp at hq
        exact ⟨UInt8.toNat_inj.1 (by show x.toNat = 13; omega), UInt8.toNat_inj.1 (by show y.toNat = 10; omega)⟩
      have hcb : crlf b = some (b.take i, b.drop (i + 2)) := by
        rw [hcr, hd1, crlf_step, if_pos ⟨hxy.1, by rw [hd2, hxy.2]⟩]
        simp [List.tail_drop]
      have hli : (b.take i).length = i := by rw [List.length_take]; omega
      have k1 : (St b).extract 0 i = St (b.take i) := extract_take b i
      have k2 : (St b).extract (i + 2) b.length = St (b.drop (i + 2)) := extract_drop b _ _ rfl
      have k3 : IntKind.i64.wrap (((i : Nat) : Int) + 2) = ((i : Nat) : Int) + 2 := IntWalk.i64_in _ (by omega)
      have k4 : ¬ ((b.length : Nat) : Int) ≤ ((i : Nat) : Int) + 1 := by omega
      have k5 : ((i : Nat) : Int) ≤ ((b.length : Nat) : Int) := by omega
      have k6 : ((i : Nat) : Int) + 2 ≤ ((b.length : Nat) : Int) := by omega
      have k7 : (((i : Nat) : Int) + 2).toNat = i + 2 := by omega
      have k8 : (0 : Int) ≤ ((i : Nat) : Int) + 2 := by omega
      replace hA := hA.keepN [0, 4, 5, 6]
      refine wp_exit (xT (xT (xB (nT (wS (wS (wR ?_)))))))
      revert a; (iterate 5 refine wo rfl rfl (by decide) (fun ev e h => by simp [go_sem, h, hbs, hi1, k3, k4, h8] <;> rfl) ?_); intro a hA
      replace hA := hA.keepN [0, 4, 5, 6, 33]
      refine wN (nT ?_)
      refine wp_if hA 33 _ rfl (fun hq2 => ?yN3) (fun hq2 => ?nN3)
      case yN3 =>
        simp at hq2
      case nN3 =>
        refine wp_skip (nT (wS (wR ?_)))
        revert a; (iterate 4 refine wo rfl rfl (by decide) (fun ev e h => by simp [go_sem, h, hbs, hi1, k1, k2, k3, k5, k6, k7, k8, h8] <;> rfl) ?_); intro a hA
        replace hA := hA.keepN [0, 4, 5, 6, 7]
        refine wN (nT (wS (wR ?_)))
        revert a; (iterate 5 refine wo rfl rfl (by decide) (fun ev e h => by simp [go_sem, h, hbs, hi1, k1, k2, k3, k5, k6, k7, k8, h8] <;> rfl) ?_); intro a hA
        replace hA := hA.keepN [0, 4, 5, 7]
        refine wN (nT (wS (wR ?_)))
        revert a; refine wo rfl rfl (by decide) (fun ev e h => by simp [go_sem, h, hbs, hi1, k1, k2, k3, k5, k6, k7, k8, h8] <;> rfl) ?_; intro a hA
        obtain ⟨f, rfl⟩ : ∃ f', f = f' + 1 := ⟨f - 1, by omega⟩
        have hbl : b.length = i + 2 + (b.drop (i + 2)).length := by rw [List.length_drop]; omega
        obtain ⟨ln, hln⟩ : ∃ ln, b.take i = ln := ⟨_, rfl⟩
        obtain ⟨rest, hrest⟩ : ∃ rest, b.drop (i + 2) = rest := ⟨_, rfl⟩
        rw [hln, hrest] at hcb
        rw [hln] at hli hA
        rw [hrest] at hbl hA
        have hU2 := units_step f (d := d) hcb
        have ka : St d ++ St ln = St (d ++ ln) := st_app d ln
        have kl : (St ln).size = ln.length := rfl
        have kz : ¬ (9223372036854775807 < d.length + ln.length) := by omega
        have kr : (St rest).size = rest.length := rfl
        have e0 : St ([] : List UInt8) = ⟨#[]⟩ := rfl
        refine wl_call hA rfl rfl (by decide) (fun ev h => exec_call Tryd.func17 (by kernel_rfl) rfl (h.f _) (by first | (simp only [mL, h.get 42 rfl, h.c] <;> rfl) | (simp [mL, h.get 42 rfl, h.c, hbs, hi1, k1, k2, k3, k5, k6, k7, k8, h8] <;> rfl))) (wants_any ln _ (by omega)) ?_
        rintro e w2 ⟨rfl, rfl⟩
        refine ⟨_, rfl, fun a hA => ?_⟩
        revert a; refine wo rfl rfl (by decide) (fun ev e h => by simp [go_sem, h, kl, ka, kz] <;> rfl) ?_; intro a hA
        replace hA := hA.keepN [0, 4, 5, 7, 8]
        refine wN (nT (wB (wS (wR ?_))))
        revert a; (iterate 4 refine wo rfl rfl (by decide) (fun ev e h => by simp [go_sem, h, kl, ka, kz] <;> rfl) ?_); intro a hA
        replace hA := hA.keepN [0, 4, 5, 7, 8, 52]
        refine wN (nT ?_)
        refine wp_if hA 52 _ rfl (fun hq4 => ?yL) (fun hq4 => ?nL)
        case yL =>
          have hlong : 2000 < ln.length := by simp at hq4; omega
          rw [if_pos hlong] at hU2
          rw [hU2] at hU
          obtain ⟨t, ht⟩ : ∃ t, (d ++ ln).take 100 = t := ⟨_, rfl⟩
          have hC := some15_any (d ++ ln) w2 (by rw [List.length_append]; omega)
          rw [ht] at hC hU
          refine wS (wR ?_)
          revert a; (iterate 4 refine wo rfl rfl (by decide) (fun ev e h => by simp [go_sem, h, kl, ka, kz] <;> rfl) ?_); intro a hA
          refine wl_call hA rfl rfl (by decide) (fun ev h => exec_call Tryd.func18 (by kernel_rfl) rfl (h.f _) (by first | (simp only [mL, h.get 59 rfl, h.c] <;> rfl) | (simp [mL, h.get 59 rfl, h.c, kl, ka, kz] <;> rfl))) (hC) ?_
          rintro e w3 ⟨rfl, rfl⟩
          refine ⟨_, rfl, fun a hA => ?_⟩
          obtain ⟨c4, w4, hcv, hrd, hb4⟩ := conv_str t w3
          have hfar := off_new (n := 0) (b := t) ho (Nat.le_refl w3.heap.size)
          refine wl_op hA rfl rfl (by decide) (fun ev h => by simp [go_sem, h.get 60 rfl, kl, ka, kz, hcv]; try first | exact ⟨rfl, rfl⟩ | rfl) fun a hA => ?_
          replace ho := ho.below hb4
          replace HB := HB.trans (hb4.mono HB.size)
          revert a; refine wo rfl rfl (by decide) (fun ev e h => by simp [go_sem, h, kl, ka, kz] <;> rfl) ?_; intro a hA
          refine wl_new hA rfl rfl (by decide) (fun ev h => by simp [go_sem, h.get 62 rfl, kl, ka, kz]; try first | exact ⟨rfl, rfl⟩ | rfl) fun w5 a (K5 : Blk _ _ _ _) hz5 hb5 hA => ?_
          replace ho := ho.below hb5
          replace HB := HB.trans (hb5.mono HB.size)
          replace hrd := (hrd.below hb5).more hb5.size
          obtain ⟨r, w6, hr6, ho6, hb6⟩ := app_unit (u := ⟨2, some ⟨w3.heap.size, 0, none⟩, c4, t⟩) ho K5 hrd hfar (by omega) HB.size
          refine wl_op hA rfl rfl (by decide) (fun ev h => exec_append rfl (h.get 56 rfl) (h.get 63 rfl) hr6) fun a hA => ?_
          revert a; refine wo rfl rfl (by decide) (fun ev e h => by simp [go_sem, h, kl, ka, kz] <;> rfl) ?_; intro a hA
          replace hA := hA.keepN [0, 4]
          refine wN (nT (wR ?_))
          revert a; refine wo rfl rfl (by decide) (fun ev e h => by simp [go_sem, h, kl, ka, kz] <;> rfl) ?_; intro a hA
          replace hA := hA.keepN [0, 4, 5]
          refine wN (nB (nB (nT ?_)))
          exact ⟨f, by omega, [], rest, r, us ++ [⟨2, some ⟨w3.heap.size, 0, none⟩, c4, t⟩], by omega, by simp; omega, by rw [hU, List.map_append]; simp [unitB], by simp; omega, ho6, HB.trans hb6, hA⟩
        case nL =>
          have hlong : ¬ 2000 < ln.length := by simp at hq4; omega
          rw [if_neg hlong] at hU2
          refine wS (wR ?_)
          revert a; (iterate 3 refine wo rfl rfl (by decide) (fun ev e h => by simp [go_sem, h, kl, ka, kz] <;> rfl) ?_); intro a hA
          replace hA := hA.keepN [0, 4, 5, 7, 8, 65]
          refine wN (nT ?_)
          refine wp_if hA 65 _ rfl (fun hq5 => ?yG) (fun hq5 => ?nG)
          case yG =>
            have hgr : 20000 < litV ln := by simpa using hq5
            obtain ⟨m, hm⟩ : ∃ m, litP ln = some m := by
              cases h : litP ln with
              | none => rw [litV_none h] at hgr; omega
              | some m => exact ⟨m, rfl⟩
            have hm2 : 20000 < m := by rw [litV_some hm] at hgr; omega
            rw [hm] at hU2
            replace hU2 : unitsS (f + 1) d b = ((3, (d ++ ln).take 100) :: (unitsS f [] rest).1, (unitsS f [] rest).2) := hU2.trans (if_pos hm2)
            rw [hU2] at hU
            obtain ⟨t, ht⟩ : ∃ t, (d ++ ln).take 100 = t := ⟨_, rfl⟩
            have hC := some15_any (d ++ ln) w2 (by rw [List.length_append]; omega)
            rw [ht] at hC hU
            refine wS (wR ?_)
            revert a; (iterate 4 refine wo rfl rfl (by decide) (fun ev e h => by simp [go_sem, h, kl, ka, kz] <;> rfl) ?_); intro a hA
            refine wl_call hA rfl rfl (by decide) (fun ev h => exec_call Tryd.func18 (by kernel_rfl) rfl (h.f _) (by first | (simp only [mL, h.get 71 rfl, h.c] <;> rfl) | (simp [mL, h.get 71 rfl, h.c, kl, ka, kz] <;> rfl))) (hC) ?_
            rintro e w3 ⟨rfl, rfl⟩
            refine ⟨_, rfl, fun a hA => ?_⟩
            obtain ⟨c4, w4, hcv, hrd, hb4⟩ := conv_str t w3
            have hfar := off_new (n := 0) (b := t) ho (Nat.le_refl w3.heap.size)
            refine wl_op hA rfl rfl (by decide) (fun ev h => by simp [go_sem, h.get 72 rfl, kl, ka, kz, hcv]; try first | exact ⟨rfl, rfl⟩ | rfl) fun a hA => ?_
            replace ho := ho.below hb4
            replace HB := HB.trans (hb4.mono HB.size)
            revert a; refine wo rfl rfl (by decide) (fun ev e h => by simp [go_sem, h, kl, ka, kz] <;> rfl) ?_; intro a hA
            refine wl_new hA rfl rfl (by decide) (fun ev h => by simp [go_sem, h.get 74 rfl, kl, ka, kz]; try first | exact ⟨rfl, rfl⟩ | rfl) fun w5 a (K5 : Blk _ _ _ _) hz5 hb5 hA => ?_
            replace ho := ho.below hb5
            replace HB := HB.trans (hb5.mono HB.size)
            replace hrd := (hrd.below hb5).more hb5.size
            obtain ⟨r, w6, hr6, ho6, hb6⟩ := app_unit (u := ⟨3, some ⟨w3.heap.size, 0, none⟩, c4, t⟩) ho K5 hrd hfar (by omega) HB.size
            refine wl_op hA rfl rfl (by decide) (fun ev h => exec_append rfl (h.get 68 rfl) (h.get 75 rfl) hr6) fun a hA => ?_
            revert a; refine wo rfl rfl (by decide) (fun ev e h => by simp [go_sem, h, kl, ka, kz] <;> rfl) ?_; intro a hA
            replace hA := hA.keepN [0, 4]
            refine wN (nT (wR ?_))
            revert a; refine wo rfl rfl (by decide) (fun ev e h => by simp [go_sem, h, kl, ka, kz] <;> rfl) ?_; intro a hA
            replace hA := hA.keepN [0, 4, 5]
            refine wN (nB (nB (nT ?_)))
            exact ⟨f, by omega, [], rest, r, us ++ [⟨3, some ⟨w3.heap.size, 0, none⟩, c4, t⟩], by omega, by simp; omega, by rw [hU, List.map_append]; simp [unitB], by simp; omega, ho6, HB.trans hb6, hA⟩
          case nG =>
            have hgr : ¬ 20000 < litV ln := by simpa using hq5
            refine wS (wR ?_)
            revert a; (iterate 3 refine wo rfl rfl (by decide) (fun ev e h => by simp [go_sem, h, kl, ka, kz] <;> rfl) ?_); intro a hA
            replace hA := hA.keepN [0, 4, 5, 7, 8, 77]
            refine wN (nT ?_)
            refine wp_if hA 77 _ rfl (fun hq6 => ?yH) (fun hq6 => ?nH)
            case yH =>
              have h0 : 0 ≤ litV ln := by simpa using hq6
              obtain ⟨m, hm⟩ : ∃ m, litP ln = some m := by
                cases h : litP ln with
                | none => rw [litV_none h] at h0; omega
                | some m => exact ⟨m, rfl⟩
              have hmv := litV_some hm
              have hm2 : ¬ 20000 < m := by rw [hmv] at hgr; omega
              rw [hm] at hU2
              replace hU2 := hU2.trans (if_neg hm2)
              rw [hmv] at hA
              refine wS (wR ?_)
              revert a; (iterate 2 refine wo rfl rfl (by decide) (fun ev e h => by simp [go_sem, h, kl, ka, kz] <;> rfl) ?_); intro a hA
              refine wl_new hA rfl rfl (by decide) (fun ev h => by simp [go_sem, h.get 81 rfl, kl, ka, kz]; try first | exact ⟨rfl, rfl⟩ | rfl) fun w5 a (K5 : Blk _ _ _ _) hz5 hb5 hA => ?_
              replace ho := ho.below hb5
              replace HB := HB.trans (hb5.mono HB.size)
              obtain ⟨r, w6, hr6, ho6, hb6⟩ := app_unit (u := ⟨4, none, 0, []⟩) ho K5 Reads.none8 (fun _ _ _ _ e => by cases e) (by omega) HB.size
              refine wl_op hA rfl rfl (by decide) (fun ev h => exec_append rfl (h.get 80 rfl) (h.get 82 rfl) hr6) fun a hA => ?_
              revert a; refine wo rfl rfl (by decide) (fun ev e h => by simp [go_sem, h, kr] <;> rfl) ?_; intro a hA
              replace hA := hA.keepN [0, 4, 5, 7, 8]
              refine wN (nT (wS (wS (wR ?_))))
              revert a; (iterate 4 refine wo rfl rfl (by decide) (fun ev e h => by simp [go_sem, h, kr] <;> rfl) ?_); intro a hA
              replace hA := hA.keepN [0, 4, 5, 7, 8, 87]
              refine wN (nT ?_)
              refine wp_if hA 87 _ rfl (fun hq7 => ?yM) (fun hq7 => ?nM)
              case yM =>
                have hlt2 : rest.length < m := by simp at hq7; omega
                replace hU2 := hU2.trans (if_pos hlt2)
                rw [hU2] at hU
                refine wS (wR ?_)
                revert a; (iterate 3 refine wo rfl rfl (by decide) (fun ev e h => by simp [go_sem, h, kr] <;> rfl) ?_); intro a hA
                replace hA := hA.keepN [2, 3]
                refine wN (nT (wp_ret (rT (rB (rB (rT (rB ?_)))))))
                refine ret_2 hA 2 3 rfl rfl rfl ?_
                exact ⟨r, us ++ [⟨4, none, 0, []⟩], by rw [hU], ho6, by rw [hU, List.map_append]; simp [unitB], HB.trans hb6⟩
              case nM =>
                have hlt2 : ¬ rest.length < m := by simp at hq7; omega
                replace hU2 := hU2.trans (if_neg hlt2)
                rw [hU2] at hU
                have q1 : (St rest).extract 0 m = St (rest.take m) := extract_take rest m
                have q2 : (St rest).extract m rest.length = St (rest.drop m) := extract_drop rest _ _ rfl
                have q3 : ((m : Nat) : Int) ≤ ((rest.length : Nat) : Int) := by omega
                have q4 : m ≤ rest.length := by omega
                obtain ⟨d1, hd1⟩ : ∃ d1, d ++ ln ++ [13, 10] = d1 := ⟨_, rfl⟩
                obtain ⟨tk, htk⟩ : ∃ tk, rest.take m = tk := ⟨_, rfl⟩
                obtain ⟨d2, hd2⟩ : ∃ d2, d1 ++ tk = d2 := ⟨_, rfl⟩
                obtain ⟨b2, hb2⟩ : ∃ b2, rest.drop m = b2 := ⟨_, rfl⟩
                have q5 : St (d ++ ln) ++ (⟨#[13, 10]⟩ : ByteArray) = St d1 := by rw [← hd1]; exact st_app (d ++ ln) [13, 10]
                have q6 : St d1 ++ St tk = St d2 := by rw [← hd2]; exact st_app _ _
                have q7 : tk.length = m := by rw [← htk, List.length_take]; omega
                have q8 : b2.length = rest.length - m := by rw [← hb2, List.length_drop]
                have hd1l : d1.length = d.length + ln.length + 2 := by rw [← hd1]; simp; omega
                have hd2l : d2.length = d1.length + m := by rw [← hd2, List.length_append, q7]
                have kz2 : ¬ (9223372036854775807 < d.length + ln.length + 2) := by omega
                have kz3 : ¬ (9223372036854775807 < d1.length + m) := by omega
                rw [hd1, htk, hd2, hb2] at hU
                rw [htk] at q1
                rw [hb2] at q2
                have q9 : (St tk).size = m := q7
                have q10 : (St d1).size = d1.length := rfl
                refine wp_skip (nT (wS (wR ?_)))
                revert a; (iterate 9 refine wo rfl rfl (by decide) (fun ev e h => by simp [go_sem, h, kr, ka, kz, q1, q2, q3, q4, q5, q6, q7, kz2, kz3] <;> rfl) ?_); intro a hA
                replace hA := hA.keepN [0, 4, 5, 8]
                refine wN (nT (wR ?_))
                revert a; (iterate 4 refine wo rfl rfl (by decide) (fun ev e h => by simp [go_sem, h, kr, ka, kz, q1, q2, q3, q4, q5, q6, q7, kz2, kz3] <;> rfl) ?_); intro a hA
                replace hA := hA.keepN [0, 4, 5]
                refine wN (nB (nB (nT ?_)))
                exact ⟨f, by omega, d2, b2, r, us ++ [⟨4, none, 0, []⟩], by omega, by omega, by rw [hU, List.map_append]; simp [unitB], by simp; omega, ho6, HB.trans hb6, hA⟩
            case nH =>
              have h0 : ¬ 0 ≤ litV ln := by simpa using hq6
              have hm : litP ln = none := by
                cases h : litP ln with
                | none => rfl
                | some m => rw [litV_some h] at h0; omega
              rw [hm] at hU2
              replace hU2 : unitsS (f + 1) d b = ((1, d ++ ln) :: (unitsS f [] rest).1, (unitsS f [] rest).2) := hU2
              rw [hU2] at hU
              obtain ⟨t, ht⟩ : ∃ t, d ++ ln = t := ⟨_, rfl⟩
              rw [ht] at ka hU
              refine wS (wR ?_)
              revert a; (iterate 4 refine wo rfl rfl (by decide) (fun ev e h => by simp [go_sem, h, kl, ka, kz] <;> rfl) ?_); intro a hA
              obtain ⟨c4, w4, hcv, hrd, hb4⟩ := conv_str t w2
              have hfar := off_new (n := 0) (b := t) ho (Nat.le_refl w2.heap.size)
              refine wl_op hA rfl rfl (by decide) (fun ev h => by simp [go_sem, h.get 47 rfl, kl, ka, kz, hcv]; try first | exact ⟨rfl, rfl⟩ | rfl) fun a hA => ?_
              replace ho := ho.below hb4
              replace HB := HB.trans (hb4.mono HB.size)
              revert a; refine wo rfl rfl (by decide) (fun ev e h => by simp [go_sem, h, kl, ka, kz] <;> rfl) ?_; intro a hA
              refine wl_new hA rfl rfl (by decide) (fun ev h => by simp [go_sem, h.get 49 rfl, kl, ka, kz]; try first | exact ⟨rfl, rfl⟩ | rfl) fun w5 a (K5 : Blk _ _ _ _) hz5 hb5 hA => ?_
              replace ho := ho.below hb5
              replace HB := HB.trans (hb5.mono HB.size)
              replace hrd := (hrd.below hb5).more hb5.size
              obtain ⟨r, w6, hr6, ho6, hb6⟩ := app_unit (u := ⟨1, some ⟨w2.heap.size, 0, none⟩, c4, t⟩) ho K5 hrd hfar (by omega) HB.size
              refine wl_op hA rfl rfl (by decide) (fun ev h => exec_append rfl (h.get 44 rfl) (h.get 50 rfl) hr6) fun a hA => ?_
              revert a; refine wo rfl rfl (by decide) (fun ev e h => by simp [go_sem, h, kl, ka, kz] <;> rfl) ?_; intro a hA
              replace hA := hA.keepN [0, 4]
              refine wN (nT (wR ?_))
              revert a; refine wo rfl rfl (by decide) (fun ev e h => by simp [go_sem, h, kl, ka, kz] <;> rfl) ?_; intro a hA
              replace hA := hA.keepN [0, 4, 5]
              refine wN (nB (nB (nT ?_)))
              exact ⟨f, by omega, [], rest, r, us ++ [⟨1, some ⟨w2.heap.size, 0, none⟩, c4, t⟩], by omega, by simp; omega, by rw [hU, List.map_append]; simp [unitB], by simp; omega, ho6, HB.trans hb6, hA⟩
  · have hn : crlf b = none := by
      rw [hcr]
      have h0 : (b.drop i).length ≤ 1 := by rw [List.length_drop]; omega
      match hb : b.drop i, h0 with
      | [], _ => rfl
      | [x], _ => rw [crlf_step, if_neg (by simp)]; rfl
    obtain ⟨f, rfl⟩ : ∃ f', f = f' + 1 := ⟨f - 1, by omega⟩
    have hu : unitsS (f + 1) d b = ([], false) := by unfold unitsS; rw [hn]
    rw [hu] at hU
    have h1 : ¬ (i + 1 < b.length) := by omega
    have h2 : b.length ≤ i + 1 := hge
    have h3 : ¬ (((i + 1 : Nat) : Int) < ((b.length : Nat) : Int)) := by omega
    have h4 : ((b.length : Nat) : Int) ≤ ((i + 1 : Nat) : Int) := by omega
    have h5 : ¬ (((i : Nat) : Int) + 1 < ((b.length : Nat) : Int)) := by omega
    have h6 : ((b.length : Nat) : Int) ≤ ((i : Nat) : Int) + 1 := by omega
    refine wS (wS (wR ?_))
    refine wl_op hA rfl rfl (by decide) (fun ev h => by simp [go_sem, h.get 6 rfl, hbs, hi1, h5, h6]; try first | exact ⟨rfl, rfl⟩ | rfl) fun a hA => ?_
    refine wl_op hA rfl rfl (by decide) (fun ev h => by simp [go_sem, h.c, h.get 9 rfl, hbs, hi1, h5, h6]; try first | exact ⟨rfl, rfl⟩ | rfl) fun a hA => ?_
    refine wl_op hA rfl rfl (by decide) (fun ev h => by simp [go_sem, h.get 0 rfl, hbs, hi1, h5, h6]; try first | exact ⟨rfl, rfl⟩ | rfl) fun a hA => ?_
    refine wl_op hA rfl rfl (by decide) (fun ev h => by simp [go_sem, h.get 11 rfl, hbs, hi1, h5, h6]; try first | exact ⟨rfl, rfl⟩ | rfl) fun a hA => ?_
    refine wl_op hA rfl rfl (by decide) (fun ev h => by simp [go_sem, h.get 10 rfl, h.get 12 rfl, hbs, hi1, h5, h6]; try first | exact ⟨rfl, rfl⟩ | rfl) fun a hA => ?_
    refine wl_op hA rfl rfl (by decide) (fun ev h => by simp [go_sem, h.get 13 rfl, hbs, hi1, h5, h6]; try first | exact ⟨rfl, rfl⟩ | rfl) fun a hA => ?_
    refine wl_guard _ (v := .bool false) hA rfl rfl rfl rfl (by decide) (fun hq ev h => by first | (cases hq; done) | (cases hr; done)) fun a hA => ?_
    refine wl_guard _ (v := .bool false) hA rfl rfl rfl rfl (by decide) (fun hq ev h => by first | (cases hq; done) | (cases hr; done)) fun a hA => ?_
    refine wl_guard _ (v := .bool false) hA rfl rfl rfl rfl (by decide) (fun hq ev h => by first | (cases hq; done) | (cases hr; done)) fun a hA => ?_
    refine wl_guard _ (v := .bool false) hA rfl rfl rfl rfl (by decide) (fun hq ev h => by first | (cases hq; done) | (cases hr; done)) fun a hA => ?_
    replace hA := hA.keepN [0, 4, 5, 6, 14, 18]
    refine wl_guard _ (v := .bool false) hA rfl rfl rfl rfl (by decide) (fun hq ev h => by first | (cases hq; done) | (cases hr; done)) fun a hA => ?_
    refine wl_guard2 _ _ (v := .bool false) hA rfl rfl rfl rfl (by decide) (fun hq hr ev h => by first | (cases hq; done) | (cases hr; done)) fun a hA => ?_
    refine wl_guard2 _ _ (v := .bool false) hA rfl rfl rfl rfl (by decide) (fun hq hr ev h => by first | (cases hq; done) | (cases hr; done)) fun a hA => ?_
    refine wl_guard2 _ _ (v := .bool false) hA rfl rfl rfl rfl (by decide) (fun hq hr ev h => by first | (cases hq; done) | (cases hr; done)) fun a hA => ?_
    refine wl_guard2 _ _ (v := .bool false) hA rfl rfl rfl rfl (by decide) (fun hq hr ev h => by first | (cases hq; done) | (cases hr; done)) fun a hA => ?_
    refine wl_guard2 _ _ (v := .bool false) hA rfl rfl rfl rfl (by decide) (fun hq hr ev h => by first | (cases hq; done) | (cases hr; done)) fun a hA => ?_
    refine wl_guard _ (v := .bool false) hA rfl rfl rfl rfl (by decide) (fun hq ev h => by first | (cases hq; done) | (cases hr; done)) fun a hA => ?_
    revert a; (first | refine wka rfl rfl (by decide) rfl rfl rfl ?_ | refine wo rfl rfl (by decide) (fun ev e h => by simp [go_sem, h, gv_or, gv_and, hbs, hi1, h5, h6] <;> rfl) ?_); intro a hA
    replace hA := hA.keepN [0, 4, 5, 6, 26]
    refine wN (nT ?_)
    refine wp_if hA 26 _ rfl (fun hq => ?yN) (fun hq => ?nN)
    case yN =>
      simp at hq
    case nN =>
      replace hA := hA.keepN [0, 4, 5, 6]
      refine wp_exit (xT (xT (xB (nT (wS (wS (wR ?_)))))))
      revert a; (iterate 5 refine wo rfl rfl (by decide) (fun ev e h => by simp [go_sem, h, hbs, hi1, h5, h6] <;> rfl) ?_); intro a hA
      replace hA := hA.keepN [0, 4, 5, 6, 33]
      refine wN (nT ?_)
      refine wp_if hA 33 _ rfl (fun hq2 => ?yN2) (fun hq2 => ?nN2)
      case nN2 =>
        simp at hq2
      case yN2 =>
        refine wS (wR ?_)
        revert a; (iterate 3 refine wo rfl rfl (by decide) (fun ev e h => by simp [go_sem, h, hbs, hi1, h5, h6] <;> rfl) ?_); intro a hA
        replace hA := hA.keepN [2, 3]
        refine wN (nT (wp_ret (rT (rB (rT (rB ?_))))))
        refine ret_2 hA 2 3 rfl rfl rfl ?_
        exact ⟨v, us, by rw [hU], ho, by rw [hU, List.append_nil], HB⟩
end Go.Proofs.YtaljodmhalodhaaDoor
/-
  Walks: lex.plain, lex.quoted, lex.counted.
-/
namespace Go.Proofs.YtaljodmhalodhaaDoor
open Go.RowKit
set_option linter.unusedSimpArgs false
set_option linter.unusedVariables false
theorem u8_eq (c : UInt8) (k : Nat) (hk : k < 256) : (((c.toNat : Nat) : Int) == (k : Int)) = (c == UInt8.ofNat k) := by
  rw [Bool.eq_iff_iff, beq_iff_eq, beq_iff_eq]
  constructor
  · intro h
    refine UInt8.toNat_inj.1 ?_
    rw [UInt8.toNat_ofNat']
    omega
  · rintro rfl
    rw [UInt8.toNat_ofNat']
    omega
theorem signs_index (c : UInt8) : decide (Lib.indexByte [40, 41, 123, 34] c < 0) = !(c == 40 || c == 41 || c == 123 || c == 34) := by
  simp only [Lib.indexByte]
  by_cases h1 : c = 40
  · subst h1; rfl
  by_cases h2 : c = 41
  · subst h2; rfl
  by_cases h3 : c = 123
  · subst h3; rfl
  by_cases h4 : c = 34
  · subst h4; rfl
  have e : ∀ d : UInt8, c ≠ d → (d == c) = false := fun d h => by simpa using fun e : d = c => h e.symm
  have e' : ∀ d : UInt8, c ≠ d → (c == d) = false := fun d h => by simpa using h
  simp [e _ h1, e _ h2, e _ h3, e _ h4, h1, h2, h3, h4]
theorem plain_eq (c : UInt8) : (decide ((33 : Int) ≤ ((c.toNat : Nat) : Int)) && decide (((c.toNat : Nat) : Int) ≤ 126) && decide (Lib.indexByte [40, 41, 123, 34] c < 0)) = plainB c := by
  rw [signs_index]
  unfold plainB
  rw [decide_eq_decide.2 (show ((33 : Int) ≤ ((c.toNat : Nat) : Int)) ↔ 33 ≤ c.toNat by omega), decide_eq_decide.2 (show (((c.toNat : Nat) : Int) ≤ 126) ↔ c.toNat ≤ 126 by omega)]
set_option maxRecDepth 100000 in
set_option maxHeartbeats 4000000 in
theorem plain_any (c : UInt8) (w : World) : Calls Tryd.prog 29 #[.int .u8 ((c.toNat : Nat) : Int)] w fun ev w' => ev = .returned (.bool (plainB c)) ∧ Below w.heap.size w w' := by
  have HB := Below.refl w.heap.size w
  refine calls_at 14 Tryd.func29 rfl rfl (Nat.le_of_ble_eq_true rfl) ?_
  intro a hA; replace hA := hA.norm
  refine wS (wR ?_)
  revert a; refine wo rfl rfl (by decide) (fun ev e h => by simp [go_sem, h] <;> rfl) ?_; intro a hA
  replace hA := hA.keepN [0]
  refine wN (nT (wS (wR ?_)))
  revert a; (iterate 3 refine wo rfl rfl (by decide) (fun ev e h => by simp [go_sem, h] <;> rfl) ?_); (iterate 2 refine wg _ rfl rfl rfl rfl (by decide) (fun hq ev e h => by simp [go_sem, h, ↓gw_t (beq_t hq)] <;> rfl) ?_); refine wka rfl rfl (by decide) rfl rfl rfl ?_; refine wo rfl rfl (by decide) (fun ev e h => by simp [go_sem, h] <;> rfl) ?_; refine wg _ rfl rfl rfl rfl (by decide) (fun hq ev e h => by simp [go_sem, h, ↓gw_t (beq_t hq)] <;> rfl) ?_; intro a hA
  refine wl_gcallv _ hA rfl rfl rfl rfl (by decide) (fun hq ev h => exec_call Tryd.func40 (by kernel_rfl) rfl (h.f _) (by first | (simp only [mL, ((h.get 10 rfl).trans (gw_t (beq_t hq))), h.c] <;> rfl) | (simp [mL, ((h.get 10 rfl).trans (gw_t (beq_t hq))), h.c] <;> rfl))) (fun hq => (Tryd.strings_IndexByte ⟨#[40, 41, 123, 34]⟩ ((c.toNat : Nat) : Int) _).mono fun e w' h => ⟨h.1, h.2 ▸ Below.refl _ _⟩) fun a w1 hb1 hA => ?_
  replace HB := HB.trans (hb1.mono HB.size)
  rw [show (((c.toNat : Nat) : Int).toNat.toUInt8) = c by simp] at hA
  revert a; refine wg _ rfl rfl rfl rfl (by decide) (fun hq ev e h => by simp [go_sem, h, ↓gw_t (beq_t hq)] <;> rfl) ?_; refine wka rfl rfl (by decide) rfl rfl rfl ?_; intro a hA
  replace hA := hA.keepN [13]
  revert a; refine wo rfl rfl (by decide) (fun ev e h => by simp [go_sem, h] <;> rfl) ?_; intro a hA
  replace hA := hA.keepN [2]
  refine wN (nT (wp_ret ?_))
  refine ret_1 hA 2 rfl rfl ?_
  exact ⟨ret_bool (plain_eq c), HB⟩
theorem index_crlf : ∀ l : List UInt8, Lib.index l [13, 10] = (match crlf l with | none => -1 | some p => ((p.1.length : Nat) : Int))
  | [] => rfl
  | b :: l => by
    rw [crlf_step]
    unfold Lib.index
    by_cases h : b = 13 ∧ l.head? = some 10
    · obtain ⟨rfl, h2⟩ := h
      rw [if_pos (show (13 : UInt8) = 13 ∧ l.head? = some 10 from ⟨rfl, h2⟩)]
      cases l with
      | nil => cases h2
      | cons y l =>
        injection h2 with h2
        subst h2
        rfl
    · rw [if_neg h]
      have hp : ([13, 10] : List UInt8).isPrefixOf (b :: l) = false := by
        refine Bool.eq_false_iff.2 fun hp => h ?_
        cases l with
        | nil => simp [List.isPrefixOf] at hp
        | cons y l =>
          simp [List.isPrefixOf] at hp
          exact ⟨hp.1.symm, by rw [← hp.2]; rfl⟩
      rw [hp, index_crlf l]
      cases crlf l with
      | none => rfl
      | some p =>
        simp only [Option.map_some, Bool.false_eq_true, if_false, List.length_cons]
        rw [if_neg (by rw [beq_iff_eq]; omega)]
        exact (Int.natCast_add p.1.length 1).symm
theorem cut_crlf (l : List UInt8) : Lib.cut l [13, 10] = (match crlf l with | none => (l, [], false) | some p => (p.1, p.2, true)) := by
  unfold Lib.cut
  rw [index_crlf]
  cases h : crlf l with
  | none => rfl
  | some p =>
    have hl := crlf_some (b := l) (l := p.1) (r := p.2) h
    simp only []
    rw [if_pos (by omega), Int.toNat_natCast]
    congr 1
    · rw [hl, List.append_assoc, List.take_left' rfl]
    · congr 1
      rw [hl, List.drop_left' (by simp)]
theorem last_sign (t : List UInt8) : (Lib.lastIndexByte (St (123 :: t)) 123 != 0) = t.contains 123 := by
  have hg : ∀ j (h : j < t.length), (St (123 :: t)).data[j + 1]! = t[j] := fun j h => by
    show ((123 :: t).toArray)[j + 1]! = t[j]
    have h9 : j + 1 < ((123 :: t).toArray).size := by simp; omega
    rw [getElem!_pos ((123 :: t).toArray) (j + 1) h9]
    simp
  rcases Lib.lastIdx_spec (St (123 :: t)) 123 (St (123 :: t)).size with ⟨h1, h2⟩ | ⟨i, h1, h2, h3, h4⟩
  · exact absurd rfl (h2 0 (by show 0 < (123 :: t).length; simp))
  · have hz : (St (123 :: t)).size = t.length + 1 := rfl
    unfold Lib.lastIndexByte
    rw [h2]
    cases i with
    | zero =>
      symm
      show t.contains 123 = false
      refine Bool.eq_false_iff.2 fun hc => ?_
      obtain ⟨j, hj, e⟩ := List.getElem_of_mem (List.contains_iff_mem.1 hc)
      refine h4 (j + 1) (by omega) (by omega) ?_
      rw [hg j hj, e]
      rfl
    | succ j =>
      have hj : j < t.length := by omega
      have : t.contains 123 = true := by
        rw [List.contains_iff_mem]
        rw [hg j hj] at h3
        have e : t[j] = 123 := UInt8.toNat_inj.1 (by show t[j].toNat = 123; omega)
        rw [← e]
        exact List.getElem_mem hj
      rw [this]
      simp
      omega
theorem crlf_none_nil (l : List UInt8) : (match crlf l with | none => (l, [], false) | some p => (p.1, p.2, true) : List UInt8 × List UInt8 × Bool).2.1.length ≤ l.length ∧ (match crlf l with | none => (l, [], false) | some p => (p.1, p.2, true) : List UInt8 × List UInt8 × Bool).1.length ≤ l.length := by
  cases h : crlf l with
  | none => exact ⟨Nat.zero_le _, Nat.le_refl _⟩
  | some p =>
    have hl := congrArg List.length (crlf_some (b := l) (l := p.1) (r := p.2) h)
    simp only [List.length_append] at hl
    exact ⟨by show p.2.length ≤ _; omega, by show p.1.length ≤ _; omega⟩
theorem counted_cut {r hd rs : List UInt8} {ok : Bool} (h : Lib.cut (123 :: r) [13, 10] = (hd, rs, ok)) :
    countedS (123 :: r) = if (!ok || decide (litV hd < 0) || decide (((rs.length : Nat) : Int) < litV hd) || Lib.lastIndexByte (St hd) 123 != 0) = true then none else some (rs.take (litV hd).toNat, rs.drop (litV hd).toNat) := by
  rw [cut_crlf] at h
  unfold countedS
  cases hc : crlf (123 :: r) with
  | none =>
    rw [hc] at h
    injection h with h1 h2
    injection h2 with h2 h3
    subst h1 h2 h3
    rfl
  | some p =>
    rw [hc] at h
    injection h with h1 h2
    injection h2 with h2 h3
    subst h1 h2 h3
    have hp : ∃ t, p.1 = 123 :: t := by
      rw [crlf_step, if_neg (by rintro ⟨e, _⟩; revert e; decide)] at hc
      cases hr : crlf r with
      | none => rw [hr] at hc; cases hc
      | some q =>
        rw [hr] at hc
        injection hc with hc
        exact ⟨q.1, by rw [← hc]⟩
    obtain ⟨t, ht⟩ := hp
    obtain ⟨a, b⟩ := p
    have ht : a = 123 :: t := ht
    subst ht
    simp only []
    rw [last_sign]
    unfold litV
    cases litP (123 :: t) with
    | none => rfl
    | some n =>
      have e0 : decide (((n : Nat) : Int) < 0) = false := decide_eq_false (by omega)
      by_cases h1 : n ≤ b.length
      · have e1 : decide (((b.length : Nat) : Int) < (n : Int)) = false := decide_eq_false (by omega)
        cases hq : t.contains 123 with
        | true =>
          have hm : 123 ∈ t := List.contains_iff_mem.1 hq
          simp [e0, e1, hm]
        | false =>
          have hm : 123 ∉ t := fun h => by rw [List.contains_iff_mem.2 h] at hq; cases hq
          have h2 : ¬ b.length < n := by omega
          simp [e0, e1, hm, h1, h2]
      · have e1 : decide (((b.length : Nat) : Int) < (n : Int)) = true := decide_eq_true (by omega)
        simp [e0, e1, h1]
/-- two texts, cut, or none -/
def cutR : Option (List UInt8 × List UInt8) → Ending
  | some p => .returned (.tuple #[.string (St p.1), .string (St p.2), .bool true])
  | none => .returned (.tuple #[.string ⟨#[]⟩, .string ⟨#[]⟩, .bool false])
set_option maxRecDepth 100000 in
set_option maxHeartbeats 4000000 in
theorem counted_any (r : List UInt8) (m : Int) (w : World) (hm : w.cell? ⟨0, 0, none⟩ = some (.int .i64 m)) (hl : r.length ≤ 900000) : Calls Tryd.prog 28 #[.string (St (123 :: r))] w fun ev w' => ev = cutR (countedS (123 :: r)) ∧ Below w.heap.size w w' := by
  obtain ⟨hd, rs, ok, hcut⟩ : ∃ hd rs ok, Lib.cut (123 :: r) [13, 10] = (hd, rs, ok) := ⟨_, _, _, rfl⟩
  have hlen := crlf_none_nil (123 :: r)
  rw [← cut_crlf, hcut] at hlen
  have hl1 : rs.length ≤ 900001 := Nat.le_trans hlen.1 (by rw [List.length_cons]; omega)
  have hl2 : hd.length ≤ 900001 := Nat.le_trans hlen.2 (by rw [List.length_cons]; omega)
  rw [counted_cut hcut]
  have HB := Below.refl w.heap.size w
  refine calls_at 41 Tryd.func28 rfl rfl (Nat.le_of_ble_eq_true rfl) ?_
  intro a hA; replace hA := hA.norm
  refine wS (wR ?_)
  revert a; (iterate 3 refine wo rfl rfl (by decide) (fun ev e h => by simp [go_sem, h] <;> rfl) ?_); intro a hA
  replace hA := hA.keepN [0]
  refine wN (nT (wS (wR ?_)))
  revert a; refine wo rfl rfl (by decide) (fun ev e h => by simp [go_sem, h] <;> rfl) ?_; intro a hA
  refine wl_call hA rfl rfl (by decide) (fun ev h => exec_call Tryd.func37 (by kernel_rfl) rfl (h.f _) (by first | (simp only [mL, h.get 10 rfl, h.c] <;> rfl) | (simp [mL, h.get 10 rfl, h.c] <;> rfl))) (Tryd.strings_Cut (St (123 :: r)) (St [13, 10]) m w (by show (123 :: r).length < _; rw [List.length_cons]; omega) hm) ?_
  rintro e w1 ⟨rfl, n1, rfl⟩
  refine ⟨_, rfl, fun a hA => ?_⟩
  rw [show (St (123 :: r)).data.toList = 123 :: r from rfl, show (St [13, 10]).data.toList = [13, 10] from rfl, hcut] at hA
  have hs1 : (⟨(hd, rs, ok).1.toArray⟩ : ByteArray) = St hd := rfl
  replace HB := below_drewN HB n1
  rw [show (⟨(hd, rs, ok).1.toArray⟩ : ByteArray) = St hd from rfl, show (⟨(hd, rs, ok).2.1.toArray⟩ : ByteArray) = St rs from rfl, show (hd, rs, ok).2.2 = ok from rfl] at hA
  obtain ⟨c2, w2, hcv, hrd, hb2⟩ := conv_str hd (w.drewN n1)
  revert a; (iterate 7 refine wo rfl rfl (by decide) (fun ev e h => by simp [go_sem, h] <;> rfl) ?_); intro a hA
  replace hA := hA.keepN [5, 6, 7]
  refine wN (nT (wS (wR ?_)))
  revert a; refine wo rfl rfl (by decide) (fun ev e h => by simp [go_sem, h] <;> rfl) ?_; intro a hA
  refine wl_op hA rfl rfl (by decide) (fun ev h => by simp [go_sem, h.get 15 rfl, hcv]; try first | exact ⟨rfl, rfl⟩ | rfl) fun a hA => ?_
  replace HB := HB.trans (hb2.mono HB.size)
  refine wl_call hA rfl rfl (by decide) (fun ev h => exec_call Tryd.func38 (by kernel_rfl) rfl (h.f _) (by first | (simp only [mL, h.get 16 rfl, h.c] <;> rfl) | (simp [mL, h.get 16 rfl, h.c] <;> rfl))) (literal_any _ hd.length c2 hd rfl (by omega) _ hrd) ?_
  rintro e w3 ⟨rfl, hb3⟩
  refine ⟨_, rfl, fun a hA => ?_⟩
  replace HB := HB.trans (hb3.mono HB.size)
  obtain ⟨V, hV⟩ : ∃ V, litV hd = V := ⟨_, rfl⟩
  rw [hV] at hA ⊢
  have kr : (St rs).size = rs.length := rfl
  revert a; refine wo rfl rfl (by decide) (fun ev e h => by simp [go_sem, h, kr] <;> rfl) ?_; intro a hA
  replace hA := hA.keepN [5, 6, 7, 8]
  refine wN (nT (wS (wS (wR ?_))))
  revert a; (iterate 3 refine wo rfl rfl (by decide) (fun ev e h => by simp [go_sem, h, kr] <;> rfl) ?_); (iterate 2 refine wg _ rfl rfl rfl rfl (by decide) (fun hq ev e h => by simp [go_sem, h, ↓gw_t (beq_t hq), kr] <;> rfl) ?_); refine wko rfl rfl (by decide) rfl rfl rfl ?_; refine wo rfl rfl (by decide) (fun ev e h => by simp [go_sem, h, kr] <;> rfl) ?_; (iterate 3 refine wg _ rfl rfl rfl rfl (by decide) (fun hq ev e h => by simp [go_sem, h, ↓gw_t (beq_t hq), kr] <;> rfl) ?_); intro a hA
  replace hA := hA.keepN [5, 6, 8, 24, 25, 27]
  revert a; refine wg _ rfl rfl rfl rfl (by decide) (fun hq ev e h => by simp [go_sem, h, ↓gw_t (beq_t hq), kr] <;> rfl) ?_; refine wko rfl rfl (by decide) rfl rfl rfl ?_; refine wo rfl rfl (by decide) (fun ev e h => by simp [go_sem, h, kr] <;> rfl) ?_; refine wg _ rfl rfl rfl rfl (by decide) (fun hq ev e h => by simp [go_sem, h, ↓gw_t (beq_t hq), kr] <;> rfl) ?_; intro a hA
  refine wl_gcallv _ hA rfl rfl rfl rfl (by decide) (fun hq ev h => exec_call Tryd.func39 (by kernel_rfl) rfl (h.f _) (by first | (simp only [mL, ((h.get 31 rfl).trans (gw_t (beq_t hq))), h.c] <;> rfl) | (simp [mL, ((h.get 31 rfl).trans (gw_t (beq_t hq))), h.c, kr] <;> rfl))) (fun hq => (Tryd.strings_LastIndexByte (St hd) 123 (by show hd.length < _; omega) _).mono fun e w' h => ⟨h.1, h.2 ▸ Below.refl _ _⟩) fun a w4 hb4 hA => ?_
  replace HB := HB.trans (hb4.mono HB.size)
  obtain ⟨I, hI⟩ : ∃ I, Lib.lastIndexByte (St hd) 123 = I := ⟨_, rfl⟩
  rw [hI] at hA ⊢
  revert a; refine wg _ rfl rfl rfl rfl (by decide) (fun hq ev e h => by simp [go_sem, h, ↓gw_t (beq_t hq), kr] <;> rfl) ?_; refine wko rfl rfl (by decide) rfl rfl rfl ?_; intro a hA
  replace hA := hA.keepN [6, 8, 34]
  refine wN (nT ?_)
  refine wp_if hA 34 _ rfl (fun hq => ?yF) (fun hq => ?nF)
  case yF =>
    refine wS (wR ?_)
    revert a; (iterate 3 refine wo rfl rfl (by decide) (fun ev e h => by simp [go_sem, h, kr] <;> rfl) ?_); intro a hA
    replace hA := hA.keepN [2, 3, 4]
    refine wN (nT (wp_ret (rT ?_)))
    refine ret_3 hA 2 3 4 rfl rfl rfl rfl ?_
    rw [if_pos hq]
    exact ⟨rfl, HB⟩
  case nF =>
    rw [if_neg (by rw [hq]; decide)]
    have hV0 : 0 ≤ V := by simp at hq; omega
    obtain ⟨k, hk⟩ : ∃ k : Nat, V = (k : Nat) := ⟨V.toNat, by omega⟩
    subst hk
    have hkl : k ≤ rs.length := by simp at hq; omega
    rw [Int.toNat_natCast]
    have k1 : (St rs).extract 0 k = St (rs.take k) := extract_take rs k
    have k2 : (St rs).extract k rs.length = St (rs.drop k) := extract_drop rs _ _ rfl
    have k3 : ((k : Nat) : Int) ≤ ((rs.length : Nat) : Int) := by omega
    refine wp_skip (nT (wS ?_))
    refine wp_any_at hA [(.det ?dS0), (.det ?dS1), (.det ?dS2), (.det ?dS3), (.det ?dS4), (.det ?dS5), (.det ?dS6), (.det ?dS7), (.det ?dS8)] [] (fun wy => Below w4.heap.size w4 wy) (TSp [] Grows) (by kernel_rfl) rfl (by kernel_rfl) (by kernel_rfl) rfl ((Below.refl _ _).drew) (stab_sp [] [true, true, true, true, true, true, true, true, true] [true, true, true, true, true, true, true, true, true] [] rfl rfl rfl (by kernel_rfl) ⟨trivial, trivial, trivial, trivial, trivial, trivial, trivial, trivial, trivial, trivial⟩ trivial) (fun _ h => by cases h) (fun _ _ _ _ _ h => by cases h) (fun _ h => by cases h) ⟨?oS0, ?oS1, ?oS2, ?oS3, ?oS4, ?oS5, ?oS6, ?oS7, ?oS8, trivial⟩ (by kernel_rfl) ?fS
    case oS0 => intro ev wo hev hC hs hph; have x0 := se hA hs 6; exact od rfl rfl (by kernel_rfl) hC (TSp.of rfl (Grows.refl _)) (by simp [go_sem, x0] <;> rfl)
    case oS1 => intro ev wo hev hC hs hph; have x0 := se hA hs 8; exact od rfl rfl (by kernel_rfl) hC (TSp.of rfl (Grows.refl _)) (by simp [go_sem, x0] <;> rfl)
    case oS2 => intro ev wo hev hC hs hph; have x0 := sd hs 35 0; have x1 := sd hs 36 1; exact od rfl rfl (by kernel_rfl) hC (TSp.of rfl (Grows.refl _)) (by simp [go_sem, x0, x1, k1, k3, hkl, kr] <;> rfl)
    case oS3 => intro ev wo hev hC hs hph; have x0 := se hA hs 6; exact od rfl rfl (by kernel_rfl) hC (TSp.of rfl (Grows.refl _)) (by simp [go_sem, x0] <;> rfl)
    case oS4 => intro ev wo hev hC hs hph; have x0 := se hA hs 8; exact od rfl rfl (by kernel_rfl) hC (TSp.of rfl (Grows.refl _)) (by simp [go_sem, x0] <;> rfl)
    case oS5 => intro ev wo hev hC hs hph; have x0 := sd hs 38 3; have x1 := sd hs 39 4; exact od rfl rfl (by kernel_rfl) hC (TSp.of rfl (Grows.refl _)) (by simp [go_sem, x0, x1, k2, k3, hkl, kr] <;> rfl)
    case oS6 => intro ev wo hev hC hs hph; have x0 := sd hs 37 2; exact od rfl rfl (by kernel_rfl) hC (TSp.of rfl (Grows.refl _)) (by simp [go_sem, x0] <;> rfl)
    case oS7 => intro ev wo hev hC hs hph; have x0 := sd hs 40 5; exact od rfl rfl (by kernel_rfl) hC (TSp.of rfl (Grows.refl _)) (by simp [go_sem, x0] <;> rfl)
    case oS8 => intro ev wo hev hC hs hph; exact od rfl rfl (by kernel_rfl) hC (TSp.of rfl (Grows.refl _)) (by simp [go_sem, hev.const] <;> rfl)
    intro sg wf hC hph
    intro a hA
    replace hA := hA.keepN [2, 3, 4]
    refine nT (wp_ret ?_)
    refine ret_3 hA 2 3 4 rfl rfl rfl rfl ?_
    exact ⟨rfl, HB.trans (hC.mono HB.size)⟩
end Go.Proofs.YtaljodmhalodhaaDoor
/-
  Walk: lex.quoted.
-/
namespace Go.Proofs.YtaljodmhalodhaaDoor
open Go.RowKit
set_option linter.unusedSimpArgs false
set_option linter.unusedVariables false
theorem own_grow {B : Nat} {w0 w w' : World} {v : Value} {l : List UInt8} (hb : Below w0.heap.size w0 w) (h : OwnX B w v l) (hB : w0.heap.size ≤ B) (hg : w.grownBy w' v.ownBlock) : Below w0.heap.size w0 w' :=
  hb.grown hg hb.size fun k hk => Nat.le_trans hB (h.lt k hk).1
set_option maxRecDepth 100000 in
set_option maxHeartbeats 4000000 in
theorem quoted_any (x : UInt8) (r : List UInt8) (w : World) (hl : r.length ≤ 900000) : Calls Tryd.prog 27 #[.string (St (x :: r))] w fun ev w' => ev = cutR (quotedS [] r) ∧ Below w.heap.size w w' := by
  obtain ⟨L, hL⟩ : ∃ L, x :: r = L := ⟨_, rfl⟩
  obtain ⟨Q, hQ⟩ : ∃ Q, quotedS [] r = Q := ⟨_, rfl⟩
  have hLl : L.length = r.length + 1 := by rw [← hL]; rfl
  have hQL : Q = quotedS [] (L.drop 1) := by rw [← hL, ← hQ]; rfl
  rw [hL, hQ]
  have hsz : (St L).size = L.length := rfl
  refine calls_at 64 Tryd.func27 rfl rfl (Nat.le_of_ble_eq_true rfl) ?_
  intro a hA; replace hA := hA.norm
  refine wS (wR ?_)
  revert a; (iterate 3 refine wo rfl rfl (by decide) (fun ev e h => by simp [go_sem, h] <;> rfl) ?_); intro a hA
  replace hA := hA.keepN [0]
  refine wN (nT (wS (wR ?_)))
  revert a; refine wo rfl rfl (by decide) (fun ev e h => by simp [go_sem, h] <;> rfl) ?_; intro a hA
  replace hA := hA.keepN [0, 5]
  refine wN (nT (wS (wS (wR ?_))))
  revert a; refine wo rfl rfl (by decide) (fun ev e h => by simp [go_sem, h] <;> rfl) ?_; intro a hA
  replace hA := hA.keepN [0, 5, 6]
  refine wN (nT (wB ?_))
  refine wp_loop_at (fun k a wx => ∃ (p : Nat) (acc : List UInt8) (v : Value), p + k = L.length ∧ 1 ≤ p ∧ acc.length ≤ p ∧ Q = quotedS acc (L.drop p) ∧ OwnX w.heap.size wx v acc ∧ Below w.heap.size w wx ∧ At 64 [(0, .string (St L)), (5, v), (6, .int .i64 (p : Nat))] a) (L.length - 1) ?_ ?_
  · exact ⟨1, [], _, by omega, Nat.le_refl _, Nat.zero_le _, hQL, OwnX.nil _, Below.refl _ _, hA⟩
  clear hA
  rintro k a wx ⟨p, acc, v, hpk, hp1, hacc, hQ2, ho, HB, hA⟩
  refine wS (wS (wR ?_))
  revert a; (iterate 4 refine wo rfl rfl (by decide) (fun ev e h => by simp [go_sem, h, hsz] <;> rfl) ?_); intro a hA
  replace hA := hA.keepN [0, 5, 6, 11]
  refine wN (nT ?_)
  refine wp_if hA 11 _ rfl (fun hq => ?yL) (fun hq => ?nL)
  case nL =>
    have hpl : L.length ≤ p := by simp at hq; omega
    rw [List.drop_of_length_le hpl] at hQ2
    replace hA := hA.keepN []
    refine wp_exit (xT (xT (xB (nT (wS (wR ?_))))))
    revert a; (iterate 3 refine wo rfl rfl (by decide) (fun ev e h => by simp [go_sem, h, hsz] <;> rfl) ?_); intro a hA
    replace hA := hA.keepN [2, 3, 4]
    refine wN (nT (wp_ret ?_))
    refine ret_3 hA 2 3 4 rfl rfl rfl rfl ?_
    exact ⟨by rw [hQ2]; rfl, HB⟩
  case yL =>
    have hpl : p < L.length := by simp at hq; omega
    obtain ⟨c, hc⟩ : ∃ c, L[p]? = some c := ⟨_, List.getElem?_eq_getElem hpl⟩
    have hd1 : L.drop p = c :: L.drop (p + 1) := by
      rw [← (List.getElem?_eq_some_iff.1 hc).2]
      exact List.drop_eq_getElem_cons hpl
    have g1 : ∀ h : p < (St L).size, (St L)[p] = c := fun h => (List.getElem?_eq_some_iff.1 hc).2
    have i1 : IntKind.i64.wrap ((p : Nat) : Int) = ((p : Nat) : Int) := IntWalk.i64_in _ (by omega)
    have i2 : ((p : Nat) : Int) < ((L.length : Nat) : Int) := by omega
    have i3 : IntKind.i64.wrap (((p : Nat) : Int) + 1) = ((p + 1 : Nat) : Int) := by rw [IntWalk.i64_in _ (by omega)]; omega
    rw [hd1, quoted_cons] at hQ2
    refine wp_skip (nT (wS (wB (wS (wR ?_)))))
    revert a; (iterate 4 refine wo rfl rfl (by decide) (fun ev e h => by simp [go_sem, h, hsz, g1, i1, i2, hpl] <;> rfl) ?_); intro a hA
    replace hA := hA.keepN [0, 5, 6, 7]
    refine wN (nT (wB (wS (wR ?_))))
    revert a; (iterate 3 refine wo rfl rfl (by decide) (fun ev e h => by simp [go_sem, h, hsz, g1, i1, i2, hpl] <;> rfl) ?_); intro a hA
    replace hA := hA.keepN [0, 5, 6, 7, 21]
    refine wN (nT ?_)
    refine wp_if hA 21 _ rfl (fun hq2 => ?yE) (fun hq2 => ?nE)
    case yE =>
      have hc34 : c = 34 := by
        simp at hq2
        exact UInt8.toNat_inj.1 (by show c.toNat = 34; omega)
      rw [if_pos hc34] at hQ2
      obtain ⟨A, cp, rfl, hcp⟩ := ho.form
      obtain ⟨q, hq9⟩ : ∃ q, p + 1 = q := ⟨_, rfl⟩
      rw [hq9] at i3 hQ2
      have k2 : (St L).extract q L.length = St (L.drop q) := extract_drop L _ _ rfl
      have k3 : ((q : Nat) : Int) ≤ ((L.length : Nat) : Int) := by omega
      have k4 : q ≤ L.length := by omega
      refine wS ?_
      refine wp_any_at hA [(.det ?dS0), (.det ?dS1), (.det ?dS2), (.det ?dS3), (.det ?dS4), (.det ?dS5), (.det ?dS6), (.det ?dS7), (.det ?dS8)] [] (fun wy => Below wx.heap.size wx wy) (TSp [] Grows) (by kernel_rfl) rfl (by kernel_rfl) (by kernel_rfl) rfl ((Below.refl _ _).drew) (stab_sp [] [true, true, true, true, true, true, true, true, true] [true, true, true, true, true, true, true, true, true] [] rfl rfl rfl (by kernel_rfl) ⟨trivial, trivial, trivial, trivial, trivial, trivial, trivial, trivial, trivial, trivial⟩ trivial) (fun _ h => by cases h) (fun _ _ _ _ _ h => by cases h) (fun _ h => by cases h) ⟨?oS0, ?oS1, ?oS2, ?oS3, ?oS4, ?oS5, ?oS6, ?oS7, ?oS8, trivial⟩ (by kernel_rfl) ?fS
      case oS0 => intro ev wo hev hC hs hph; have x0 := se hA hs 5; exact od rfl rfl (by kernel_rfl) hC (TSp.of rfl (Grows.refl _)) (by simp [go_sem, x0] <;> rfl)
      case oS1 => intro ev wo hev hC hs hph; have x0 := sd hs 24 0; exact od rfl rfl (by kernel_rfl) hC (TSp.of rfl (Grows.refl _)) (by simp [go_sem, x0, conv_reads (c := cp) rfl (ho.reads.below hC)] <;> rfl)
      case oS2 => intro ev wo hev hC hs hph; have x0 := se hA hs 0; exact od rfl rfl (by kernel_rfl) hC (TSp.of rfl (Grows.refl _)) (by simp [go_sem, x0] <;> rfl)
      case oS3 => intro ev wo hev hC hs hph; have x0 := se hA hs 6; exact od rfl rfl (by kernel_rfl) hC (TSp.of rfl (Grows.refl _)) (by simp [go_sem, x0] <;> rfl)
      case oS4 => intro ev wo hev hC hs hph; have x0 := sd hs 27 3; exact od rfl rfl (by kernel_rfl) hC (TSp.of rfl (Grows.refl _)) (by simp [go_sem, x0, hev.const, i3] <;> rfl)
      case oS5 => intro ev wo hev hC hs hph; have x0 := sd hs 26 2; have x1 := sd hs 28 4; exact od rfl rfl (by kernel_rfl) hC (TSp.of rfl (Grows.refl _)) (by simp [go_sem, x0, x1, k2, k3, k4, hsz] <;> rfl)
      case oS6 => intro ev wo hev hC hs hph; have x0 := sd hs 25 1; exact od rfl rfl (by kernel_rfl) hC (TSp.of rfl (Grows.refl _)) (by simp [go_sem, x0] <;> rfl)
      case oS7 => intro ev wo hev hC hs hph; have x0 := sd hs 29 5; exact od rfl rfl (by kernel_rfl) hC (TSp.of rfl (Grows.refl _)) (by simp [go_sem, x0] <;> rfl)
      case oS8 => intro ev wo hev hC hs hph; exact od rfl rfl (by kernel_rfl) hC (TSp.of rfl (Grows.refl _)) (by simp [go_sem, hev.const] <;> rfl)
      intro sg wf hC hph
      intro a hA
      replace hA := hA.keepN [2, 3, 4]
      refine nT (wp_ret (rB (rB (rT (rT (rB (rT ?_)))))))
      refine ret_3 hA 2 3 4 rfl rfl rfl rfl ?_
      exact ⟨by rw [hQ2]; rfl, HB.trans (hC.mono HB.size)⟩
    case nE =>
      have hc34 : c ≠ 34 := fun e => by subst e; simp at hq2
      rw [if_neg hc34] at hQ2
      refine wS (wR ?_)
      revert a; (iterate 3 refine wo rfl rfl (by decide) (fun ev e h => by simp [go_sem, h, hsz, g1, i1, i2, hpl] <;> rfl) ?_); intro a hA
      replace hA := hA.keepN [0, 5, 6, 7, 30]
      refine wN (nT ?_)
      refine wp_if hA 30 _ rfl (fun hq3 => ?yB) (fun hq3 => ?nB)
      case yB =>
        have hc92 : c = 92 := by
          simp at hq3
          exact UInt8.toNat_inj.1 (by show c.toNat = 92; omega)
        rw [if_pos hc92] at hQ2
        obtain ⟨q, hq9⟩ : ∃ q, p + 1 = q := ⟨_, rfl⟩
        rw [hq9] at i3 hQ2
        refine wS (wR ?_)
        revert a; (iterate 3 refine wo rfl rfl (by decide) (fun ev e h => by simp [go_sem, h, i3] <;> rfl) ?_); intro a hA
        replace hA := hA.keepN [0, 5, 6]
        refine wN (nT (wS (wS (wR ?_))))
        rcases Nat.lt_or_ge q L.length with hlt | hge
        · obtain ⟨y, hy⟩ : ∃ y, L[q]? = some y := ⟨_, List.getElem?_eq_getElem hlt⟩
          have hd2 : L.drop q = y :: L.drop (q + 1) := by
            rw [← (List.getElem?_eq_some_iff.1 hy).2]
            exact List.drop_eq_getElem_cons hlt
          have g2 : ∀ h : q < (St L).size, (St L)[q] = y := fun h => (List.getElem?_eq_some_iff.1 hy).2
          have j1 : IntKind.i64.wrap ((q : Nat) : Int) = ((q : Nat) : Int) := IntWalk.i64_in _ (by omega)
          have j2 : ((q : Nat) : Int) < ((L.length : Nat) : Int) := by omega
          have j3 : IntKind.i64.wrap (((q : Nat) : Int) + 1) = ((q + 1 : Nat) : Int) := by rw [IntWalk.i64_in _ (by omega)]; omega
          have j4 : ¬ q = L.length := by omega
          obtain ⟨z, j5⟩ : ∃ z, (((q : Nat) : Int) == ((L.length : Nat) : Int)) = z := ⟨_, rfl⟩
          have hz : z = false := by rw [← j5]; simp; omega
          rw [hd2] at hQ2
          simp only [] at hQ2
          revert a; (iterate 5 refine wo rfl rfl (by decide) (fun ev e h => by simp [go_sem, h, hsz, j1, j2, hlt, g2, j5] <;> rfl) ?_); (iterate 5 refine wg _ rfl rfl rfl rfl (by decide) (fun hq ev e h => by simp [go_sem, h, ↓gw_t (beq_t hq), hsz, j1, j2, hlt, g2, j5] <;> rfl) ?_); intro a hA
          replace hA := hA.keepN [0, 5, 6, 39, 44]
          revert a; (iterate 4 refine wg2 _ _ rfl rfl rfl rfl (by decide) (fun hq hr ev e h => by simp [go_sem, h, ↓gw_t (and_beq hq hr), ↓gw_t hq, hsz, j1, j2, hlt, g2, j5] <;> rfl) ?_); intro a hA
          refine wl_guard _ hA rfl rfl rfl rfl (by decide) (fun hq ev h => by exact pick_and rfl (((h.get 44 rfl).trans (gw_t (beq_t hq)))) (((h.get 48 rfl).trans (gw_a (beq_t hq)))) (h.c _)) fun a hA => ?_
          revert a; (first | refine wko rfl rfl (by decide) rfl rfl rfl ?_ | refine wo rfl rfl (by decide) (fun ev e h => by simp [go_sem, h, gv_or, gv_and, hsz, j1, j2, hlt, g2, j5] <;> rfl) ?_); intro a hA
          replace hA := hA.keepN [0, 5, 6, 50]
          refine wN (nT ?_)
          refine wp_if hA 50 _ rfl (fun hq4 => ?yM) (fun hq4 => ?nM)
          case yM =>
            rw [hz] at hq4
            have hy2 : ¬ (y = 34 ∨ y = 92) := by
              rintro (e | e) <;> subst e <;> simp at hq4
            rw [if_neg hy2] at hQ2
            refine wS (wR ?_)
            revert a; (iterate 3 refine wo rfl rfl (by decide) (fun ev e h => by simp [go_sem, h, hsz, j1, j2, hlt, g2, j5] <;> rfl) ?_); intro a hA
            replace hA := hA.keepN [2, 3, 4]
            refine wN (nT (wp_ret (rT (rB (rB (rT (rT (rB (rT ?_)))))))))
            refine ret_3 hA 2 3 4 rfl rfl rfl rfl ?_
            exact ⟨by rw [hQ2]; rfl, HB⟩
          case nM =>
            rw [hz] at hq4
            have hy2 : y = 34 ∨ y = 92 := by
              simp at hq4
              by_cases e : y = 34
              · exact .inl e
              · have e2 : y.toNat ≠ 34 := fun e2 => e (UInt8.toNat_inj.1 e2)
                exact .inr (UInt8.toNat_inj.1 (by show y.toNat = 92; omega))
            rw [if_pos hy2] at hQ2
            refine wp_skip (nT (wR ?_))
            revert a; (iterate 4 refine wo rfl rfl (by decide) (fun ev e h => by simp [go_sem, h, hsz, j1, j2, hlt, g2, j5] <;> rfl) ?_); intro a hA
            have hBx := HB.size
            refine wl_new hA rfl rfl (by decide) (fun ev h => by simp [go_sem, h.get 54 rfl, hsz, j1, j2, hlt, g2, j5]; try first | exact ⟨rfl, rfl⟩ | rfl) fun w1 a (K1 : Blk _ _ _ _) hz1 hb1 hA => ?_
            replace ho := ho.below hb1
            replace HB := HB.trans (hb1.mono HB.size)
            have ox : OwnX w.heap.size w1 _ [y] := blk_x K1 hBx rfl (by simp)
            obtain ⟨v2, w2, hr2, ho2, hg2, -⟩ := run_appX ho ox.reads (by simp; omega) (by have := HB.size; omega)
            refine wl_op hA rfl rfl (by decide) (fun ev h => exec_append rfl (h.get 51 rfl) (h.get 55 rfl) hr2) fun a hA => ?_
            have HB2 := own_grow HB ho (Nat.le_refl _) hg2
            revert a; refine wo rfl rfl (by decide) (fun ev e h => by simp [go_sem, h, j3] <;> rfl) ?_; intro a hA
            replace hA := hA.keepN [0, 5, 6]
            refine wN (nB (nB (nT (wR ?_))))
            revert a; (iterate 3 refine wo rfl rfl (by decide) (fun ev e h => by simp [go_sem, h, j3] <;> rfl) ?_); intro a hA
            replace hA := hA.keepN [0, 5, 6]
            refine wN (nT ?_)
            exact ⟨k - 2, by omega, q + 1, acc ++ [y], v2, by omega, by omega, by simp; omega, hQ2, ho2, HB2, hA⟩
        · have j4 : q = L.length := by omega
          have j5 : (((q : Nat) : Int) == ((L.length : Nat) : Int)) = true := by simp; omega
          rw [List.drop_of_length_le hge] at hQ2
          simp only [] at hQ2
          refine wl_op hA rfl rfl (by decide) (fun ev h => by simp [go_sem, h.get 6 rfl, hsz, j5]; try first | exact ⟨rfl, rfl⟩ | rfl) fun a hA => ?_
          refine wl_op hA rfl rfl (by decide) (fun ev h => by simp [go_sem, h.get 0 rfl, hsz, j5]; try first | exact ⟨rfl, rfl⟩ | rfl) fun a hA => ?_
          refine wl_op hA rfl rfl (by decide) (fun ev h => by simp [go_sem, h.get 36 rfl, hsz, j5]; try first | exact ⟨rfl, rfl⟩ | rfl) fun a hA => ?_
          refine wl_op hA rfl rfl (by decide) (fun ev h => by simp [go_sem, h.get 35 rfl, h.get 37 rfl, hsz, j5]; try first | exact ⟨rfl, rfl⟩ | rfl) fun a hA => ?_
          refine wl_op hA rfl rfl (by decide) (fun ev h => by simp [go_sem, h.get 38 rfl, hsz, j5]; try first | exact ⟨rfl, rfl⟩ | rfl) fun a hA => ?_
          refine wl_guard _ (v := .bool false) hA rfl rfl rfl rfl (by decide) (fun hq ev h => by first | (cases hq; done) | (cases hr; done)) fun a hA => ?_
          refine wl_guard _ (v := .bool false) hA rfl rfl rfl rfl (by decide) (fun hq ev h => by first | (cases hq; done) | (cases hr; done)) fun a hA => ?_
          refine wl_guard _ (v := .bool false) hA rfl rfl rfl rfl (by decide) (fun hq ev h => by first | (cases hq; done) | (cases hr; done)) fun a hA => ?_
          refine wl_guard _ (v := .bool false) hA rfl rfl rfl rfl (by decide) (fun hq ev h => by first | (cases hq; done) | (cases hr; done)) fun a hA => ?_
          refine wl_guard _ (v := .bool false) hA rfl rfl rfl rfl (by decide) (fun hq ev h => by first | (cases hq; done) | (cases hr; done)) fun a hA => ?_
          replace hA := hA.keepN [0, 5, 6, 39, 44]
          refine wl_guard2 _ _ (v := .bool false) hA rfl rfl rfl rfl (by decide) (fun hq hr ev h => by first | (cases hq; done) | (cases hr; done)) fun a hA => ?_
          refine wl_guard2 _ _ (v := .bool false) hA rfl rfl rfl rfl (by decide) (fun hq hr ev h => by first | (cases hq; done) | (cases hr; done)) fun a hA => ?_
          refine wl_guard2 _ _ (v := .bool false) hA rfl rfl rfl rfl (by decide) (fun hq hr ev h => by first | (cases hq; done) | (cases hr; done)) fun a hA => ?_
          refine wl_guard2 _ _ (v := .bool false) hA rfl rfl rfl rfl (by decide) (fun hq hr ev h => by first | (cases hq; done) | (cases hr; done)) fun a hA => ?_
          refine wl_guard _ (v := .bool false) hA rfl rfl rfl rfl (by decide) (fun hq ev h => by first | (cases hq; done) | (cases hr; done)) fun a hA => ?_
          revert a; (first | refine wko rfl rfl (by decide) rfl rfl rfl ?_ | refine wo rfl rfl (by decide) (fun ev e h => by simp [go_sem, h, gv_or, gv_and, hsz, j5] <;> rfl) ?_); intro a hA
          replace hA := hA.keepN [0, 5, 6, 50]
          refine wN (nT ?_)
          refine wp_if hA 50 _ rfl (fun hq4 => ?yN) (fun hq4 => ?nN)
          case nN => simp at hq4
          case yN =>
            refine wS (wR ?_)
            revert a; (iterate 3 refine wo rfl rfl (by decide) (fun ev e h => by simp [go_sem, h, hsz, j5] <;> rfl) ?_); intro a hA
            replace hA := hA.keepN [2, 3, 4]
            refine wN (nT (wp_ret (rT (rB (rB (rT (rT (rB (rT ?_)))))))))
            refine ret_3 hA 2 3 4 rfl rfl rfl rfl ?_
            exact ⟨by rw [hQ2]; rfl, HB⟩
      case nB =>
        have hc92 : c ≠ 92 := fun e => by subst e; simp at hq3
        rw [if_neg hc92] at hQ2
        refine wS (wR ?_)
        revert a; (iterate 3 refine wo rfl rfl (by decide) (fun ev e h => by simp [go_sem, h, hsz, g1, i1, i2, hpl] <;> rfl) ?_); (iterate 2 refine wg _ rfl rfl rfl rfl (by decide) (fun hq ev e h => by simp [go_sem, h, ↓gw_t (beq_t hq), hsz, g1, i1, i2, hpl] <;> rfl) ?_); (first | refine wko rfl rfl (by decide) rfl rfl rfl ?_ | refine wo rfl rfl (by decide) (fun ev e h => by simp [go_sem, h, gv_or, gv_and, hsz, g1, i1, i2, hpl] <;> rfl) ?_); refine wo rfl rfl (by decide) (fun ev e h => by simp [go_sem, h, hsz, g1, i1, i2, hpl] <;> rfl) ?_; intro a hA
        replace hA := hA.keepN [0, 5, 6, 7, 57]
        refine wN (nT ?_)
        refine wp_if hA 57 _ rfl (fun hq5 => ?yC) (fun hq5 => ?nC)
        case yC =>
          have hcr : c = 13 ∨ c = 10 := by
            simp at hq5
            by_cases e : c = 13
            · exact .inl e
            · have e2 : c.toNat ≠ 13 := fun e2 => e (UInt8.toNat_inj.1 e2)
              exact .inr (UInt8.toNat_inj.1 (by show c.toNat = 10; omega))
          rw [if_pos hcr] at hQ2
          refine wS (wR ?_)
          revert a; (iterate 3 refine wo rfl rfl (by decide) (fun ev e h => by simp [go_sem, h, hsz, g1, i1, i2, hpl] <;> rfl) ?_); intro a hA
          replace hA := hA.keepN [2, 3, 4]
          refine wN (nT (wp_ret (rB (rB (rT (rT (rB (rT ?_))))))))
          refine ret_3 hA 2 3 4 rfl rfl rfl rfl ?_
          exact ⟨by rw [hQ2]; rfl, HB⟩
        case nC =>
          have hcr : ¬ (c = 13 ∨ c = 10) := by
            rintro (e | e) <;> subst e <;> simp at hq5
          rw [if_neg hcr] at hQ2
          refine wR ?_
          revert a; (iterate 2 refine wo rfl rfl (by decide) (fun ev e h => by simp [go_sem, h, hsz, g1, i1, i2, hpl] <;> rfl) ?_); intro a hA
          have hBx := HB.size
          refine wl_new hA rfl rfl (by decide) (fun ev h => by simp [go_sem, h.get 18 rfl, hsz, g1, i1, i2, hpl]; try first | exact ⟨rfl, rfl⟩ | rfl) fun w1 a (K1 : Blk _ _ _ _) hz1 hb1 hA => ?_
          replace ho := ho.below hb1
          replace HB := HB.trans (hb1.mono HB.size)
          have ox : OwnX w.heap.size w1 _ [c] := blk_x K1 hBx rfl (by simp)
          obtain ⟨v2, w2, hr2, ho2, hg2, -⟩ := run_appX ho ox.reads (by simp; omega) (by have := HB.size; omega)
          refine wl_op hA rfl rfl (by decide) (fun ev h => exec_append rfl (h.get 17 rfl) (h.get 19 rfl) hr2) fun a hA => ?_
          have HB2 := own_grow HB ho (Nat.le_refl _) hg2
          revert a; refine wo rfl rfl (by decide) (fun ev e h => by simp [go_sem, h, i3] <;> rfl) ?_; intro a hA
          replace hA := hA.keepN [0, 5, 6]
          refine wN (nB (nB (nT (wR ?_))))
          revert a; (iterate 3 refine wo rfl rfl (by decide) (fun ev e h => by simp [go_sem, h, i3] <;> rfl) ?_); intro a hA
          replace hA := hA.keepN [0, 5, 6]
          refine wN (nT ?_)
          exact ⟨k - 1, by omega, p + 1, acc ++ [c], v2, by omega, by omega, by simp; omega, hQ2, ho2, HB2, hA⟩
end Go.Proofs.YtaljodmhalodhaaDoor
/-
  Walks: lex.one, lex.apart.
-/
namespace Go.Proofs.YtaljodmhalodhaaDoor
open Go.RowKit
set_option linter.unusedSimpArgs false
set_option linter.unusedVariables false
theorem set2 {w : World} {g : Nat} {T : TypeId} {x y : Value} (a b : Value) (K : Blk w g T #[x, y]) : Blk (setAll w g 0 [a, b]) g T #[a, b] ∧ Only g w (setAll w g 0 [a, b]) :=
  ⟨by
    have := blk_setAll [a, b] 0 w [x, y] K (by simp)
    simpa using this, Only.setAll _ _ _⟩
/-- what a token is -/
def oneR (l : List UInt8) (k : Int) (s rest : ByteArray) (b : Bool) : Prop := match oneS l with
  | some p => k = (p.1.k : Nat) ∧ s = St p.1.t ∧ rest = St p.2 ∧ b = true
  | none => b = false
theorem takeW {p : UInt8 → Bool} {l : List UInt8} {n : Nat} (h : ∀ x ∈ l.take n, p x = true) (h2 : ∀ x, l[n]? = some x → p x = false) : l.takeWhile p = l.take n ∧ l.dropWhile p = l.drop n := by
  have := takeWhile_app (p := p) (a := l.take n) (b := l.drop n) h (fun x hx => h2 x (by rw [← hx, List.head?_drop]))
  rw [List.take_append_drop] at this
  exact this
def cutF (o : Option (List UInt8 × List UInt8)) (t q : ByteArray) (b : Bool) : Prop := match o with
  | some p => t = St p.1 ∧ q = St p.2 ∧ b = true
  | none => b = false
theorem cutR_form (o : Option (List UInt8 × List UInt8)) : ∃ t q b, cutR o = .returned (.tuple #[.string t, .string q, .bool b]) ∧ cutF o t q b := by
  cases o with
  | none => exact ⟨_, _, _, rfl, rfl⟩
  | some p => exact ⟨_, _, _, rfl, rfl, rfl, rfl⟩
theorem one_cut {l : List UInt8} {o : Option (List UInt8 × List UInt8)} (h : oneS l = o.map fun p => (⟨2, p.1⟩, p.2)) {t q : ByteArray} {b : Bool} (hf : cutF o t q b) : oneR l 2 t q b := by
  unfold oneR
  rw [h]
  cases o with
  | none => exact hf
  | some p => exact ⟨rfl, hf.1, hf.2.1, hf.2.2⟩
theorem one_atom {c : UInt8} {r : List UInt8} (h1 : c ≠ 40) (h2 : c ≠ 41) (h3 : c ≠ 34) (h4 : c ≠ 123) {n : Nat} (h : ∀ x ∈ (c :: r).take n, plainB x = true) (h5 : ∀ x, (c :: r)[n]? = some x → plainB x = false) : oneR (c :: r) 1 (St ((c :: r).take n)) (St ((c :: r).drop n)) (decide (0 < n)) := by
  obtain ⟨e1, e2⟩ := takeW h h5
  unfold oneR
  rw [one_cons, if_neg h1, if_neg h2, if_neg h3, if_neg h4]
  cases n with
  | zero =>
    have := h5 c rfl
    rw [this]
    simp
  | succ n =>
    have := h c (by simp)
    rw [this, if_pos rfl, e1, e2]
    exact ⟨rfl, rfl, rfl, by simp⟩
set_option maxRecDepth 100000 in
set_option maxHeartbeats 4000000 in
theorem one_any (c : UInt8) (r : List UInt8) (m : Int) (w : World) (hm : w.cell? ⟨0, 0, none⟩ = some (.int .i64 m)) (hl : r.length ≤ 900000) : Calls Tryd.prog 20 #[.string (St (c :: r))] w fun ev w' => ∃ k s rest b, ev = .returned (.tuple #[.agg #[.int .i64 k, .string s], .string rest, .bool b]) ∧ oneR (c :: r) k s rest b ∧ Below w.heap.size w w' := by
  obtain ⟨L, hL⟩ : ∃ L, c :: r = L := ⟨_, rfl⟩
  have hLl : L.length = r.length + 1 := by rw [← hL]; rfl
  have hsz : (St L).size = L.length := rfl
  have g1 : ∀ h : 0 < (St L).size, (St L)[0] = c := fun h => by subst hL; rfl
  have i1 : 0 < L.length := by omega
  have k2 : (St L).extract 1 L.length = St r := by rw [← hL]; exact extract_drop (c :: r) 1 _ rfl
  have k3 : (1 : Int) ≤ ((L.length : Nat) : Int) := by omega
  have k4 : 1 ≤ L.length := by omega
  have hm0 : 0 < w.heap.size := block_lt_of_cell hm
  rw [hL]
  have HB := Below.refl w.heap.size w
  refine calls_at 74 Tryd.func20 rfl rfl (Nat.le_of_ble_eq_true rfl) ?_
  intro a hA; replace hA := hA.norm
  refine wS (wR ?_)
  refine wl_new hA rfl rfl (by decide) (fun ev h => by simp [go_sem]; try first | exact ⟨rfl, rfl⟩ | rfl) fun w0 a (K : Blk _ _ _ _) hz0 hb0 hA => ?_
  replace HB := HB.trans (hb0.mono HB.size)
  revert a; (iterate 2 refine wo rfl rfl (by decide) (fun ev e h => by simp [go_sem, h, hsz, g1, i1] <;> rfl) ?_); intro a hA
  replace hA := hA.keepN [0, 2]
  refine wN (nT (wS (wS (wR ?_))))
  revert a; (iterate 3 refine wo rfl rfl (by decide) (fun ev e h => by simp [go_sem, h, hsz, g1, i1] <;> rfl) ?_); intro a hA
  replace hA := hA.keepN [0, 2, 5]
  refine wN (nT (wB (wS (wR ?_))))
  revert a; (iterate 3 refine wo rfl rfl (by decide) (fun ev e h => by simp [go_sem, h, hsz, g1, i1] <;> rfl) ?_); intro a hA
  replace hA := hA.keepN [0, 2, 5, 15]
  refine wN (nT ?_)
  refine wp_if hA 15 _ rfl (fun hq => ?yA) (fun hq => ?nA)
  case yA =>
    have hc : c = 40 := by
      simp at hq
      exact UInt8.toNat_inj.1 (by show c.toNat = 40; omega)
    have hR : oneR L 3 ⟨#[]⟩ (St r) true := by
      rw [← hL, hc]
      exact ⟨rfl, rfl, rfl, rfl⟩
    refine wS ?_
    refine wp_region_split 4 ?_
    simp only [List.take_succ_cons, List.take_zero, List.drop_succ_cons, List.drop_zero]
    refine wp_any_split_at hA [(.det ?dS00), (.det ?dS01), (.det ?dS02), (.det undef)] [⟨(some 3), none, [], fun _ => (fun wy => Blk wy w.heap.size 33 #[.int .i64 3, .string ⟨#[]⟩]), fun _ _ _ _ h => h⟩] (fun wy => Apart (fun i => i = w.heap.size) w0 wy ∧ ∃ x y, Blk wy w.heap.size 33 #[x, y]) (TSp [(3, (fun wy wz => Only w.heap.size wy wz))] Grows) (by kernel_rfl) rfl (by kernel_rfl) (by kernel_rfl) rfl (by kernel_rfl) (by kernel_rfl) (by kernel_rfl) (by kernel_rfl) (⟨⟨rfl, rfl, rfl, Nat.le_refl _, fun _ _ _ => rfl⟩, _, _, K⟩) (stab_sp [(3, (fun wy wz => Only w.heap.size wy wz))] [true, true, true, true] [true, true, true, true] [] rfl rfl rfl (by kernel_rfl) ⟨trivial, trivial, trivial, trivial, trivial⟩ trivial) (List.forall_mem_cons.2 ⟨(fun hn => by cases hn), (fun _ h => by cases h)⟩) (phase_sp [(3, (fun wy wz => Only w.heap.size wy wz))] [((some 3), none)] [] rfl (by kernel_rfl) (List.forall_mem_cons.2 ⟨fun _ => fun _ _ _ hp hb => hp.below hb hp.lt, (fun _ h => by cases h)⟩) trivial) (List.forall_mem_cons.2 ⟨(fun a h => by first | (exact (no_1 h).elim) | (injection h with h; subst h; exact Nat.le_of_ble_eq_true rfl)), (fun _ h => by cases h)⟩) ⟨?oS00, ?oS01, ?oS02, ?oS03, trivial⟩ (by kernel_rfl) ?fS0
    case oS00 => intro ev wo hev hC hs hph; exact od rfl rfl (by kernel_rfl) hC (TSp.of rfl (Grows.refl _)) (by simp [go_sem, hev.const] <;> rfl)
    case oS01 => intro ev wo hev hC hs hph; have x0 := se hA hs 0; exact od rfl rfl (by kernel_rfl) hC (TSp.of rfl (Grows.refl _)) (by simp [go_sem, x0] <;> rfl)
    case oS02 => intro ev wo hev hC hs hph; have x0 := sd hs 19 1; exact od rfl rfl (by kernel_rfl) hC (TSp.of rfl (Grows.refl _)) (by simp [go_sem, x0, hev.const, k2, k3, k4, hsz] <;> rfl)
    case oS03 =>
      intro ev wo hev hC hs hph
      have e2 := se hA hs 2
      have e18 := sd hs 18 0
      obtain ⟨x, y, Kx⟩ := hC.2
      obtain ⟨hK2, hs9⟩ := set2 (.int .i64 3) (.string ⟨#[]⟩) Kx
      exact ob_yes (wanted_none rfl) (does_skip (w' := setAll wo w.heap.size 0 [.int .i64 3, .string ⟨#[]⟩]) (by simp [go_sem, e2, e18, Kx.cell, Kx.frozen, setAll]) ⟨⟨hC.1.only hs9 (.inr rfl), _, _, hK2⟩, TSp.sp rfl hs9, rfl, (List.forall_mem_cons.2 ⟨fun _ => hK2, (fun _ h => by cases h)⟩)⟩)
    intro sg wf hC hph
    intro a hA
    replace hA := hA.keepN [2, 20]
    replace K := (hph _ List.mem_cons_self rfl)
    replace HB := HB.trans ((hC.1.toBelow (fun i hi => by omega) (by omega)).mono (Nat.le_refl _))
    revert a; (iterate 2 refine wo rfl rfl (by decide) (fun ev e h => by simp [go_sem, h, K.cell] <;> rfl) ?_); intro a hA
    replace hA := hA.keepN [2, 3, 4]
    refine wN (nT (wp_ret (rB (rT ?_))))
    refine bodyPost_ret (by simp [results, Tryd.results20, go_sem, hA.env 2 _ rfl, hA.env 3 _ rfl, hA.env 4 _ rfl, K.cell]; try first | exact ⟨rfl, rfl⟩ | rfl) hA.defers ?_
    exact ⟨_, _, _, _, rfl, hR, HB⟩
  case nA =>
    have n40 : c ≠ 40 := fun e => by subst e; simp at hq
    refine wS (wR ?_)
    revert a; (iterate 3 refine wo rfl rfl (by decide) (fun ev e h => by simp [go_sem, h, hsz, g1, i1] <;> rfl) ?_); intro a hA
    replace hA := hA.keepN [0, 2, 5, 21]
    refine wN (nT ?_)
    refine wp_if hA 21 _ rfl (fun hq2 => ?yB) (fun hq2 => ?nB)
    case yB =>
      have hc : c = 41 := by
        simp at hq2
        exact UInt8.toNat_inj.1 (by show c.toNat = 41; omega)
      have hR : oneR L 4 ⟨#[]⟩ (St r) true := by
        rw [← hL, hc]
        exact ⟨rfl, rfl, rfl, rfl⟩
      refine wS ?_
      refine wp_region_split 4 ?_
      simp only [List.take_succ_cons, List.take_zero, List.drop_succ_cons, List.drop_zero]
      refine wp_any_split_at hA [(.det ?dS0), (.det ?dS1), (.det ?dS2), (.det undef)] [⟨(some 3), none, [], fun _ => (fun wy => Blk wy w.heap.size 33 #[.int .i64 4, .string ⟨#[]⟩]), fun _ _ _ _ h => h⟩] (fun wy => Apart (fun i => i = w.heap.size) w0 wy ∧ ∃ x y, Blk wy w.heap.size 33 #[x, y]) (TSp [(3, (fun wy wz => Only w.heap.size wy wz))] Grows) (by kernel_rfl) rfl (by kernel_rfl) (by kernel_rfl) rfl (by kernel_rfl) (by kernel_rfl) (by kernel_rfl) (by kernel_rfl) (⟨⟨rfl, rfl, rfl, Nat.le_refl _, fun _ _ _ => rfl⟩, _, _, K⟩) (stab_sp [(3, (fun wy wz => Only w.heap.size wy wz))] [true, true, true, true] [true, true, true, true] [] rfl rfl rfl (by kernel_rfl) ⟨trivial, trivial, trivial, trivial, trivial⟩ trivial) (List.forall_mem_cons.2 ⟨(fun hn => by cases hn), (fun _ h => by cases h)⟩) (phase_sp [(3, (fun wy wz => Only w.heap.size wy wz))] [((some 3), none)] [] rfl (by kernel_rfl) (List.forall_mem_cons.2 ⟨fun _ => fun _ _ _ hp hb => hp.below hb hp.lt, (fun _ h => by cases h)⟩) trivial) (List.forall_mem_cons.2 ⟨(fun a h => by first | (exact (no_1 h).elim) | (injection h with h; subst h; exact Nat.le_of_ble_eq_true rfl)), (fun _ h => by cases h)⟩) ⟨?oS0, ?oS1, ?oS2, ?oS3, trivial⟩ (by kernel_rfl) ?fS
      case oS0 => intro ev wo hev hC hs hph; exact od rfl rfl (by kernel_rfl) hC (TSp.of rfl (Grows.refl _)) (by simp [go_sem, hev.const] <;> rfl)
      case oS1 => intro ev wo hev hC hs hph; have x0 := se hA hs 0; exact od rfl rfl (by kernel_rfl) hC (TSp.of rfl (Grows.refl _)) (by simp [go_sem, x0] <;> rfl)
      case oS2 => intro ev wo hev hC hs hph; have x0 := sd hs 25 1; exact od rfl rfl (by kernel_rfl) hC (TSp.of rfl (Grows.refl _)) (by simp [go_sem, x0, hev.const, k2, k3, k4, hsz] <;> rfl)
      case oS3 =>
        intro ev wo hev hC hs hph
        have e2 := se hA hs 2
        have e24 := sd hs 24 0
        obtain ⟨x, y, Kx⟩ := hC.2
        obtain ⟨hK2, hs9⟩ := set2 (.int .i64 4) (.string ⟨#[]⟩) Kx
        exact ob_yes (wanted_none rfl) (does_skip (w' := setAll wo w.heap.size 0 [.int .i64 4, .string ⟨#[]⟩]) (by simp [go_sem, e2, e24, Kx.cell, Kx.frozen, setAll]) ⟨⟨hC.1.only hs9 (.inr rfl), _, _, hK2⟩, TSp.sp rfl hs9, rfl, (List.forall_mem_cons.2 ⟨fun _ => hK2, (fun _ h => by cases h)⟩)⟩)
      intro sg wf hC hph
      intro a hA
      replace hA := hA.keepN [2, 26]
      replace K := (hph _ List.mem_cons_self rfl)
      replace HB := HB.trans ((hC.1.toBelow (fun i hi => by omega) (by omega)).mono (Nat.le_refl _))
      revert a; (iterate 2 refine wo rfl rfl (by decide) (fun ev e h => by simp [go_sem, h, K.cell] <;> rfl) ?_); intro a hA
      replace hA := hA.keepN [2, 3, 4]
      refine wN (nT (wp_ret (rB (rT ?_))))
      refine bodyPost_ret (by simp [results, Tryd.results20, go_sem, hA.env 2 _ rfl, hA.env 3 _ rfl, hA.env 4 _ rfl, K.cell]; try first | exact ⟨rfl, rfl⟩ | rfl) hA.defers ?_
      exact ⟨_, _, _, _, rfl, hR, HB⟩
    case nB =>
      have n41 : c ≠ 41 := fun e => by subst e; simp at hq2
      refine wS (wR ?_)
      revert a; (iterate 3 refine wo rfl rfl (by decide) (fun ev e h => by simp [go_sem, h, hsz, g1, i1] <;> rfl) ?_); intro a hA
      replace hA := hA.keepN [0, 2, 5, 27]
      refine wN (nT ?_)
      refine wp_if hA 27 _ rfl (fun hq3 => ?yC) (fun hq3 => ?nC)
      case yC =>
        have hc : c = 34 := by
          simp at hq3
          exact UInt8.toNat_inj.1 (by show c.toNat = 34; omega)
        have hQ := quoted_any c r w0 hl
        obtain ⟨t9, q9, b9, hcut, hform⟩ := cutR_form (quotedS [] r)
        rw [hL, hcut] at hQ
        have hR : oneR L 2 t9 q9 b9 := one_cut (by rw [← hL, hc]; rfl) hform
        refine wS (wR ?_)
        revert a; refine wo rfl rfl (by decide) (fun ev e h => by simp [go_sem, h, hsz, g1, i1] <;> rfl) ?_; intro a hA
        refine wl_call hA rfl rfl (by decide) (fun ev h => exec_call Tryd.func27 (by kernel_rfl) rfl (h.f _) (by first | (simp only [mL, h.get 31 rfl, h.c] <;> rfl) | (simp [mL, h.get 31 rfl, h.c, hsz, g1, i1] <;> rfl))) (hQ) ?_
        rintro e w1 ⟨rfl, hb1⟩
        refine ⟨_, rfl, fun a hA => ?_⟩
        replace K := K.below hb1 K.lt
        replace HB := HB.trans (hb1.mono HB.size)
        revert a; (iterate 7 refine wo rfl rfl (by decide) (fun ev e h => by simp [go_sem, h, hsz, g1, i1] <;> rfl) ?_); intro a hA
        replace hA := hA.keepN [2, 6, 7, 8]
        refine wN (nT (wS (wR ?_)))
        revert a; (iterate 4 refine wo rfl rfl (by decide) (fun ev e h => by simp [go_sem, h, hsz, g1, i1] <;> rfl) ?_); intro a hA
        refine wl_set [.int .i64 2, .string t9] hA rfl rfl K (by rfl) (fun ev h => by simp [go_sem, h.get 2 rfl, h.get 37 rfl, hsz, g1, i1, setAll, K.cell, K.frozen]) fun w2 (K : Blk _ _ _ _) hs2 => ?_
        revert a; (iterate 2 refine wo rfl rfl (by decide) (fun ev e h => by simp [go_sem, h, K.cell] <;> rfl) ?_); intro a hA
        replace hA := hA.keepN [2, 3, 4]
        refine wN (nT (wp_ret (rB (rT ?_))))
        refine bodyPost_ret (by simp [results, Tryd.results20, go_sem, hA.env 2 _ rfl, hA.env 3 _ rfl, hA.env 4 _ rfl, K.cell]; try first | exact ⟨rfl, rfl⟩ | rfl) hA.defers ?_
        exact ⟨_, _, _, _, rfl, hR, hs2.below HB (Nat.le_refl _)⟩
      case nC =>
        have n34 : c ≠ 34 := fun e => by subst e; simp at hq3
        refine wS (wR ?_)
        revert a; (iterate 3 refine wo rfl rfl (by decide) (fun ev e h => by simp [go_sem, h, hsz, g1, i1] <;> rfl) ?_); intro a hA
        replace hA := hA.keepN [0, 2, 40]
        refine wN (nT ?_)
        refine wp_if hA 40 _ rfl (fun hq4 => ?yD) (fun hq4 => ?nD)
        case yD =>
          have hc : c = 123 := by
            simp at hq4
            exact UInt8.toNat_inj.1 (by show c.toNat = 123; omega)
          have hQ := counted_any r m w0 ((HB.cell hm0).trans hm) hl
          obtain ⟨t9, q9, b9, hcut, hform⟩ := cutR_form (countedS (123 :: r))
          have hLc : 123 :: r = L := by rw [← hc]; exact hL
          rw [hcut, hLc] at hQ
          have hR : oneR L 2 t9 q9 b9 := one_cut (by rw [← hL, hc]; rfl) hform
          refine wS (wR ?_)
          revert a; refine wo rfl rfl (by decide) (fun ev e h => by simp [go_sem, h, hsz, g1, i1] <;> rfl) ?_; intro a hA
          refine wl_call hA rfl rfl (by decide) (fun ev h => exec_call Tryd.func28 (by kernel_rfl) rfl (h.f _) (by first | (simp only [mL, h.get 44 rfl, h.c] <;> rfl) | (simp [mL, h.get 44 rfl, h.c, hsz, g1, i1] <;> rfl))) (hQ) ?_
          rintro e w1 ⟨rfl, hb1⟩
          refine ⟨_, rfl, fun a hA => ?_⟩
          replace K := K.below hb1 K.lt
          replace HB := HB.trans (hb1.mono HB.size)
          revert a; (iterate 7 refine wo rfl rfl (by decide) (fun ev e h => by simp [go_sem, h, hsz, g1, i1] <;> rfl) ?_); intro a hA
          replace hA := hA.keepN [2, 9, 10, 11]
          refine wN (nT (wS (wR ?_)))
          revert a; (iterate 4 refine wo rfl rfl (by decide) (fun ev e h => by simp [go_sem, h, hsz, g1, i1] <;> rfl) ?_); intro a hA
          refine wl_set [.int .i64 2, .string t9] hA rfl rfl K (by rfl) (fun ev h => by simp [go_sem, h.get 2 rfl, h.get 50 rfl, hsz, g1, i1, setAll, K.cell, K.frozen]) fun w2 (K : Blk _ _ _ _) hs2 => ?_
          revert a; (iterate 2 refine wo rfl rfl (by decide) (fun ev e h => by simp [go_sem, h, K.cell] <;> rfl) ?_); intro a hA
          replace hA := hA.keepN [2, 3, 4]
          refine wN (nT (wp_ret (rB (rT ?_))))
          refine bodyPost_ret (by simp [results, Tryd.results20, go_sem, hA.env 2 _ rfl, hA.env 3 _ rfl, hA.env 4 _ rfl, K.cell]; try first | exact ⟨rfl, rfl⟩ | rfl) hA.defers ?_
          exact ⟨_, _, _, _, rfl, hR, hs2.below HB (Nat.le_refl _)⟩
        case nD =>
          have n123 : c ≠ 123 := fun e => by subst e; simp at hq4
          refine wp_skip (nB (nT (wS (wR ?_))))
          revert a; refine wo rfl rfl (by decide) (fun ev e h => by simp [go_sem, h, hsz, g1, i1] <;> rfl) ?_; intro a hA
          replace hA := hA.keepN [0, 2, 12]
          refine wN (nT (wS (wB ?_)))
          refine wp_loop_at (fun f a wx => ∃ (p : Nat), p + f = L.length ∧ (∀ x ∈ L.take p, plainB x = true) ∧ Blk wx w.heap.size 33 #[.int .i64 0, .string ⟨#[]⟩] ∧ Below w.heap.size w wx ∧ At 74 [(0, .string (St L)), (2, .pointer (some ⟨w.heap.size, 0, none⟩)), (12, .int .i64 (p : Nat))] a) (L.length) ?_ ?_
          · exact ⟨0, by omega, fun x hx => (by cases hx), K, HB, hA⟩
          clear hA K HB
          rintro f a wx ⟨p, hpf, hpl, K, HB, hA⟩
          rcases Nat.lt_or_ge p L.length with hlt | hge
          · obtain ⟨y, hy⟩ : ∃ y, L[p]? = some y := ⟨_, List.getElem?_eq_getElem hlt⟩
            have g2 : ∀ h : p < (St L).size, (St L)[p] = y := fun h => (List.getElem?_eq_some_iff.1 hy).2
            have j1 : IntKind.i64.wrap ((p : Nat) : Int) = ((p : Nat) : Int) := IntWalk.i64_in _ (by omega)
            have j2 : ((p : Nat) : Int) < ((L.length : Nat) : Int) := by omega
            have j3 : IntKind.i64.wrap (((p : Nat) : Int) + 1) = ((p + 1 : Nat) : Int) := by rw [IntWalk.i64_in _ (by omega)]; omega
            obtain ⟨z, hz⟩ : ∃ z, decide (((p : Nat) : Int) < ((L.length : Nat) : Int)) = z := ⟨_, rfl⟩
            have hzt : z = true := by rw [← hz]; simpa using hlt
            refine wS (wS (wR ?_))
            revert a; (iterate 5 refine wo rfl rfl (by decide) (fun ev e h => by simp [go_sem, h, hsz, g2, j1, hlt] <;> rfl) ?_); (iterate 3 refine wg _ rfl rfl rfl rfl (by decide) (fun hq ev e h => by simp [go_sem, h, ↓gw_t (beq_t hq), hsz, g2, j1, hlt] <;> rfl) ?_); intro a hA
            refine wl_gcallv _ hA rfl rfl rfl rfl (by decide) (fun hq ev h => exec_call Tryd.func29 (by kernel_rfl) rfl (h.f _) (by first | (simp only [mL, ((h.get 60 rfl).trans (gw_t (beq_t hq))), h.c] <;> rfl) | (simp [mL, ((h.get 60 rfl).trans (gw_t (beq_t hq))), h.c, hsz, g2, j1, hlt] <;> rfl))) (fun hq => plain_any y _) fun a w1 hb1 hA => ?_
            replace K := K.below hb1 K.lt
            replace HB := HB.trans (hb1.mono HB.size)
            revert a; (first | refine wka rfl rfl (by decide) rfl rfl rfl ?_ | refine wo rfl rfl (by decide) (fun ev e h => by simp [go_sem, h, gv_or, gv_and, hsz, g2, j1, hlt] <;> rfl) ?_); intro a hA
            replace hA := hA.keepN [0, 2, 12, 62]
            refine wN (nT ?_)
            refine wp_if hA 62 _ rfl (fun hq5 => ?yM) (fun hq5 => ?nM)
            case yM =>
              refine wp_skip (nT (wB (wR ?_)))
              revert a; (iterate 3 refine wo rfl rfl (by decide) (fun ev e h => by simp [go_sem, h, j3] <;> rfl) ?_); intro a hA
              replace hA := hA.keepN [0, 2, 12]
              refine wN (nB (nT ?_))
              have hpy : plainB y = true := by simpa using hq5
              refine ⟨f - 1, by omega, p + 1, by omega, fun x hx => ?_, K, HB, hA⟩
              rw [List.take_add_one, hy] at hx
              rcases List.mem_append.1 hx with h | h
              · exact hpl x h
              · rw [List.mem_singleton.1 h]; exact hpy
            case nM =>
              have hpy : plainB y = false := by simpa using hq5
              have hend : ∀ x, L[p]? = some x → plainB x = false := fun x hx => by
                rw [hy] at hx
                injection hx with hx
                rw [← hx]; exact hpy
              have hR := one_atom (r := r) n40 n41 n34 n123 (n := p) (by rw [hL]; exact hpl) (by rw [hL]; exact hend)
              rw [hL] at hR
              replace hA := hA.keepN [0, 2, 12]
              refine wp_exit (xT (xT (xB (nT (wS ?_)))))
              have k5 : (St L).extract 0 p = St (L.take p) := extract_take L p
              have k6 : (St L).extract p L.length = St (L.drop p) := extract_drop L _ _ rfl
              have k7 : ((p : Nat) : Int) ≤ ((L.length : Nat) : Int) := by omega
              have k8 : p ≤ L.length := by omega
              refine wp_region_split 11 ?_
              simp only [List.take_succ_cons, List.take_zero, List.drop_succ_cons, List.drop_zero]
              refine wp_any_split_at hA [(.det ?dV10), (.det ?dV11), (.det ?dV12), (.det ?dV13), (.det ?dV14), (.det ?dV15), (.det ?dV16), (.det ?dV17), (.det ?dV18), (.det undef), (.det ?dV110)] [⟨(some 9), none, [], fun _ => (fun wy => Blk wy w.heap.size 33 #[.int .i64 1, .string (St (L.take p))]), fun _ _ _ _ h => h⟩] (fun wy => Apart (fun i => i = w.heap.size) w1 wy ∧ ∃ x y, Blk wy w.heap.size 33 #[x, y]) (TSp [(9, (fun wy wz => Only w.heap.size wy wz))] Grows) (by kernel_rfl) rfl (by kernel_rfl) (by kernel_rfl) rfl (by kernel_rfl) (by kernel_rfl) (by kernel_rfl) (by kernel_rfl) (⟨⟨rfl, rfl, rfl, Nat.le_refl _, fun _ _ _ => rfl⟩, _, _, K⟩) (stab_sp [(9, (fun wy wz => Only w.heap.size wy wz))] [true, true, true, true, true, true, true, true, true, true, true] [true, true, true, true, true, true, true, true, true, true, true] [] rfl rfl rfl (by kernel_rfl) ⟨trivial, trivial, trivial, trivial, trivial, trivial, trivial, trivial, trivial, trivial, trivial, trivial⟩ trivial) (List.forall_mem_cons.2 ⟨(fun hn => by cases hn), (fun _ h => by cases h)⟩) (phase_sp [(9, (fun wy wz => Only w.heap.size wy wz))] [((some 9), none)] [] rfl (by kernel_rfl) (List.forall_mem_cons.2 ⟨fun _ => fun _ _ _ hp hb => hp.below hb hp.lt, (fun _ h => by cases h)⟩) trivial) (List.forall_mem_cons.2 ⟨(fun a h => by first | (exact (no_1 h).elim) | (injection h with h; subst h; exact Nat.le_of_ble_eq_true rfl)), (fun _ h => by cases h)⟩) ⟨?oV10, ?oV11, ?oV12, ?oV13, ?oV14, ?oV15, ?oV16, ?oV17, ?oV18, ?oV19, ?oV110, trivial⟩ (by kernel_rfl) ?fV1
              case oV10 => intro ev wo hev hC hs hph; have x0 := se hA hs 0; exact od rfl rfl (by kernel_rfl) hC (TSp.of rfl (Grows.refl _)) (by simp [go_sem, x0] <;> rfl)
              case oV11 => intro ev wo hev hC hs hph; have x0 := se hA hs 12; exact od rfl rfl (by kernel_rfl) hC (TSp.of rfl (Grows.refl _)) (by simp [go_sem, x0] <;> rfl)
              case oV12 => intro ev wo hev hC hs hph; have x0 := sd hs 65 0; have x1 := sd hs 66 1; exact od rfl rfl (by kernel_rfl) hC (TSp.of rfl (Grows.refl _)) (by simp [go_sem, x0, x1, k5, k7, k8, hsz] <;> rfl)
              case oV13 => intro ev wo hev hC hs hph; have x0 := sd hs 67 2; exact od rfl rfl (by kernel_rfl) hC (TSp.of rfl (Grows.refl _)) (by simp [go_sem, x0, hev.const] <;> rfl)
              case oV14 => intro ev wo hev hC hs hph; have x0 := se hA hs 0; exact od rfl rfl (by kernel_rfl) hC (TSp.of rfl (Grows.refl _)) (by simp [go_sem, x0] <;> rfl)
              case oV15 => intro ev wo hev hC hs hph; have x0 := se hA hs 12; exact od rfl rfl (by kernel_rfl) hC (TSp.of rfl (Grows.refl _)) (by simp [go_sem, x0] <;> rfl)
              case oV16 => intro ev wo hev hC hs hph; have x0 := sd hs 69 4; have x1 := sd hs 70 5; exact od rfl rfl (by kernel_rfl) hC (TSp.of rfl (Grows.refl _)) (by simp [go_sem, x0, x1, k6, k7, k8, hsz] <;> rfl)
              case oV17 => intro ev wo hev hC hs hph; have x0 := se hA hs 12; exact od rfl rfl (by kernel_rfl) hC (TSp.of rfl (Grows.refl _)) (by simp [go_sem, x0] <;> rfl)
              case oV18 => intro ev wo hev hC hs hph; have x0 := sd hs 72 7; exact od rfl rfl (by kernel_rfl) hC (TSp.of rfl (Grows.refl _)) (by simp [go_sem, x0, hev.const] <;> rfl)
              case oV19 =>
                intro ev wo hev hC hs hph
                have e2 := se hA hs 2
                have e68 := sd hs 68 3
                obtain ⟨x, y, Kx⟩ := hC.2
                obtain ⟨hK2, hs9⟩ := set2 (.int .i64 1) (.string (St (L.take p))) Kx
                exact ob_yes (wanted_none rfl) (does_skip (w' := setAll wo w.heap.size 0 [.int .i64 1, .string (St (L.take p))]) (by simp [go_sem, e2, e68, Kx.cell, Kx.frozen, setAll]) ⟨⟨hC.1.only hs9 (.inr rfl), _, _, hK2⟩, TSp.sp rfl hs9, rfl, (List.forall_mem_cons.2 ⟨fun _ => hK2, (fun _ h => by cases h)⟩)⟩)
              case oV110 => intro ev wo hev hC hs hph; have x0 := sd hs 71 6; exact od rfl rfl (by kernel_rfl) hC (TSp.of rfl (Grows.refl _)) (by simp [go_sem, x0] <;> rfl)
              intro sg wf hC hph
              intro a hA
              replace hA := hA.keepN [2, 3, 73]
              replace K := (hph _ List.mem_cons_self rfl)
              replace HB := HB.trans ((hC.1.toBelow (fun i hi => by omega) HB.size).mono (Nat.le_refl _))
              revert a; refine wo rfl rfl (by decide) (fun ev e h => by simp [go_sem, h, K.cell] <;> rfl) ?_; intro a hA
              replace hA := hA.keepN [2, 3, 4]
              refine wN (nT (wp_ret ?_))
              refine bodyPost_ret (by simp [results, Tryd.results20, go_sem, hA.env 2 _ rfl, hA.env 3 _ rfl, hA.env 4 _ rfl, K.cell]; try first | exact ⟨rfl, rfl⟩ | rfl) hA.defers ?_
              exact ⟨_, _, _, _, rfl, hR, HB⟩
          · have hend : ∀ x, L[p]? = some x → plainB x = false := fun x hx => by
              rw [List.getElem?_eq_none hge] at hx
              cases hx
            have j2 : ¬ p < L.length := by omega
            have j3 : ¬ ((p : Nat) : Int) < ((L.length : Nat) : Int) := by omega
            refine wS (wS (wR ?_))
            refine wl_op hA rfl rfl (by decide) (fun ev h => by simp [go_sem, h.get 12 rfl, hsz, j2, j3]; try first | exact ⟨rfl, rfl⟩ | rfl) fun a hA => ?_
            refine wl_op hA rfl rfl (by decide) (fun ev h => by simp [go_sem, h.get 0 rfl, hsz, j2, j3]; try first | exact ⟨rfl, rfl⟩ | rfl) fun a hA => ?_
            refine wl_op hA rfl rfl (by decide) (fun ev h => by simp [go_sem, h.get 54 rfl, hsz, j2, j3]; try first | exact ⟨rfl, rfl⟩ | rfl) fun a hA => ?_
            refine wl_op hA rfl rfl (by decide) (fun ev h => by simp [go_sem, h.get 53 rfl, h.get 55 rfl, hsz, j2, j3]; try first | exact ⟨rfl, rfl⟩ | rfl) fun a hA => ?_
            refine wl_op hA rfl rfl (by decide) (fun ev h => by simp [go_sem, h.get 56 rfl, hsz, j2, j3]; try first | exact ⟨rfl, rfl⟩ | rfl) fun a hA => ?_
            refine wl_guard _ (v := .bool false) hA rfl rfl rfl rfl (by decide) (fun hq ev h => by first | (cases hq; done) | (cases hr; done)) fun a hA => ?_
            refine wl_guard _ (v := .bool false) hA rfl rfl rfl rfl (by decide) (fun hq ev h => by first | (cases hq; done) | (cases hr; done)) fun a hA => ?_
            refine wl_guard _ (v := .bool false) hA rfl rfl rfl rfl (by decide) (fun hq ev h => by first | (cases hq; done) | (cases hr; done)) fun a hA => ?_
            refine wl_gcallv _ hA rfl rfl rfl rfl (by decide) (fun hq ev h => exec_call Tryd.func29 (by kernel_rfl) rfl (h.f _) (by first | (simp only [mL, ((h.get 60 rfl).trans (gw_t (beq_t hq))), h.c] <;> rfl) | (simp [mL, ((h.get 60 rfl).trans (gw_t (beq_t hq))), h.c, hsz, j2, j3] <;> rfl))) (fun hq => (show Calls Tryd.prog _ _ _ (fun e w' => e = .returned (.bool false) ∧ Below wx.heap.size wx w') from by cases hq)) fun a w1 hb1 hA => ?_
            replace K := K.below hb1 K.lt
            replace HB := HB.trans (hb1.mono HB.size)
            revert a; (first | refine wka rfl rfl (by decide) rfl rfl rfl ?_ | refine wo rfl rfl (by decide) (fun ev e h => by simp [go_sem, h, gv_or, gv_and, hsz, j2, j3] <;> rfl) ?_); intro a hA
            replace hA := hA.keepN [0, 2, 12, 62]
            refine wN (nT ?_)
            refine wp_if hA 62 _ rfl (fun hq5 => ?yM2) (fun hq5 => ?nM2)
            case yM2 => simp at hq5
            case nM2 =>
              have hR := one_atom (r := r) n40 n41 n34 n123 (n := p) (by rw [hL]; exact hpl) (by rw [hL]; exact hend)
              rw [hL] at hR
              replace hA := hA.keepN [0, 2, 12]
              refine wp_exit (xT (xT (xB (nT (wS ?_)))))
              have k5 : (St L).extract 0 p = St (L.take p) := extract_take L p
              have k6 : (St L).extract p L.length = St (L.drop p) := extract_drop L _ _ rfl
              have k7 : ((p : Nat) : Int) ≤ ((L.length : Nat) : Int) := by omega
              have k8 : p ≤ L.length := by omega
              refine wp_region_split 11 ?_
              simp only [List.take_succ_cons, List.take_zero, List.drop_succ_cons, List.drop_zero]
              refine wp_any_split_at hA [(.det ?dV20), (.det ?dV21), (.det ?dV22), (.det ?dV23), (.det ?dV24), (.det ?dV25), (.det ?dV26), (.det ?dV27), (.det ?dV28), (.det undef), (.det ?dV210)] [⟨(some 9), none, [], fun _ => (fun wy => Blk wy w.heap.size 33 #[.int .i64 1, .string (St (L.take p))]), fun _ _ _ _ h => h⟩] (fun wy => Apart (fun i => i = w.heap.size) w1 wy ∧ ∃ x y, Blk wy w.heap.size 33 #[x, y]) (TSp [(9, (fun wy wz => Only w.heap.size wy wz))] Grows) (by kernel_rfl) rfl (by kernel_rfl) (by kernel_rfl) rfl (by kernel_rfl) (by kernel_rfl) (by kernel_rfl) (by kernel_rfl) (⟨⟨rfl, rfl, rfl, Nat.le_refl _, fun _ _ _ => rfl⟩, _, _, K⟩) (stab_sp [(9, (fun wy wz => Only w.heap.size wy wz))] [true, true, true, true, true, true, true, true, true, true, true] [true, true, true, true, true, true, true, true, true, true, true] [] rfl rfl rfl (by kernel_rfl) ⟨trivial, trivial, trivial, trivial, trivial, trivial, trivial, trivial, trivial, trivial, trivial, trivial⟩ trivial) (List.forall_mem_cons.2 ⟨(fun hn => by cases hn), (fun _ h => by cases h)⟩) (phase_sp [(9, (fun wy wz => Only w.heap.size wy wz))] [((some 9), none)] [] rfl (by kernel_rfl) (List.forall_mem_cons.2 ⟨fun _ => fun _ _ _ hp hb => hp.below hb hp.lt, (fun _ h => by cases h)⟩) trivial) (List.forall_mem_cons.2 ⟨(fun a h => by first | (exact (no_1 h).elim) | (injection h with h; subst h; exact Nat.le_of_ble_eq_true rfl)), (fun _ h => by cases h)⟩) ⟨?oV20, ?oV21, ?oV22, ?oV23, ?oV24, ?oV25, ?oV26, ?oV27, ?oV28, ?oV29, ?oV210, trivial⟩ (by kernel_rfl) ?fV2
              case oV20 => intro ev wo hev hC hs hph; have x0 := se hA hs 0; exact od rfl rfl (by kernel_rfl) hC (TSp.of rfl (Grows.refl _)) (by simp [go_sem, x0] <;> rfl)
              case oV21 => intro ev wo hev hC hs hph; have x0 := se hA hs 12; exact od rfl rfl (by kernel_rfl) hC (TSp.of rfl (Grows.refl _)) (by simp [go_sem, x0] <;> rfl)
              case oV22 => intro ev wo hev hC hs hph; have x0 := sd hs 65 0; have x1 := sd hs 66 1; exact od rfl rfl (by kernel_rfl) hC (TSp.of rfl (Grows.refl _)) (by simp [go_sem, x0, x1, k5, k7, k8, hsz] <;> rfl)
              case oV23 => intro ev wo hev hC hs hph; have x0 := sd hs 67 2; exact od rfl rfl (by kernel_rfl) hC (TSp.of rfl (Grows.refl _)) (by simp [go_sem, x0, hev.const] <;> rfl)
              case oV24 => intro ev wo hev hC hs hph; have x0 := se hA hs 0; exact od rfl rfl (by kernel_rfl) hC (TSp.of rfl (Grows.refl _)) (by simp [go_sem, x0] <;> rfl)
              case oV25 => intro ev wo hev hC hs hph; have x0 := se hA hs 12; exact od rfl rfl (by kernel_rfl) hC (TSp.of rfl (Grows.refl _)) (by simp [go_sem, x0] <;> rfl)
              case oV26 => intro ev wo hev hC hs hph; have x0 := sd hs 69 4; have x1 := sd hs 70 5; exact od rfl rfl (by kernel_rfl) hC (TSp.of rfl (Grows.refl _)) (by simp [go_sem, x0, x1, k6, k7, k8, hsz] <;> rfl)
              case oV27 => intro ev wo hev hC hs hph; have x0 := se hA hs 12; exact od rfl rfl (by kernel_rfl) hC (TSp.of rfl (Grows.refl _)) (by simp [go_sem, x0] <;> rfl)
              case oV28 => intro ev wo hev hC hs hph; have x0 := sd hs 72 7; exact od rfl rfl (by kernel_rfl) hC (TSp.of rfl (Grows.refl _)) (by simp [go_sem, x0, hev.const] <;> rfl)
              case oV29 =>
                intro ev wo hev hC hs hph
                have e2 := se hA hs 2
                have e68 := sd hs 68 3
                obtain ⟨x, y, Kx⟩ := hC.2
                obtain ⟨hK2, hs9⟩ := set2 (.int .i64 1) (.string (St (L.take p))) Kx
                exact ob_yes (wanted_none rfl) (does_skip (w' := setAll wo w.heap.size 0 [.int .i64 1, .string (St (L.take p))]) (by simp [go_sem, e2, e68, Kx.cell, Kx.frozen, setAll]) ⟨⟨hC.1.only hs9 (.inr rfl), _, _, hK2⟩, TSp.sp rfl hs9, rfl, (List.forall_mem_cons.2 ⟨fun _ => hK2, (fun _ h => by cases h)⟩)⟩)
              case oV210 => intro ev wo hev hC hs hph; have x0 := sd hs 71 6; exact od rfl rfl (by kernel_rfl) hC (TSp.of rfl (Grows.refl _)) (by simp [go_sem, x0] <;> rfl)
              intro sg wf hC hph
              intro a hA
              replace hA := hA.keepN [2, 3, 73]
              replace K := (hph _ List.mem_cons_self rfl)
              replace HB := HB.trans ((hC.1.toBelow (fun i hi => by omega) HB.size).mono (Nat.le_refl _))
              revert a; refine wo rfl rfl (by decide) (fun ev e h => by simp [go_sem, h, K.cell] <;> rfl) ?_; intro a hA
              replace hA := hA.keepN [2, 3, 4]
              refine wN (nT (wp_ret ?_))
              refine bodyPost_ret (by simp [results, Tryd.results20, go_sem, hA.env 2 _ rfl, hA.env 3 _ rfl, hA.env 4 _ rfl, K.cell]; try first | exact ⟨rfl, rfl⟩ | rfl) hA.defers ?_
              exact ⟨_, _, _, _, rfl, hR, HB⟩
end Go.Proofs.YtaljodmhalodhaaDoor
/-
  Walk: lex.apart.
-/
namespace Go.Proofs.YtaljodmhalodhaaDoor
open Go.RowKit
set_option linter.unusedSimpArgs false
set_option linter.unusedVariables false
def apartR (l : List UInt8) (k : Nat) (s : ByteArray) (b : Bool) : Prop := match apartS l k with
  | some r => s = St r ∧ b = true
  | none => b = false
theorem ne_u8 {d : UInt8} {n : Nat} (hn : n < 256) : (((d.toNat : Nat) : Int) != (n : Int)) = !(d == UInt8.ofNat n) := by
  rw [← u8_eq d n hn]
  rfl
theorem apart_blank (d : UInt8) (r : List UInt8) (k : Nat) : apartR (32 :: d :: r) k (St (d :: r)) ((((d.toNat : Nat) : Int) != 32) && (((d.toNat : Nat) : Int) != 41) && (((k : Nat) : Int) != 3)) := by
  rw [show (((d.toNat : Nat) : Int) != 32) = !(d == 32) from ne_u8 (n := 32) (by decide), show (((d.toNat : Nat) : Int) != 41) = !(d == 41) from ne_u8 (n := 41) (by decide)]
  unfold apartR apartS
  simp only [if_true]
  by_cases h : d ≠ 32 ∧ d ≠ 41 ∧ k ≠ 3
  · rw [if_pos h]
    obtain ⟨h1, h2, h3⟩ := h
    refine ⟨rfl, ?_⟩
    simp [h1, h2]
    omega
  · rw [if_neg h]
    simp only []
    by_cases h1 : d = 32
    · simp [h1]
    by_cases h2 : d = 41
    · simp [h2]
    have h3 : k = 3 := by
      rcases Nat.lt_or_ge k 3 with h4 | h4
      · exact absurd ⟨h1, h2, by omega⟩ h
      · rcases Nat.lt_or_ge 3 k with h5 | h5
        · exact absurd ⟨h1, h2, by omega⟩ h
        · omega
    simp [h3]
theorem apart_none (d : UInt8) (r : List UInt8) (k : Nat) (hd : d ≠ 32) : apartR (d :: r) k (St (d :: r)) ((((d.toNat : Nat) : Int) == 41) || (((k : Nat) : Int) == 3)) := by
  rw [show (((d.toNat : Nat) : Int) == 41) = (d == 41) from u8_eq d 41 (by decide)]
  have e : apartS (d :: r) k = if d = 41 ∨ k = 3 then some (d :: r) else none := by
    unfold apartS
    simp only []
    rw [if_neg hd]
  unfold apartR
  rw [e]
  by_cases h : d = 41 ∨ k = 3
  · rw [if_pos h]
    refine ⟨rfl, ?_⟩
    rcases h with h | h
    · simp [h]
    · simp [h]
  · rw [if_neg h]
    have h1 : d ≠ 41 := fun e => h (.inl e)
    have h2 : k ≠ 3 := fun e => h (.inr e)
    simp [h1]
    omega
set_option maxRecDepth 100000 in
set_option maxHeartbeats 4000000 in
theorem apart_any (l : List UInt8) (k : Nat) (t : ByteArray) (w : World) (hl : l.length ≤ 1000000) : Calls Tryd.prog 21 #[.string (St l), .agg #[.int .i64 (k : Nat), .string t]] w fun ev w' => ∃ s b, ev = .returned (.tuple #[.string s, .bool b]) ∧ apartR l k s b ∧ Below w.heap.size w w' := by
  have HB := Below.refl w.heap.size w
  obtain ⟨r, hr⟩ : ∃ r, Lib.trimPrefix l [32] = r := ⟨_, rfl⟩
  obtain ⟨q, hq0⟩ : ∃ q, Lib.hasPrefix l [32] = q := ⟨_, rfl⟩
  have hrl : r.length ≤ l.length := by
    rw [← hr]
    unfold Lib.trimPrefix
    split
    · rw [List.length_drop]; omega
    · exact Nat.le_refl _
  refine calls_at 41 Tryd.func21 rfl rfl (Nat.le_of_ble_eq_true rfl) ?_
  intro a hA; replace hA := hA.norm
  refine wS (wR ?_)
  refine wl_new hA rfl rfl (by decide) (fun ev h => by simp [go_sem, h.get 1 rfl]; try first | exact ⟨rfl, rfl⟩ | rfl) fun w0 a (K : Blk _ _ _ _) hz0 hb0 hA => ?_
  replace HB := HB.trans (hb0.mono HB.size)
  revert a; (iterate 2 refine wo rfl rfl (by decide) (fun ev e h => by simp [go_sem, h] <;> rfl) ?_); intro a hA
  replace hA := hA.keepN [0, 3]
  refine wN (nT (wS (wR ?_)))
  revert a; refine wo rfl rfl (by decide) (fun ev e h => by simp [go_sem, h] <;> rfl) ?_; intro a hA
  refine wl_call hA rfl rfl (by decide) (fun ev h => exec_call Tryd.func30 (by kernel_rfl) rfl (h.f _) (by first | (simp only [mL, h.get 9 rfl, h.c] <;> rfl) | (simp [mL, h.get 9 rfl, h.c] <;> rfl))) (Tryd.strings_CutPrefix (St l) (St [32]) w0) ?_
  rintro e w1 ⟨rfl, rfl⟩
  refine ⟨_, rfl, fun a hA => ?_⟩
  rw [show (⟨(Lib.trimPrefix (St l).data.toList (St [32]).data.toList).toArray⟩ : ByteArray) = St r by rw [← hr], show Lib.hasPrefix (St l).data.toList (St [32]).data.toList = q from hq0] at hA
  cases r with
  | nil =>
    revert a; (iterate 5 refine wo rfl rfl (by decide) (fun ev e h => by simp [go_sem, h] <;> rfl) ?_); intro a hA
    replace hA := hA.keepN [3, 6, 7]
    refine wN (nT (wS (wS (wR ?_))))
    revert a; (iterate 2 refine wo rfl rfl (by decide) (fun ev e h => by simp [go_sem, h] <;> rfl) ?_); intro a hA
    replace hA := hA.keepN [3, 6, 7, 14]
    refine wN (nT ?_)
    refine wp_if hA 14 _ rfl (fun hq => ?yA) (fun hq => ?nA)
    case nA => simp at hq
    case yA =>
      refine wS (wR ?_)
      revert a; (iterate 4 refine wo rfl rfl (by decide) (fun ev e h => by simp [go_sem, h] <;> rfl) ?_); intro a hA
      replace hA := hA.keepN [4, 5]
      refine wN (nT (wp_ret (rT ?_)))
      refine ret_2 hA 4 5 rfl rfl rfl ?_
      refine ⟨_, _, rfl, ?_, HB⟩
      unfold apartR
      cases l with
      | nil =>
        subst hq0
        exact ⟨rfl, rfl⟩
      | cons c r2 =>
        unfold Lib.trimPrefix at hr
        cases q with
        | false => rw [hq0, if_neg (by decide)] at hr; cases hr
        | true =>
          rw [hq0, if_pos rfl] at hr
          have h32 : c = 32 := by
            unfold Lib.hasPrefix at hq0
            simp [List.isPrefixOf] at hq0
            exact hq0.symm
          have hr2 : r2 = [] := hr
          subst h32 hr2
          rfl
  | cons d r2 =>
    have hne : (St (d :: r2) == (⟨#[]⟩ : ByteArray)) = false := by
      show ((d :: r2).toArray == #[]) = false
      refine beq_eq_false_iff_ne.2 fun e => ?_
      have := congrArg Array.size e
      simp at this
    have hsz : (St (d :: r2)).size = r2.length + 1 := rfl
    have g1 : ∀ h : 0 < (St (d :: r2)).size, (St (d :: r2))[0] = d := fun h => rfl
    have i1 : (0 : Int) < ((r2.length : Nat) : Int) + 1 := by omega
    have i2 : 0 < r2.length + 1 := by omega
    revert a; (iterate 5 refine wo rfl rfl (by decide) (fun ev e h => by simp [go_sem, h, hne] <;> rfl) ?_); intro a hA
    replace hA := hA.keepN [3, 6, 7]
    refine wN (nT (wS (wS (wR ?_))))
    revert a; (iterate 2 refine wo rfl rfl (by decide) (fun ev e h => by simp [go_sem, h, hne] <;> rfl) ?_); intro a hA
    replace hA := hA.keepN [3, 6, 7, 14]
    refine wN (nT ?_)
    refine wp_if hA 14 _ rfl (fun hq => ?yA) (fun hq => ?nA)
    case yA => simp at hq
    case nA =>
      refine wp_skip (nT (wS (wS (wR ?_))))
      revert a; refine wo rfl rfl (by decide) (fun ev e h => by simp [go_sem, h, hne] <;> rfl) ?_; intro a hA
      replace hA := hA.keepN [3, 6, 17]
      refine wN (nT ?_)
      refine wp_if hA 17 _ rfl (fun hq2 => ?yB) (fun hq2 => ?nB)
      case yB =>
        have hl2 : l = 32 :: d :: r2 := by
          unfold Lib.trimPrefix at hr
          rw [hq0, hq2, if_pos rfl] at hr
          cases l with
          | nil => cases hr
          | cons c r3 =>
            have h32 : c = 32 := by
              rw [hq2] at hq0
              unfold Lib.hasPrefix at hq0
              simp [List.isPrefixOf] at hq0
              exact hq0.symm
            have : r3 = d :: r2 := hr
            rw [h32, this]
        have pS := fun (wo : World) (hC : (fun wy => Below w1.heap.size w1 wy) wo) => have Kx := K.below hC K.lt; (Kx.cell)
        refine wS ?_
        refine wp_any_at hA [(.det ?dS0), (.det ?dS1), (.det ?dS2), (.det ?dS3), (.det ?dS4), (.det ?dS5), (.det ?dS6), (.det ?dS7), (.det ?dS8), (.det ?dS9), (.det ?dS10), (.det ?dS11), (.det ?dS12), (.det ?dS13), (.det ?dS14), (.det ?dS15)] [] (fun wy => Below w1.heap.size w1 wy) (TSp [] Grows) (by kernel_rfl) rfl (by kernel_rfl) (by kernel_rfl) rfl ((Below.refl _ _).drew) (stab_sp [] [true, true, true, true, true, true, true, true, true, true, true, true, true, true, true, true] [true, true, true, true, true, true, true, true, true, true, true, true, true, true, true, true] [] rfl rfl rfl (by kernel_rfl) ⟨trivial, trivial, trivial, trivial, trivial, trivial, trivial, trivial, trivial, trivial, trivial, trivial, trivial, trivial, trivial, trivial, trivial⟩ trivial) (fun _ h => by cases h) (fun _ _ _ _ _ h => by cases h) (fun _ h => by cases h) ⟨?oS0, ?oS1, ?oS2, ?oS3, ?oS4, ?oS5, ?oS6, ?oS7, ?oS8, ?oS9, ?oS10, ?oS11, ?oS12, ?oS13, ?oS14, ?oS15, trivial⟩ (by kernel_rfl) ?fS
        case oS0 => intro ev wo hev hC hs hph; have x0 := se hA hs 6; exact od rfl rfl (by kernel_rfl) hC (TSp.of rfl (Grows.refl _)) (by simp [go_sem, x0] <;> rfl)
        case oS1 => intro ev wo hev hC hs hph; have x0 := se hA hs 6; exact od rfl rfl (by kernel_rfl) hC (TSp.of rfl (Grows.refl _)) (by simp [go_sem, x0] <;> rfl)
        case oS2 => intro ev wo hev hC hs hph; have x0 := sd hs 19 1; exact od rfl rfl (by kernel_rfl) hC (TSp.of rfl (Grows.refl _)) (by simp [go_sem, x0, hev.const, hsz, g1, i1, i2] <;> rfl)
        case oS3 => intro ev wo hev hC hs hph; have x0 := sd hs 20 2; exact od rfl rfl (by kernel_rfl) hC (TSp.of rfl (Grows.refl _)) (by simp [go_sem, x0, hev.const] <;> rfl)
        case oS4 => intro ev wo hev hC hs hph; have x0 := sd hs 21 3; exact od rfl rfl (by kernel_rfl) hC (TSp.of rfl (Grows.refl _)) (by simp [go_sem, x0] <;> rfl)
        case oS5 => intro ev wo hev hC hs hph; have x0 := se hA hs 6; have y := sd hs 22 4; exact ob_gv _ rfl rfl y rfl (by kernel_rfl) hC (TSp.of rfl (Grows.refl _)) (fun hq => by simp [go_sem, x0] <;> rfl) (by rfl)
        case oS6 => intro ev wo hev hC hs hph; have x0 := sd hs 23 5; have y := sd hs 22 4; exact ob_gv _ rfl rfl y rfl (by kernel_rfl) hC (TSp.of rfl (Grows.refl _)) (fun hq => by simp [go_sem, (x0.trans (gw_t (beq_t hq))), hev.const, hsz, g1, i1, i2] <;> rfl) (by rfl)
        case oS7 => intro ev wo hev hC hs hph; have x0 := sd hs 24 6; have y := sd hs 22 4; exact ob_gv _ rfl rfl y rfl (by kernel_rfl) hC (TSp.of rfl (Grows.refl _)) (fun hq => by simp [go_sem, (x0.trans (gw_t (beq_t hq))), hev.const] <;> rfl) (by rfl)
        case oS8 => intro ev wo hev hC hs hph; have x0 := sd hs 22 4; have x1 := sd hs 25 7; exact od rfl rfl (by kernel_rfl) hC (TSp.of rfl (Grows.refl _)) (by rw [pick_and rfl x0 x1 (hev.const _)] <;> rfl)
        case oS9 => intro ev wo hev hC hs hph; have x0 := sd hs 26 8; exact od rfl rfl (by kernel_rfl) hC (TSp.of rfl (Grows.refl _)) (by simp [go_sem, x0] <;> rfl)
        case oS10 => intro ev wo hev hC hs hph; have x0 := se hA hs 3; have y := sd hs 27 9; exact ob_gv _ rfl rfl y rfl (by kernel_rfl) hC (TSp.of rfl (Grows.refl _)) (fun hq => by simp [go_sem, x0] <;> rfl) (by rfl)
        case oS11 => intro ev wo hev hC hs hph; have x0 := sd hs 28 10; have y := sd hs 27 9; exact ob_gv _ rfl rfl y rfl (by kernel_rfl) hC (TSp.of rfl (Grows.refl _)) (fun hq => by simp [go_sem, (x0.trans (gw_t (beq_t hq))), pS _ hC, hne] <;> rfl) (by rfl)
        case oS12 => intro ev wo hev hC hs hph; have x0 := sd hs 29 11; have y := sd hs 27 9; exact ob_gv _ rfl rfl y rfl (by kernel_rfl) hC (TSp.of rfl (Grows.refl _)) (fun hq => by simp [go_sem, (x0.trans (gw_t (beq_t hq))), hev.const] <;> rfl) (by rfl)
        case oS13 => intro ev wo hev hC hs hph; have x0 := sd hs 27 9; have x1 := sd hs 30 12; exact od rfl rfl (by kernel_rfl) hC (TSp.of rfl (Grows.refl _)) (by rw [pick_and rfl x0 x1 (hev.const _)] <;> rfl)
        case oS14 => intro ev wo hev hC hs hph; have x0 := sd hs 18 0; exact od rfl rfl (by kernel_rfl) hC (TSp.of rfl (Grows.refl _)) (by simp [go_sem, x0] <;> rfl)
        case oS15 => intro ev wo hev hC hs hph; have x0 := sd hs 31 13; exact od rfl rfl (by kernel_rfl) hC (TSp.of rfl (Grows.refl _)) (by simp [go_sem, x0] <;> rfl)
        intro sg wf hC hph
        intro a hA
        replace hA := hA.keepN [4, 5]
        refine nT (wp_ret (rT ?_))
        refine ret_2 hA 4 5 rfl rfl rfl ?_
        refine ⟨_, _, rfl, ?_, HB.trans (hC.mono HB.size)⟩
        rw [hl2]
        exact apart_blank d r2 k
      case nB =>
        have hl2 : l = d :: r2 := by
          unfold Lib.trimPrefix at hr
          rw [hq0, hq2, if_neg (by decide)] at hr
          exact hr
        have hd32 : d ≠ 32 := fun e => by
          rw [hl2, hq2, e] at hq0
          revert hq0
          unfold Lib.hasPrefix
          simp [List.isPrefixOf]
        have pS2 := fun (wo : World) (hC : (fun wy => Below w1.heap.size w1 wy) wo) => have Kx := K.below hC K.lt; (Kx.cell)
        refine wp_skip (nT (wS ?_))
        refine wp_any_at hA [(.det ?dS20), (.det ?dS21), (.det ?dS22), (.det ?dS23), (.det ?dS24), (.det ?dS25), (.det ?dS26), (.det ?dS27), (.det ?dS28), (.det ?dS29), (.det ?dS210)] [] (fun wy => Below w1.heap.size w1 wy) (TSp [] Grows) (by kernel_rfl) rfl (by kernel_rfl) (by kernel_rfl) rfl ((Below.refl _ _).drew) (stab_sp [] [true, true, true, true, true, true, true, true, true, true, true] [true, true, true, true, true, true, true, true, true, true, true] [] rfl rfl rfl (by kernel_rfl) ⟨trivial, trivial, trivial, trivial, trivial, trivial, trivial, trivial, trivial, trivial, trivial, trivial⟩ trivial) (fun _ h => by cases h) (fun _ _ _ _ _ h => by cases h) (fun _ h => by cases h) ⟨?oS20, ?oS21, ?oS22, ?oS23, ?oS24, ?oS25, ?oS26, ?oS27, ?oS28, ?oS29, ?oS210, trivial⟩ (by kernel_rfl) ?fS2
        case oS20 => intro ev wo hev hC hs hph; have x0 := se hA hs 6; exact od rfl rfl (by kernel_rfl) hC (TSp.of rfl (Grows.refl _)) (by simp [go_sem, x0] <;> rfl)
        case oS21 => intro ev wo hev hC hs hph; have x0 := se hA hs 6; exact od rfl rfl (by kernel_rfl) hC (TSp.of rfl (Grows.refl _)) (by simp [go_sem, x0] <;> rfl)
        case oS22 => intro ev wo hev hC hs hph; have x0 := sd hs 33 1; exact od rfl rfl (by kernel_rfl) hC (TSp.of rfl (Grows.refl _)) (by simp [go_sem, x0, hev.const, hsz, g1, i1, i2] <;> rfl)
        case oS23 => intro ev wo hev hC hs hph; have x0 := sd hs 34 2; exact od rfl rfl (by kernel_rfl) hC (TSp.of rfl (Grows.refl _)) (by simp [go_sem, x0, hev.const] <;> rfl)
        case oS24 => intro ev wo hev hC hs hph; have x0 := sd hs 35 3; exact od rfl rfl (by kernel_rfl) hC (TSp.of rfl (Grows.refl _)) (by simp [go_sem, x0] <;> rfl)
        case oS25 => intro ev wo hev hC hs hph; have x0 := se hA hs 3; have y := sd hs 36 4; exact ob_gv _ rfl rfl y rfl (by kernel_rfl) hC (TSp.of rfl (Grows.refl _)) (fun hq => by simp [go_sem, x0] <;> rfl) (by rfl)
        case oS26 => intro ev wo hev hC hs hph; have x0 := sd hs 37 5; have y := sd hs 36 4; exact ob_gv _ rfl rfl y rfl (by kernel_rfl) hC (TSp.of rfl (Grows.refl _)) (fun hq => by simp [go_sem, (x0.trans (gw_t (beq_t hq))), pS2 _ hC, hne] <;> rfl) (by rfl)
        case oS27 => intro ev wo hev hC hs hph; have x0 := sd hs 38 6; have y := sd hs 36 4; exact ob_gv _ rfl rfl y rfl (by kernel_rfl) hC (TSp.of rfl (Grows.refl _)) (fun hq => by simp [go_sem, (x0.trans (gw_t (beq_t hq))), hev.const] <;> rfl) (by rfl)
        case oS28 => intro ev wo hev hC hs hph; have x0 := sd hs 36 4; have x1 := sd hs 39 7; exact od rfl rfl (by kernel_rfl) hC (TSp.of rfl (Grows.refl _)) (by rw [pick_or rfl x0 (hev.const _) x1] <;> rfl)
        case oS29 => intro ev wo hev hC hs hph; have x0 := sd hs 32 0; exact od rfl rfl (by kernel_rfl) hC (TSp.of rfl (Grows.refl _)) (by simp [go_sem, x0] <;> rfl)
        case oS210 => intro ev wo hev hC hs hph; have x0 := sd hs 40 8; exact od rfl rfl (by kernel_rfl) hC (TSp.of rfl (Grows.refl _)) (by simp [go_sem, x0] <;> rfl)
        intro sg wf hC hph
        intro a hA
        replace hA := hA.keepN [4, 5]
        refine nT (wp_ret ?_)
        refine ret_2 hA 4 5 rfl rfl rfl ?_
        refine ⟨_, _, rfl, ?_, HB.trans (hC.mono HB.size)⟩
        rw [hl2]
        exact apart_none d r2 k hd32
end Go.Proofs.YtaljodmhalodhaaDoor
/-
  What comes behind a block is shown once.
-/
namespace Go.Proofs.YtaljodmhalodhaaDoor
open Go Go.RowKit
theorem wp_joinb {P : Program} {Q : Exit → Act → World → Prop} {a : Act} {w : World} {id : Nat} {x y : Code} (R : Act → World → Prop) (h : x.wp P (Exit.inBlock id (Exit.then R Q)) a w) (hy : ∀ a w, R a w → y.wp P Q a w) : x.wp P (Exit.inBlock id (Exit.then (y.wp P Q) Q)) a w :=
  wp_mono h fun e a w q => by
    cases e with
    | normal => exact hy _ _ q
    | exit k =>
      by_cases hk : k = id
      · subst hk
        refine x_block (hy _ _ ?_)
        have q2 : (if k = k then Exit.then R Q .normal a w else Exit.then R Q (.exit k) a w) := q
        rw [if_pos rfl] at q2
        exact q2
      · refine x_miss hk ?_
        have q2 : (if k = id then Exit.then R Q .normal a w else Exit.then R Q (.exit k) a w) := q
        rw [if_neg hk] at q2
        exact q2
    | _ => exact q
end Go.Proofs.YtaljodmhalodhaaDoor
/-
  Walk: lex.Tokens.
-/
namespace Go.Proofs.YtaljodmhalodhaaDoor
open Go.RowKit
set_option linter.unusedSimpArgs false
set_option linter.unusedVariables false
def tokC (x : TokS) : List Value := [.int .i64 (x.k : Nat), .string (St x.t)]
def tokSh : Sh TokS := ⟨33, 31, 2, 24, .agg #[.int .i64 0, .string ⟨#[]⟩], tokC, fun _ => [], fun _ => rfl, fun x u hu => by
  unfold tokC at hu
  simp only [List.mem_cons, List.not_mem_nil, or_false] at hu
  rcases hu with rfl | rfl <;> rfl, Tryd.underlying31, by kernel_rfl, rfl, by decide, by decide⟩
/-- what tokens' text is read as -/
def toksR (b : List UInt8) (ts : List TokS) (ok : Bool) : Prop := match tokS 202 0 0 b with
  | some l => ts = l ∧ ok = true
  | none => ts = [] ∧ ok = false
theorem toksR_none {b : List UInt8} (h : tokS 202 0 0 b = none) : toksR b [] false := by unfold toksR; rw [h]; exact ⟨rfl, rfl⟩
theorem toksR_some {b : List UInt8} {l : List TokS} (h : tokS 202 0 0 b = some l) : toksR b l true := by unfold toksR; rw [h]; exact ⟨rfl, rfl⟩
theorem app_tok {B g : Nat} {w : World} {v : Value} {us : List TokS} {u : TokS} (ho : OwnR tokSh B w v us) (K : Blk w g 33 (tokC u).toArray) (hlen : us.length ≤ 1000000) (hB : B ≤ w.heap.size) :
    ∃ r w', (Builtin.append_ #[31, 31] 31 #[v, .slice (some ⟨g, 0, none⟩) 1 1]).run Tryd.prog w = .ok r w' ∧ OwnR tokSh B w' r (us ++ [u]) ∧ w.grownBy w' v.ownBlock := by
  have hrow : RowR tokSh w (some ⟨g, 0, none⟩) [u] := rowR_blk (s := tokSh) (x := u) K fun p hp' => by cases hp'
  obtain ⟨r, w', hr, ho', hg, -⟩ := run_appR (c := 1) ho hrow (fun g' hg' m hm p hp' => by cases hp') (by simp; omega) hB
  exact ⟨r, w', hr, ho', hg⟩
theorem deep_bound {d : Int} {k n : Nat} (h0 : 0 ≤ d) (h1 : d ≤ n) : -1 ≤ deepS d k ∧ deepS d k ≤ ((n + 1 : Nat) : Int) := by
  unfold deepS
  split
  · omega
  · split <;> omega
theorem deep_3 (d : Int) : deepS d 3 = d + 1 := rfl
theorem deep_4 (d : Int) : deepS d 4 = d - 1 := rfl
theorem deep_o {d : Int} {k : Nat} (h3 : k ≠ 3) (h4 : k ≠ 4) : deepS d k = d := by unfold deepS; rw [if_neg h3, if_neg h4]
set_option maxRecDepth 100000 in
set_option maxHeartbeats 4000000 in
theorem tokens_any (A : Option Addr) (n c : Nat) (b : List UInt8) (m : Int) (w : World) (hm : w.cell? ⟨0, 0, none⟩ = some (.int .i64 m)) (hl : b.length = n) (hn : n ≤ 900000) (hr : Reads w w.heap.size 1 A n (u8s b)) : Calls Tryd.prog 11 #[.slice A n c] w fun ev w' => ∃ v ts ok, ev = .returned (.tuple #[v, .bool ok]) ∧ OwnR tokSh w.heap.size w' v ts ∧ toksR b ts ok ∧ Below w.heap.size w w' := by
  have hm0 : 0 < w.heap.size := block_lt_of_cell hm
  have hcv := conv_reads (c := c) hl hr
  refine calls_at 54 Tryd.func11 rfl rfl (Nat.le_of_ble_eq_true rfl) ?_
  intro a hA; replace hA := hA.norm
  refine wS (wR ?_)
  revert a; (iterate 2 refine wo rfl rfl (by decide) (fun ev e h => by simp [go_sem, h, hcv] <;> rfl) ?_); intro a hA
  replace hA := hA.keepN [0]
  refine wN (nT (wS (wR ?_)))
  revert a; refine wo rfl rfl (by decide) (fun ev e h => by simp [go_sem, h, hcv] <;> rfl) ?_; intro a hA
  replace hA := hA.keepN [0, 4]
  refine wN (nT (wS (wR ?_)))
  revert a; refine wo rfl rfl (by decide) (fun ev e h => by simp [go_sem, h, hcv] <;> rfl) ?_; intro a hA
  replace hA := hA.keepN [0, 4, 5]
  refine wN (nT (wS (wS (wR ?_))))
  revert a; refine wo rfl rfl (by decide) (fun ev e h => by simp [go_sem, h, hcv] <;> rfl) ?_; intro a hA
  refine wl_op hA rfl rfl (by decide) (fun ev h => by simp [go_sem, h.get 10 rfl, hcv]; try first | exact ⟨rfl, rfl⟩ | rfl) fun a hA => ?_
  revert a; refine wo rfl rfl (by decide) (fun ev e h => by simp [go_sem, h, hcv] <;> rfl) ?_; intro a hA
  replace hA := hA.keepN [4, 5, 6]
  refine wN (nT (wB ?_))
  refine wp_loop_at (fun f a wx => ∃ (s : List UInt8) (d : Int) (v : Value) (ts : List TokS), f + ts.length = 202 ∧ ts.length ≤ 200 ∧ 0 ≤ d ∧ d ≤ ((ts.length : Nat) : Int) ∧ s.length ≤ 900000 ∧ tokS 202 0 0 b = (tokS f d ts.length s).map (ts ++ ·) ∧ OwnR tokSh w.heap.size wx v ts ∧ Below w.heap.size w wx ∧ At 54 [(4, v), (5, .int .i64 d), (6, .string (St s))] a) (202) ?_ ?_
  · exact ⟨b, 0, _, [], rfl, Nat.zero_le _, by omega, by simp, by omega, by cases tokS 202 0 0 b <;> rfl, OwnR.nil _ _, Below.refl _ _, hA⟩
  clear hA
  rintro f a wx ⟨s, d, v, ts, hf, hts, hd0, hdn, hsl, hT, ho, HB, hA⟩
  obtain ⟨f, rfl⟩ : ∃ g, f = g + 1 := ⟨f - 1, by omega⟩
  obtain ⟨Av, cv, rfl, _, hcv2⟩ := ho.reads
  cases s with
  | nil =>
    refine wS (wS (wR ?_))
    revert a; (iterate 2 refine wo rfl rfl (by decide) (fun ev e h => by simp [go_sem, h] <;> rfl) ?_); intro a hA
    replace hA := hA.keepN [4, 5, 6, 13]
    refine wN (nT ?_)
    refine wp_if hA 13 _ rfl (fun hq => ?yA) (fun hq => ?nA)
    case yA => simp at hq
    case nA =>
      replace hA := hA.keepN [4, 5]
      refine wp_exit (xT (xT (xB (nT (wS (wS (wR ?_)))))))
      revert a; (iterate 2 refine wo rfl rfl (by decide) (fun ev e h => by simp [go_sem, h] <;> rfl) ?_); intro a hA
      replace hA := hA.keepN [4, 52]
      refine wN (nT ?_)
      refine wp_if hA 52 _ rfl (fun hq2 => ?yB) (fun hq2 => ?nB)
      case yB =>
        have hne : d ≠ 0 := by simpa using hq2
        have hT2 : tokS 202 0 0 b = none := by rw [hT]; unfold tokS; rw [if_pos rfl, if_neg hne]; rfl
        refine wS (wR ?_)
        revert a; (iterate 2 refine wo rfl rfl (by decide) (fun ev e h => by simp [go_sem, h] <;> rfl) ?_); intro a hA
        replace hA := hA.keepN [2, 3]
        refine wN (nT (wp_ret (rT ?_)))
        refine ret_2 hA 2 3 rfl rfl rfl ?_
        exact ⟨_, [], false, rfl, OwnR.nil _ _, toksR_none hT2, HB⟩
      case nB =>
        have hz : d = 0 := by simpa using hq2
        have hT2 : tokS 202 0 0 b = some ts := by rw [hT]; unfold tokS; rw [if_pos rfl, if_pos hz]; simp
        refine wp_skip (nT (wS (wR ?_)))
        revert a; (iterate 3 refine wo rfl rfl (by decide) (fun ev e h => by simp [go_sem, h] <;> rfl) ?_); intro a hA
        replace hA := hA.keepN [2, 3]
        refine wN (nT (wp_ret ?_))
        refine ret_2 hA 2 3 rfl rfl rfl ?_
        exact ⟨_, ts, true, rfl, ho, toksR_some hT2, HB⟩
  | cons x r =>
    have hne : (St (x :: r) == (⟨#[]⟩ : ByteArray)) = false := by
      show ((x :: r).toArray == #[]) = false
      refine beq_eq_false_iff_ne.2 fun e => ?_
      have := congrArg Array.size e
      simp at this
    rw [List.length_cons] at hsl
    have hrl : r.length ≤ 900000 := by omega
    have hTs : tokS (f + 1) d ts.length (x :: r) = match oneS (x :: r) with
      | none => none
      | some (t, rest) => if ts.length = 200 ∨ deepS d t.k < 0 then none else match apartS rest t.k with
        | none => none
        | some s' => (tokS f (deepS d t.k) (ts.length + 1) s').map (t :: ·) := by
      conv => lhs; unfold tokS
      rw [if_neg (by simp)]
      rfl
    refine wS (wS (wR ?_))
    revert a; (iterate 2 refine wo rfl rfl (by decide) (fun ev e h => by simp [go_sem, h, hne] <;> rfl) ?_); intro a hA
    replace hA := hA.keepN [4, 5, 6, 13]
    refine wN (nT ?_)
    refine wp_if hA 13 _ rfl (fun hq => ?yA) (fun hq => ?nA)
    case nA => simp at hq
    case yA =>
      refine wp_skip (nT (wB (wS (wR ?_))))
      revert a; refine wo rfl rfl (by decide) (fun ev e h => by simp [go_sem, h, hne] <;> rfl) ?_; intro a hA
      refine wl_call hA rfl rfl (by decide) (fun ev h => exec_call Tryd.func20 (by kernel_rfl) rfl (h.f _) (by first | (simp only [mL, h.get 15 rfl, h.c] <;> rfl) | (simp [mL, h.get 15 rfl, h.c, hne] <;> rfl))) (one_any x r m _ ((HB.cell hm0).trans hm) hrl) ?_
      rintro e w1 ⟨k, s1, rest1, ok, rfl, hone, hb1⟩
      refine ⟨_, rfl, fun a hA => ?_⟩
      replace ho := ho.below hb1
      replace HB := HB.trans (hb1.mono HB.size)
      have hltv := World.ownsRow.lt ho.row
      revert a; (iterate 4 refine wo rfl rfl (by decide) (fun ev e h => by simp [go_sem, h, hne] <;> rfl) ?_); intro a hA
      refine wl_local [.int .i64 k, .string s1] hA rfl rfl (by decide) (fun ev h => by simp [go_sem, hne]; try first | exact ⟨rfl, rfl⟩ | rfl) rfl rfl (by rfl) (fun w1 g ev hb h => by simp [go_sem, h.get 7 rfl, h.get 17 rfl, hne, setAll, hb.cell, hb.frozen]) fun w2 a (K : Blk _ _ _ _) hz2 hb2 hA => ?_
      replace ho := ho.below hb2
      replace HB := HB.trans (hb2.mono HB.size)
      unfold oneR at hone
      cases hO : oneS (x :: r) with
      | none =>
        rw [hO] at hone hTs
        have hok : ok = false := hone
        subst hok
        have hT2 : tokS 202 0 0 b = none := by rw [hT, hTs]; rfl
        refine wl_op hA rfl rfl (by decide) (fun ev h => by simp [go_sem, h.get 18 rfl, hne]; try first | exact ⟨rfl, rfl⟩ | rfl) fun a hA => ?_
        refine wl_op hA rfl rfl (by decide) (fun ev h => by simp [go_sem, h.get 19 rfl, hne]; try first | exact ⟨rfl, rfl⟩ | rfl) fun a hA => ?_
        replace hA := hA.keepN [4, 5, 7, 8, 9]
        refine wN (nT (wS (wS (wR ?_))))
        refine wl_op hA rfl rfl (by decide) (fun ev h => by simp [go_sem, h.get 9 rfl, hne]; try first | exact ⟨rfl, rfl⟩ | rfl) fun a hA => ?_
        refine wl_op hA rfl rfl (by decide) (fun ev h => by simp [go_sem, h.get 20 rfl, hne]; try first | exact ⟨rfl, rfl⟩ | rfl) fun a hA => ?_
        refine wl_op hA rfl rfl (by decide) (fun ev h => by simp [go_sem, h.get 21 rfl, hne]; try first | exact ⟨rfl, rfl⟩ | rfl) fun a hA => ?_
        refine wl_guard _ (v := .bool false) hA rfl rfl rfl rfl (by decide) (fun hq ev h => by first | (cases hq; done) | (cases hr; done)) fun a hA => ?_
        refine wl_guard _ (v := .bool false) hA rfl rfl rfl rfl (by decide) (fun hq ev h => by first | (cases hq; done) | (cases hr; done)) fun a hA => ?_
        refine wl_guard _ (v := .bool false) hA rfl rfl rfl rfl (by decide) (fun hq ev h => by first | (cases hq; done) | (cases hr; done)) fun a hA => ?_
        revert a; (first | refine wko rfl rfl (by decide) rfl rfl rfl ?_ | refine wo rfl rfl (by decide) (fun ev e h => by simp [go_sem, h, gv_or, gv_and, hne] <;> rfl) ?_); intro a hA
        replace hA := hA.keepN [4, 5, 7, 8, 26]
        refine wN (nT ?_)
        refine wp_if hA 26 _ rfl (fun hq2 => ?yB) (fun hq2 => ?nB)
        case nB => simp at hq2
        case yB =>
          refine wS (wR ?_)
          revert a; (iterate 2 refine wo rfl rfl (by decide) (fun ev e h => by simp [go_sem, h, hne] <;> rfl) ?_); intro a hA
          replace hA := hA.keepN [2, 3]
          refine wN (nT (wp_ret (rT (rB (rT (rB (rT ?_)))))))
          refine ret_2 hA 2 3 rfl rfl rfl ?_
          exact ⟨_, [], false, rfl, OwnR.nil _ _, toksR_none hT2, HB⟩
      | some p =>
        obtain ⟨t, rest⟩ := p
        rw [hO] at hone hTs
        obtain ⟨e1, e2, e3, e4⟩ := hone
        have e1 : k = (t.k : Nat) := e1
        have e2 : s1 = St t.t := e2
        have e3 : rest1 = St rest := e3
        subst e1 e2 e3 e4
        have hlen := (one_len hO (by rw [List.length_cons]; omega)).2
        rw [List.length_cons] at hlen
        simp only [] at hTs
        revert a; (iterate 2 refine wo rfl rfl (by decide) (fun ev e h => by simp [go_sem, h, hne] <;> rfl) ?_); intro a hA
        replace hA := hA.keepN [4, 5, 7, 8, 9]
        refine wN (nT (wS (wS (wR ?_))))
        revert a; (iterate 3 refine wo rfl rfl (by decide) (fun ev e h => by simp [go_sem, h, hne] <;> rfl) ?_); (iterate 3 refine wg _ rfl rfl rfl rfl (by decide) (fun hq ev e h => by simp [go_sem, h, ↓gw_t (beq_t hq), hne] <;> rfl) ?_); (first | refine wko rfl rfl (by decide) rfl rfl rfl ?_ | refine wo rfl rfl (by decide) (fun ev e h => by simp [go_sem, h, gv_or, gv_and, hne] <;> rfl) ?_); intro a hA
        replace hA := hA.keepN [4, 5, 7, 8, 26]
        refine wN (nT ?_)
        refine wp_if hA 26 _ rfl (fun hq2 => ?yB) (fun hq2 => ?nB)
        case yB =>
          have h200 : ts.length = 200 := by simp at hq2; omega
          have hT2 : tokS 202 0 0 b = none := by rw [hT, hTs, if_pos (.inl h200)]; rfl
          refine wS (wR ?_)
          revert a; (iterate 2 refine wo rfl rfl (by decide) (fun ev e h => by simp [go_sem, h, hne] <;> rfl) ?_); intro a hA
          replace hA := hA.keepN [2, 3]
          refine wN (nT (wp_ret (rT (rB (rT (rB (rT ?_)))))))
          refine ret_2 hA 2 3 rfl rfl rfl ?_
          exact ⟨_, [], false, rfl, OwnR.nil _ _, toksR_none hT2, HB⟩
        case nB =>
          have h200 : ¬ ts.length = 200 := by simp at hq2; omega
          obtain ⟨d1, d2⟩ := deep_bound (k := t.k) hd0 hdn
          refine wp_skip (nT (wS (wS (wR ?_))))
          revert a; (iterate 2 refine wo rfl rfl (by decide) (fun ev e h => by simp [go_sem, h, K.cell] <;> rfl) ?_); intro a hA
          replace hA := hA.keepN [4, 5, 7, 8, 28]
          refine wN (nT (wB (wS (wR ?_))))
          revert a; (iterate 2 refine wo rfl rfl (by decide) (fun ev e h => by simp [go_sem, h, K.cell] <;> rfl) ?_); intro a hA
          replace hA := hA.keepN [4, 5, 7, 8, 28, 29]
          refine wN (nT ?_)
          refine wp_joinb (fun a wy => wy = w2 ∧ At 54 [(4, .slice Av ts.length cv), (5, .int .i64 (deepS d t.k)), (7, .pointer (some ⟨w1.heap.size, 0, none⟩)), (8, .string (St rest))] a) ?jfJ ?jrJ
          case jfJ =>
            refine wp_if hA 29 _ rfl (fun hq3 => ?yC) (fun hq3 => ?nC)
            case yC =>
              have hk : t.k = 3 := by simp at hq3; omega
              rw [hk, deep_3] at d1 d2
              have j1 : IntKind.i64.wrap (d + 1) = d + 1 := IntWalk.i64_in _ (by omega)
              rw [hk, deep_3]
              refine wR ?_
              revert a; (iterate 3 refine wo rfl rfl (by decide) (fun ev e h => by simp [go_sem, h, j1] <;> rfl) ?_); intro a hA
              replace hA := hA.keepN [4, 5, 7, 8]
              refine wN (nB (nT ?_))
              exact ⟨rfl, hA⟩
            case nC =>
              have hk : t.k ≠ 3 := by simp at hq3; omega
              refine wS (wR ?_)
              revert a; (iterate 2 refine wo rfl rfl (by decide) (fun ev e h => by simp [go_sem, h] <;> rfl) ?_); intro a hA
              replace hA := hA.keepN [4, 5, 7, 8, 33]
              refine wN (nT ?_)
              refine wp_if hA 33 _ rfl (fun hq4 => ?yD) (fun hq4 => ?nD)
              case yD =>
                have hk : t.k = 4 := by simp at hq4; omega
                rw [hk, deep_4] at d1 d2
                have j1 : IntKind.i64.wrap (d - 1) = d - 1 := IntWalk.i64_in _ (by omega)
                rw [hk, deep_4]
                refine wR ?_
                revert a; (iterate 3 refine wo rfl rfl (by decide) (fun ev e h => by simp [go_sem, h, j1] <;> rfl) ?_); intro a hA
                replace hA := hA.keepN [4, 5, 7, 8]
                refine wN (nB (nT ?_))
                exact ⟨rfl, hA⟩
              case nD =>
                have hk4 : t.k ≠ 4 := by simp at hq4; omega
                rw [deep_o hk hk4]
                replace hA := hA.keepN [4, 5, 7, 8]
                refine wp_skip (nB (nT ?_))
                exact ⟨rfl, hA⟩
          case jrJ =>
            clear hA
            rintro a wy ⟨rfl, hA⟩
            obtain ⟨D, hD⟩ : ∃ D, deepS d t.k = D := ⟨_, rfl⟩
            rw [hD] at hA d1 d2 hTs
            refine wS (wS (wR ?_))
            revert a; (iterate 2 refine wo rfl rfl (by decide) (fun ev e h => by simp [go_sem, h] <;> rfl) ?_); intro a hA
            replace hA := hA.keepN [4, 5, 7, 8, 38]
            refine wN (nT ?_)
            refine wp_if hA 38 _ rfl (fun hq3 => ?yE) (fun hq3 => ?nE)
            case yE =>
              have hneg : D < 0 := by simpa using hq3
              have hT2 : tokS 202 0 0 b = none := by rw [hT, hTs, if_pos (.inr hneg)]; rfl
              refine wS (wR ?_)
              revert a; (iterate 2 refine wo rfl rfl (by decide) (fun ev e h => by simp [go_sem, h] <;> rfl) ?_); intro a hA
              replace hA := hA.keepN [2, 3]
              refine wN (nT (wp_ret (rT (rB (rT (rB (rT ?_)))))))
              refine ret_2 hA 2 3 rfl rfl rfl ?_
              exact ⟨_, [], false, rfl, OwnR.nil _ _, toksR_none hT2, HB⟩
            case nE =>
              have hneg : ¬ D < 0 := by simpa using hq3
              rw [if_neg (by rintro (h | h) <;> omega)] at hTs
              refine wp_skip (nT (wS (wR ?_)))
              revert a; (iterate 2 refine wo rfl rfl (by decide) (fun ev e h => by simp [go_sem, h, K.cell] <;> rfl) ?_); intro a hA
              refine wl_new hA rfl rfl (by decide) (fun ev h => by simp [go_sem, h.get 40 rfl, K.cell]; try first | exact ⟨rfl, rfl⟩ | rfl) fun w3 a (K3 : Blk _ _ _ _) hz3 hb3 hA => ?_
              replace K := K.below hb3 K.lt
              replace ho := ho.below hb3
              replace HB := HB.trans (hb3.mono HB.size)
              obtain ⟨v4, w4, hr4, ho4, hg4⟩ := app_tok (u := t) ho K3 (by omega) HB.size
              refine wl_op hA rfl rfl (by decide) (fun ev h => exec_append rfl (h.get 39 rfl) (h.get 41 rfl) hr4) fun a hA => ?_
              have HB4 := below_appR HB ho hg4 (Nat.le_refl _) HB.size
              replace K := K.grown hg4 (fun e => by have := (hltv _ e.symm).2; omega)
              revert a; refine wo rfl rfl (by decide) (fun ev e h => by simp [go_sem, h, K.cell] <;> rfl) ?_; intro a hA
              replace hA := hA.keepN [4, 5, 7, 8]
              refine wN (nT (wS (wR ?_)))
              revert a; (iterate 2 refine wo rfl rfl (by decide) (fun ev e h => by simp [go_sem, h, K.cell] <;> rfl) ?_); intro a hA
              refine wl_call hA rfl rfl (by decide) (fun ev h => exec_call Tryd.func21 (by kernel_rfl) rfl (h.f _) (by first | (simp only [mL, h.get 44 rfl, h.get 45 rfl, h.c] <;> rfl) | (simp [mL, h.get 44 rfl, h.get 45 rfl, h.c, K.cell] <;> rfl))) (apart_any rest t.k (St t.t) _ (by omega)) ?_
              rintro e w5 ⟨s5, ok5, rfl, hap, hb5⟩
              refine ⟨_, rfl, fun a hA => ?_⟩
              replace K := K.below hb5 K.lt
              replace ho4 := ho4.below hb5
              replace HB4 := HB4.trans (hb5.mono HB4.size)
              revert a; (iterate 5 refine wo rfl rfl (by decide) (fun ev e h => by simp [go_sem, h, K.cell] <;> rfl) ?_); intro a hA
              replace hA := hA.keepN [4, 5, 6, 9]
              refine wN (nT (wS (wR ?_)))
              revert a; (iterate 2 refine wo rfl rfl (by decide) (fun ev e h => by simp [go_sem, h, K.cell] <;> rfl) ?_); intro a hA
              replace hA := hA.keepN [4, 5, 6, 50]
              refine wN (nT ?_)
              unfold apartR at hap
              refine wp_if hA 50 _ rfl (fun hq4 => ?yF) (fun hq4 => ?nF)
              case yF =>
                have hok : ok5 = false := by simpa using hq4
                cases hS : apartS rest t.k with
                | some q => rw [hS] at hap; rw [hap.2] at hok; cases hok
                | none =>
                  rw [hS] at hTs
                  have hT2 : tokS 202 0 0 b = none := by rw [hT, hTs]; rfl
                  refine wS (wR ?_)
                  revert a; (iterate 2 refine wo rfl rfl (by decide) (fun ev e h => by simp [go_sem, h, K.cell] <;> rfl) ?_); intro a hA
                  replace hA := hA.keepN [2, 3]
                  refine wN (nT (wp_ret (rB (rT (rB (rT ?_))))))
                  refine ret_2 hA 2 3 rfl rfl rfl ?_
                  exact ⟨_, [], false, rfl, OwnR.nil _ _, toksR_none hT2, HB4⟩
              case nF =>
                have hok : ok5 = true := by simpa using hq4
                cases hS : apartS rest t.k with
                | none => rw [hS] at hap; rw [hap] at hok; cases hok
                | some q =>
                  rw [hS] at hap hTs
                  obtain ⟨rfl, -⟩ := hap
                  have hql := apart_len hS
                  have hl2 : (ts ++ [t]).length = ts.length + 1 := by simp
                  replace hA := hA.keepN [4, 5, 6]
                  refine wp_skip (nB (nT ?_))
                  refine ⟨f, by omega, q, D, v4, ts ++ [t], by omega, by omega, by omega, by omega, by omega, ?_, ho4, HB4, hA⟩
                  rw [hT, hTs, hl2]
                  simp only [Option.map_map]
                  congr 1
                  funext z
                  simp
end Go.Proofs.YtaljodmhalodhaaDoor
/-
  Walk: cubbylaw15.count.
-/
namespace Go.Proofs.YtaljodmhalodhaaDoor
open Go.RowKit
set_option linter.unusedSimpArgs false
set_option linter.unusedVariables false
theorem countB_small {f n : Nat} (h : n < 10) : countB (f + 1) n = [UInt8.ofNat (48 + n)] := by
  show (if n < 10 then _ else _) = _
  rw [if_pos h]
theorem countB_great {f n : Nat} (h : ¬ n < 10) : countB (f + 1) n = countB f (n / 10) ++ [UInt8.ofNat (48 + n % 10)] := by
  show (if n < 10 then _ else _) = _
  rw [if_neg h]
set_option maxRecDepth 100000 in
set_option maxHeartbeats 4000000 in
theorem count_any (q : Nat) (w : World) (hq1 : q < 1000000) : Calls Tryd.prog 19 #[.int .i64 (q : Nat)] w fun ev w' => ev = .returned (.string (St (countB 7 q))) ∧ Below w.heap.size w w' := by
  refine calls_at 21 Tryd.func19 rfl rfl (Nat.le_of_ble_eq_true rfl) ?_
  intro a hA; replace hA := hA.norm
  refine wS (wR ?_)
  revert a; refine wo rfl rfl (by decide) (fun ev e h => by simp [go_sem, h] <;> rfl) ?_; intro a hA
  replace hA := hA.keepN [0]
  refine wN (nT (wS (wR ?_)))
  revert a; refine wo rfl rfl (by decide) (fun ev e h => by simp [go_sem, h] <;> rfl) ?_; intro a hA
  replace hA := hA.keepN [0, 3]
  refine wN (nT (wS (wB ?_)))
  refine wp_loop_at (fun k a wx => ∃ (f n : Nat) (s : List UInt8), (s = [] ∨ 0 < n → countB 7 q = countB f n ++ s ∧ n < 10 ^ f ∧ 1 ≤ f) ∧ (s ≠ [] → n = 0 → countB 7 q = s) ∧ n ≤ q ∧ s.length ≤ 100 ∧ s.length + f ≤ 20 ∧ n + (if s = [] then 1 else 0) ≤ k ∧ Below w.heap.size w wx ∧ At 21 [(0, .int .i64 (n : Nat)), (3, .string (St s))] a) (q + 1) ?_ ?_
  · exact ⟨7, q, [], fun _ => ⟨by simp, by omega, by decide⟩, fun h => absurd rfl h, Nat.le_refl _, Nat.zero_le _, by decide, by simp, Below.refl _ _, hA⟩
  clear hA
  rintro k a wx ⟨f, n, s, h1, h2, hnq, hsl, hsf, hk, HB, hA⟩
  refine wS (wS (wR ?_))
  revert a; (iterate 3 refine wo rfl rfl (by decide) (fun ev e h => by simp [go_sem, h] <;> rfl) ?_); (iterate 2 refine wg _ rfl rfl rfl rfl (by decide) (fun hq ev e h => by simp [go_sem, h, ↓gw_t (beq_t hq)] <;> rfl) ?_); refine wko rfl rfl (by decide) rfl rfl rfl ?_; intro a hA
  replace hA := hA.keepN [0, 3, 9]
  refine wN (nT ?_)
  refine wp_if hA 9 _ rfl (fun hq => ?yL) (fun hq => ?nL)
  case nL =>
    have hc : n = 0 ∧ ¬ s = [] := by simpa using hq
    have hs := hc.2
    replace hA := hA.keepN [3]
    refine wp_exit (xT (xT (xB (nT (wS (wR ?_))))))
    revert a; (iterate 2 refine wo rfl rfl (by decide) (fun ev e h => by simp [go_sem, h] <;> rfl) ?_); intro a hA
    replace hA := hA.keepN [2]
    refine wN (nT (wp_ret ?_))
    refine ret_1 hA 2 rfl rfl ?_
    exact ⟨by rw [h2 hs (by omega)], HB⟩
  case yL =>
    have hc : s = [] ∨ 0 < n := by
      rcases Nat.eq_zero_or_pos n with e | e
      · left
        subst e
        simpa using hq
      · exact .inr e
    obtain ⟨h3, h4, h5⟩ := h1 hc
    obtain ⟨f, rfl⟩ : ∃ g, f = g + 1 := ⟨f - 1, by omega⟩
    obtain ⟨dg, hdg⟩ : ∃ dg : UInt8, UInt8.ofNat (48 + n % 10) = dg := ⟨_, rfl⟩
    have hdn : dg.toNat = 48 + n % 10 := by rw [← hdg, UInt8.toNat_ofNat']; omega
    have j1 : ((n : Nat) : Int).tmod 10 = ((n % 10 : Nat) : Int) := by rw [Int.tmod_eq_emod_of_nonneg (by omega)]; rfl
    have j2 : IntKind.i64.wrap (48 + ((n % 10 : Nat) : Int)) = ((dg.toNat : Nat) : Int) := by rw [IntWalk.i64_in _ (by omega)]; omega
    have j3 : IntKind.u8.wrap ((dg.toNat : Nat) : Int) = ((dg.toNat : Nat) : Int) := by
      have := dg.toNat_lt
      unfold IntKind.wrap
      simp [IntKind.bits, IntKind.signed]
      omega
    have j4 : ((n : Nat) : Int).tdiv 10 = ((n / 10 : Nat) : Int) := rfl
    have j5 : IntKind.i64.wrap ((n / 10 : Nat) : Int) = ((n / 10 : Nat) : Int) := IntWalk.i64_in _ (by omega)
    obtain ⟨n2, hn2⟩ : ∃ n2, n / 10 = n2 := ⟨_, rfl⟩
    obtain ⟨n3, hn3⟩ : ∃ n3, n % 10 = n3 := ⟨_, rfl⟩
    rw [hn2] at j4 j5
    rw [hn3] at j1 j2 hdn
    refine wp_skip (nT (wB (wS (wR ?_))))
    revert a; (iterate 3 refine wo rfl rfl (by decide) (fun ev e h => by simp [go_sem, h, j1, j2, j3, j4, j5] <;> rfl) ?_); intro a hA
    refine wl_op hA rfl rfl (by decide) (fun ev h => by simp [go_sem, h.get 12 rfl, j1, j2, j3, j4, j5]; try first | exact ⟨rfl, rfl⟩ | rfl) fun a hA => ?_
    refine wl_new hA rfl rfl (by decide) (fun ev h => by simp [go_sem, h.get 13 rfl, j1, j2, j3, j4, j5]; try first | exact ⟨rfl, rfl⟩ | rfl) fun w1 a (K : Blk _ _ _ _) hz1' hb1 hA => ?_
    replace HB := HB.trans (hb1.mono HB.size)
    have hrd : Reads w1 w1.heap.size 1 (some ⟨wx.heap.size, 0, none⟩) 1 (u8s [dg]) := (blk_x (B := 0) (l := [dg]) K (Nat.zero_le _) rfl (by simp)).reads
    have hcv := conv_reads (n := 1) (c := 1) (l := [dg]) rfl hrd
    have ka : (⟨[dg].toArray⟩ : ByteArray) ++ St s = St (dg :: s) := st_app [dg] s
    have kz : ¬ 9223372036854775807 < 1 + s.length := by omega
    refine wl_op hA rfl rfl (by decide) (fun ev h => by simp [go_sem, h.get 14 rfl, j1, j2, j3, j4, j5, hcv, ka, kz]; try first | exact ⟨rfl, rfl⟩ | rfl) fun a hA => ?_
    revert a; (iterate 3 refine wo rfl rfl (by decide) (fun ev e h => by simp [go_sem, h, j1, j2, j3, j4, j5, hcv, ka, kz] <;> rfl) ?_); intro a hA
    replace hA := hA.keepN [0, 3]
    refine wN (nT (wR ?_))
    revert a; (iterate 3 refine wo rfl rfl (by decide) (fun ev e h => by simp [go_sem, h, j1, j2, j3, j4, j5, hcv, ka, kz] <;> rfl) ?_); intro a hA
    replace hA := hA.keepN [0, 3]
    refine wN (nB (nT ?_))
    refine ⟨k - 1, ?_, f, n2, dg :: s, fun hd => ?_, fun _ hn0 => ?_, by omega, by simp; omega, by simp; omega, ?_, HB, hA⟩
    · split at hk <;> rename_i hs
      · omega
      · rcases hc with h | h
        · exact absurd h hs
        · omega
    · have hp : 0 < n2 := by
        rcases hd with h | h
        · cases h
        · exact h
      have hg : ¬ n < 10 := by omega
      refine ⟨by rw [h3, countB_great hg, hn2, hn3, List.append_assoc, ← hdg, hn3]; rfl, by rw [Nat.pow_succ] at h4; omega, ?_⟩
      rcases Nat.eq_zero_or_pos f with e | e
      · subst e; rw [Nat.zero_add, Nat.pow_one] at h4; omega
      · exact e
    · have hg : n < 10 := by omega
      rw [h3, countB_small hg, ← hdg, hn3, show n3 = n by omega]
      rfl
    · rw [if_neg (by simp)]
      split at hk <;> rename_i hs
      · omega
      · rcases hc with h | h
        · exact absurd h hs
        · omega
end Go.Proofs.YtaljodmhalodhaaDoor
/-
  Tokens, as they are written, one by one: plainly.
-/
namespace Go.Proofs.YtaljodmhalodhaaDoor
open Go.RowKit
structure TokI where
  k : Int
  t : List UInt8
def TokS.i (x : TokS) : TokI := ⟨(x.k : Nat), x.t⟩
def tokIC (x : TokI) : List Value := [.int .i64 x.k, .string (St x.t)]
def tokISh : Sh TokI := ⟨33, 31, 2, 24, .agg #[.int .i64 0, .string ⟨#[]⟩], tokIC, fun _ => [], fun _ => rfl, fun x u hu => by
  unfold tokIC at hu
  simp only [List.mem_cons, List.not_mem_nil, or_false] at hu
  rcases hu with rfl | rfl <;> rfl, Tryd.underlying31, by kernel_rfl, rfl, by decide, by decide⟩
theorem tok_i_inj {x y : TokS} (h : x.i = y.i) : x = y := by
  obtain ⟨a, b⟩ := x
  obtain ⟨c, d⟩ := y
  injection h with h1 h2
  have h1 : ((a : Nat) : Int) = ((c : Nat) : Int) := h1
  have : a = c := by omega
  have h2 : b = d := h2
  subst this h2
  rfl
theorem rowR_i {w : World} {A : Option Addr} {l : List TokS} (h : RowR tokSh w A l) : RowR tokISh w A (l.map TokS.i) := by
  refine ⟨?_, fun m _ p hp => by cases hp⟩
  have e : (l.map TokS.i).flatMap tokISh.f = l.flatMap tokSh.f := by rw [List.flatMap_map]; rfl
  rw [e, List.length_map]
  exact h.row
def depthS (d : Int) (l : List TokS) : Int := l.foldl (fun d t => deepS d t.k) d
def okP : Int → List TokS → Prop
  | _, [] => True
  | d, t :: r => 0 ≤ deepS d t.k ∧ okP (deepS d t.k) r
theorem deep_iff : ∀ (l : List TokS) (d : Int), deepOk d l ↔ okP d l ∧ depthS d l = 0
  | [], d => by
    show d = 0 ↔ True ∧ d = 0
    simp
  | t :: r, d => by
    show (0 ≤ deepS d t.k ∧ deepOk (deepS d t.k) r) ↔ (0 ≤ deepS d t.k ∧ okP (deepS d t.k) r) ∧ depthS (deepS d t.k) r = 0
    rw [deep_iff r, and_assoc]
theorem okP_app : ∀ (a b : List TokS) (d : Int), okP d (a ++ b) ↔ okP d a ∧ okP (depthS d a) b
  | [], b, d => by
    show okP d b ↔ True ∧ okP d b
    simp
  | t :: a, b, d => by
    show (0 ≤ deepS d t.k ∧ okP (deepS d t.k) (a ++ b)) ↔ (0 ≤ deepS d t.k ∧ okP (deepS d t.k) a) ∧ okP (depthS (deepS d t.k) a) b
    rw [okP_app a b, and_assoc]
theorem depth_snoc (l : List TokS) (t : TokS) (d : Int) : depthS d (l ++ [t]) = deepS (depthS d l) t.k := by
  unfold depthS
  rw [List.foldl_append]
  rfl
/-- the blank ahead of a token -/
def sepL (l : List TokS) (k : Int) : List UInt8 := match l.getLast? with
  | none => []
  | some p => if k ≠ 4 ∧ p.k ≠ 3 then [32] else []
theorem sepL_nat (p : TokS) (k : Nat) : (if ((k : Nat) : Int) ≠ 4 ∧ p.k ≠ 3 then [32] else []) = sepS p.k k := by
  unfold sepS
  by_cases h : k = 4
  · subst h; simp
  · by_cases h2 : p.k = 3
    · simp [h2]
    · have : ((k : Nat) : Int) ≠ 4 := by omega
      rw [if_pos ⟨this, h2⟩, if_pos ⟨h, h2⟩]
theorem rest_snoc (lit : Bool) (t : TokS) : ∀ (r : List TokS) (p : Nat), restS lit p (r ++ [t]) = restS lit p r ++ (match r.getLast? with | none => sepS p t.k | some q => sepS q.k t.k) ++ bodyS lit t
  | [], p => by
    show sepS p t.k ++ bodyS lit t ++ [] = [] ++ sepS p t.k ++ bodyS lit t
    simp
  | q :: r, p => by
    show sepS p q.k ++ bodyS lit q ++ restS lit q.k (r ++ [t]) = sepS p q.k ++ bodyS lit q ++ restS lit q.k r ++ _ ++ bodyS lit t
    rw [rest_snoc lit t r q.k]
    cases r with
    | nil => simp
    | cons y r =>
      have e : (q :: y :: r).getLast? = (y :: r).getLast? := by simp
      obtain ⟨z, hz⟩ : ∃ z, (y :: r).getLast? = some z := ⟨_, List.getLast?_eq_some_getLast (by simp)⟩
      rw [e, hz]
      simp only [List.append_assoc]
theorem writ_snoc (lit : Bool) (l : List TokS) (t : TokS) : writtenS lit (l ++ [t]) = writtenS lit l ++ sepL l (t.k : Nat) ++ bodyS lit t := by
  cases l with
  | nil =>
    show bodyS lit t ++ [] = [] ++ [] ++ bodyS lit t
    simp
  | cons q r =>
    show bodyS lit q ++ restS lit q.k (r ++ [t]) = bodyS lit q ++ restS lit q.k r ++ sepL (q :: r) (t.k : Nat) ++ bodyS lit t
    rw [rest_snoc]
    unfold sepL
    cases r with
    | nil =>
      show _ = bodyS lit q ++ restS lit q.k [] ++ (if ((t.k : Nat) : Int) ≠ 4 ∧ q.k ≠ 3 then [32] else []) ++ bodyS lit t
      rw [sepL_nat]
      simp
    | cons y r =>
      have e : (q :: y :: r).getLast? = (y :: r).getLast? := by simp
      rw [e]
      obtain ⟨z, hz⟩ : ∃ z, (y :: r).getLast? = some z := ⟨_, List.getLast?_eq_some_getLast (by simp)⟩
      rw [hz]
      show _ = bodyS lit q ++ restS lit q.k (y :: r) ++ (if ((t.k : Nat) : Int) ≠ 4 ∧ z.k ≠ 3 then [32] else []) ++ bodyS lit t
      rw [sepL_nat]
      simp only [List.append_assoc]
/-- tokens that may be written, as a text -/
def GoodS (lit : Bool) (l : List TokI) (s : ByteArray) : Prop := ∃ l' : List TokS, l = l'.map TokS.i ∧ (∀ t ∈ l', okTok lit t) ∧ deepOk 0 l' ∧ l'.length ≤ 200 ∧ s = St (writtenS lit l')
/-- the first of them are -/
structure PreS (lit : Bool) (l : List TokI) (j : Nat) (l1 : List TokS) (S : List UInt8) (D : Int) : Prop where
  tk : l.take j = l1.map TokS.i
  ok : ∀ t ∈ l1, okTok lit t
  deep : okP 0 l1
  D : D = depthS 0 l1
  S : S = writtenS lit l1
theorem map_i_inj : ∀ {a b : List TokS}, a.map TokS.i = b.map TokS.i → a = b
  | [], [], _ => rfl
  | [], _ :: _, h => by cases h
  | _ :: _, [], h => by cases h
  | x :: a, y :: b, h => by
    injection h with h1 h2
    rw [tok_i_inj h1, map_i_inj h2]
theorem GoodS.split {lit : Bool} {l : List TokI} {s : ByteArray} {j : Nat} {l1 : List TokS} {S : List UInt8} {D : Int} (h : GoodS lit l s) (hp : PreS lit l j l1 S D) {x : TokI} (hx : l[j]? = some x) : ∃ t r, x = t.i ∧ okTok lit t ∧ okP D (t :: r) := by
  obtain ⟨l', rfl, h2, h3, h4, -⟩ := h
  rw [List.getElem?_map] at hx
  cases ht : l'[j]? with
  | none => rw [ht] at hx; cases hx
  | some t =>
    rw [ht] at hx
    injection hx with hx
    have hj := (List.getElem?_eq_some_iff.1 ht).1
    have e : l1 = l'.take j := map_i_inj (by rw [← hp.tk, List.map_take])
    refine ⟨t, l'.drop (j + 1), hx.symm, h2 t (List.mem_of_getElem? ht), ?_⟩
    have h5 := (deep_iff l' 0).1 h3
    have h6 : l' = l1 ++ (t :: l'.drop (j + 1)) := by
      rw [e, ← (List.getElem?_eq_some_iff.1 ht).2, ← List.drop_eq_getElem_cons hj, List.take_append_drop]
    have h7 := h5.1
    rw [h6, okP_app] at h7
    rw [hp.D]
    exact h7.2
theorem PreS.zero (lit : Bool) (l : List TokI) : PreS lit l 0 [] [] 0 := ⟨by simp, fun _ h => (by cases h), trivial, rfl, rfl⟩
theorem PreS.next {lit : Bool} {l : List TokI} {j : Nat} {l1 : List TokS} {S : List UInt8} {D : Int} (hp : PreS lit l j l1 S D) {t : TokS} (hx : l[j]? = some t.i) (hok : okTok lit t) (hd : 0 ≤ deepS D t.k) : PreS lit l (j + 1) (l1 ++ [t]) (S ++ sepL l1 (t.k : Nat) ++ bodyS lit t) (deepS D t.k) := by
  refine ⟨by rw [List.take_add_one, hx, hp.tk, List.map_append]; rfl, fun x h => ?_, ?_, by rw [depth_snoc, hp.D], by rw [writ_snoc, hp.S]⟩
  · rcases List.mem_append.1 h with h | h
    · exact hp.ok x h
    · rw [List.mem_singleton.1 h]; exact hok
  · rw [okP_app, ← hp.D]
    exact ⟨hp.deep, hd, trivial⟩
theorem PreS.done {lit : Bool} {l : List TokI} {j : Nat} {l1 : List TokS} {S : List UInt8} {D : Int} (hp : PreS lit l j l1 S D) (hj : l.length ≤ j) (h0 : D = 0) (h2 : l.length ≤ 200) : GoodS lit l (St S) := by
  have e := hp.tk
  rw [List.take_of_length_le hj] at e
  have hl := congrArg List.length e
  rw [List.length_map] at hl
  exact ⟨l1, e, hp.ok, (deep_iff l1 0).2 ⟨hp.deep, by rw [← hp.D]; exact h0⟩, by omega, by rw [hp.S]⟩
theorem PreS.bad {lit : Bool} {l : List TokI} {j : Nat} {l1 : List TokS} {S : List UInt8} {D : Int} (hp : PreS lit l j l1 S D) (hj : l.length ≤ j) (h : ¬ (D = 0 ∧ l.length ≤ 200)) (s : ByteArray) : ¬ GoodS lit l s := by
  rintro ⟨l', rfl, h2, h3, h4, -⟩
  have e := hp.tk
  rw [List.take_of_length_le hj] at e
  have e := map_i_inj e
  refine h ⟨?_, by rw [List.length_map]; exact h4⟩
  rw [hp.D, ← e]
  exact ((deep_iff l' 0).1 h3).2
theorem esc_len (l : List UInt8) : (l.flatMap escB).length ≤ 2 * l.length := by
  induction l with
  | nil => simp
  | cons x l ih =>
    rw [List.flatMap_cons, List.length_append, List.length_cons]
    have : (escB x).length ≤ 2 := by unfold escB; split <;> simp
    omega
theorem body_len (lit : Bool) (t : TokS) : (bodyS lit t).length ≤ 2 * t.t.length + 20 := by
  have h1 := countB_len 7 t.t.length
  have h2 := esc_len t.t
  unfold bodyS
  split
  · omega
  · split
    · split
      · simp only [List.length_append, List.length_cons, List.length_nil]; omega
      · simp only [List.length_append, List.length_cons, List.length_nil]; omega
    · split <;> simp
theorem sepL_len (l : List TokS) (k : Int) : (sepL l k).length ≤ 1 := by
  unfold sepL
  split
  · simp
  · split <;> simp
end Go.Proofs.YtaljodmhalodhaaDoor
/-
  Walk: cubbylaw15.Written.
-/
namespace Go.Proofs.YtaljodmhalodhaaDoor
open Go.RowKit
set_option linter.unusedSimpArgs false
set_option linter.unusedVariables false
theorem sepB {lit : Bool} {l : List TokI} {j p : Nat} {l1 : List TokS} {S : List UInt8} {D : Int} (hP : PreS lit l j l1 S D) (hl : l1.length = j) (hp : j - 1 = p) {y : TokI} (hy : l[p]? = some y) (k : Int) : sepL l1 k = if (decide (0 < j) && k != 4 && y.k != 3) = true then [32] else [] := by
  cases hj : j with
  | zero =>
    have : l1 = [] := List.length_eq_zero_iff.1 (by omega)
    rw [this]
    rfl
  | succ j' =>
    have e1 : l1[p]? = l1.getLast? := by rw [List.getLast?_eq_getElem?, ← hp, hl]
    have hpl : p < l1.length := by omega
    have e2 : (l1.map TokS.i)[p]? = some y := by rw [← hP.tk, List.getElem?_take_of_lt (by omega), hy]
    rw [List.getElem?_map] at e2
    unfold sepL
    rw [← e1]
    cases hq : l1[p]? with
    | none => rw [hq] at e2; cases e2
    | some z =>
      rw [hq] at e2
      injection e2 with e2
      subst e2
      have e3 : (z.i.k != 3) = !(z.k == 3) := by
        show (((z.k : Nat) : Int) != 3) = _
        rw [Bool.eq_iff_iff]
        simp
        omega
      rw [e3]
      by_cases h1 : k = 4
      · simp [h1]
      · by_cases h2 : z.k = 3
        · simp [h2]
        · simp [h1, h2]
theorem not_plain (c : UInt8) : (decide (((c.toNat : Nat) : Int) < 33) || decide ((126 : Int) < ((c.toNat : Nat) : Int)) || ((c.toNat : Nat) : Int) == 40 || ((c.toNat : Nat) : Int) == 41 || ((c.toNat : Nat) : Int) == 123 || ((c.toNat : Nat) : Int) == 34) = !plainB c := by
  rw [show (((c.toNat : Nat) : Int) == 40) = (c == 40) from u8_eq c 40 (by decide), show (((c.toNat : Nat) : Int) == 41) = (c == 41) from u8_eq c 41 (by decide), show (((c.toNat : Nat) : Int) == 123) = (c == 123) from u8_eq c 123 (by decide), show (((c.toNat : Nat) : Int) == 34) = (c == 34) from u8_eq c 34 (by decide)]
  unfold plainB
  rw [show decide (((c.toNat : Nat) : Int) < 33) = !decide (33 ≤ c.toNat) by rw [Bool.eq_iff_iff]; simp; omega, show decide ((126 : Int) < ((c.toNat : Nat) : Int)) = !decide (c.toNat ≤ 126) by rw [Bool.eq_iff_iff]; simp; omega]
  cases decide (33 ≤ c.toNat) <;> cases decide (c.toNat ≤ 126) <;> simp [Bool.or_assoc]
theorem ok_atom {lit : Bool} {t : List UInt8} (h : okTok lit ⟨1, t⟩) : t ≠ [] ∧ ∀ c ∈ t, plainB c = true := by
  rcases h with ⟨_, h1, h2⟩ | ⟨h, _⟩ | ⟨h | h, _⟩
  · exact ⟨h1, h2⟩
  · cases h
  · cases h
  · cases h
theorem ok_quo {t : List UInt8} (h : okTok false ⟨2, t⟩) : ∀ c ∈ t, c ≠ 13 ∧ c ≠ 10 := by
  rcases h with ⟨h, _⟩ | ⟨_, _, h2⟩ | ⟨h | h, _⟩
  · cases h
  · rcases h2 with h2 | h2
    · cases h2
    · exact h2
  · cases h
  · cases h
theorem body_one (lit : Bool) (t : List UInt8) : bodyS lit ⟨1, t⟩ = t := rfl
theorem body_lit (t : List UInt8) : bodyS true ⟨2, t⟩ = [123] ++ countB 7 t.length ++ [125] ++ [13, 10] ++ t := rfl
theorem body_quo (t : List UInt8) : bodyS false ⟨2, t⟩ = [34] ++ t.flatMap escB ++ [34] := rfl
set_option maxRecDepth 100000 in
set_option maxHeartbeats 8000000 in
theorem written_any (A : Option Addr) (n c : Nat) (l : List TokI) (lit : Bool) (w : World) (hl : l.length = n) (hn : n ≤ 250) (hr : RowR tokISh w A l) (hsz : ∀ x ∈ l, x.t.length ≤ 5000) : Calls Tryd.prog 10 #[.slice A n c, .bool lit] w fun ev w' => ∃ s ok, ev = .returned (.tuple #[.string s, .bool ok]) ∧ (ok = true → GoodS lit l s) ∧ (ok = false → ∀ s', ¬ GoodS lit l s') ∧ Below w.heap.size w w' := by
  refine calls_at 169 Tryd.func10 rfl rfl (Nat.le_of_ble_eq_true rfl) ?_
  intro a hA; replace hA := hA.norm
  refine wS (wR ?_)
  revert a; (iterate 2 refine wo rfl rfl (by decide) (fun ev e h => by simp [go_sem, h] <;> rfl) ?_); intro a hA
  replace hA := hA.keepN [0, 1]
  refine wN (nT (wS (wR ?_)))
  revert a; refine wo rfl rfl (by decide) (fun ev e h => by simp [go_sem, h] <;> rfl) ?_; intro a hA
  replace hA := hA.keepN [0, 1, 6]
  refine wN (nT (wS (wR ?_)))
  revert a; refine wo rfl rfl (by decide) (fun ev e h => by simp [go_sem, h] <;> rfl) ?_; intro a hA
  replace hA := hA.keepN [0, 1, 6, 7]
  refine wN (nT (wS (wS (wR ?_))))
  revert a; (iterate 3 refine wo rfl rfl (by decide) (fun ev e h => by simp [go_sem, h] <;> rfl) ?_); intro a hA
  replace hA := hA.keepN [0, 1, 6, 7, 15, 16]
  refine wN (nT (wB ?_))
  refine wp_loop_at (fun f a wx => ∃ (j : Nat) (l1 : List TokS) (S : List UInt8) (D : Int), j + f = n ∧ PreS lit l j l1 S D ∧ l1.length = j ∧ 0 ≤ D ∧ D ≤ ((j : Nat) : Int) ∧ S.length ≤ j * 12000 ∧ Below w.heap.size w wx ∧ At 169 [(0, .slice A n c), (1, .bool lit), (6, .string (St S)), (7, .int .i64 D), (15, .int .i64 (n : Nat)), (16, .int .i64 (j : Nat))] a) (n) ?_ ?_
  · exact ⟨0, [], [], 0, by omega, PreS.zero lit l, rfl, by omega, by omega, by simp, Below.refl _ _, hA⟩
  clear hA
  rintro f a wx ⟨j, l1, S, D, hjf, hP, hl1, hD0, hDj, hS, HB, hA⟩
  refine wS (wR ?_)
  revert a; refine wo rfl rfl (by decide) (fun ev e h => by simp [go_sem, h] <;> rfl) ?_; intro a hA
  replace hA := hA.keepN [0, 1, 6, 7, 15, 16, 17]
  refine wN (nT (wS ?_))
  refine wp_if hA 17 _ rfl (fun hq => ?yA) (fun hq => ?nA)
  case nA =>
    have hjn : n ≤ j := by simp at hq; omega
    replace hA := hA.keepN [0, 6, 7]
    refine wp_exit (xT (xT (xB (nT (wS (wR ?_))))))
    revert a; (iterate 4 refine wo rfl rfl (by decide) (fun ev e h => by simp [go_sem, h] <;> rfl) ?_); (iterate 3 refine wg _ rfl rfl rfl rfl (by decide) (fun hq ev e h => by simp [go_sem, h, ↓gw_t (beq_t hq)] <;> rfl) ?_); refine wka rfl rfl (by decide) rfl rfl rfl ?_; (iterate 2 refine wo rfl rfl (by decide) (fun ev e h => by simp [go_sem, h] <;> rfl) ?_); intro a hA
    replace hA := hA.keepN [4, 5]
    refine wN (nT (wp_ret ?_))
    refine ret_2 hA 4 5 rfl rfl rfl ?_
    refine ⟨_, _, rfl, fun hok => ?_, fun hok => ?_, HB⟩
    · have hc : D = 0 ∧ ((n : Nat) : Int) ≤ 200 := by simpa using hok
      exact hP.done (by omega) hc.1 (by omega)
    · have hc : D = 0 → (200 : Int) < ((n : Nat) : Int) := by simpa using hok
      exact fun s => hP.bad (by omega) (by rw [hl]; rintro ⟨h1, h2⟩; have := hc h1; omega) s
  case yA =>
    have hjn : j < n := by simp at hq; omega
    obtain ⟨x, hx⟩ : ∃ x, l[j]? = some x := ⟨_, List.getElem?_eq_getElem (by omega)⟩
    obtain ⟨ad, rfl, hadl, k0, k1⟩ := (hr.below HB).cell hx
    have hxt := hsz x (List.mem_of_getElem? hx)
    have hbad : ∀ (h : ∀ t : TokS, x = t.i → okTok lit t → False) (s' : ByteArray), ¬ GoodS lit l s' := fun h s' hg => by
      obtain ⟨t, r, h1, h2, _⟩ := hg.split hP hx
      exact h t h1 h2
    have hbadD : ∀ (kk : Nat) (h : x.k = (kk : Nat)) (h2 : deepS D kk < 0) (s' : ByteArray), ¬ GoodS lit l s' := fun kk h h2 s' hg => by
      obtain ⟨t, r, h3, _, h4⟩ := hg.split hP hx
      have h5 : x.k = (t.k : Nat) := by rw [h3]; rfl
      have h6 : kk = t.k := by omega
      have h7 := h4.1
      rw [← h6] at h7
      omega
    obtain ⟨xk, t⟩ := x
    have hbad2 : ∀ kk : Nat, xk = (kk : Nat) → ¬ okTok lit ⟨kk, t⟩ → ∀ s', ¬ GoodS lit l s' := fun kk h1 h2 => hbad fun t' h3 h4 => by
      obtain ⟨k', tt⟩ := t'
      injection h3 with h5 h6
      have h5 : xk = ((k' : Nat) : Int) := h5
      have h6 : t = tt := h6
      have h7 : kk = k' := by omega
      subst h6 h7
      exact h2 h4
    have z0 : wx.cell? (ad.add (j * 2)) = some (.int .i64 xk) := k0 _ rfl
    have z1 : wx.cell? ⟨(ad.add (j * 2)).block, (ad.add (j * 2)).off + 1, none⟩ = some (.string (St t)) := k1 1 _ (by decide) rfl
    have hadl' : (ad.add (j * 2)).block < wx.heap.size := by rw [block_of_add]; exact hadl
    have jj0 : (0 : Int) ≤ (j : Int) := by omega
    have jj1 : (j : Int) < (n : Int) := by omega
    have hxt : t.length ≤ 5000 := hxt
    refine wp_skip (nT (wS (wB (wS (wR ?_)))))
    revert a; (iterate 2 refine wo rfl rfl (by decide) (fun ev e h => by simp [go_sem, h, jj0, jj1, z0, z1] <;> rfl) ?_); intro a hA
    replace hA := hA.keepN [0, 1, 6, 7, 8, 15, 16]
    refine wN (nT (wS (wR ?_)))
    revert a; (iterate 4 refine wo rfl rfl (by decide) (fun ev e h => by simp [go_sem, h, jj0, jj1, z0, z1] <;> rfl) ?_); intro a hA
    refine wl_local [.int .i64 xk, .string (St t)] hA rfl rfl (by decide) (fun ev h => by simp [go_sem, jj0, jj1, z0, z1]; try first | exact ⟨rfl, rfl⟩ | rfl) rfl rfl (by rfl) (fun w1 g ev hb h => by simp [go_sem, h.get 9 rfl, h.get 22 rfl, jj0, jj1, z0, z1, setAll, hb.cell, hb.frozen]) fun w2 a (K : Blk _ _ _ _) hz2 hb2 hA => ?_
    replace HB := HB.trans (hb2.mono HB.size)
    obtain ⟨p, hp⟩ : ∃ p, j - 1 = p := ⟨_, rfl⟩
    obtain ⟨y, hy⟩ : ∃ y, l[p]? = some y := ⟨_, List.getElem?_eq_getElem (by omega)⟩
    have hsepB := sepB hP hl1 hp hy xk
    obtain ⟨ad', e9, hadl2, y0, y1⟩ := (hr.below HB).cell hy
    injection e9 with e9
    subst e9
    obtain ⟨yk, yt⟩ := y
    have v0 : w2.cell? (ad.add (p * 2)) = some (.int .i64 yk) := y0 _ rfl
    have pp0 : (0 : Int) ≤ (p : Int) := by omega
    have pp1 : (p : Int) < (n : Int) := by omega
    have hsepB : sepL l1 xk = if (decide (0 < j) && xk != 4 && yk != 3) = true then [32] else [] := hsepB
    have s1 : St S ++ (⟨#[32]⟩ : ByteArray) = St (S ++ [32]) := st_app S [32]
    have s2 : ¬ 9223372036854775807 < S.length + 1 := by omega
    replace hA := hA.keepN [0, 1, 6, 7, 8, 9, 15, 16]
    refine wN (nT (wS (wS (wR ?_))))
    revert a; (iterate 3 refine wo rfl rfl (by decide) (fun ev e h => by simp [go_sem, h, K.cell] <;> rfl) ?_); (iterate 3 refine wg _ rfl rfl rfl rfl (by decide) (fun hq ev e h => by simp [go_sem, h, ↓gw_t (beq_t hq), K.cell] <;> rfl) ?_); refine wka rfl rfl (by decide) rfl rfl rfl ?_; refine wo rfl rfl (by decide) (fun ev e h => by simp [go_sem, h, K.cell] <;> rfl) ?_; (iterate 2 refine wg _ rfl rfl rfl rfl (by decide) (fun hq ev e h => by simp [go_sem, h, ↓gw_t (beq_t hq), K.cell] <;> rfl) ?_); intro a hA
    replace hA := hA.keepN [0, 1, 6, 7, 9, 15, 16, 30, 31, 32]
    revert a; refine wg _ rfl rfl rfl rfl (by decide) (fun hq ev e h => by simp [go_sem, h, ↓gw_t (beq_t hq), K.cell, (show IntKind.i64.wrap (((j : Nat) : Int) - 1) = ((p : Nat) : Int) from by have h9 := hq; simp at h9; rw [IntWalk.i64_in _ (by omega)]; omega)] <;> rfl) ?_; (iterate 4 refine wg _ rfl rfl rfl rfl (by decide) (fun hq ev e h => by simp [go_sem, h, ↓gw_t (beq_t hq), v0, pp0, pp1] <;> rfl) ?_); refine wka rfl rfl (by decide) rfl rfl rfl ?_; intro a hA
    replace hA := hA.keepN [0, 1, 6, 7, 9, 15, 16, 38]
    refine wN (nT ?_)
    refine wp_join (fun a wy => wy = w2 ∧ At 169 [(0, .slice (some ad) n c), (1, .bool lit), (6, .string (St (S ++ sepL l1 xk))), (7, .int .i64 D), (9, .pointer (some ⟨wx.heap.size, 0, none⟩)), (15, .int .i64 (n : Nat)), (16, .int .i64 (j : Nat))] a) ?jfJ ?jrJ
    case jfJ =>
      refine wp_if hA 38 _ rfl (fun hq2 => ?yB) (fun hq2 => ?nB)
      case yB =>
        have e : (decide (0 < j) && xk != 4 && yk != 3) = true := by simpa using hq2
        rw [hsepB, e, if_pos rfl]
        refine wR ?_
        revert a; (iterate 3 refine wo rfl rfl (by decide) (fun ev e h => by simp [go_sem, h, s1, s2] <;> rfl) ?_); intro a hA
        replace hA := hA.keepN [0, 1, 6, 7, 9, 15, 16]
        refine wN (nT ?_)
        exact ⟨rfl, hA⟩
      case nB =>
        have e : (decide (0 < j) && xk != 4 && yk != 3) = false := by simpa using hq2
        rw [hsepB, e, if_neg (by decide), List.append_nil]
        replace hA := hA.keepN [0, 1, 6, 7, 9, 15, 16]
        refine wp_skip (nT ?_)
        exact ⟨rfl, hA⟩
    case jrJ =>
      clear hA
      rintro a wy ⟨rfl, hA⟩
      have hsl := sepL_len l1 xk
      obtain ⟨S1, hS1⟩ : ∃ S1, S ++ sepL l1 xk = S1 := ⟨_, rfl⟩
      have hS1l : S1.length ≤ j * 12000 + 1 := by rw [← hS1, List.length_append]; omega
      rw [hS1] at hA
      have hj250 : j * 12000 ≤ 3000000 := by omega
      have htz : (St t).size = t.length := rfl
      refine wS (wS (wR ?_))
      revert a; (iterate 2 refine wo rfl rfl (by decide) (fun ev e h => by simp [go_sem, h, K.cell] <;> rfl) ?_); intro a hA
      replace hA := hA.keepN [0, 1, 6, 7, 9, 15, 16, 42]
      refine wN (nT (wB (wS (wR ?_))))
      revert a; (iterate 2 refine wo rfl rfl (by decide) (fun ev e h => by simp [go_sem, h, K.cell] <;> rfl) ?_); intro a hA
      replace hA := hA.keepN [0, 1, 6, 7, 9, 15, 16, 42, 43]
      refine wN (nT ?_)
      refine wp_joinb (fun a wz => wz = wy ∧ ∃ kk : Nat, xk = (kk : Nat) ∧ (okTok lit ⟨kk, t⟩ ∨ kk = 3 ∨ kk = 4) ∧ At 169 [(0, .slice (some ad) n c), (1, .bool lit), (6, .string (St (S1 ++ bodyS lit ⟨kk, t⟩))), (7, .int .i64 (deepS D kk)), (9, .pointer (some ⟨wx.heap.size, 0, none⟩)), (15, .int .i64 (n : Nat)), (16, .int .i64 (j : Nat))] a) ?jfM ?jrM
      case jfM =>
        refine wp_if hA 43 _ rfl (fun hq3 => ?yC) (fun hq3 => ?nC)
        case yC =>
          have hk1 : xk = 1 := by simpa using hq3
          refine wS (wS (wR ?_))
          revert a; (iterate 3 refine wo rfl rfl (by decide) (fun ev e h => by simp [go_sem, h, K.cell] <;> rfl) ?_); intro a hA
          replace hA := hA.keepN [0, 1, 6, 7, 9, 15, 16, 47]
          refine wN (nT ?_)
          refine wp_if hA 47 _ rfl (fun hq4 => ?yD) (fun hq4 => ?nD)
          case yD =>
            have ht0 : t = [] := by simpa using hq4
            refine wS (wR ?_)
            revert a; (iterate 2 refine wo rfl rfl (by decide) (fun ev e h => by simp [go_sem, h, K.cell] <;> rfl) ?_); intro a hA
            replace hA := hA.keepN [4, 5]
            refine wN (nT (wp_ret (rT (rB (rT (rB (rT (rT (rB (rT ?_))))))))))
            refine ret_2 hA 4 5 rfl rfl rfl ?_
            exact ⟨_, _, rfl, fun h => (by cases h), fun _ => hbad2 1 hk1 (fun h => (ok_atom h).1 ht0), HB⟩
          case nD =>
            have ht0 : t ≠ [] := by simpa using hq4
            refine wp_skip (nT (wS (wS (wR ?_))))
            revert a; (iterate 4 refine wo rfl rfl (by decide) (fun ev e h => by simp [go_sem, h, K.cell, htz] <;> rfl) ?_); intro a hA
            replace hA := hA.keepN [0, 1, 6, 7, 9, 15, 16, 50, 51]
            refine wN (nT (wB ?_))
            refine wp_loop_at (fun g a wz => ∃ q : Nat, q + g = t.length ∧ wz = wy ∧ (∀ x ∈ t.take q, plainB x = true) ∧ At 169 [(0, .slice (some ad) n c), (1, .bool lit), (6, .string (St S1)), (7, .int .i64 D), (9, .pointer (some ⟨wx.heap.size, 0, none⟩)), (15, .int .i64 (n : Nat)), (16, .int .i64 (j : Nat)), (50, .int .i64 (t.length : Nat)), (51, .int .i64 (q : Nat))] a) (t.length) ?_ ?_
            · exact ⟨0, by omega, rfl, fun _ h => (by cases h), hA⟩
            clear hA
            rintro g a wz ⟨q, hqg, rfl, hpl, hA⟩
            refine wS (wR ?_)
            revert a; refine wo rfl rfl (by decide) (fun ev e h => by simp [go_sem, h, K.cell, htz] <;> rfl) ?_; intro a hA
            replace hA := hA.keepN [0, 1, 6, 7, 9, 15, 16, 50, 51, 52]
            refine wN (nT (wS ?_))
            refine wp_if hA 52 _ rfl (fun hq5 => ?yI) (fun hq5 => ?nI)
            case nI =>
              have hqt : t.length ≤ q := by simp at hq5; omega
              have ka : St S1 ++ St t = St (S1 ++ t) := st_app S1 t
              have kz : ¬ 9223372036854775807 < S1.length + t.length := by omega
              replace hA := hA.keepN [0, 1, 6, 7, 9, 15, 16]
              refine wp_exit (xT (xT (xB (nT (wR ?_)))))
              revert a; (iterate 5 refine wo rfl rfl (by decide) (fun ev e h => by simp [go_sem, h, K.cell, htz, ka, kz] <;> rfl) ?_); intro a hA
              replace hA := hA.keepN [0, 1, 6, 7, 9, 15, 16]
              refine wN (nB (nT ?_))
              rw [List.take_of_length_le hqt] at hpl
              exact ⟨rfl, 1, hk1, .inl (.inl ⟨rfl, ht0, hpl⟩), hA⟩
            case yI =>
              have hqt : q < t.length := by simp at hq5; omega
              obtain ⟨y, hy⟩ : ∃ y, t[q]? = some y := ⟨_, List.getElem?_eq_getElem hqt⟩
              have g1 : ∀ h : q < (St t).size, (St t)[q] = y := fun h => (List.getElem?_eq_some_iff.1 hy).2
              have i1 : IntKind.i64.wrap ((q : Nat) : Int) = ((q : Nat) : Int) := IntWalk.i64_in _ (by omega)
              have i3 : IntKind.i64.wrap (((q : Nat) : Int) + 1) = ((q + 1 : Nat) : Int) := by rw [IntWalk.i64_in _ (by omega)]; omega
              refine wp_skip (nT (wS (wB (wS (wR ?_)))))
              revert a; (iterate 2 refine wo rfl rfl (by decide) (fun ev e h => by simp [go_sem, h, K.cell, htz, g1, i1, hqt] <;> rfl) ?_); intro a hA
              replace hA := hA.keepN [0, 1, 6, 7, 9, 10, 15, 16, 50, 51]
              refine wN (nT (wS (wR ?_)))
              revert a; (iterate 5 refine wo rfl rfl (by decide) (fun ev e h => by simp [go_sem, h, K.cell, htz, g1, i1, hqt] <;> rfl) ?_); intro a hA
              replace hA := hA.keepN [0, 1, 6, 7, 9, 11, 15, 16, 50, 51]
              refine wN (nT (wS (wR ?_)))
              revert a; (iterate 3 refine wo rfl rfl (by decide) (fun ev e h => by simp [go_sem, h, K.cell, htz, g1, i1, hqt] <;> rfl) ?_); (iterate 2 refine wg _ rfl rfl rfl rfl (by decide) (fun hq ev e h => by simp [go_sem, h, ↓gw_t (beq_t hq), K.cell, htz, g1, i1, hqt] <;> rfl) ?_); refine wko rfl rfl (by decide) rfl rfl rfl ?_; refine wo rfl rfl (by decide) (fun ev e h => by simp [go_sem, h, K.cell, htz, g1, i1, hqt] <;> rfl) ?_; (iterate 2 refine wg _ rfl rfl rfl rfl (by decide) (fun hq ev e h => by simp [go_sem, h, ↓gw_t (beq_t hq), K.cell, htz, g1, i1, hqt] <;> rfl) ?_); refine wko rfl rfl (by decide) rfl rfl rfl ?_; intro a hA
              replace hA := hA.keepN [0, 1, 6, 7, 9, 11, 15, 16, 50, 51, 67]
              revert a; refine wo rfl rfl (by decide) (fun ev e h => by simp [go_sem, h, K.cell, htz, g1, i1, hqt] <;> rfl) ?_; (iterate 2 refine wg _ rfl rfl rfl rfl (by decide) (fun hq ev e h => by simp [go_sem, h, ↓gw_t (beq_t hq), K.cell, htz, g1, i1, hqt] <;> rfl) ?_); refine wko rfl rfl (by decide) rfl rfl rfl ?_; refine wo rfl rfl (by decide) (fun ev e h => by simp [go_sem, h, K.cell, htz, g1, i1, hqt] <;> rfl) ?_; (iterate 2 refine wg _ rfl rfl rfl rfl (by decide) (fun hq ev e h => by simp [go_sem, h, ↓gw_t (beq_t hq), K.cell, htz, g1, i1, hqt] <;> rfl) ?_); refine wko rfl rfl (by decide) rfl rfl rfl ?_; refine wo rfl rfl (by decide) (fun ev e h => by simp [go_sem, h, K.cell, htz, g1, i1, hqt] <;> rfl) ?_; refine wg _ rfl rfl rfl rfl (by decide) (fun hq ev e h => by simp [go_sem, h, ↓gw_t (beq_t hq), K.cell, htz, g1, i1, hqt] <;> rfl) ?_; intro a hA
              replace hA := hA.keepN [0, 1, 6, 7, 9, 15, 16, 50, 51, 76, 77]
              revert a; refine wg _ rfl rfl rfl rfl (by decide) (fun hq ev e h => by simp [go_sem, h, ↓gw_t (beq_t hq), K.cell, htz, g1, i1, hqt] <;> rfl) ?_; refine wko rfl rfl (by decide) rfl rfl rfl ?_; intro a hA
              replace hA := hA.keepN [0, 1, 6, 7, 9, 15, 16, 50, 51, 79]
              refine wN (nT ?_)
              refine wp_if hA 79 _ rfl (fun hq6 => ?yJ2) (fun hq6 => ?nJ2)
              case yJ2 =>
                have hnp : plainB y = false := by
                  have := not_plain y
                  rw [hq6] at this
                  simpa using this.symm
                refine wS (wR ?_)
                revert a; (iterate 2 refine wo rfl rfl (by decide) (fun ev e h => by simp [go_sem, h, K.cell, htz, g1, i1, hqt] <;> rfl) ?_); intro a hA
                replace hA := hA.keepN [4, 5]
                refine wN (nT (wp_ret (rB (rT (rT (rB (rT (rB (rT (rB (rT (rT (rB (rT ?_))))))))))))))
                refine ret_2 hA 4 5 rfl rfl rfl ?_
                exact ⟨_, _, rfl, fun h => (by cases h), fun _ => hbad2 1 hk1 (fun h => by have := (ok_atom h).2 y (List.mem_of_getElem? hy); rw [hnp] at this; cases this), HB⟩
              case nJ2 =>
                have hnp : plainB y = true := by
                  have := not_plain y
                  rw [hq6] at this
                  simpa using this.symm
                refine wp_skip (nB (nT (wR ?_)))
                revert a; (iterate 2 refine wo rfl rfl (by decide) (fun ev e h => by simp [go_sem, h, i3] <;> rfl) ?_); intro a hA
                replace hA := hA.keepN [0, 1, 6, 7, 9, 15, 16, 50, 51]
                refine wN (nT ?_)
                refine ⟨g - 1, by omega, q + 1, by omega, rfl, fun x hx2 => ?_, hA⟩
                rw [List.take_add_one, hy] at hx2
                rcases List.mem_append.1 hx2 with h | h
                · exact hpl x h
                · rw [List.mem_singleton.1 h]; exact hnp
        case nC =>
          have hk1 : xk ≠ 1 := by simpa using hq3
          refine wS (wR ?_)
          revert a; (iterate 2 refine wo rfl rfl (by decide) (fun ev e h => by simp [go_sem, h, K.cell] <;> rfl) ?_); intro a hA
          replace hA := hA.keepN [0, 1, 6, 7, 9, 15, 16, 42, 85]
          refine wN (nT ?_)
          refine wp_if hA 85 _ rfl (fun hq4 => ?yE) (fun hq4 => ?nE)
          case yE =>
            have hk2 : xk = 2 := by simpa using hq4
            refine wS (wS (wR ?_))
            revert a; refine wo rfl rfl (by decide) (fun ev e h => by simp [go_sem, h, K.cell] <;> rfl) ?_; intro a hA
            replace hA := hA.keepN [0, 1, 6, 7, 9, 15, 16, 87]
            refine wN (nT ?_)
            refine wp_if hA 87 _ rfl (fun hq5 => ?yF) (fun hq5 => ?nF)
            case yF =>
              have hq9 : lit = true := hq5
              have hcl := countB_len 7 t.length
              obtain ⟨A1, hA1⟩ : ∃ A1, S1 ++ [123] = A1 := ⟨_, rfl⟩
              obtain ⟨A2, hA2⟩ : ∃ A2, A1 ++ countB 7 t.length = A2 := ⟨_, rfl⟩
              obtain ⟨A3, hA3⟩ : ∃ A3, A2 ++ [125, 13, 10] = A3 := ⟨_, rfl⟩
              obtain ⟨A4, hA4⟩ : ∃ A4, A3 ++ t = A4 := ⟨_, rfl⟩
              have l1' : A1.length = S1.length + 1 := by rw [← hA1]; simp
              have l2 : A2.length = A1.length + (countB 7 t.length).length := by rw [← hA2]; simp
              have l3 : A3.length = A2.length + 3 := by rw [← hA3]; simp
              have c1 : St S1 ++ (⟨#[123]⟩ : ByteArray) = St A1 := by rw [← hA1]; exact st_app S1 [123]
              have c2 : St A1 ++ St (countB 7 t.length) = St A2 := by rw [← hA2]; exact st_app _ _
              have c3 : St A2 ++ (⟨#[125, 13, 10]⟩ : ByteArray) = St A3 := by rw [← hA3]; exact st_app A2 [125, 13, 10]
              have c4 : St A3 ++ St t = St A4 := by rw [← hA4]; exact st_app _ _
              have d1 : ¬ 9223372036854775807 < S1.length + 1 := by omega
              have d2 : ¬ 9223372036854775807 < A1.length + (countB 7 t.length).length := by omega
              have d3 : ¬ 9223372036854775807 < A2.length + 3 := by omega
              have d4 : ¬ 9223372036854775807 < A3.length + t.length := by omega
              have hb4 : S1 ++ bodyS lit ⟨2, t⟩ = A4 := by
                rw [hq9, body_lit, ← hA4, ← hA3, ← hA2, ← hA1]
                simp
              have pT := fun (wo : World) (hC : (fun wv => Below wy.heap.size wy wv) wo) => have Kx := K.below hC K.lt; (Kx.cell)
              refine wS ?_
              refine wp_any_at hA [(.det ?dT0), (.det ?dT1), (.det ?dT2), (.det ?dT3), (.det ?dT4), (.det ?dT5), (.det ?dT6), (.det ?dT7), (.det ?dT8), (.det ?dT9), (.det ?dT10), (.det ?dT11)] [] (fun wv => Below wy.heap.size wy wv) (TSp [] Grows) (by kernel_rfl) rfl (by kernel_rfl) (by kernel_rfl) rfl ((Below.refl _ _).drew) (stab_sp [] [true, true, true, true, true, true, true, true, true, true, true, true] [true, true, true, true, true, true, true, true, true, true, true, true] [] rfl rfl rfl (by kernel_rfl) ⟨trivial, trivial, trivial, trivial, trivial, trivial, trivial, trivial, trivial, trivial, trivial, trivial, trivial⟩ trivial) (fun _ h => by cases h) (fun _ _ _ _ _ h => by cases h) (fun _ h => by cases h) ⟨?oT0, ?oT1, ?oT2, ?oT3, ?oT4, ?oT5, ?oT6, ?oT7, ?oT8, ?oT9, ?oT10, ?oT11, trivial⟩ (by kernel_rfl) ?fT
              case oT0 => intro ev wo hev hC hs hph; have x0 := se hA hs 6; exact od rfl rfl (by kernel_rfl) hC (TSp.of rfl (Grows.refl _)) (by simp [go_sem, x0] <;> rfl)
              case oT1 => intro ev wo hev hC hs hph; have x0 := sd hs 88 0; exact od rfl rfl (by kernel_rfl) hC (TSp.of rfl (Grows.refl _)) (by simp [go_sem, x0, hev.const, c1, d1] <;> rfl)
              case oT2 => intro ev wo hev hC hs hph; have x0 := se hA hs 9; exact od rfl rfl (by kernel_rfl) hC (TSp.of rfl (Grows.refl _)) (by simp [go_sem, x0] <;> rfl)
              case oT3 => intro ev wo hev hC hs hph; have x0 := sd hs 90 2; exact od rfl rfl (by kernel_rfl) hC (TSp.of rfl (Grows.refl _)) (by simp [go_sem, x0, pT _ hC, K.cell] <;> rfl)
              case oT4 => intro ev wo hev hC hs hph; have x0 := sd hs 91 3; exact od rfl rfl (by kernel_rfl) hC (TSp.of rfl (Grows.refl _)) (by simp [go_sem, x0, htz] <;> rfl)
              case oT5 =>
                intro ev wo hev hC hs hph
                have e92 := sd hs 92 4
                have Kx := K.below hC K.lt
                exact ob_dcall (wanted_none rfl) rfl (by kernel_rfl) (count_any t.length _ (by omega)) (exec_call Tryd.func19 (by kernel_rfl) rfl (hev.func _) (by first | (simp only [mL, e92, hev.const] <;> rfl) | (simp [mL, e92, hev.const] <;> rfl))) (by rfl) (fun w3 hb3 => ⟨hC.trans (hb3.mono hC.size), TSp.of rfl hb3⟩)
              case oT6 => intro ev wo hev hC hs hph; have x0 := sd hs 89 1; have x1 := sd hs 93 5; exact od rfl rfl (by kernel_rfl) hC (TSp.of rfl (Grows.refl _)) (by simp [go_sem, x0, x1, c2, d2] <;> rfl)
              case oT7 => intro ev wo hev hC hs hph; have x0 := sd hs 94 6; exact od rfl rfl (by kernel_rfl) hC (TSp.of rfl (Grows.refl _)) (by simp [go_sem, x0, hev.const, c3, d3] <;> rfl)
              case oT8 => intro ev wo hev hC hs hph; have x0 := se hA hs 9; exact od rfl rfl (by kernel_rfl) hC (TSp.of rfl (Grows.refl _)) (by simp [go_sem, x0] <;> rfl)
              case oT9 => intro ev wo hev hC hs hph; have x0 := sd hs 96 8; exact od rfl rfl (by kernel_rfl) hC (TSp.of rfl (Grows.refl _)) (by simp [go_sem, x0, pT _ hC, K.cell] <;> rfl)
              case oT10 => intro ev wo hev hC hs hph; have x0 := sd hs 95 7; have x1 := sd hs 97 9; exact od rfl rfl (by kernel_rfl) hC (TSp.of rfl (Grows.refl _)) (by simp [go_sem, x0, x1, c4, d4] <;> rfl)
              case oT11 => intro ev wo hev hC hs hph; have x0 := sd hs 98 10; exact od rfl rfl (by kernel_rfl) hC (TSp.of rfl (Grows.refl _)) (by simp [go_sem, x0] <;> rfl)
              intro sg wf hC hph
              intro a hA
              replace hA := hA.keepN [0, 1, 6, 7, 15, 16]
              refine nT ?_
              have i3 : IntKind.i64.wrap (((j : Nat) : Int) + 1) = ((j + 1 : Nat) : Int) := by rw [IntWalk.i64_in _ (by omega)]; omega
              replace hA := hA.keepN [0, 1, 6, 7, 15, 16]
              refine wp_exit (xT (x_miss (by decide) (xT (xB (nT (wR ?_))))))
              revert a; (iterate 2 refine wo rfl rfl (by decide) (fun ev e h => by simp [go_sem, h, i3] <;> rfl) ?_); intro a hA
              replace hA := hA.keepN [0, 1, 6, 7, 15, 16]
              refine wN (nT ?_)
              have hok2 : okTok lit ⟨2, t⟩ := .inr (.inl ⟨rfl, by show t.length < _; omega, .inl hq9⟩)
              have hx2 : l[j]? = some (TokS.i ⟨2, t⟩) := by rw [hx, hk2]; rfl
              have hN := hP.next (t := ⟨2, t⟩) hx2 hok2 hD0
              rw [show (deepS D (⟨2, t⟩ : TokS).k) = D from rfl, show S ++ sepL l1 (((⟨2, t⟩ : TokS).k : Nat) : Int) = S1 by rw [← hS1, hk2]; rfl, hb4] at hN
              have hA4l : A4.length = A3.length + t.length := by rw [← hA4]; simp
              exact ⟨f - 1, by omega, j + 1, l1 ++ [⟨2, t⟩], _, D, by omega, hN, by simp [hl1], hD0, by omega, by omega, HB.trans (hC.mono HB.size), hA⟩
            case nF =>
              have ka : St S1 ++ (⟨#[34]⟩ : ByteArray) = St (S1 ++ [34]) := st_app S1 [34]
              have kz : ¬ 9223372036854775807 < S1.length + 1 := by omega
              refine wp_skip (nT (wS (wR ?_)))
              revert a; (iterate 3 refine wo rfl rfl (by decide) (fun ev e h => by simp [go_sem, h, K.cell, htz, ka, kz] <;> rfl) ?_); intro a hA
              replace hA := hA.keepN [0, 1, 6, 7, 9, 15, 16]
              refine wN (nT (wS (wS (wR ?_))))
              revert a; (iterate 4 refine wo rfl rfl (by decide) (fun ev e h => by simp [go_sem, h, K.cell, htz, ka, kz] <;> rfl) ?_); intro a hA
              replace hA := hA.keepN [0, 1, 6, 7, 9, 15, 16, 103, 104]
              refine wN (nT (wB ?_))
              refine wp_loop_at (fun g a wz => ∃ (q : Nat) (S2 : List UInt8), q + g = t.length ∧ wz = wy ∧ (∀ x ∈ t.take q, x ≠ 13 ∧ x ≠ 10) ∧ S2 = S1 ++ [34] ++ (t.take q).flatMap escB ∧ At 169 [(0, .slice (some ad) n c), (1, .bool lit), (6, .string (St S2)), (7, .int .i64 D), (9, .pointer (some ⟨wx.heap.size, 0, none⟩)), (15, .int .i64 (n : Nat)), (16, .int .i64 (j : Nat)), (103, .int .i64 (t.length : Nat)), (104, .int .i64 (q : Nat))] a) (t.length) ?_ ?_
              · exact ⟨0, _, by omega, rfl, fun _ h => (by cases h), by simp, hA⟩
              clear hA
              rintro g a wz ⟨q, S2, hqg, rfl, hpl, hS2, hA⟩
              have hS2l : S2.length ≤ j * 12000 + 2 + 2 * t.length := by
                have h1 := esc_len (t.take q)
                have h2 : (t.take q).length ≤ t.length := by rw [List.length_take]; omega
                rw [hS2, List.length_append, List.length_append, List.length_singleton]
                omega
              refine wS (wR ?_)
              revert a; refine wo rfl rfl (by decide) (fun ev e h => by simp [go_sem, h, K.cell, htz, ka, kz] <;> rfl) ?_; intro a hA
              replace hA := hA.keepN [0, 1, 6, 7, 9, 15, 16, 103, 104, 105]
              refine wN (nT (wS ?_))
              refine wp_if hA 105 _ rfl (fun hq6 => ?yI2) (fun hq6 => ?nI2)
              case nI2 =>
                have hqt : t.length ≤ q := by simp at hq6; omega
                rw [List.take_of_length_le hqt] at hpl hS2
                have ka : St S2 ++ (⟨#[34]⟩ : ByteArray) = St (S2 ++ [34]) := st_app S2 [34]
                have kz : ¬ 9223372036854775807 < S2.length + 1 := by omega
                replace hA := hA.keepN [0, 1, 6, 7, 9, 15, 16]
                refine wp_exit (xT (xT (xB (nT (wR ?_)))))
                revert a; (iterate 3 refine wo rfl rfl (by decide) (fun ev e h => by simp [go_sem, h, ka, kz] <;> rfl) ?_); intro a hA
                replace hA := hA.keepN [0, 1, 6, 7, 9, 15, 16]
                refine wN (nB (nT ?_))
                have hlit : lit = false := hq5
                refine ⟨rfl, 2, hk2, .inl (.inr (.inl ⟨rfl, by show t.length < _; omega, .inr hpl⟩)), ?_⟩
                rw [hlit, body_quo, ← List.append_assoc, ← List.append_assoc, ← hS2, ← hlit]
                exact hA
              case yI2 =>
                have hqt : q < t.length := by simp at hq6; omega
                obtain ⟨y, hy⟩ : ∃ y, t[q]? = some y := ⟨_, List.getElem?_eq_getElem hqt⟩
                have g1 : ∀ h : q < (St t).size, (St t)[q] = y := fun h => (List.getElem?_eq_some_iff.1 hy).2
                have i1 : IntKind.i64.wrap ((q : Nat) : Int) = ((q : Nat) : Int) := IntWalk.i64_in _ (by omega)
                have i3 : IntKind.i64.wrap (((q : Nat) : Int) + 1) = ((q + 1 : Nat) : Int) := by rw [IntWalk.i64_in _ (by omega)]; omega
                refine wp_skip (nT (wS (wB (wS (wR ?_)))))
                revert a; (iterate 2 refine wo rfl rfl (by decide) (fun ev e h => by simp [go_sem, h, K.cell, htz, g1, i1, hqt] <;> rfl) ?_); intro a hA
                replace hA := hA.keepN [0, 1, 6, 7, 9, 12, 15, 16, 103, 104]
                refine wN (nT (wS (wR ?_)))
                revert a; (iterate 5 refine wo rfl rfl (by decide) (fun ev e h => by simp [go_sem, h, K.cell, htz, g1, i1, hqt] <;> rfl) ?_); intro a hA
                replace hA := hA.keepN [0, 1, 6, 7, 9, 12, 13, 15, 16, 103, 104]
                refine wN (nT (wS (wS (wR ?_))))
                revert a; (iterate 3 refine wo rfl rfl (by decide) (fun ev e h => by simp [go_sem, h, K.cell, htz, g1, i1, hqt] <;> rfl) ?_); (iterate 2 refine wg _ rfl rfl rfl rfl (by decide) (fun hq ev e h => by simp [go_sem, h, ↓gw_t (beq_t hq), K.cell, htz, g1, i1, hqt] <;> rfl) ?_); refine wko rfl rfl (by decide) rfl rfl rfl ?_; intro a hA
                replace hA := hA.keepN [0, 1, 6, 7, 9, 12, 13, 15, 16, 103, 104, 116]
                refine wN (nT ?_)
                refine wp_if hA 116 _ rfl (fun hq7 => ?yJ3) (fun hq7 => ?nJ3)
                case yJ3 =>
                  refine wS (wR ?_)
                  revert a; (iterate 2 refine wo rfl rfl (by decide) (fun ev e h => by simp [go_sem, h, K.cell, htz, g1, i1, hqt] <;> rfl) ?_); intro a hA
                  replace hA := hA.keepN [4, 5]
                  refine wN (nT (wp_ret (rT (rB (rT (rT (rB (rT (rB (rT (rB (rT (rT (rB (rT ?_)))))))))))))))
                  refine ret_2 hA 4 5 rfl rfl rfl ?_
                  have hcr : y = 13 ∨ y = 10 := by
                    simp at hq7
                    by_cases e : y = 13
                    · exact .inl e
                    · have e2 : y.toNat ≠ 13 := fun e2 => e (UInt8.toNat_inj.1 e2)
                      exact .inr (UInt8.toNat_inj.1 (by show y.toNat = 10; omega))
                  refine ⟨_, _, rfl, fun h => (by cases h), fun _ => hbad2 2 hk2 (fun h => ?_), HB⟩
                  have hlit : lit = false := hq5
                  rw [hlit] at h
                  have := ok_quo h y (List.mem_of_getElem? hy)
                  rcases hcr with e | e
                  · exact this.1 e
                  · exact this.2 e
                case nJ3 =>
                  have hcr : y ≠ 13 ∧ y ≠ 10 := by
                    constructor
                    · intro e; subst e; simp at hq7
                    · intro e; subst e; simp at hq7
                  refine wp_skip (nT (wS (wS (wR ?_))))
                  revert a; (iterate 3 refine wo rfl rfl (by decide) (fun ev e h => by simp [go_sem, h, K.cell, htz, g1, i1, hqt] <;> rfl) ?_); (iterate 2 refine wg _ rfl rfl rfl rfl (by decide) (fun hq ev e h => by simp [go_sem, h, ↓gw_t (beq_t hq), K.cell, htz, g1, i1, hqt] <;> rfl) ?_); refine wko rfl rfl (by decide) rfl rfl rfl ?_; intro a hA
                  replace hA := hA.keepN [0, 1, 6, 7, 9, 12, 15, 16, 103, 104, 122]
                  refine wN (nT ?_)
                  refine wp_join (fun a wv => wv = wz ∧ At 169 [(0, .slice (some ad) n c), (1, .bool lit), (6, .string (St (S2 ++ if y = 34 ∨ y = 92 then [92] else []))), (7, .int .i64 D), (9, .pointer (some ⟨wx.heap.size, 0, none⟩)), (12, .int .i64 (q : Nat)), (15, .int .i64 (n : Nat)), (16, .int .i64 (j : Nat)), (103, .int .i64 (t.length : Nat)), (104, .int .i64 (q : Nat))] a) ?jfK3 ?jrK3
                  case jfK3 =>
                    refine wp_if hA 122 _ rfl (fun hq8 => ?yL3) (fun hq8 => ?nL3)
                    case yL3 =>
                      have he : y = 34 ∨ y = 92 := by
                        simp at hq8
                        by_cases e : y = 34
                        · exact .inl e
                        · have e2 : y.toNat ≠ 34 := fun e2 => e (UInt8.toNat_inj.1 e2)
                          exact .inr (UInt8.toNat_inj.1 (by show y.toNat = 92; omega))
                      have ka : St S2 ++ (⟨#[92]⟩ : ByteArray) = St (S2 ++ [92]) := st_app S2 [92]
                      have kz : ¬ 9223372036854775807 < S2.length + 1 := by omega
                      rw [if_pos he]
                      refine wR ?_
                      revert a; (iterate 3 refine wo rfl rfl (by decide) (fun ev e h => by simp [go_sem, h, ka, kz] <;> rfl) ?_); intro a hA
                      replace hA := hA.keepN [0, 1, 6, 7, 9, 12, 15, 16, 103, 104]
                      refine wN (nT ?_)
                      exact ⟨rfl, hA⟩
                    case nL3 =>
                      have he : ¬ (y = 34 ∨ y = 92) := by
                        rintro (e | e) <;> subst e <;> simp at hq8
                      rw [if_neg he, List.append_nil]
                      replace hA := hA.keepN [0, 1, 6, 7, 9, 12, 15, 16, 103, 104]
                      refine wp_skip (nT ?_)
                      exact ⟨rfl, hA⟩
                  case jrK3 =>
                    clear hA
                    rintro a wv ⟨rfl, hA⟩
                    obtain ⟨S3, hS3⟩ : ∃ S3, (S2 ++ if y = 34 ∨ y = 92 then [92] else []) = S3 := ⟨_, rfl⟩
                    have hS3l : S3.length ≤ S2.length + 1 := by
                      rw [← hS3, List.length_append]
                      split <;> simp
                    rw [hS3] at hA
                    have ka : St S3 ++ St [y] = St (S3 ++ [y]) := st_app S3 [y]
                    have kz : ¬ 9223372036854775807 < S3.length + 1 := by omega
                    have ke : (St t).extract q (q + 1) = St [y] := by
                      refine ByteArray.ext ?_
                      rw [ByteArray.data_extract]
                      refine Array.ext' ?_
                      rw [Array.toList_extract]
                      show (t.drop q).take (q + 1 - q) = [y]
                      rw [show q + 1 - q = 1 by omega, show t.drop q = y :: t.drop (q + 1) by rw [← (List.getElem?_eq_some_iff.1 hy).2]; exact List.drop_eq_getElem_cons hqt]
                      rfl
                    have k3 : ((q : Nat) : Int) ≤ ((q + 1 : Nat) : Int) := by omega
                    have k4 : ((q + 1 : Nat) : Int) ≤ ((t.length : Nat) : Int) := by omega
                    have k5 : q + 1 ≤ t.length := by omega
                    have k6 : (((q : Nat) : Int) + 1).toNat = q + 1 := by omega
                    have k7 : q + 1 - q = 1 := by omega
                    have k8 : (0 : Int) ≤ ((q : Nat) : Int) + 1 := by omega
                    have k9 : ((q : Nat) : Int) + 1 ≤ ((t.length : Nat) : Int) := by omega
                    have k10 : ((q : Nat) : Int) ≤ ((q : Nat) : Int) + 1 := by omega
                    refine wR ?_
                    revert a; (iterate 9 refine wo rfl rfl (by decide) (fun ev e h => by simp [go_sem, h, K.cell, htz, i3, ka, kz, ke, k3, k4, k5, k6, k7, k8, k9, k10] <;> rfl) ?_); intro a hA
                    replace hA := hA.keepN [0, 1, 6, 7, 9, 15, 16, 103, 104]
                    refine wN (nB (nT (wR ?_)))
                    revert a; (iterate 2 refine wo rfl rfl (by decide) (fun ev e h => by simp [go_sem, h, K.cell, htz, i3, ka, kz, ke, k3, k4, k5, k6, k7, k8, k9, k10] <;> rfl) ?_); intro a hA
                    replace hA := hA.keepN [0, 1, 6, 7, 9, 15, 16, 103, 104]
                    refine wN (nT ?_)
                    refine ⟨g - 1, by omega, q + 1, S3 ++ [y], by omega, rfl, fun x hx2 => ?_, ?_, hA⟩
                    · rw [List.take_add_one, hy] at hx2
                      rcases List.mem_append.1 hx2 with h | h
                      · exact hpl x h
                      · rw [List.mem_singleton.1 h]; exact hcr
                    · have he : escB y = (if y = 34 ∨ y = 92 then [92] else []) ++ [y] := by
                        unfold escB
                        split <;> rfl
                      rw [List.take_add_one, hy, List.flatMap_append, ← List.append_assoc, ← hS2, ← hS3]
                      show _ = S2 ++ ([y].flatMap escB)
                      rw [List.flatMap_singleton, he, List.append_assoc]
          case nE =>
            have hk2 : xk ≠ 2 := by simpa using hq4
            refine wS (wR ?_)
            revert a; (iterate 2 refine wo rfl rfl (by decide) (fun ev e h => by simp [go_sem, h, K.cell] <;> rfl) ?_); intro a hA
            replace hA := hA.keepN [0, 1, 6, 7, 9, 15, 16, 42, 136]
            refine wN (nT ?_)
            refine wp_if hA 136 _ rfl (fun hq5 => ?yG) (fun hq5 => ?nG)
            case yG =>
              have hk3 : xk = 3 := by simpa using hq5
              have ka : St S1 ++ (⟨#[40]⟩ : ByteArray) = St (S1 ++ [40]) := st_app S1 [40]
              have kz : ¬ 9223372036854775807 < S1.length + 1 := by omega
              have i1 : IntKind.i64.wrap (D + 1) = D + 1 := IntWalk.i64_in _ (by omega)
              refine wS (wR ?_)
              revert a; (iterate 3 refine wo rfl rfl (by decide) (fun ev e h => by simp [go_sem, h, ka, kz, i1] <;> rfl) ?_); intro a hA
              replace hA := hA.keepN [0, 1, 6, 7, 9, 15, 16]
              refine wN (nT (wR ?_))
              revert a; (iterate 3 refine wo rfl rfl (by decide) (fun ev e h => by simp [go_sem, h, ka, kz, i1] <;> rfl) ?_); intro a hA
              replace hA := hA.keepN [0, 1, 6, 7, 9, 15, 16]
              refine wN (nB (nT ?_))
              exact ⟨rfl, 3, hk3, .inr (.inl rfl), hA⟩
            case nG =>
              have hk3 : xk ≠ 3 := by simpa using hq5
              refine wS (wR ?_)
              revert a; (iterate 2 refine wo rfl rfl (by decide) (fun ev e h => by simp [go_sem, h, K.cell] <;> rfl) ?_); intro a hA
              replace hA := hA.keepN [0, 1, 6, 7, 9, 15, 16, 142]
              refine wN (nT ?_)
              refine wp_if hA 142 _ rfl (fun hq6 => ?yH) (fun hq6 => ?nH)
              case yH =>
                have hk4 : xk = 4 := by simpa using hq6
                have ka : St S1 ++ (⟨#[41]⟩ : ByteArray) = St (S1 ++ [41]) := st_app S1 [41]
                have kz : ¬ 9223372036854775807 < S1.length + 1 := by omega
                have i1 : IntKind.i64.wrap (D - 1) = D - 1 := IntWalk.i64_in _ (by omega)
                refine wS (wR ?_)
                revert a; (iterate 3 refine wo rfl rfl (by decide) (fun ev e h => by simp [go_sem, h, ka, kz, i1] <;> rfl) ?_); intro a hA
                replace hA := hA.keepN [0, 1, 6, 7, 9, 15, 16]
                refine wN (nT (wR ?_))
                revert a; (iterate 3 refine wo rfl rfl (by decide) (fun ev e h => by simp [go_sem, h, ka, kz, i1] <;> rfl) ?_); intro a hA
                replace hA := hA.keepN [0, 1, 6, 7, 9, 15, 16]
                refine wN (nB (nT ?_))
                exact ⟨rfl, 4, hk4, .inr (.inr rfl), hA⟩
              case nH =>
                have hk4 : xk ≠ 4 := by simpa using hq6
                refine wS (wR ?_)
                revert a; (iterate 2 refine wo rfl rfl (by decide) (fun ev e h => by simp [go_sem, h, K.cell] <;> rfl) ?_); intro a hA
                replace hA := hA.keepN [4, 5]
                refine wN (nT (wp_ret (rB (rT (rB (rT (rT (rB (rT ?_)))))))))
                refine ret_2 hA 4 5 rfl rfl rfl ?_
                refine ⟨_, _, rfl, fun h => (by cases h), fun _ => hbad fun t' h1 h2 => ?_, HB⟩
                injection h1 with h1
                have h1 : xk = ((t'.k : Nat) : Int) := h1
                rcases h2 with ⟨h, _⟩ | ⟨h, _⟩ | ⟨h | h, _⟩
                · exact hk1 (by rw [h1, h]; rfl)
                · exact hk2 (by rw [h1, h]; rfl)
                · exact hk3 (by rw [h1, h]; rfl)
                · exact hk4 (by rw [h1, h]; rfl)
      case jrM =>
        clear hA
        rintro a wz ⟨rfl, kk, rfl, hok, hA⟩
        obtain ⟨D2, hD2⟩ : ∃ D2, deepS D kk = D2 := ⟨_, rfl⟩
        have hdb := deep_bound (k := kk) hD0 hDj
        rw [hD2] at hdb hA
        refine wS (wR ?_)
        revert a; (iterate 4 refine wo rfl rfl (by decide) (fun ev e h => by simp [go_sem, h, K.cell] <;> rfl) ?_); (iterate 3 refine wg _ rfl rfl rfl rfl (by decide) (fun hq ev e h => by simp [go_sem, h, ↓gw_t (beq_t hq), K.cell] <;> rfl) ?_); refine wka rfl rfl (by decide) rfl rfl rfl ?_; refine wo rfl rfl (by decide) (fun ev e h => by simp [go_sem, h, K.cell] <;> rfl) ?_; refine wg _ rfl rfl rfl rfl (by decide) (fun hq ev e h => by simp [go_sem, h, ↓gw_t (beq_t hq), K.cell] <;> rfl) ?_; intro a hA
        replace hA := hA.keepN [0, 1, 6, 7, 15, 16, 156, 157]
        revert a; refine wg _ rfl rfl rfl rfl (by decide) (fun hq ev e h => by simp [go_sem, h, ↓gw_t (beq_t hq), K.cell] <;> rfl) ?_; refine wko rfl rfl (by decide) rfl rfl rfl ?_; intro a hA
        replace hA := hA.keepN [0, 1, 6, 7, 15, 16, 159]
        refine wN (nT ?_)
        refine wp_if hA 159 _ rfl (fun hq7 => ?yP) (fun hq7 => ?nP)
        case yP =>
          refine wS (wR ?_)
          revert a; (iterate 2 refine wo rfl rfl (by decide) (fun ev e h => by simp [go_sem, h, K.cell] <;> rfl) ?_); intro a hA
          replace hA := hA.keepN [4, 5]
          refine wN (nT (wp_ret (rB (rT (rT (rB (rT ?_)))))))
          refine ret_2 hA 4 5 rfl rfl rfl ?_
          refine ⟨_, _, rfl, fun h => (by cases h), fun _ => ?_, HB⟩
          by_cases hd : D2 < 0
          · exact hbadD kk rfl (by rw [hD2]; exact hd)
          · have hc : 2 < kk ∧ t ≠ [] := by
              have h9 : ¬ (D2 < 0) := hd
              simp [h9] at hq7
              exact ⟨by omega, hq7.2⟩
            refine hbad2 kk rfl fun h2 => ?_
            rcases h2 with ⟨h5, _⟩ | ⟨h5, _⟩ | ⟨_, h5⟩
            · have h5 : kk = 1 := h5
              omega
            · have h5 : kk = 2 := h5
              omega
            · exact hc.2 h5
        case nP =>
          have hd : ¬ (D2 < 0) := fun h => by simp [h] at hq7
          have ht : 2 < kk → t = [] := fun h => by
            have h8 : (2 : Int) < ((kk : Nat) : Int) := by omega
            simp [h8] at hq7
            first | exact hq7.1 | exact hq7
          have i3 : IntKind.i64.wrap (((j : Nat) : Int) + 1) = ((j + 1 : Nat) : Int) := by rw [IntWalk.i64_in _ (by omega)]; omega
          refine wp_skip (nB (nT (wR ?_)))
          revert a; (iterate 2 refine wo rfl rfl (by decide) (fun ev e h => by simp [go_sem, h, i3] <;> rfl) ?_); intro a hA
          replace hA := hA.keepN [0, 1, 6, 7, 15, 16]
          refine wN (nT ?_)
          have hok2 : okTok lit ⟨kk, t⟩ := by
            rcases hok with h | h | h
            · exact h
            · exact .inr (.inr ⟨.inl h, ht (by omega)⟩)
            · exact .inr (.inr ⟨.inr h, ht (by omega)⟩)
          have hN := hP.next (t := ⟨kk, t⟩) hx hok2 (by show 0 ≤ deepS D kk; rw [hD2]; omega)
          rw [show (deepS D (⟨kk, t⟩ : TokS).k) = D2 from hD2, show S ++ sepL l1 (((⟨kk, t⟩ : TokS).k : Nat) : Int) = S1 from hS1] at hN
          have hbl : (bodyS lit ⟨kk, t⟩).length ≤ 2 * t.length + 20 := body_len lit ⟨kk, t⟩
          exact ⟨f - 1, by omega, j + 1, l1 ++ [⟨kk, t⟩], _, D2, by omega, hN, by simp [hl1], by omega, hdb.2, by rw [List.length_append]; omega, HB, hA⟩
end Go.Proofs.YtaljodmhalodhaaDoor
/-
  A text, as it is told: plainly (fetch.String).
-/
namespace Go.Proofs.YtaljodmhalodhaaDoor
open Go.RowKit
theorem index_ne {b c : UInt8} (l : List UInt8) (h : b ≠ c) : Lib.index (b :: l) [c] = if Lib.index l [c] = -1 then -1 else Lib.index l [c] + 1 := by
  conv => lhs; unfold Lib.index
  have : ([c] : List UInt8).isPrefixOf (b :: l) = false := by
    simp [List.isPrefixOf]
    exact fun e => h e.symm
  rw [this]
  simp only [Bool.false_eq_true, if_false, beq_iff_eq]
theorem repK_ne {b c : UInt8} (new : List UInt8) (h : b ≠ c) : ∀ (k : Nat) (l : List UInt8), Lib.replaceK [c] new k (b :: l) = b :: Lib.replaceK [c] new k l
  | 0, l => rfl
  | k + 1, l => by
    unfold Lib.replaceK
    rw [index_ne l h]
    by_cases hi : Lib.index l [c] = -1
    · rw [if_pos hi, hi]
      rfl
    · have hge := Lib.index_ge l [c]
      obtain ⟨i, hi2⟩ : ∃ i : Nat, Lib.index l [c] = i := ⟨(Lib.index l [c]).toNat, by omega⟩
      rw [hi2]
      have e1 : ¬ (((i : Nat) : Int) = -1) := by omega
      have e2 : ¬ ((((i : Nat) : Int) + 1 == -1) = true) := by rw [beq_iff_eq]; omega
      have e3 : ¬ ((((i : Nat) : Int) == -1) = true) := by rw [beq_iff_eq]; omega
      have e4 : (((i : Nat) : Int) + 1).toNat = i + 1 := by omega
      rw [if_neg e1, if_neg e2, if_neg e3, e4, Int.toNat_natCast]
      rfl
theorem repK_all (c : UInt8) (new : List UInt8) : ∀ (s : List UInt8) (k : Nat), s.count c ≤ k → Lib.replaceK [c] new k s = s.flatMap fun x => if x = c then new else [x]
  | [], k, _ => by
    cases k with
    | zero => rfl
    | succ k => rfl
  | b :: l, k, hk => by
    rw [List.flatMap_cons]
    by_cases h : b = c
    · subst h
      rw [List.count_cons_self] at hk
      obtain ⟨k, rfl⟩ : ∃ j, k = j + 1 := ⟨k - 1, by omega⟩
      rw [if_pos rfl, ← repK_all b new l k (by omega)]
      have hi : Lib.index (b :: l) [b] = 0 := by
        unfold Lib.index
        simp [List.isPrefixOf]
      unfold Lib.replaceK
      rw [hi]
      cases k <;> rfl
    · rw [if_neg h, repK_ne new h, ← repK_all c new l k (by rw [List.count_cons_of_ne h] at hk; exact hk)]
      rfl
theorem repAll_one (c : UInt8) {new : List UInt8} (hn : new ≠ [c]) (s : List UInt8) : Lib.replaceAll s [c] new = s.flatMap fun x => if x = c then new else [x] := by
  unfold Lib.replaceAll Lib.replace Lib.replaceNum
  rw [if_neg (by rw [beq_iff_eq]; exact fun e => hn e.symm), if_pos (.inl (by decide)), Lib.count_one]
  exact repK_all c new s _ (Nat.le_refl _)
/-- both signs are marked -/
theorem rep_esc (s : List UInt8) : Lib.replaceAll (Lib.replaceAll s [92] [92, 92]) [34] [92, 34] = s.flatMap escB := by
  rw [repAll_one 92 (by decide), repAll_one 34 (by decide), List.flatMap_assoc]
  congr 1
  funext x
  unfold escB
  by_cases h1 : x = 92
  · subst h1; rfl
  · by_cases h2 : x = 34
    · subst h2; rfl
    · rw [if_neg h1, if_neg (by rintro (h | h); exact h2 h; exact h1 h)]
      show (if x = 34 then _ else _) ++ [] = _
      rw [if_neg h2]
      rfl
theorem digits_count : ∀ (f n : Nat), n < 10 ^ f → 1 ≤ f → Lib.decDigits n = countB f n
  | 0, _, _, h => by omega
  | f + 1, n, h, _ => by
    rw [Lib.decDigits]
    unfold countB
    by_cases hn : n < 10
    · rw [dif_pos hn, if_pos hn]
    · rw [dif_neg hn, if_neg hn]
      have hf : 1 ≤ f := by
        rcases Nat.eq_zero_or_pos f with e | e
        · subst e; rw [Nat.zero_add, Nat.pow_one] at h; omega
        · exact e
      rw [digits_count f (n / 10) (by rw [Nat.pow_succ] at h; omega) hf]
def plainT (c : UInt8) : Bool := decide (32 ≤ c.toNat) && decide (c.toNat ≤ 126)
/-- a text as it is told -/
def strF (s : List UInt8) : List UInt8 := bodyS (!s.all plainT) ⟨2, s⟩
theorem strF_plain {s : List UInt8} (h : s.all plainT = true) : strF s = [34] ++ s.flatMap escB ++ [34] := by
  unfold strF
  rw [h]
  rfl
theorem strF_lit {s : List UInt8} (h : s.all plainT = false) : strF s = [123] ++ countB 7 s.length ++ [125] ++ [13, 10] ++ s := by
  unfold strF
  rw [h]
  rfl
theorem strF_tok {s : List UInt8} (h : s.length ≤ 100000) : tokS 202 0 0 (strF s) = some [⟨2, s⟩] := by
  have hok : okTok (!s.all plainT) ⟨2, s⟩ := by
    refine .inr (.inl ⟨rfl, by show s.length < _; omega, ?_⟩)
    cases hp : s.all plainT with
    | false => exact .inl rfl
    | true =>
      refine .inr fun c hc => ?_
      have := List.all_eq_true.1 hp c hc
      unfold plainT at this
      simp at this
      constructor
      · rintro rfl; revert this; decide
      · rintro rfl; revert this; decide
  have := tok_back (!s.all plainT) [⟨2, s⟩] 202 (fun t ht => by rw [List.mem_singleton.1 ht]; exact hok) ⟨(by decide : (0 : Int) ≤ deepS 0 2), rfl⟩ (Nat.le_of_ble_eq_true rfl) (Nat.le_of_ble_eq_true rfl)
  have e : writtenS (!s.all plainT) [⟨2, s⟩] = strF s := by
    show bodyS _ _ ++ [] = _
    rw [List.append_nil]
    rfl
  rw [e] at this
  exact this
end Go.Proofs.YtaljodmhalodhaaDoor
/-
  Walks: a text as it is told (fetch.String), and the statement's own count.
-/
namespace Go.Proofs.YtaljodmhalodhaaDoor
open Go.RowKit
set_option linter.unusedSimpArgs false
set_option linter.unusedVariables false
set_option maxRecDepth 100000 in
set_option maxHeartbeats 4000000 in
theorem digits_any (q f0 : Nat) (w : World) (hf0 : 1 ≤ f0) (hf1 : f0 ≤ 19) (hq1 : q < 10 ^ f0) (hq2 : q < 10000000000000000000) : Calls Tryd.prog 25 #[.int .u64 (q : Nat)] w fun ev w' => ev = .returned (.string (St (countB f0 q))) ∧ Below w.heap.size w w' := by
  refine calls_at 21 Tryd.func25 rfl rfl (Nat.le_of_ble_eq_true rfl) ?_
  intro a hA; replace hA := hA.norm
  refine wS (wR ?_)
  revert a; refine wo rfl rfl (by decide) (fun ev e h => by simp [go_sem, h] <;> rfl) ?_; intro a hA
  replace hA := hA.keepN [0]
  refine wN (nT (wS (wR ?_)))
  revert a; refine wo rfl rfl (by decide) (fun ev e h => by simp [go_sem, h] <;> rfl) ?_; intro a hA
  replace hA := hA.keepN [0, 3]
  refine wN (nT (wS (wB ?_)))
  refine wp_loop_at (fun k a wx => ∃ (f n : Nat) (s : List UInt8), (s = [] ∨ 0 < n → countB f0 q = countB f n ++ s ∧ n < 10 ^ f ∧ 1 ≤ f) ∧ (s ≠ [] → n = 0 → countB f0 q = s) ∧ n ≤ q ∧ s.length ≤ 100 ∧ s.length + f ≤ 20 ∧ n + (if s = [] then 1 else 0) ≤ k ∧ Below w.heap.size w wx ∧ At 21 [(0, .int .u64 (n : Nat)), (3, .string (St s))] a) (q + 1) ?_ ?_
  · exact ⟨f0, q, [], fun _ => ⟨by simp, hq1, hf0⟩, fun h => absurd rfl h, Nat.le_refl _, Nat.zero_le _, by simp; omega, by simp, Below.refl _ _, hA⟩
  clear hA
  rintro k a wx ⟨f, n, s, h1, h2, hnq, hsl, hsf, hk, HB, hA⟩
  refine wS (wS (wR ?_))
  revert a; (iterate 3 refine wo rfl rfl (by decide) (fun ev e h => by simp [go_sem, h] <;> rfl) ?_); (iterate 2 refine wg _ rfl rfl rfl rfl (by decide) (fun hq ev e h => by simp [go_sem, h, ↓gw_t (beq_t hq)] <;> rfl) ?_); refine wko rfl rfl (by decide) rfl rfl rfl ?_; intro a hA
  replace hA := hA.keepN [0, 3, 9]
  refine wN (nT ?_)
  refine wp_if hA 9 _ rfl (fun hq => ?yL) (fun hq => ?nL)
  case nL =>
    have hc : n = 0 ∧ ¬ s = [] := by simpa using hq
    have hs := hc.2
    replace hA := hA.keepN [3]
    refine wp_exit (xT (xT (xB (nT (wS (wR ?_))))))
    revert a; (iterate 2 refine wo rfl rfl (by decide) (fun ev e h => by simp [go_sem, h] <;> rfl) ?_); intro a hA
    replace hA := hA.keepN [2]
    refine wN (nT (wp_ret ?_))
    refine ret_1 hA 2 rfl rfl ?_
    exact ⟨by rw [h2 hs (by omega)], HB⟩
  case yL =>
    have hc : s = [] ∨ 0 < n := by
      rcases Nat.eq_zero_or_pos n with e | e
      · left
        subst e
        simpa using hq
      · exact .inr e
    obtain ⟨h3, h4, h5⟩ := h1 hc
    obtain ⟨f, rfl⟩ : ∃ g, f = g + 1 := ⟨f - 1, by omega⟩
    obtain ⟨dg, hdg⟩ : ∃ dg : UInt8, UInt8.ofNat (48 + n % 10) = dg := ⟨_, rfl⟩
    have hdn : dg.toNat = 48 + n % 10 := by rw [← hdg, UInt8.toNat_ofNat']; omega
    have j1 : ((n : Nat) : Int).tmod 10 = ((n % 10 : Nat) : Int) := by rw [Int.tmod_eq_emod_of_nonneg (by omega)]; rfl
    have j2 : IntKind.u64.wrap (48 + ((n % 10 : Nat) : Int)) = ((dg.toNat : Nat) : Int) := by rw [IntWalk.u64_in _ (by omega)]; omega
    have j3 : IntKind.u8.wrap ((dg.toNat : Nat) : Int) = ((dg.toNat : Nat) : Int) := by
      have := dg.toNat_lt
      unfold IntKind.wrap
      simp [IntKind.bits, IntKind.signed]
      omega
    have j4 : ((n : Nat) : Int).tdiv 10 = ((n / 10 : Nat) : Int) := rfl
    have j5 : IntKind.u64.wrap ((n / 10 : Nat) : Int) = ((n / 10 : Nat) : Int) := IntWalk.u64_in _ (by omega)
    obtain ⟨n2, hn2⟩ : ∃ n2, n / 10 = n2 := ⟨_, rfl⟩
    obtain ⟨n3, hn3⟩ : ∃ n3, n % 10 = n3 := ⟨_, rfl⟩
    rw [hn2] at j4 j5
    rw [hn3] at j1 j2 hdn
    refine wp_skip (nT (wB (wS (wR ?_))))
    revert a; (iterate 3 refine wo rfl rfl (by decide) (fun ev e h => by simp [go_sem, h, j1, j2, j3, j4, j5] <;> rfl) ?_); intro a hA
    refine wl_op hA rfl rfl (by decide) (fun ev h => by simp [go_sem, h.get 12 rfl, j1, j2, j3, j4, j5]; try first | exact ⟨rfl, rfl⟩ | rfl) fun a hA => ?_
    refine wl_new hA rfl rfl (by decide) (fun ev h => by simp [go_sem, h.get 13 rfl, j1, j2, j3, j4, j5]; try first | exact ⟨rfl, rfl⟩ | rfl) fun w1 a (K : Blk _ _ _ _) hz1' hb1 hA => ?_
    replace HB := HB.trans (hb1.mono HB.size)
    have hrd : Reads w1 w1.heap.size 1 (some ⟨wx.heap.size, 0, none⟩) 1 (u8s [dg]) := (blk_x (B := 0) (l := [dg]) K (Nat.zero_le _) rfl (by simp)).reads
    have hcv := conv_reads (n := 1) (c := 1) (l := [dg]) rfl hrd
    have ka : (⟨[dg].toArray⟩ : ByteArray) ++ St s = St (dg :: s) := st_app [dg] s
    have kz : ¬ 9223372036854775807 < 1 + s.length := by omega
    refine wl_op hA rfl rfl (by decide) (fun ev h => by simp [go_sem, h.get 14 rfl, j1, j2, j3, j4, j5, hcv, ka, kz]; try first | exact ⟨rfl, rfl⟩ | rfl) fun a hA => ?_
    revert a; (iterate 3 refine wo rfl rfl (by decide) (fun ev e h => by simp [go_sem, h, j1, j2, j3, j4, j5, hcv, ka, kz] <;> rfl) ?_); intro a hA
    replace hA := hA.keepN [0, 3]
    refine wN (nT (wR ?_))
    revert a; (iterate 3 refine wo rfl rfl (by decide) (fun ev e h => by simp [go_sem, h, j1, j2, j3, j4, j5, hcv, ka, kz] <;> rfl) ?_); intro a hA
    replace hA := hA.keepN [0, 3]
    refine wN (nB (nT ?_))
    refine ⟨k - 1, ?_, f, n2, dg :: s, fun hd => ?_, fun _ hn0 => ?_, by omega, by simp; omega, by simp; omega, ?_, HB, hA⟩
    · split at hk <;> rename_i hs
      · omega
      · rcases hc with h | h
        · exact absurd h hs
        · omega
    · have hp : 0 < n2 := by
        rcases hd with h | h
        · cases h
        · exact h
      have hg : ¬ n < 10 := by omega
      refine ⟨by rw [h3, countB_great hg, hn2, hn3, List.append_assoc, ← hdg, hn3]; rfl, by rw [Nat.pow_succ] at h4; omega, ?_⟩
      rcases Nat.eq_zero_or_pos f with e | e
      · subst e; rw [Nat.zero_add, Nat.pow_one] at h4; omega
      · exact e
    · have hg : n < 10 := by omega
      rw [h3, countB_small hg, ← hdg, hn3, show n3 = n by omega]
      rfl
    · rw [if_neg (by simp)]
      split at hk <;> rename_i hs
      · omega
      · rcases hc with h | h
        · exact absurd h hs
        · omega
/-- a text with its length ahead -/
def litB (s : List UInt8) : List UInt8 := [123] ++ countB 7 s.length ++ [125] ++ [13, 10] ++ s
theorem itoa_count {n : Nat} (h : n < 10000000) : Lib.itoa ((n : Nat) : Int) = countB 7 n := by
  unfold Lib.itoa
  rw [if_neg (by omega), Int.toNat_natCast, digits_count 7 n (by omega) (by decide)]
theorem itoa_any (n : Nat) (w : World) (h : n < 10000000) (htab : Lib.TabIs Tryd.prog w "internal/strconv.uint64pow10" .u64 Lib.pow10Tab) : Calls Tryd.prog 31 #[.int .i64 (n : Nat)] w fun e w' => e = .returned (.string (St (countB 7 n))) ∧ Below w.heap.size w w' :=
  (Tryd.strconv_Itoa ((n : Nat) : Int) (by omega) (by omega) w htab).mono fun e w' ⟨h1, k, os, h2⟩ => ⟨by rw [h1, itoa_count h], h2 ▸ Lib.below_grow _ w (Nat.le_refl _) k os⟩
set_option maxRecDepth 100000 in
set_option maxHeartbeats 4000000 in
theorem fcounted_any (s : List UInt8) (w : World) (hs : s.length < 1000000) (htab : Lib.TabIs Tryd.prog w "internal/strconv.uint64pow10" .u64 Lib.pow10Tab) : Calls Tryd.prog 23 #[.string (St s)] w fun ev w' => ev = .returned (.string (St (litB s))) ∧ Below w.heap.size w w' := by
  have hcl := countB_len 7 s.length
  obtain ⟨D, hD⟩ : ∃ D, countB 7 s.length = D := ⟨_, rfl⟩
  obtain ⟨A2, hA2⟩ : ∃ A2, [123] ++ D = A2 := ⟨_, rfl⟩
  obtain ⟨A3, hA3⟩ : ∃ A3, A2 ++ [125, 13, 10] = A3 := ⟨_, rfl⟩
  obtain ⟨A4, hA4⟩ : ∃ A4, A3 ++ s = A4 := ⟨_, rfl⟩
  have hL : litB s = A4 := by unfold litB; rw [← hA4, ← hA3, ← hA2, hD]; simp
  rw [hD] at hcl
  have l2 : A2.length = 1 + D.length := by rw [← hA2]; simp; omega
  have l3 : A3.length = A2.length + 3 := by rw [← hA3]; simp
  have c2 : (⟨#[123]⟩ : ByteArray) ++ St D = St A2 := by rw [← hA2]; exact st_app [123] D
  have c3 : St A2 ++ (⟨#[125, 13, 10]⟩ : ByteArray) = St A3 := by rw [← hA3]; exact st_app A2 [125, 13, 10]
  have c4 : St A3 ++ St s = St A4 := by rw [← hA4]; exact st_app _ _
  have d2 : ¬ 9223372036854775807 < 1 + D.length := by omega
  have d3 : ¬ 9223372036854775807 < A2.length + 3 := by omega
  have d4 : ¬ 9223372036854775807 < A3.length + s.length := by omega
  have hsz : (St s).size = s.length := rfl
  have HB := Below.refl w.heap.size w
  rw [hL]
  refine calls_at 10 Tryd.func23 rfl rfl (Nat.le_of_ble_eq_true rfl) ?_
  intro a hA; replace hA := hA.norm
  refine wS (wR ?_)
  revert a; refine wo rfl rfl (by decide) (fun ev e h => by simp [go_sem, h, hsz, c2, c3, c4, d2, d3, d4] <;> rfl) ?_; intro a hA
  replace hA := hA.keepN [0]
  refine wN (nT (wS (wR ?_)))
  revert a; (iterate 2 refine wo rfl rfl (by decide) (fun ev e h => by simp [go_sem, h, hsz, c2, c3, c4, d2, d3, d4] <;> rfl) ?_); intro a hA
  refine wl_call hA rfl rfl (by decide) (fun ev h => exec_call Tryd.func31 (by kernel_rfl) rfl (h.f _) (by first | (simp only [mL, h.get 4 rfl, h.c] <;> rfl) | (simp [mL, h.get 4 rfl, h.c, hsz, c2, c3, c4, d2, d3, d4] <;> rfl))) (itoa_any s.length w (by omega) htab) ?_
  rintro e w1 ⟨rfl, hb1⟩
  refine ⟨_, rfl, fun a hA => ?_⟩
  replace HB := HB.trans (hb1.mono HB.size)
  rw [hD] at hA
  revert a; (iterate 5 refine wo rfl rfl (by decide) (fun ev e h => by simp [go_sem, h, hsz, c2, c3, c4, d2, d3, d4] <;> rfl) ?_); intro a hA
  replace hA := hA.keepN [2]
  refine wN (nT (wp_ret ?_))
  refine ret_1 hA 2 rfl rfl ?_
  exact ⟨rfl, HB⟩
set_option maxRecDepth 100000 in
set_option maxHeartbeats 4000000 in
theorem lcounted_any (s : List UInt8) (w : World) (hs : s.length < 1000000) : Calls Tryd.prog 14 #[.string (St s)] w fun ev w' => ev = .returned (.string (St (litB s))) ∧ Below w.heap.size w w' := by
  have hcl := countB_len 7 s.length
  obtain ⟨D, hD⟩ : ∃ D, countB 7 s.length = D := ⟨_, rfl⟩
  obtain ⟨A2, hA2⟩ : ∃ A2, [123] ++ D = A2 := ⟨_, rfl⟩
  obtain ⟨A3, hA3⟩ : ∃ A3, A2 ++ [125, 13, 10] = A3 := ⟨_, rfl⟩
  obtain ⟨A4, hA4⟩ : ∃ A4, A3 ++ s = A4 := ⟨_, rfl⟩
  have hL : litB s = A4 := by unfold litB; rw [← hA4, ← hA3, ← hA2, hD]; simp
  rw [hD] at hcl
  have l2 : A2.length = 1 + D.length := by rw [← hA2]; simp; omega
  have l3 : A3.length = A2.length + 3 := by rw [← hA3]; simp
  have c2 : (⟨#[123]⟩ : ByteArray) ++ St D = St A2 := by rw [← hA2]; exact st_app [123] D
  have c3 : St A2 ++ (⟨#[125, 13, 10]⟩ : ByteArray) = St A3 := by rw [← hA3]; exact st_app A2 [125, 13, 10]
  have c4 : St A3 ++ St s = St A4 := by rw [← hA4]; exact st_app _ _
  have d2 : ¬ 9223372036854775807 < 1 + D.length := by omega
  have d3 : ¬ 9223372036854775807 < A2.length + 3 := by omega
  have d4 : ¬ 9223372036854775807 < A3.length + s.length := by omega
  have hsz : (St s).size = s.length := rfl
  have hw : IntKind.u64.wrap ((s.length : Nat) : Int) = ((s.length : Nat) : Int) := IntWalk.u64_in _ (by omega)
  have HB := Below.refl w.heap.size w
  rw [hL]
  refine calls_at 11 Tryd.func14 rfl rfl (Nat.le_of_ble_eq_true rfl) ?_
  intro a hA; replace hA := hA.norm
  refine wS (wR ?_)
  revert a; refine wo rfl rfl (by decide) (fun ev e h => by simp [go_sem, h, hsz, hw, c2, c3, c4, d2, d3, d4] <;> rfl) ?_; intro a hA
  replace hA := hA.keepN [0]
  refine wN (nT (wS (wR ?_)))
  revert a; (iterate 2 refine wo rfl rfl (by decide) (fun ev e h => by simp [go_sem, h, hsz, hw, c2, c3, c4, d2, d3, d4] <;> rfl) ?_); intro a hA
  refine wl_op hA rfl rfl (by decide) (fun ev h => by simp [go_sem, h.get 4 rfl, hsz, hw, c2, c3, c4, d2, d3, d4]; try first | exact ⟨rfl, rfl⟩ | rfl) fun a hA => ?_
  refine wl_call hA rfl rfl (by decide) (fun ev h => exec_call Tryd.func25 (by kernel_rfl) rfl (h.f _) (by first | (simp only [mL, h.get 5 rfl, h.c] <;> rfl) | (simp [mL, h.get 5 rfl, h.c, hsz, hw, c2, c3, c4, d2, d3, d4] <;> rfl))) (digits_any s.length 7 w (by decide) (by decide) (by omega) (by omega)) ?_
  rintro e w1 ⟨rfl, hb1⟩
  refine ⟨_, rfl, fun a hA => ?_⟩
  replace HB := HB.trans (hb1.mono HB.size)
  rw [hD] at hA
  revert a; (iterate 5 refine wo rfl rfl (by decide) (fun ev e h => by simp [go_sem, h, hsz, hw, c2, c3, c4, d2, d3, d4] <;> rfl) ?_); intro a hA
  replace hA := hA.keepN [2]
  refine wN (nT (wp_ret ?_))
  refine ret_1 hA 2 rfl rfl ?_
  exact ⟨rfl, HB⟩
theorem strF_litB {s : List UInt8} (h : s.all plainT = false) : strF s = litB s := strF_lit h
theorem plain_at {s : List UInt8} {j : Nat} {x : UInt8} (hx : s[j]? = some x) (h : plainT x = false) : s.all plainT = false := by
  refine Bool.eq_false_iff.2 fun ha => ?_
  rw [List.all_eq_true.1 ha x (List.mem_of_getElem? hx)] at h
  cases h
theorem plainT_int (x : UInt8) : (decide (((x.toNat : Nat) : Int) < 32) || decide ((126 : Int) < ((x.toNat : Nat) : Int))) = !plainT x := by
  unfold plainT
  rw [show decide (((x.toNat : Nat) : Int) < 32) = !decide (32 ≤ x.toNat) by rw [Bool.eq_iff_iff]; simp; omega, show decide ((126 : Int) < ((x.toNat : Nat) : Int)) = !decide (x.toNat ≤ 126) by rw [Bool.eq_iff_iff]; simp; omega]
  cases decide (32 ≤ x.toNat) <;> cases decide (x.toNat ≤ 126) <;> rfl
theorem count_le' (c : UInt8) (s : List UInt8) : Lib.countB (St s) (St [c]) ≤ s.length := by
  show Lib.count s [c] ≤ _
  rw [Lib.count_one]
  exact List.count_le_length
theorem rep_len (c : UInt8) {new : List UInt8} (hn : new ≠ [c]) (h2 : new.length ≤ 2) (s : List UInt8) : (Lib.replaceAll s [c] new).length ≤ 2 * s.length := by
  rw [repAll_one c hn]
  induction s with
  | nil => simp
  | cons x s ih =>
    rw [List.flatMap_cons, List.length_append, List.length_cons]
    have : (if x = c then new else [x]).length ≤ 2 := by
      split
      · exact h2
      · simp
    omega
set_option maxRecDepth 100000 in
set_option maxHeartbeats 4000000 in
theorem string_any (s : List UInt8) (m : Int) (w : World) (hm : w.cell? ⟨0, 0, none⟩ = some (.int .i64 m)) (hs : s.length < 900000) (htab : Lib.TabIs Tryd.prog w "internal/strconv.uint64pow10" .u64 Lib.pow10Tab) : Calls Tryd.prog 13 #[.string (St s)] w fun ev w' => ev = .returned (.string (St (strF s))) ∧ Below w.heap.size w w' := by
  have hm0 : 0 < w.heap.size := block_lt_of_cell hm
  have hsz : (St s).size = s.length := rfl
  refine calls_at 27 Tryd.func13 rfl rfl (Nat.le_of_ble_eq_true rfl) ?_
  intro a hA; replace hA := hA.norm
  refine wS (wR ?_)
  revert a; refine wo rfl rfl (by decide) (fun ev e h => by simp [go_sem, h, hsz] <;> rfl) ?_; intro a hA
  replace hA := hA.keepN [0]
  refine wN (nT (wS (wS (wR ?_))))
  revert a; (iterate 3 refine wo rfl rfl (by decide) (fun ev e h => by simp [go_sem, h, hsz] <;> rfl) ?_); intro a hA
  replace hA := hA.keepN [0, 5, 6]
  refine wN (nT (wB ?_))
  refine wp_loop_at (fun f a wx => ∃ j : Nat, j + f = s.length ∧ (∀ x ∈ s.take j, plainT x = true) ∧ wx = w ∧ At 27 [(0, .string (St s)), (5, .int .i64 (s.length : Nat)), (6, .int .i64 (j : Nat))] a) (s.length) ?_ ?_
  · exact ⟨0, by omega, fun _ h => (by cases h), rfl, hA⟩
  clear hA
  rintro f a wx ⟨j, hjf, hpl, rfl, hA⟩
  refine wS (wR ?_)
  revert a; refine wo rfl rfl (by decide) (fun ev e h => by simp [go_sem, h, hsz] <;> rfl) ?_; intro a hA
  replace hA := hA.keepN [0, 5, 6, 7]
  refine wN (nT (wS ?_))
  refine wp_if hA 7 _ rfl (fun hq => ?yA) (fun hq => ?nA)
  case yA =>
    have hjn : j < s.length := by simp at hq; omega
    obtain ⟨x, hx⟩ : ∃ x, s[j]? = some x := ⟨_, List.getElem?_eq_getElem hjn⟩
    have g1 : ∀ h : j < (St s).size, (St s)[j] = x := fun h => (List.getElem?_eq_some_iff.1 hx).2
    have i1 : IntKind.i64.wrap ((j : Nat) : Int) = ((j : Nat) : Int) := IntWalk.i64_in _ (by omega)
    have i3 : IntKind.i64.wrap (((j : Nat) : Int) + 1) = ((j + 1 : Nat) : Int) := by rw [IntWalk.i64_in _ (by omega)]; omega
    refine wp_skip (nT (wS (wB (wS (wR ?_)))))
    revert a; (iterate 2 refine wo rfl rfl (by decide) (fun ev e h => by simp [go_sem, h, hsz, g1, i1, hjn] <;> rfl) ?_); intro a hA
    replace hA := hA.keepN [0, 3, 5, 6]
    refine wN (nT (wS (wR ?_)))
    revert a; (iterate 5 refine wo rfl rfl (by decide) (fun ev e h => by simp [go_sem, h, hsz, g1, i1, hjn] <;> rfl) ?_); (iterate 4 refine wg _ rfl rfl rfl rfl (by decide) (fun hq ev e h => by simp [go_sem, h, ↓gw_t (beq_t hq), hsz, g1, i1, hjn] <;> rfl) ?_); refine wko rfl rfl (by decide) rfl rfl rfl ?_; intro a hA
    replace hA := hA.keepN [0, 5, 6, 18]
    refine wN (nT ?_)
    refine wp_if hA 18 _ rfl (fun hq2 => ?yB) (fun hq2 => ?nB)
    case yB =>
      rw [plainT_int] at hq2
      have hp := plain_at hx (by simpa using hq2)
      rw [strF_litB hp]
      have HB := Below.refl wx.heap.size wx
      refine wS (wR ?_)
      revert a; refine wo rfl rfl (by decide) (fun ev e h => by simp [go_sem, h, hsz, g1, i1, hjn] <;> rfl) ?_; intro a hA
      refine wl_call hA rfl rfl (by decide) (fun ev h => exec_call Tryd.func23 (by kernel_rfl) rfl (h.f _) (by first | (simp only [mL, h.get 19 rfl, h.c] <;> rfl) | (simp [mL, h.get 19 rfl, h.c, hsz, g1, i1, hjn] <;> rfl))) (fcounted_any s wx (by omega) htab) ?_
      rintro e w1 ⟨rfl, hb1⟩
      refine ⟨_, rfl, fun a hA => ?_⟩
      replace HB := HB.trans (hb1.mono HB.size)
      revert a; refine wo rfl rfl (by decide) (fun ev e h => by simp [go_sem, h, hsz, g1, i1, hjn] <;> rfl) ?_; intro a hA
      replace hA := hA.keepN [2]
      refine wN (nT (wp_ret (rB (rT (rT (rB (rT ?_)))))))
      refine ret_1 hA 2 rfl rfl ?_
      exact ⟨rfl, HB⟩
    case nB =>
      rw [plainT_int] at hq2
      have hp : plainT x = true := by simpa using hq2
      refine wp_skip (nB (nT (wR ?_)))
      revert a; (iterate 2 refine wo rfl rfl (by decide) (fun ev e h => by simp [go_sem, h, i3] <;> rfl) ?_); intro a hA
      replace hA := hA.keepN [0, 5, 6]
      refine wN (nT ?_)
      refine ⟨f - 1, by omega, j + 1, by omega, fun y hy => ?_, rfl, hA⟩
      rw [List.take_add_one, hx] at hy
      rcases List.mem_append.1 hy with h | h
      · exact hpl y h
      · rw [List.mem_singleton.1 h]; exact hp
  case nA =>
    have hjn : s.length ≤ j := by simp at hq; omega
    rw [List.take_of_length_le hjn] at hpl
    rw [strF_plain (List.all_eq_true.2 hpl)]
    have HB := Below.refl wx.heap.size wx
    have hl1 := rep_len 92 (new := [92, 92]) (by decide) (by decide) s
    have hl2 := rep_len 34 (new := [92, 34]) (by decide) (by decide) (Lib.replaceAll s [92] [92, 92])
    have hrep := rep_esc s
    obtain ⟨R1, hR1⟩ : ∃ R1, Lib.replaceAll s [92] [92, 92] = R1 := ⟨_, rfl⟩
    rw [hR1] at hl1 hl2 hrep
    obtain ⟨R2, hR2⟩ : ∃ R2, Lib.replaceAll R1 [34] [92, 34] = R2 := ⟨_, rfl⟩
    rw [hR2] at hl2 hrep
    have hc1 := count_le' 92 s
    have hc2 := count_le' 34 R1
    obtain ⟨R3, hR3⟩ : ∃ R3, [34] ++ R2 = R3 := ⟨_, rfl⟩
    have l3 : R3.length = 1 + R2.length := by rw [← hR3]; simp; omega
    have c2 : (⟨#[34]⟩ : ByteArray) ++ St R2 = St R3 := by rw [← hR3]; exact st_app [34] R2
    have c3 : St R3 ++ (⟨#[34]⟩ : ByteArray) = St (R3 ++ [34]) := st_app R3 [34]
    have d2 : ¬ 9223372036854775807 < 1 + R2.length := by omega
    have d3 : ¬ 9223372036854775807 < R3.length + 1 := by omega
    replace hA := hA.keepN [0]
    refine wp_exit (xT (xT (xB (nT (wS (wR ?_))))))
    revert a; refine wo rfl rfl (by decide) (fun ev e h => by simp [go_sem, h, hsz] <;> rfl) ?_; intro a hA
    refine wl_call hA rfl rfl (by decide) (fun ev h => exec_call Tryd.func24 (by kernel_rfl) rfl (h.f _) (by first | (simp only [mL, h.get 22 rfl, h.c] <;> rfl) | (simp [mL, h.get 22 rfl, h.c, hsz] <;> rfl))) (Tryd.strings_ReplaceAll (St s) (St [92]) (St [92, 92]) m wx (by show s.length < _; omega) hm (by decide) (by show s.length + _ * 2 ≤ _; omega)) ?_
    rintro e w1 ⟨rfl, hb1⟩
    refine ⟨_, rfl, fun a hA => ?_⟩
    replace HB := HB.trans (hb1.mono HB.size)
    rw [show (⟨(Lib.replaceAll (St s).data.toList (St [92]).data.toList (St [92, 92]).data.toList).toArray⟩ : ByteArray) = St R1 by rw [← hR1]] at hA
    refine wl_call hA rfl rfl (by decide) (fun ev h => exec_call Tryd.func24 (by kernel_rfl) rfl (h.f _) (by first | (simp only [mL, h.get 23 rfl, h.c] <;> rfl) | (simp [mL, h.get 23 rfl, h.c, hsz] <;> rfl))) (Tryd.strings_ReplaceAll (St R1) (St [34]) (St [92, 34]) m w1 (by show R1.length < _; omega) ((HB.cell hm0).trans hm) (by decide) (by show R1.length + _ * 2 ≤ _; omega)) ?_
    rintro e w2 ⟨rfl, hb2⟩
    refine ⟨_, rfl, fun a hA => ?_⟩
    replace HB := HB.trans (hb2.mono HB.size)
    rw [show (⟨(Lib.replaceAll (St R1).data.toList (St [34]).data.toList (St [92, 34]).data.toList).toArray⟩ : ByteArray) = St R2 by rw [← hR2]] at hA
    revert a; (iterate 3 refine wo rfl rfl (by decide) (fun ev e h => by simp [go_sem, h, c2, c3, d2, d3] <;> rfl) ?_); intro a hA
    replace hA := hA.keepN [2]
    refine wN (nT (wp_ret ?_))
    refine ret_1 hA 2 rfl rfl ?_
    exact ⟨ret_str (by rw [← hrep, hR3]), HB⟩
end Go.Proofs.YtaljodmhalodhaaDoor
/-
  New memory, under a guard that is known.
-/
namespace Go.Proofs.YtaljodmhalodhaaDoor
open Go Go.RowKit
/-- new memory, under a guard that is so -/
theorem wl_gnew {P : Program} {Q : Exit → Act → World → Prop} {a : Act} {w : World} {n : Nat} {Γ : Env} {l rest : List Oper} {o : Oper} {t gi gt : Nat} {b : Bool} {v : Value} {x : Obj} (hA : At n Γ a) (hg : o.guard = some (gi, b)) (hgd : (l[gi]?).bind (·.dst) = some gt) (hl : look Γ gt = some (.bool b)) (hd : o.dst = some t) (ht : t < n)
    (hrun : ∀ ev, EvIn Γ ev → (execOp ev o).run P w = .ok (.value v) (w.alloc x))
    (hk : ∀ w1 a', w1.heap[w.heap.size]? = some x → w1.heap.size = w.heap.size + 1 → Below w.heap.size w w1 → At n ((t, v) :: Γ) a' → wpList P l.toArray Q rest a' w1) : wpList P l.toArray Q (o :: rest) a w := by
  have hw : Region.wanted o (yielded l.toArray a.tmps) = true := by
    rw [wanted_eq]
    exact wanted_bool (r := true) hg hgd (hA.evin.get gt hl) (by cases b <;> rfl)
  refine wpList_step fun K hK => ?_
  rw [hw, if_pos rfl]
  unfold Oper.wp
  rw [hrun _ hA.evin, Oper.upon_value, hd]
  exact hK _ _ (hk _ _ (heap_alloc_new w x) (by simp) ((Below.refl _ _).alloc (Nat.le_refl _) x) (hA.put ht v))
end Go.Proofs.YtaljodmhalodhaaDoor
