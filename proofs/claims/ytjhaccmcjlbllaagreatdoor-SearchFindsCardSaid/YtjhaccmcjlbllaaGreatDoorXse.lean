/-
  Walk: cubbyref06.trimmed.
-/
import Derived.Test.YtjhaccmcjlbllaaGreatDoorXsd
import Derived.Test.YtjhaccmcjlbllaaGreatDoorRows
import Derived.LaidSub
import Derived.MakeChecks
import Derived.Lib.LaidTab
import Derived.Stop.LaidErr
namespace Go.Proofs.YtjhaccmcjlbllaaGreatDoor
open Go.RowKit
set_option linter.unusedSimpArgs false
set_option linter.unusedVariables false
set_option linter.unusedSimpArgs false
set_option linter.unusedVariables false
def fldSh : Sh FieldS := ⟨72, 29, 2, 32, .agg #[.string ⟨#[]⟩, .string ⟨#[]⟩], fun x => [.string (St x.n), .string (St x.v)], fun _ => [], fun _ => rfl, fun x u hu => by
  simp only [List.mem_cons, List.not_mem_nil, or_false] at hu
  rcases hu with rfl | rfl <;> rfl, Tryz.underlying29, by kernel_rfl, rfl, by decide, by decide⟩
/-- is the last byte a blank? -/
def blankE (s : List UInt8) : Bool := s.getLast? == some 32 || s.getLast? == some 9
theorem trimL_step {x : UInt8} {r : List UInt8} (h : blankB (x :: r) = true) : trimL [32, 9] (x :: r) = trimL [32, 9] r := by
  unfold blankB at h
  unfold trimL
  rw [List.dropWhile_cons, if_pos]
  simpa using h
theorem trimL_stop {v : List UInt8} (h : blankB v = false) : trimL [32, 9] v = v := by
  cases v with
  | nil => rfl
  | cons x r =>
    unfold blankB at h
    unfold trimL
    rw [List.dropWhile_cons, if_neg]
    simpa using h
theorem trimR_step {x : UInt8} {r : List UInt8} (h : blankE (r ++ [x]) = true) : trimR [32, 9] (r ++ [x]) = trimR [32, 9] r := by
  rw [trimR_snoc]
  unfold blankE at h
  have : ([32, 9] : List UInt8).contains x = true := by simpa using h
  rw [this]; rfl
theorem trimR_stop {v : List UInt8} (h : blankE v = false) : trimR [32, 9] v = v := by
  rcases List.eq_nil_or_concat v with rfl | ⟨r, x, rfl⟩
  · rfl
  · rw [List.concat_eq_append] at *
    rw [trimR_snoc]
    unfold blankE at h
    have : ([32, 9] : List UInt8).contains x = false := by simpa using h
    rw [this]; rfl
theorem blankE_eq {s : List UInt8} {x : UInt8} (h : s.getLastD 0 = x) : blankE s = (!s.isEmpty && (((x.toNat : Nat) : Int) == 32 || ((x.toNat : Nat) : Int) == 9)) := by
  rcases List.eq_nil_or_concat s with rfl | ⟨r, y, rfl⟩
  · rfl
  · rw [List.concat_eq_append] at *
    have hy : y = x := by rw [← h]; simp
    subst hy
    unfold blankE
    rw [List.getLast?_append, show ([y] : List UInt8).getLast? = some y from rfl]
    rw [show (((y.toNat : Nat) : Int) == 32) = (y == 32) from u8_eq y 32 (by decide), show (((y.toNat : Nat) : Int) == 9) = (y == 9) from u8_eq y 9 (by decide)]
    simp
set_option maxRecDepth 100000 in
set_option maxHeartbeats 8000000 in
theorem trimmedR_any (B : Nat) (V : Value) (l : List FieldS) (w : World) (ho : OwnR fldSh B w V l) (hB : B ≤ w.heap.size) (hl : l.length ≤ 10000000) (hv : ∀ f ∈ l, f.v.length ≤ 10000000) : Calls Tryz.prog 32 #[V] w fun ev w' => ev = .returned V ∧ OwnR fldSh B w' V (l.map trimF) ∧ Below B w w' := by
  obtain ⟨Av, cv, rfl, _, hcv⟩ := ho.reads
  have HB := Below.refl B w
  refine calls_at 59 Tryz.func32 rfl rfl (Nat.le_of_ble_eq_true rfl) ?_
  intro a hA; replace hA := hA.norm
  refine wS (wR ?_)
  revert a; refine wo rfl rfl (by decide) (fun ev e h => by simp [go_sem, h] <;> rfl) ?_; intro a hA
  replace hA := hA.keepN [0]
  refine wN (nT (wS (wS (wR ?_))))
  revert a; (iterate 3 refine wo rfl rfl (by decide) (fun ev e h => by simp [go_sem, h] <;> rfl) ?_); intro a hA
  replace hA := hA.keepN [0, 6, 7]
  refine wN (nT (wB ?_))
  refine wp_loop_at (fun f a wy => ∃ j : Nat, j + f = l.length ∧ OwnR fldSh B wy (.slice Av l.length cv) ((l.take j).map trimF ++ l.drop j) ∧ Below B w wy ∧ At 59 [(0, .slice Av l.length cv), (6, .int .i64 (l.length : Nat)), (7, .int .i64 (j : Nat))] a) (l.length) ?_ ?_
  · exact ⟨0, by omega, ho, HB, hA⟩
  clear hA ho HB
  rintro f2 a wy ⟨j, hjf, ho, HB, hA⟩
  refine wS (wR ?_)
  revert a; refine wo rfl rfl (by decide) (fun ev e h => by simp [go_sem, h] <;> rfl) ?_; intro a hA
  replace hA := hA.keepN [0, 6, 7, 8]
  refine wN (nT (wS ?_))
  refine wp_if hA 8 _ rfl (fun hq3 => ?yD) (fun hq3 => ?nD)
  case nD =>
    have hjn : l.length ≤ j := by simp at hq3; omega
    rw [List.take_of_length_le hjn, List.drop_of_length_le hjn, List.append_nil] at ho
    replace hA := hA.keepN [0]
    refine wp_exit (xT (xT (xB (nT (wS (wR ?_))))))
    revert a; (iterate 2 refine wo rfl rfl (by decide) (fun ev e h => by simp [go_sem, h] <;> rfl) ?_); intro a hA
    replace hA := hA.keepN [2]
    refine wN (nT (wp_ret ?_))
    refine ret_1 hA 2 rfl rfl ?_
    exact ⟨rfl, ho, HB⟩
  case yD =>
    have hjn : j < l.length := by simp at hq3; omega
    obtain ⟨y, hy⟩ : ∃ y, l[j]? = some y := ⟨_, List.getElem?_eq_getElem hjn⟩
    have hyv := hv y (List.mem_of_getElem? hy)
    have hml : ((l.take j).map trimF ++ l.drop j).length = l.length := by rw [List.length_append, List.length_map, List.length_take, List.length_drop]; omega
    have hym : ((l.take j).map trimF ++ l.drop j)[j]? = some y := by
      rw [List.getElem?_append_right (by rw [List.length_map, List.length_take]; omega), List.length_map, List.length_take, show j - min j l.length = 0 by omega, List.getElem?_drop, Nat.add_zero]
      exact hy
    have hset : ((l.take j).map trimF ++ l.drop j).set j (trimF y) = (l.take (j + 1)).map trimF ++ l.drop (j + 1) := by
      rw [List.set_append_right _ _ (by rw [List.length_map, List.length_take]; omega), List.length_map, List.length_take, show j - min j l.length = 0 by omega, List.take_add_one, hy, List.map_append, List.append_assoc]
      congr 1
      rw [show l.drop j = y :: l.drop (j + 1) by rw [← (List.getElem?_eq_some_iff.1 hy).2]; exact List.drop_eq_getElem_cons hjn]
      rfl
    obtain ⟨g, c', hv1, hgB, hglt⟩ := ho.at_ (by omega)
    injection hv1 with hv1 _ hv3
    subst hv1
    have z1 : wy.cell? ⟨g, j * 2 + 1, none⟩ = some (.string (St y.v)) := ho.cellAt (j := 1) hym rfl
    have jj0 : (0 : Int) ≤ (j : Int) := by omega
    have jj1 : (j : Int) < ((l.length : Nat) : Int) := by omega
    have i3 : IntKind.i64.wrap (((j : Nat) : Int) + 1) = ((j + 1 : Nat) : Int) := by rw [IntWalk.i64_in _ (by omega)]; omega
    refine wp_skip (nT (wS (wB (wS (wR ?_)))))
    revert a; (iterate 2 refine wo rfl rfl (by decide) (fun ev e h => by simp [go_sem, h, jj0, jj1, z1, add0] <;> rfl) ?_); intro a hA
    replace hA := hA.keepN [0, 3, 6, 7]
    refine wN (nT (wS (wR ?_)))
    revert a; (iterate 6 refine wo rfl rfl (by decide) (fun ev e h => by simp [go_sem, h, jj0, jj1, z1, add0] <;> rfl) ?_); intro a hA
    replace hA := hA.keepN [0, 3, 4, 6, 7]
    refine wN (nT (wS (wB ?_)))
    refine wp_loop_at (fun f a wz => ∃ v : List UInt8, v.length ≤ f ∧ v.length ≤ y.v.length ∧ trimL [32, 9] y.v = trimL [32, 9] v ∧ wy = wz ∧ At 59 [(0, .slice (some ⟨g, 0, none⟩) l.length cv), (3, .int .i64 (j : Nat)), (4, .string (St v)), (6, .int .i64 (l.length : Nat)), (7, .int .i64 (j : Nat))] a) (y.v.length) ?_ ?_
    · exact ⟨_, Nat.le_refl _, Nat.le_refl _, rfl, rfl, hA⟩
    clear hA
    rintro f3 a wz ⟨v, hvf, hvl, htr, rfl, hA⟩
    have hsz : (St v).size = v.length := rfl
    obtain ⟨x0, hx0⟩ : ∃ x0, v.headD 0 = x0 := ⟨_, rfl⟩
    have g1 : ∀ h : 0 < (St v).size, (St v)[0] = x0 := fun h => by
      cases v with
      | nil => exact absurd h (by decide)
      | cons y t => exact hx0
    refine wS (wS (wR ?_))
    revert a; (iterate 3 refine wo rfl rfl (by decide) (fun ev e h => by simp [go_sem, h, hsz, g1] <;> rfl) ?_); refine wg _ rfl rfl rfl rfl (by decide) (fun hq ev e h => by simp [go_sem, h, ↓gw_t (beq_t hq), hsz, g1] <;> rfl) ?_; refine wg _ rfl rfl rfl rfl (by decide) (fun hq ev e h => by simp [go_sem, h, ↓gw_t (beq_t hq), hsz, g1, (List.length_pos_iff.2 (show v ≠ [] from by intro e; rw [e] at hq; simp at hq))] <;> rfl) ?_; (iterate 2 refine wg _ rfl rfl rfl rfl (by decide) (fun hq ev e h => by simp [go_sem, h, ↓gw_t (beq_t hq), hsz, g1] <;> rfl) ?_); refine wg2 _ _ rfl rfl rfl rfl (by decide) (fun hq hr ev e h => by simp [go_sem, h, ↓gw_t (and_beq hq hr), ↓gw_t hq, hsz, g1] <;> rfl) ?_; refine wg2 _ _ rfl rfl rfl rfl (by decide) (fun hq hr ev e h => by simp [go_sem, h, ↓gw_t (and_beq hq hr), ↓gw_t hq, hsz, g1, (List.length_pos_iff.2 (show v ≠ [] from by intro e; rw [e] at hq; simp at hq))] <;> rfl) ?_; refine wg2 _ _ rfl rfl rfl rfl (by decide) (fun hq hr ev e h => by simp [go_sem, h, ↓gw_t (and_beq hq hr), ↓gw_t hq, hsz, g1] <;> rfl) ?_; intro a hA
    refine wl_guard _ hA rfl rfl rfl rfl (by decide) (fun hq ev h => by exact pick_or rfl (((h.get 21 rfl).trans (gw_t (beq_t hq)))) (h.c _) (((h.get 24 rfl).trans (gw_a (beq_t hq))))) fun a hA => ?_
    revert a; refine wka rfl rfl (by decide) rfl rfl rfl ?_; intro a hA
    replace hA := hA.keepN [0, 3, 4, 6, 7, 26]
    refine wN (nT ?_)
    refine wp_if hA 26 _ rfl (fun hq2 => ?yB) (fun hq2 => ?nB)
    case yB =>
      have hbl2 : blankB v = true := by rw [blank_eq hx0, ← hq2]
      cases v with
      | nil => cases hbl2
      | cons x r =>
        have e1 : (St (x :: r)).extract 1 (r.length + 1) = St r := extract_drop (x :: r) 1 (r.length + 1) rfl
        have q1 : (1 : Int) ≤ ((r.length : Nat) : Int) + 1 := by omega
        rw [trimL_step hbl2] at htr
        have hln : (x :: r).length = r.length + 1 := rfl
        refine wp_skip (nT (wB (wR ?_)))
        revert a; (iterate 3 refine wo rfl rfl (by decide) (fun ev e h => by simp [go_sem, h, hsz, hln, e1, q1] <;> rfl) ?_); intro a hA
        replace hA := hA.keepN [0, 3, 4, 6, 7]
        refine wN (nB (nT ?_))
        exact ⟨f3 - 1, by omega, r, by omega, by omega, htr, rfl, hA⟩
    case nB =>
      have hbl2 : blankB v = false := by rw [blank_eq hx0, ← hq2]
      rw [trimL_stop hbl2] at htr
      have hB' : B ≤ wy.heap.size := Nat.le_trans hB HB.size
      replace hA := hA.keepN [0, 3, 4, 6, 7]
      refine wp_exit (xT (xT (xB (nT (wS (wB ?_))))))
      refine wp_loop_at (fun f a wz => ∃ u : List UInt8, u.length ≤ f ∧ u.length ≤ v.length ∧ trimR [32, 9] v = trimR [32, 9] u ∧ wy = wz ∧ At 59 [(0, .slice (some ⟨g, 0, none⟩) l.length cv), (3, .int .i64 (j : Nat)), (4, .string (St u)), (6, .int .i64 (l.length : Nat)), (7, .int .i64 (j : Nat))] a) (v.length) ?_ ?_
      · exact ⟨_, Nat.le_refl _, Nat.le_refl _, rfl, rfl, hA⟩
      clear hA
      rintro f4 a wz ⟨u, huf, hul, hur, rfl, hA⟩
      have hsu : (St u).size = u.length := rfl
      obtain ⟨x9, hx9⟩ : ∃ x, u.getLastD 0 = x := ⟨_, rfl⟩
      obtain ⟨k, hk⟩ : ∃ k, u.length - 1 = k := ⟨_, rfl⟩
      have hne : u ≠ [] → u.length = k + 1 := fun e => by have := List.length_pos_iff.2 e; omega
      have i9 : u ≠ [] → IntKind.i64.wrap (((u.length : Nat) : Int) - 1) = ((k : Nat) : Int) := fun e => by
        have := hne e
        rw [IntWalk.i64_in _ (by omega)]; omega
      have g9 : ∀ h : k < (St u).size, (St u)[k] = x9 := fun h => by
        have hku : k < u.length := h
        obtain ⟨r, x, rfl, hr9⟩ := snoc_of (l := u) (k := k) (by omega)
        have hx : x = x9 := by rw [← hx9]; simp
        rw [← hx]
        exact get_snoc r x k hr9 h
      have k9 : u ≠ [] → k < u.length := fun e => by have := hne e; omega
      have k8 : u ≠ [] → ((k : Nat) : Int) < ((u.length : Nat) : Int) := fun e => by have := hne e; omega
      have k7 : (0 : Int) ≤ ((k : Nat) : Int) := by omega
      refine wS (wS (wR ?_))
      revert a; (iterate 3 refine wo rfl rfl (by decide) (fun ev e h => by simp [go_sem, h, hsu, g9, k7] <;> rfl) ?_); (iterate 3 refine wg _ rfl rfl rfl rfl (by decide) (fun hq ev e h => by simp [go_sem, h, ↓gw_t (beq_t hq), hsu, g9, k7] <;> rfl) ?_); refine wg _ rfl rfl rfl rfl (by decide) (fun hq ev e h => by simp [go_sem, h, ↓gw_t (beq_t hq), hsu, g9, k7, i9 (show u ≠ [] from by intro e; rw [e] at hq; simp at hq)] <;> rfl) ?_; refine wg _ rfl rfl rfl rfl (by decide) (fun hq ev e h => by simp [go_sem, h, ↓gw_t (beq_t hq), hsu, g9, k7, k9 (show u ≠ [] from by intro e; rw [e] at hq; simp at hq), k8 (show u ≠ [] from by intro e; rw [e] at hq; simp at hq)] <;> rfl) ?_; (iterate 2 refine wg _ rfl rfl rfl rfl (by decide) (fun hq ev e h => by simp [go_sem, h, ↓gw_t (beq_t hq), hsu, g9, k7] <;> rfl) ?_); (iterate 2 refine wg2 _ _ rfl rfl rfl rfl (by decide) (fun hq hr ev e h => by simp [go_sem, h, ↓gw_t (and_beq hq hr), ↓gw_t hq, hsu, g9, k7] <;> rfl) ?_); intro a hA
      replace hA := hA.keepN [0, 3, 4, 6, 7, 31, 38, 39, 40]
      revert a; refine wg2 _ _ rfl rfl rfl rfl (by decide) (fun hq hr ev e h => by simp [go_sem, h, ↓gw_t (and_beq hq hr), ↓gw_t hq, hsu, g9, k7] <;> rfl) ?_; refine wg2 _ _ rfl rfl rfl rfl (by decide) (fun hq hr ev e h => by simp [go_sem, h, ↓gw_t (and_beq hq hr), ↓gw_t hq, hsu, g9, k7, i9 (show u ≠ [] from by intro e; rw [e] at hq; simp at hq)] <;> rfl) ?_; refine wg2 _ _ rfl rfl rfl rfl (by decide) (fun hq hr ev e h => by simp [go_sem, h, ↓gw_t (and_beq hq hr), ↓gw_t hq, hsu, g9, k7, k9 (show u ≠ [] from by intro e; rw [e] at hq; simp at hq), k8 (show u ≠ [] from by intro e; rw [e] at hq; simp at hq)] <;> rfl) ?_; refine wg2 _ _ rfl rfl rfl rfl (by decide) (fun hq hr ev e h => by simp [go_sem, h, ↓gw_t (and_beq hq hr), ↓gw_t hq, hsu, g9, k7] <;> rfl) ?_; intro a hA
      refine wl_guard _ hA rfl rfl rfl rfl (by decide) (fun hq ev h => by exact pick_or rfl (((h.get 38 rfl).trans (gw_t (beq_t hq)))) (h.c _) (((h.get 44 rfl).trans (gw_a (beq_t hq))))) fun a hA => ?_
      revert a; refine wka rfl rfl (by decide) rfl rfl rfl ?_; intro a hA
      replace hA := hA.keepN [0, 3, 4, 6, 7, 46]
      refine wN (nT ?_)
      refine wp_if hA 46 _ rfl (fun hq4 => ?yE) (fun hq4 => ?nE)
      case yE =>
        have hbe : blankE u = true := by rw [blankE_eq hx9, ← hq4]
        rcases List.eq_nil_or_concat u with rfl | ⟨r, x, rfl⟩
        case inl => cases hbe
        case inr =>
          rw [List.concat_eq_append] at *
          have hlu : (r ++ [x]).length = r.length + 1 := by simp
          have e1 : (St (r ++ [x])).extract 0 r.length = St r := by rw [extract_take]; simp
          have i5 : IntKind.i64.wrap ((((r ++ [x]).length : Nat) : Int) - 1) = ((r.length : Nat) : Int) := by rw [hlu, IntWalk.i64_in _ (by omega)]; omega
          rw [trimR_step hbe] at hur
          have q1 : ((r.length : Nat) : Int) ≤ ((r.length : Nat) : Int) + 1 := by omega
          have q0 : (0 : Int) ≤ ((r.length : Nat) : Int) := by omega
          have i6 : IntKind.i64.wrap ((r.length : Nat) : Int) = ((r.length : Nat) : Int) := by rw [IntWalk.i64_in _ (by omega)]
          rw [hlu] at hul huf
          refine wp_skip (nT (wB (wR ?_)))
          revert a; (iterate 6 refine wo rfl rfl (by decide) (fun ev e h => by simp [go_sem, h, hsu, hlu, i5, i6, e1, q1, q0] <;> rfl) ?_); intro a hA
          replace hA := hA.keepN [0, 3, 4, 6, 7]
          refine wN (nB (nT ?_))
          exact ⟨f4 - 1, by omega, r, by omega, by omega, hur, rfl, hA⟩
      case nE =>
        have hbe : blankE u = false := by rw [blankE_eq hx9, ← hq4]
        rw [trimR_stop hbe] at hur
        have hfin : trimS [32, 9] y.v = u := by
          unfold trimS
          rw [← trim_comm, htr, hur]
        obtain ⟨h8, h9⟩ := ho.put1 (j := 1) (x := trimF y) (u := .string (St (trimS [32, 9] y.v))) hym (by decide) rfl rfl
        rw [hset, hfin] at h8
        rw [hfin] at h9
        replace hA := hA.keepN [0, 3, 4, 6, 7]
        refine wp_exit (xT (xT (xB (nT (wR ?_)))))
        revert a; (iterate 5 refine wo rfl rfl (by decide) (fun ev e h => by simp [go_sem, h, jj0, jj1, z1, add0, ho.frozenAt] <;> rfl) ?_); intro a hA
        refine wl_skip hA rfl rfl (fun ev h => by simp [go_sem, h.get 56 rfl, h.get 54 rfl, jj0, jj1, z1, add0, ho.frozenAt]; try first | exact ⟨rfl, rfl⟩ | rfl) ?_
        replace hA := hA.keepN [0, 6, 7]
        refine wN (nB (nT (wR ?_)))
        revert a; (iterate 2 refine wo rfl rfl (by decide) (fun ev e h => by simp [go_sem, h, i3] <;> rfl) ?_); intro a hA
        replace hA := hA.keepN [0, 6, 7]
        refine wN (nT ?_)
        exact ⟨f2 - 1, by omega, j + 1, by omega, h8, HB.grown h9 hB' (fun k e => by injection e with e; omega), hA⟩
end Go.Proofs.YtjhaccmcjlbllaaGreatDoor
/-
  Walk: cubbyref06.Head.
-/
namespace Go.Proofs.YtjhaccmcjlbllaaGreatDoor
open Go.RowKit
set_option linter.unusedSimpArgs false
set_option linter.unusedVariables false
set_option linter.unusedSimpArgs false
set_option linter.unusedVariables false
theorem line_nl : ∀ (t r : List UInt8), 10 ∉ t → lineS (t ++ 10 :: r) = (t ++ [10], r)
  | [], r, _ => by rw [List.nil_append, lineS, if_pos rfl]; rfl
  | x :: t, r, h => by
    rw [List.cons_append, lineS, if_neg fun e => h (by rw [e]; exact List.mem_cons_self), line_nl t r fun h' => h (List.mem_cons_of_mem _ h')]
    rfl
theorem line_none : ∀ t : List UInt8, 10 ∉ t → lineS t = (t, [])
  | [], _ => rfl
  | x :: t, h => by
    rw [lineS, if_neg fun e => h (by rw [e]; exact List.mem_cons_self), line_none t fun h' => h (List.mem_cons_of_mem _ h')]
/-- a line without its return -/
def stripR (t : List UInt8) : List UInt8 := if t.getLast? = some 13 then t.dropLast else t
theorem strip_snoc (r : List UInt8) : stripR (r ++ [13]) = r := by
  unfold stripR
  rw [List.getLast?_append, show ([13] : List UInt8).getLast? = some 13 from rfl]
  simp
theorem suffix_one (t : List UInt8) (c : UInt8) : Lib.trimSuffix t [c] = if t.getLast? = some c then t.dropLast else t := by
  rcases List.eq_nil_or_concat t with rfl | ⟨r, x, rfl⟩
  · simp [Lib.trimSuffix, Lib.hasSuffix]
  · rw [List.concat_eq_append]
    unfold Lib.trimSuffix Lib.hasSuffix
    rw [List.getLast?_append, show ([x] : List UInt8).getLast? = some x from rfl]
    have e : List.isSuffixOf [c] (r ++ [x]) = (c == x) := by simp [List.isSuffixOf, List.isPrefixOf]
    rw [e]
    by_cases h : c = x
    · subst h; simp
    · have h2 : ¬ x = c := fun e => h e.symm
      simp [h, h2]
theorem bare_nl (t : List UInt8) : bareS (t ++ [10]) = stripR t := by
  unfold bareS
  rw [suffix_one (t ++ [10]) 10, List.getLast?_append, show ([10] : List UInt8).getLast? = some 10 from rfl]
  simp only [Option.some_or, if_pos, List.dropLast_concat]
  rw [suffix_one]
  rfl
theorem bare_end {t : List UInt8} (h : 10 ∉ t) : bareS t = stripR t := by
  unfold bareS
  rw [suffix_one t 10, if_neg fun e => h (List.mem_of_getLast? e), suffix_one]
  rfl
theorem empty_nl (t : List UInt8) : emptyS (t ++ [10]) = ((stripR t).isEmpty && decide (t.length ≤ 1)) := by
  unfold emptyS stripR
  match t with
  | [] => rfl
  | [x] =>
    by_cases hx : x = 13
    · subst hx; rfl
    · have : ¬ ([x] : List UInt8).getLast? = some 13 := by simpa using hx
      rw [if_neg this]
      simp [hx]
  | x :: y :: t => simp
theorem empty_end {t : List UInt8} (h : 10 ∉ t) : emptyS t = false := by
  unfold emptyS
  rw [Bool.or_eq_false_iff]
  refine ⟨?_, ?_⟩
  · rw [beq_eq_false_iff_ne]; rintro rfl; exact h (by simp)
  · rw [beq_eq_false_iff_ne]; rintro rfl; exact h (by simp)
/-- how far a name goes -/
def nameN (s : List UInt8) : Nat := (s.takeWhile fun c => !(c == 58) && signB c).length
theorem step_ref {l : List FieldS} {q : Bool} {s : List UInt8} {k : Nat} (hb : blankB s = false) (hk : k ≤ s.length) (h1 : ∀ i x, i < k → s[i]? = some x → x ≠ 58 ∧ signB x = true) (h2 : ∀ x, s[k]? = some x → x = 58 ∨ signB x = false) :
    stepF (l, q) s = (if 0 < k ∧ s[k]? = some 58 then (l ++ [⟨s.take k, s.drop (k + 1)⟩], true) else (l, false)) := by
  rw [step_named hb]
  rcases cut_spec 58 s with ⟨hn, h, _⟩ | ⟨a, b, h0, hna, h, _⟩
  · rw [h]
    have : ¬ (0 < k ∧ s[k]? = some 58) := fun e => hn (List.mem_of_getElem? e.2)
    rw [if_neg this]
    rfl
  · rw [h]
    have hka : k ≤ a.length := by
      rcases Nat.lt_or_ge a.length k with hlt | hge
      · have := (h1 a.length 58 hlt (by rw [h0, List.getElem?_append_right (Nat.le_refl _)]; simp)).1
        exact absurd rfl this
      · exact hge
    rcases Nat.lt_or_ge k a.length with hlt | hge
    · have hak : s[k]? = some a[k] := by rw [h0, List.getElem?_append_left hlt, List.getElem?_eq_getElem hlt]
      have hm : a[k] ∈ a := List.getElem_mem hlt
      have hsb : signB a[k] = false := by
        rcases h2 _ hak with e | e
        · exact absurd (e ▸ hm) hna
        · exact e
      have hnb : namedB a = false := by
        unfold namedB
        rw [show a.all signB = false from List.all_eq_false.2 ⟨_, hm, by rw [hsb]; decide⟩, Bool.and_false]
      rw [hnb, if_neg (by simp), if_neg]
      rintro ⟨_, e⟩
      rw [hak] at e
      injection e with e
      exact hna (e ▸ hm)
    · have hke : k = a.length := by omega
      have hsk : s[k]? = some 58 := by rw [h0, hke, List.getElem?_append_right (Nat.le_refl _)]; simp
      have hall : a.all signB = true := by
        rw [List.all_eq_true]
        intro x hx
        obtain ⟨i, hi, rfl⟩ := List.getElem_of_mem hx
        exact (h1 i a[i] (by omega) (by rw [h0, List.getElem?_append_left hi, List.getElem?_eq_getElem hi])).2
      have e1 : s.take k = a := by rw [h0, hke]; simp
      have e2 : s.drop (k + 1) = b := by rw [h0, hke]; simp
      rw [e1, e2]
      unfold namedB
      rw [hall]
      cases a with
      | nil =>
        rw [if_neg (by simp), if_neg]
        rintro ⟨e, _⟩
        simp at hke; omega
      | cons x a => rw [if_pos (by simp), if_pos ⟨by rw [hke]; simp, hsk⟩]
theorem strip_yes {t : List UInt8} (hx : t.getLastD 0 = 13) : stripR t = t.take (t.length - 1) := by
  rcases List.eq_nil_or_concat t with rfl | ⟨r, x, rfl⟩
  · rfl
  · rw [List.concat_eq_append] at *
    have : x = 13 := by simpa using hx
    subst this
    rw [strip_snoc]
    simp
theorem strip_no {t : List UInt8} (h : t.getLastD 0 ≠ 13) : stripR t = t := by
  unfold stripR
  rw [if_neg]
  intro e
  rw [List.getLastD_eq_getLast?, e] at h
  exact h rfl
theorem refS_nil (F : Nat) (st : List FieldS × Bool) : refS F [] st = (0, st) := by
  cases F with
  | zero => rfl
  | succ F => rw [refS, if_pos rfl]
theorem strip_len (t : List UInt8) : (stripR t).length ≤ t.length := by
  unfold stripR
  split
  · rw [List.length_dropLast]; omega
  · exact Nat.le_refl _
set_option maxRecDepth 100000 in
set_option maxHeartbeats 16000000 in
theorem refHead_any (A : Option Addr) (c : Nat) (b : List UInt8) (w : World) (hn : b.length ≤ 1048576) (hbc : b.length ≤ c) (hr : Reads w w.heap.size 1 A b.length (u8s b)) : Calls Tryz.prog 10 #[.slice A b.length c] w fun ev w' => ∃ V, ev = .returned (.tuple #[.int .i64 ((headS b).length : Nat), V]) ∧ OwnR fldSh w.heap.size w' V (fieldsS b) ∧ Below w.heap.size w w' := by
  obtain ⟨hrh1, hrh2⟩ := ref_head b
  obtain ⟨B, hB⟩ : ∃ B, w.heap.size = B := ⟨_, rfl⟩
  refine calls_at 186 Tryz.func10 rfl rfl (Nat.le_of_ble_eq_true rfl) ?_
  intro a hA; replace hA := hA.norm
  refine wS (wR ?_)
  revert a; (iterate 2 refine wo rfl rfl (by decide) (fun ev e h => by simp [go_sem, h] <;> rfl) ?_); intro a hA
  replace hA := hA.keepN [0]
  refine wN (nT (wS (wR ?_)))
  revert a; refine wo rfl rfl (by decide) (fun ev e h => by simp [go_sem, h] <;> rfl) ?_; intro a hA
  replace hA := hA.keepN [0, 4]
  refine wN (nT (wS (wR ?_)))
  revert a; refine wo rfl rfl (by decide) (fun ev e h => by simp [go_sem, h] <;> rfl) ?_; intro a hA
  replace hA := hA.keepN [0, 4, 5]
  refine wN (nT (wS (wR ?_)))
  revert a; refine wo rfl rfl (by decide) (fun ev e h => by simp [go_sem, h] <;> rfl) ?_; intro a hA
  replace hA := hA.keepN [0, 4, 5, 6]
  refine wN (nT (wS (wB ?_)))
  refine wp_loop_at (fun F a wx => ∃ (at_ : Nat) (V : Value) (l : List FieldS) (q : Bool), at_ ≤ b.length ∧ b.length - at_ ≤ F ∧ refS b.length b ([], false) = (at_ + (refS F (b.drop at_) (l, q)).1, (refS F (b.drop at_) (l, q)).2) ∧ (q = true → l ≠ []) ∧ l.length + (b.length - at_) ≤ b.length ∧ sumV l + (b.length - at_) ≤ b.length ∧ OwnR fldSh B wx V l ∧ Below B w wx ∧ At 186 [(0, .slice A b.length c), (4, V), (5, .bool q), (6, .int .i64 (at_ : Nat))] a) (b.length) ?_ ?_
  · exact ⟨0, _, [], false, Nat.zero_le _, by omega, by rw [List.drop_zero, Nat.zero_add], (fun h => by cases h), by simp, by simp [sumV], OwnR.nil _ _, hB ▸ Below.refl _ _, hA⟩
  clear hA
  rintro F a wx ⟨at_, V, l, q, hat, hF, hrs, hql, hll, hsv, ho, HB, hA⟩
  have hBx : B ≤ wx.heap.size := by rw [← hB]; exact HB.size
  refine wS (wS (wR ?_))
  revert a; (iterate 4 refine wo rfl rfl (by decide) (fun ev e h => by simp [go_sem, h] <;> rfl) ?_); intro a hA
  replace hA := hA.keepN [0, 4, 5, 6, 15]
  refine wN (nT ?_)
  refine wp_if hA 15 _ rfl (fun hq => ?yA) (fun hq => ?nA)
  case nA =>
    have hal : at_ = b.length := by simp at hq; omega
    have hd : b.drop at_ = [] := List.drop_of_length_le (by omega)
    rw [hd, refS_nil] at hrs
    rw [hrs] at hrh1 hrh2
    replace hA := hA.keepN [0, 4]
    refine wp_exit (xT (xT (xB (nT (wS (wR ?_))))))
    revert a; (iterate 3 refine wo rfl rfl (by decide) (fun ev e h => by simp [go_sem, h] <;> rfl) ?_); intro a hA
    refine wl_call hA rfl rfl (by decide) (fun ev h => exec_call Tryz.func32 (by kernel_rfl) rfl (h.f _) (by first | (simp only [mL, h.get 184 rfl, h.c] <;> rfl) | (simp [mL, h.get 184 rfl, h.c] <;> rfl))) (trimmedR_any B V l wx ho hBx (by omega) (fun f hf => by have := sumV_mem hf; omega)) ?_
    rintro e w1 ⟨rfl, ho1, hb1⟩
    refine ⟨_, rfl, fun a hA => ?_⟩
    revert a; (iterate 2 refine wo rfl rfl (by decide) (fun ev e h => by simp [go_sem, h] <;> rfl) ?_); intro a hA
    replace hA := hA.keepN [2, 3]
    refine wN (nT (wp_ret ?_))
    refine ret_2 hA 2 3 rfl rfl rfl ?_
    refine ⟨_, ?_, hB ▸ hrh2 ▸ ho1, hB ▸ HB.trans hb1⟩
    rw [← hrh1, hal]
    simp
  case yA =>
    have hal : at_ < b.length := by simp at hq; omega
    obtain ⟨F, rfl⟩ : ∃ F', F = F' + 1 := ⟨F - 1, by omega⟩
    refine wp_skip (nT (wB (wS (wR ?_))))
    revert a; (iterate 2 refine wo rfl rfl (by decide) (fun ev e h => by simp [go_sem, h] <;> rfl) ?_); intro a hA
    replace hA := hA.keepN [0, 4, 5, 6, 7]
    refine wN (nT (wS (wB ?_)))
    refine wp_loop_at (fun g a wy => ∃ e : Nat, at_ ≤ e ∧ e + g = b.length ∧ (∀ x ∈ (b.drop at_).take (e - at_), x ≠ 10) ∧ wx = wy ∧ At 186 [(0, .slice A b.length c), (4, V), (5, .bool q), (6, .int .i64 (at_ : Nat)), (7, .int .i64 (e : Nat))] a) ((b.length - at_)) ?_ ?_
    · exact ⟨at_, Nat.le_refl _, by omega, (fun x hx => by rw [Nat.sub_self] at hx; cases hx), rfl, hA⟩
    clear hA
    rintro g a wy ⟨e, hae, heg, hno, rfl, hA⟩
    obtain ⟨A0, hA0⟩ : ∃ A0 : Addr, ∀ h : e < b.length, A = some A0 ∧ wx.cell? (A0.add e) = some (.int .u8 (((b.getD e 0).toNat : Nat) : Int)) := by
      rcases Nat.lt_or_ge e b.length with h | h
      · obtain ⟨ad, ee, hlt, hcl⟩ := hr.2 (by omega)
        refine ⟨ad, fun _ => ⟨ee, (HB.cell (by rw [block_of_add, ← hB]; exact hlt)).trans (hcl e _ ?_)⟩⟩
        rw [u8s_get, List.getD_eq_getElem?_getD, List.getElem?_eq_getElem h]
        rfl
      · exact ⟨default, fun h' => absurd h' (by omega)⟩
    have jj0 : (0 : Int) ≤ (e : Int) := by omega
    have i3 : IntKind.i64.wrap (((e : Nat) : Int) + 1) = ((e + 1 : Nat) : Int) := by rw [IntWalk.i64_in _ (by omega)]; omega
    have kk1 : decide (e < b.length) = true → e < b.length := fun h => by simpa using h
    refine wS (wS (wR ?_))
    revert a; (iterate 5 refine wo rfl rfl (by decide) (fun ev e h => by simp [go_sem, h, jj0] <;> rfl) ?_); (iterate 2 refine wg _ rfl rfl rfl rfl (by decide) (fun hq ev e h => by simp [go_sem, h, ↓gw_t (beq_t hq), jj0] <;> rfl) ?_); refine wg _ rfl rfl rfl rfl (by decide) (fun hq ev e h => by simp [go_sem, h, ↓gw_t (beq_t hq), jj0, (hA0 (kk1 hq)).1, kk1 hq] <;> rfl) ?_; refine wg _ rfl rfl rfl rfl (by decide) (fun hq ev e h => by simp [go_sem, h, ↓gw_t (beq_t hq), jj0, (hA0 (kk1 hq)).2] <;> rfl) ?_; refine wg _ rfl rfl rfl rfl (by decide) (fun hq ev e h => by simp [go_sem, h, ↓gw_t (beq_t hq), jj0] <;> rfl) ?_; refine wka rfl rfl (by decide) rfl rfl rfl ?_; intro a hA
    replace hA := hA.keepN [0, 4, 5, 6, 7, 27]
    refine wN (nT ?_)
    refine wp_if hA 27 _ rfl (fun hq2 => ?yB) (fun hq2 => ?nB)
    case yB =>
      have h3 := Bool.and_eq_true_iff.1 hq2
      have hjn : e < b.length := by simpa using h3.1
      have hx : b[e]? = some (b.getD e 0) := by rw [List.getD_eq_getElem?_getD, List.getElem?_eq_getElem hjn]; rfl
      have hne : b.getD e 0 ≠ 10 := fun ee => by
        have h4 := h3.2
        rw [List.getD_eq_getElem?_getD] at ee
        rw [ee] at h4
        exact absurd h4 (by decide)
      refine wp_skip (nT (wB (wR ?_)))
      revert a; (iterate 3 refine wo rfl rfl (by decide) (fun ev e h => by simp [go_sem, h, i3] <;> rfl) ?_); intro a hA
      replace hA := hA.keepN [0, 4, 5, 6, 7]
      refine wN (nB (nT ?_))
      refine ⟨g - 1, by omega, e + 1, by omega, by omega, fun x hm => ?_, rfl, hA⟩
      rw [show e + 1 - at_ = (e - at_) + 1 by omega, List.take_add_one, List.getElem?_drop, show at_ + (e - at_) = e by omega, hx] at hm
      rcases List.mem_append.1 hm with hm | hm
      · exact hno x hm
      · have hxe : x = b.getD e 0 := by rw [List.getD_eq_getElem?_getD]; simpa using hm
        rw [hxe]; exact hne
    case nB =>
      obtain ⟨ad, rfl, hadl, _⟩ := hr.2 (by omega)
      obtain ⟨t, ht⟩ : ∃ t, (b.drop at_).take (e - at_) = t := ⟨_, rfl⟩
      have htl : t.length = e - at_ := by rw [← ht, List.length_take, List.length_drop]; omega
      rw [ht] at hno
      have hno10 : 10 ∉ t := fun h => hno 10 h rfl
      have hel : e ≤ b.length := by omega
      obtain ⟨cl, hcl⟩ : ∃ q, decide (e < b.length) = q := ⟨_, rfl⟩
      have hbe : cl = true → b[e]? = some 10 := fun h => by
        have hlt : e < b.length := by rw [h] at hcl; simpa using hcl
        have hx : b[e]? = some (b.getD e 0) := by rw [List.getD_eq_getElem?_getD, List.getElem?_eq_getElem hlt]; rfl
        rw [hx]
        have h4 : (((b[e]?.getD 0).toNat : Nat) : Int) = 10 := by
          rw [show decide (e < b.length) = true from decide_eq_true hlt, Bool.true_and] at hq2
          simpa using hq2
        rw [List.getD_eq_getElem?_getD]
        congr 1
        refine UInt8.toNat_inj.1 ?_
        show _ = 10
        omega
      have hdr : b.drop at_ = t ++ b.drop e := by rw [← ht, show b.drop e = (b.drop at_).drop (e - at_) by rw [List.drop_drop]; congr 1; omega, List.take_append_drop]
      obtain ⟨nx, hnx⟩ : ∃ n, (if cl = true then e + 1 else b.length) = n := ⟨_, rfl⟩
      have hnxe : e ≤ nx ∧ nx ≤ b.length ∧ nx ≤ e + 1 ∧ at_ < nx := by
        cases cl with
        | true =>
          have hlt : e < b.length := by simpa using hcl
          simp at hnx; omega
        | false =>
          have hlt : ¬ e < b.length := by simpa using hcl
          simp at hnx; omega
      have hline : (lineS (b.drop at_)).1.length = nx - at_ ∧ (lineS (b.drop at_)).2 = b.drop nx ∧ bareS (lineS (b.drop at_)).1 = stripR t ∧ emptyS (lineS (b.drop at_)).1 = (cl && (stripR t).isEmpty && decide (t.length ≤ 1)) := by
        cases cl with
        | true =>
          have hlt : e < b.length := by simpa using hcl
          have h10 := hbe rfl
          have hde : b.drop e = 10 :: b.drop (e + 1) := by
            rw [List.drop_eq_getElem_cons hlt]
            congr 1
            rw [List.getElem?_eq_getElem hlt] at h10
            injection h10
          rw [if_pos rfl] at hnx
          rw [hdr, hde, line_nl t _ hno10, bare_nl, empty_nl, ← hnx]
          refine ⟨?_, rfl, rfl, by rw [Bool.true_and]⟩
          rw [List.length_append, htl, List.length_singleton]; omega
        | false =>
          have hlt : ¬ e < b.length := by simpa using hcl
          have hee : e = b.length := by omega
          rw [if_neg (by decide)] at hnx
          rw [hdr, List.drop_of_length_le (show b.length ≤ e by omega), List.append_nil, line_none t hno10, bare_end hno10, empty_end hno10, ← hnx]
          refine ⟨by rw [htl, hee], by rw [List.drop_of_length_le (Nat.le_refl _)], rfl, by simp⟩
      obtain ⟨hl1, hl2, hl3, hl4⟩ := hline
      have hne : b.drop at_ ≠ [] := fun h => by have := congrArg List.length h; rw [List.length_drop, List.length_nil] at this; omega
      rw [refS, if_neg hne, hl1, hl2, hl3, hl4] at hrs
      have f3 : (e : Int) ≤ (c : Int) := by omega
      have f3b : e ≤ c := by omega
      have f4 : (at_ : Int) ≤ (e : Int) := by omega
      have f4b : at_ ≤ e := hae
      have f5 : e - at_ = t.length := htl.symm
      have f6 : ¬ (c = at_) := by omega
      have hsx := HB.size
      have hrx : Reads wx B 1 (some ad) b.length (u8s b) := by
        have h9 : Below w.heap.size w wx := by rw [hB]; exact HB
        have h8 := hr.below h9
        rw [hB] at h8
        exact h8
      have hrs2 := (hrx.drop8 (k := at_) (by omega) hbc).take8 (k := e - at_) (by omega)
      rw [if_neg f6, ht, Option.map_some] at hrs2
      rw [f5] at hrs2
      have hcv := conv_reads (c := c - at_) rfl hrs2
      obtain ⟨x9, hx9⟩ : ∃ x, t.getLastD 0 = x := ⟨_, rfl⟩
      obtain ⟨k, hk⟩ : ∃ k, t.length - 1 = k := ⟨_, rfl⟩
      have hneL : t ≠ [] → t.length = k + 1 := fun e => by have := List.length_pos_iff.2 e; omega
      have i9 : t ≠ [] → IntKind.i64.wrap (((t.length : Nat) : Int) - 1) = ((k : Nat) : Int) := fun e => by
        have := hneL e
        rw [IntWalk.i64_in _ (by omega)]; omega
      have g9 : ∀ h : k < (St t).size, (St t)[k] = x9 := fun h => by
        have hku : k < t.length := h
        obtain ⟨r, x, rfl, hr9⟩ := snoc_of (l := t) (k := k) (by omega)
        have hx : x = x9 := by rw [← hx9]; simp
        rw [← hx]
        exact get_snoc r x k hr9 h
      have k9 : t ≠ [] → k < t.length := fun e => by have := hneL e; omega
      have k8 : t ≠ [] → ((k : Nat) : Int) < ((t.length : Nat) : Int) := fun e => by have := hneL e; omega
      have k7 : (0 : Int) ≤ ((k : Nat) : Int) := by omega
      have hst : (St t).size = t.length := rfl
      have hmin : min ((e : Int) + 1) ((b.length : Nat) : Int) = ((nx : Nat) : Int) := by
        cases cl with
        | true =>
          have hlt : e < b.length := by simpa using hcl
          rw [if_pos rfl] at hnx
          omega
        | false =>
          have hlt : ¬ e < b.length := by simpa using hcl
          rw [if_neg (by decide)] at hnx
          omega
      have x8 : ∀ n : Nat, n < 256 → (((x9.toNat : Nat) : Int) == (n : Int)) = true → x9 = UInt8.ofNat n := fun n hn h => by
        rw [u8_eq x9 n hn] at h
        simpa using h
      replace hA := hA.keepN [0, 4, 5, 6, 7]
      refine wp_exit (xT (xT (xB (nT (wS (wR ?_))))))
      revert a; (iterate 4 refine wo rfl rfl (by decide) (fun ev e h => by simp [go_sem, h, f3, f3b, f4, f4b, f5, f6, jj0, hcv, i3, hcl, hst, g9, k7, hmin] <;> rfl) ?_); intro a hA
      refine wl_op hA rfl rfl (by decide) (fun ev h => by simp [go_sem, h.get 33 rfl, f3, f3b, f4, f4b, f5, f6, jj0, hcv, i3, hcl, hst, g9, k7, hmin]; try first | exact ⟨rfl, rfl⟩ | rfl) fun a hA => ?_
      revert a; refine wo rfl rfl (by decide) (fun ev e h => by simp [go_sem, h, f3, f3b, f4, f4b, f5, f6, jj0, hcv, i3, hcl, hst, g9, k7, hmin] <;> rfl) ?_; intro a hA
      replace hA := hA.keepN [0, 4, 5, 6, 7, 8]
      refine wN (nT (wS (wR ?_)))
      revert a; (iterate 6 refine wo rfl rfl (by decide) (fun ev e h => by simp [go_sem, h, f3, f3b, f4, f4b, f5, f6, jj0, hcv, i3, hcl, hst, g9, k7, hmin] <;> rfl) ?_); intro a hA
      replace hA := hA.keepN [0, 4, 5, 6, 7, 8, 9]
      refine wN (nT (wS (wR ?_)))
      revert a; (iterate 5 refine wo rfl rfl (by decide) (fun ev e h => by simp [go_sem, h, f3, f3b, f4, f4b, f5, f6, jj0, hcv, i3, hcl, hst, g9, k7, hmin] <;> rfl) ?_); intro a hA
      replace hA := hA.keepN [0, 4, 5, 6, 7, 8, 9, 10]
      refine wN (nT (wS (wS (wR ?_))))
      revert a; (iterate 2 refine wo rfl rfl (by decide) (fun ev e h => by simp [go_sem, h, f3, f3b, f4, f4b, f5, f6, jj0, hcv, i3, hcl, hst, g9, k7, hmin] <;> rfl) ?_); (iterate 4 refine wg _ rfl rfl rfl rfl (by decide) (fun hq ev e h => by simp [go_sem, h, ↓gw_t (beq_t hq), f3, f3b, f4, f4b, f5, f6, jj0, hcv, i3, hcl, hst, g9, k7, hmin] <;> rfl) ?_); refine wko rfl rfl (by decide) rfl rfl rfl ?_; refine wo rfl rfl (by decide) (fun ev e h => by simp [go_sem, h, f3, f3b, f4, f4b, f5, f6, jj0, hcv, i3, hcl, hst, g9, k7, hmin] <;> rfl) ?_; (iterate 2 refine wg _ rfl rfl rfl rfl (by decide) (fun hq ev e h => by simp [go_sem, h, ↓gw_t (beq_t hq), f3, f3b, f4, f4b, f5, f6, jj0, hcv, i3, hcl, hst, g9, k7, hmin] <;> rfl) ?_); intro a hA
      replace hA := hA.keepN [0, 4, 5, 6, 7, 8, 9, 10, 51, 53]
      revert a; refine wg _ rfl rfl rfl rfl (by decide) (fun hq ev e h => by simp [go_sem, h, ↓gw_t (beq_t hq), f3, f3b, f4, f4b, f5, f6, jj0, hcv, i3, hcl, hst, g9, k7, hmin] <;> rfl) ?_; refine wka rfl rfl (by decide) rfl rfl rfl ?_; refine wo rfl rfl (by decide) (fun ev e h => by simp [go_sem, h, f3, f3b, f4, f4b, f5, f6, jj0, hcv, i3, hcl, hst, g9, k7, hmin] <;> rfl) ?_; (iterate 3 refine wg _ rfl rfl rfl rfl (by decide) (fun hq ev e h => by simp [go_sem, h, ↓gw_t (beq_t hq), f3, f3b, f4, f4b, f5, f6, jj0, hcv, i3, hcl, hst, g9, k7, hmin] <;> rfl) ?_); refine wg _ rfl rfl rfl rfl (by decide) (fun hq ev e h => by simp [go_sem, h, ↓gw_t (beq_t hq), f3, f3b, f4, f4b, f5, f6, jj0, hcv, i3, hcl, hst, g9, k7, hmin, i9 (show t ≠ [] from by intro e; rw [e] at hq; simp at hq)] <;> rfl) ?_; refine wg _ rfl rfl rfl rfl (by decide) (fun hq ev e h => by simp [go_sem, h, ↓gw_t (beq_t hq), f3, f3b, f4, f4b, f5, f6, jj0, hcv, i3, hcl, hst, g9, k7, hmin, k9 (show t ≠ [] from by intro e; rw [e] at hq; simp at hq), k8 (show t ≠ [] from by intro e; rw [e] at hq; simp at hq)] <;> rfl) ?_; refine wg _ rfl rfl rfl rfl (by decide) (fun hq ev e h => by simp [go_sem, h, ↓gw_t (beq_t hq), f3, f3b, f4, f4b, f5, f6, jj0, hcv, i3, hcl, hst, g9, k7, hmin] <;> rfl) ?_; refine wka rfl rfl (by decide) rfl rfl rfl ?_; intro a hA
      replace hA := hA.keepN [0, 4, 5, 6, 7, 8, 9, 10, 63]
      refine wN (nT ?_)
      refine wp_join (fun a wy => wx = wy ∧ At 186 [(0, .slice (some ad) b.length c), (4, V), (5, .bool q), (6, .int .i64 (at_ : Nat)), (7, .int .i64 (e : Nat)), (8, .string (St (stripR t))), (9, .int .i64 (nx : Nat)), (10, .bool cl)] a) ?jfJ ?jrJ
      case jfJ =>
        refine wp_if hA 63 _ rfl (fun hq3 => ?yC) (fun hq3 => ?nC)
        case yC =>
          have h9 := Bool.and_eq_true_iff.1 hq3
          have hpos : t ≠ [] := by
            intro e0
            rw [e0] at h9
            simp at h9
          have hx13 : t.getLastD 0 = 13 := by rw [hx9]; exact x8 13 (by decide) h9.2
          have hT : St (t.take k) = St (stripR t) := by rw [strip_yes hx13, hk]
          have i9' := i9 hpos
          have q1 : ((k : Nat) : Int) ≤ ((t.length : Nat) : Int) := by have := k9 hpos; omega
          refine wR ?_
          revert a; (iterate 6 refine wo rfl rfl (by decide) (fun ev e h => by simp [go_sem, h, hst, i9', q1, k7, extract_take, hT] <;> rfl) ?_); intro a hA
          replace hA := hA.keepN [0, 4, 5, 6, 7, 8, 9, 10]
          refine wN (nT ?_)
          exact ⟨rfl, hA⟩
        case nC =>
          refine wS (wR ?_)
          revert a; (iterate 3 refine wo rfl rfl (by decide) (fun ev e h => by simp [go_sem, h, hst, g9, k7] <;> rfl) ?_); (iterate 3 refine wg _ rfl rfl rfl rfl (by decide) (fun hq ev e h => by simp [go_sem, h, ↓gw_t (beq_t hq), hst, g9, k7] <;> rfl) ?_); refine wka rfl rfl (by decide) rfl rfl rfl ?_; refine wo rfl rfl (by decide) (fun ev e h => by simp [go_sem, h, hst, g9, k7] <;> rfl) ?_; (iterate 2 refine wg _ rfl rfl rfl rfl (by decide) (fun hq ev e h => by simp [go_sem, h, ↓gw_t (beq_t hq), hst, g9, k7] <;> rfl) ?_); intro a hA
          replace hA := hA.keepN [0, 4, 5, 6, 7, 8, 9, 10, 76, 77, 78]
          revert a; refine wg _ rfl rfl rfl rfl (by decide) (fun hq ev e h => by simp [go_sem, h, ↓gw_t (beq_t hq), hst, g9, k7] <;> rfl) ?_; refine wg _ rfl rfl rfl rfl (by decide) (fun hq ev e h => by simp [go_sem, h, ↓gw_t (beq_t hq), hst, g9, k7, i9 (show t ≠ [] from by intro e; rw [e] at hq; simp at hq)] <;> rfl) ?_; refine wg _ rfl rfl rfl rfl (by decide) (fun hq ev e h => by simp [go_sem, h, ↓gw_t (beq_t hq), hst, g9, k7, k9 (show t ≠ [] from by intro e; rw [e] at hq; simp at hq), k8 (show t ≠ [] from by intro e; rw [e] at hq; simp at hq)] <;> rfl) ?_; refine wg _ rfl rfl rfl rfl (by decide) (fun hq ev e h => by simp [go_sem, h, ↓gw_t (beq_t hq), hst, g9, k7] <;> rfl) ?_; refine wka rfl rfl (by decide) rfl rfl rfl ?_; intro a hA
          replace hA := hA.keepN [0, 4, 5, 6, 7, 8, 9, 10, 83]
          refine wN (nT ?_)
          refine wp_if hA 83 _ rfl (fun hq4 => ?yD) (fun hq4 => ?nD)
          case yD =>
            have h9 := Bool.and_eq_true_iff.1 hq4
            have hpos : t ≠ [] := by
              intro e0
              rw [e0] at h9
              simp at h9
            have hx13 : t.getLastD 0 = 13 := by rw [hx9]; exact x8 13 (by decide) h9.2
            have hT : St (t.take k) = St (stripR t) := by rw [strip_yes hx13, hk]
            have i9' := i9 hpos
            have q1 : ((k : Nat) : Int) ≤ ((t.length : Nat) : Int) := by have := k9 hpos; omega
            refine wR ?_
            revert a; (iterate 6 refine wo rfl rfl (by decide) (fun ev e h => by simp [go_sem, h, hst, i9', q1, k7, extract_take, hT] <;> rfl) ?_); intro a hA
            replace hA := hA.keepN [0, 4, 5, 6, 7, 8, 9, 10]
            refine wN (nT ?_)
            exact ⟨rfl, hA⟩
          case nD =>
            have hT : stripR t = t := by
              rcases List.eq_nil_or_concat t with h0 | ⟨r, x, h0⟩
              · rw [h0]; rfl
              · refine strip_no fun h13 => ?_
                have hpos : 0 < t.length := by rw [h0]; simp
                rw [hx9] at h13
                subst h13
                cases cl <;> simp [hpos] at hq3 hq4
            rw [hT]
            replace hA := hA.keepN [0, 4, 5, 6, 7, 8, 9, 10]
            refine wp_skip (nT ?_)
            exact ⟨rfl, hA⟩
      clear hA
      rintro a wy ⟨rfl, hA⟩
      obtain ⟨s, hs⟩ : ∃ s, stripR t = s := ⟨_, rfl⟩
      have hsl : s.length ≤ t.length := by rw [← hs]; exact strip_len t
      rw [hs] at hA hrs
      have i7 : IntKind.i64.wrap (((e : Nat) : Int) - ((at_ : Nat) : Int)) = ((t.length : Nat) : Int) := by rw [IntWalk.i64_in _ (by omega)]; omega
      refine wS (wS (wR ?_))
      revert a; (iterate 2 refine wo rfl rfl (by decide) (fun ev e h => by simp [go_sem, h, i7] <;> rfl) ?_); (iterate 2 refine wg _ rfl rfl rfl rfl (by decide) (fun hq ev e h => by simp [go_sem, h, ↓gw_t (beq_t hq), i7] <;> rfl) ?_); refine wka rfl rfl (by decide) rfl rfl rfl ?_; refine wo rfl rfl (by decide) (fun ev e h => by simp [go_sem, h, i7] <;> rfl) ?_; (iterate 4 refine wg _ rfl rfl rfl rfl (by decide) (fun hq ev e h => by simp [go_sem, h, ↓gw_t (beq_t hq), i7] <;> rfl) ?_); intro a hA
      replace hA := hA.keepN [0, 4, 5, 8, 9, 94, 98]
      revert a; refine wka rfl rfl (by decide) rfl rfl rfl ?_; intro a hA
      replace hA := hA.keepN [0, 4, 5, 8, 9, 99]
      refine wN (nT ?_)
      have hd1 : decide (((t.length : Nat) : Int) ≤ 1) = decide (t.length ≤ 1) := decide_eq_decide.2 (by omega)
      rw [hd1] at hA
      refine wp_if hA 99 _ rfl (fun hq5 => ?yE) (fun hq5 => ?nE)
      case yE =>
        rw [if_pos hq5] at hrs
        rw [hrs] at hrh1 hrh2
        refine wS (wR ?_)
        revert a; (iterate 2 refine wo rfl rfl (by decide) (fun ev e h => by simp [go_sem, h, i7] <;> rfl) ?_); intro a hA
        refine wl_call hA rfl rfl (by decide) (fun ev h => exec_call Tryz.func32 (by kernel_rfl) rfl (h.f _) (by first | (simp only [mL, h.get 101 rfl, h.c] <;> rfl) | (simp [mL, h.get 101 rfl, h.c, i7] <;> rfl))) (trimmedR_any B V l wx ho hBx (by omega) (fun f hf => by have := sumV_mem hf; omega)) ?_
        rintro e w1 ⟨rfl, ho1, hb1⟩
        refine ⟨_, rfl, fun a hA => ?_⟩
        revert a; (iterate 2 refine wo rfl rfl (by decide) (fun ev e h => by simp [go_sem, h, i7] <;> rfl) ?_); intro a hA
        replace hA := hA.keepN [2, 3]
        refine wN (nT (wp_ret (rT (rB (rT (rB (rT ?_)))))))
        refine ret_2 hA 2 3 rfl rfl rfl ?_
        refine ⟨_, ?_, hB ▸ hrh2 ▸ ho1, hB ▸ HB.trans hb1⟩
        rw [← hrh1]
        simp
        omega
      case nE =>
        rw [if_neg (by rw [hq5]; decide)] at hrs
        have hrest : b.length - nx ≤ F := by omega
        have hsz : (St s).size = s.length := rfl
        obtain ⟨x0, hx0⟩ : ∃ x0, s.headD 0 = x0 := ⟨_, rfl⟩
        have g1 : ∀ h : 0 < (St s).size, (St s)[0] = x0 := fun h => by
          cases s with
          | nil => exact absurd h (by decide)
          | cons y t => exact hx0
        refine wp_skip (nT (wS (wR ?_)))
        revert a; (iterate 2 refine wo rfl rfl (by decide) (fun ev e h => by simp [go_sem, h, hsz, g1] <;> rfl) ?_); intro a hA
        replace hA := hA.keepN [0, 4, 5, 6, 8]
        refine wN (nT (wS (wS (wR ?_))))
        revert a; (iterate 3 refine wo rfl rfl (by decide) (fun ev e h => by simp [go_sem, h, hsz, g1] <;> rfl) ?_); refine wg _ rfl rfl rfl rfl (by decide) (fun hq ev e h => by simp [go_sem, h, ↓gw_t (beq_t hq), hsz, g1] <;> rfl) ?_; refine wg _ rfl rfl rfl rfl (by decide) (fun hq ev e h => by simp [go_sem, h, ↓gw_t (beq_t hq), hsz, g1, (List.length_pos_iff.2 (show s ≠ [] from by intro e; rw [e] at hq; simp at hq))] <;> rfl) ?_; (iterate 2 refine wg _ rfl rfl rfl rfl (by decide) (fun hq ev e h => by simp [go_sem, h, ↓gw_t (beq_t hq), hsz, g1] <;> rfl) ?_); refine wg2 _ _ rfl rfl rfl rfl (by decide) (fun hq hr ev e h => by simp [go_sem, h, ↓gw_t (and_beq hq hr), ↓gw_t hq, hsz, g1] <;> rfl) ?_; refine wg2 _ _ rfl rfl rfl rfl (by decide) (fun hq hr ev e h => by simp [go_sem, h, ↓gw_t (and_beq hq hr), ↓gw_t hq, hsz, g1, (List.length_pos_iff.2 (show s ≠ [] from by intro e; rw [e] at hq; simp at hq))] <;> rfl) ?_; refine wg2 _ _ rfl rfl rfl rfl (by decide) (fun hq hr ev e h => by simp [go_sem, h, ↓gw_t (and_beq hq hr), ↓gw_t hq, hsz, g1] <;> rfl) ?_; intro a hA
        refine wl_guard _ hA rfl rfl rfl rfl (by decide) (fun hq ev h => by exact pick_or rfl (((h.get 110 rfl).trans (gw_t (beq_t hq)))) (h.c _) (((h.get 113 rfl).trans (gw_a (beq_t hq))))) fun a hA => ?_
        revert a; refine wka rfl rfl (by decide) rfl rfl rfl ?_; intro a hA
        replace hA := hA.keepN [0, 4, 5, 6, 8, 115]
        refine wN (nT ?_)
        obtain ⟨st2, hst2⟩ : ∃ st2, stepF (l, q) s = st2 := ⟨_, rfl⟩
        refine wp_if hA 115 _ rfl (fun hq6 => ?yG) (fun hq6 => ?nG)
        case yG =>
          have hbl2 : blankB s = true := by rw [blank_eq hx0, ← hq6]
          rw [step_blank hbl2] at hrs
          refine wS (wS (wR ?_))
          revert a; refine wo rfl rfl (by decide) (fun ev e h => by simp [go_sem, h, hsz, g1] <;> rfl) ?_; intro a hA
          replace hA := hA.keepN [0, 4, 5, 6, 8, 116]
          refine wN (nT ?_)
          refine wp_if hA 116 _ rfl (fun hq7 => ?yH) (fun hq7 => ?nH)
          case yH =>
            have hq7 : q = true := hq7
            subst hq7
            rw [if_pos rfl] at hrs
            have hlne := List.length_pos_iff.2 (hql rfl)
            obtain ⟨k2, hk2⟩ : ∃ k, l.length = k + 1 := ⟨l.length - 1, by omega⟩
            obtain ⟨y, hy⟩ : ∃ y, l[k2]? = some y := ⟨_, List.getElem?_eq_getElem (by omega)⟩
            obtain ⟨g2, c', rfl, hgB, hglt⟩ := ho.at_ (by omega)
            have z1 : wx.cell? ⟨g2, k2 * 2 + 1, none⟩ = some (.string (St y.v)) := ho.cellAt (j := 1) hy rfl
            have kk0 : (0 : Int) ≤ (k2 : Int) := by omega
            have kk1 : (k2 : Int) < ((l.length : Nat) : Int) := by omega
            have i1 : IntKind.i64.wrap (((l.length : Nat) : Int) - 1) = ((k2 : Nat) : Int) := by rw [IntWalk.i64_in _ (by omega)]; omega
            have hym := sumV_mem (List.mem_of_getElem? hy)
            have ka : St y.v ++ St s = St (y.v ++ s) := st_app _ _
            have kz : ¬ 9223372036854775807 < y.v.length + s.length := by omega
            obtain ⟨u, hu⟩ : ∃ u, y.v ++ s = u := ⟨_, rfl⟩
            obtain ⟨h8, h9⟩ := ho.put1 (j := 1) (x := (⟨y.n, u⟩ : FieldS)) (u := .string (St u)) hy (by decide) rfl rfl
            have hset : addLast l s = l.set k2 ⟨y.n, u⟩ := by rw [addLast_set hy hk2, hu]
            rw [hu] at ka
            have hsvl := sumV_add l s
            refine wR ?_
            revert a; (iterate 10 refine wo rfl rfl (by decide) (fun ev e h => by simp [go_sem, h, kk0, kk1, i1, z1, ka, kz, hsz, add0, ho.frozenAt] <;> rfl) ?_); intro a hA
            replace hA := hA.keepN [0, 4, 5, 6, 8, 117, 120, 126]
            revert a; (iterate 5 refine wo rfl rfl (by decide) (fun ev e h => by simp [go_sem, h, kk0, kk1, i1, z1, ka, kz, hsz, add0, ho.frozenAt] <;> rfl) ?_); intro a hA
            refine wl_skip hA rfl rfl (fun ev h => by simp [go_sem, h.get 131 rfl, h.get 129 rfl, kk0, kk1, i1, z1, ka, kz, hsz, add0, ho.frozenAt]; try first | exact ⟨rfl, rfl⟩ | rfl) ?_
            replace hA := hA.keepN [0, 4, 5, 6]
            replace hA := hA.keepN [0, 4, 5, 6]
            refine wN (nT (wp_exit (xT (xB (nT ?_)))))
            rw [hset] at hrs
            have hnl : (l.set k2 ⟨y.n, u⟩).length = l.length := List.length_set ..
            rw [hset] at hsvl
            refine ⟨F, by omega, nx, _, l.set k2 ⟨y.n, u⟩, true, by omega, hrest, ?_, fun _ e => by rw [e] at hnl; simp at hnl; omega, by rw [hnl]; omega, by omega, ?_, HB.grown h9 hBx (fun k e => by injection e with e; omega), hA⟩
            · rw [hrs]; congr 1; omega
            · exact h8
          case nH =>
            have hq7 : q = false := hq7
            subst hq7
            rw [if_neg (by decide)] at hrs
            replace hA := hA.keepN [0, 4, 5, 6]
            refine wp_skip (nT (wp_exit (xT (xB (nT ?_)))))
            exact ⟨F, by omega, nx, V, l, false, by omega, hrest, by rw [hrs]; congr 1; omega, (fun h => by cases h), by omega, by omega, ho, HB, hA⟩
        case nG =>
          have hbl2 : blankB s = false := by rw [blank_eq hx0, ← hq6]
          refine wp_skip (nT (wS (wR ?_)))
          revert a; refine wo rfl rfl (by decide) (fun ev e h => by simp [go_sem, h, hsz, g1] <;> rfl) ?_; intro a hA
          replace hA := hA.keepN [0, 4, 6, 8, 11]
          refine wN (nT (wS (wB ?_)))
          refine wp_loop_at (fun g a wy => ∃ m : Nat, m + g = s.length ∧ (∀ i x, i < m → s[i]? = some x → x ≠ 58 ∧ signB x = true) ∧ wx = wy ∧ At 186 [(0, .slice (some ad) b.length c), (4, V), (6, .int .i64 (nx : Nat)), (8, .string (St s)), (11, .int .i64 (m : Nat))] a) (s.length) ?_ ?_
          · exact ⟨0, by omega, (fun i x hi => absurd hi (Nat.not_lt_zero _)), rfl, hA⟩
          clear hA
          rintro g a wy ⟨m, hmg, hall, rfl, hA⟩
          obtain ⟨x, hx⟩ : ∃ x, s.getD m 0 = x := ⟨_, rfl⟩
          have gm : ∀ h : m < (St s).size, (St s)[m] = x := fun h => by
            have h1 : m < s.length := h
            rw [← hx, List.getD_eq_getElem?_getD, List.getElem?_eq_getElem h1]
            rfl
          have hsm : m < s.length → s[m]? = some x := fun h => by rw [← hx, List.getD_eq_getElem?_getD, List.getElem?_eq_getElem h]; rfl
          have mm0 : (0 : Int) ≤ (m : Int) := by omega
          have i4 : IntKind.i64.wrap (((m : Nat) : Int) + 1) = ((m + 1 : Nat) : Int) := by rw [IntWalk.i64_in _ (by omega)]; omega
          have h58 : (((x.toNat : Nat) : Int) == 58) = (x == 58) := u8_eq x 58 (by decide)
          have hsg : signB x = (decide (33 ≤ x.toNat) && decide (x.toNat ≤ 126)) := rfl
          refine wS (wS (wR ?_))
          revert a; (iterate 5 refine wo rfl rfl (by decide) (fun ev e h => by simp [go_sem, h, hsz, gm, mm0] <;> rfl) ?_); (iterate 2 refine wg _ rfl rfl rfl rfl (by decide) (fun hq ev e h => by simp [go_sem, h, ↓gw_t (beq_t hq), hsz, gm, mm0] <;> rfl) ?_); refine wg _ rfl rfl rfl rfl (by decide) (fun hq ev e h => by simp [go_sem, h, ↓gw_t (beq_t hq), hsz, gm, mm0, (show m < s.length from by have h9 := hq; simp at h9; omega)] <;> rfl) ?_; refine wg _ rfl rfl rfl rfl (by decide) (fun hq ev e h => by simp [go_sem, h, ↓gw_t (beq_t hq), hsz, gm, mm0] <;> rfl) ?_; refine wka rfl rfl (by decide) rfl rfl rfl ?_; refine wo rfl rfl (by decide) (fun ev e h => by simp [go_sem, h, hsz, gm, mm0] <;> rfl) ?_; intro a hA
          replace hA := hA.keepN [0, 4, 6, 8, 11, 142]
          revert a; (iterate 2 refine wg _ rfl rfl rfl rfl (by decide) (fun hq ev e h => by simp [go_sem, h, ↓gw_t (beq_t hq), hsz, gm, mm0] <;> rfl) ?_); refine wg _ rfl rfl rfl rfl (by decide) (fun hq ev e h => by simp [go_sem, h, ↓gw_t (beq_t hq), hsz, gm, mm0, (show m < s.length from by have h9 := hq; simp at h9; omega)] <;> rfl) ?_; refine wg _ rfl rfl rfl rfl (by decide) (fun hq ev e h => by simp [go_sem, h, ↓gw_t (beq_t hq), hsz, gm, mm0] <;> rfl) ?_; refine wka rfl rfl (by decide) rfl rfl rfl ?_; refine wo rfl rfl (by decide) (fun ev e h => by simp [go_sem, h, hsz, gm, mm0] <;> rfl) ?_; (iterate 2 refine wg _ rfl rfl rfl rfl (by decide) (fun hq ev e h => by simp [go_sem, h, ↓gw_t (beq_t hq), hsz, gm, mm0] <;> rfl) ?_); refine wg _ rfl rfl rfl rfl (by decide) (fun hq ev e h => by simp [go_sem, h, ↓gw_t (beq_t hq), hsz, gm, mm0, (show m < s.length from by have h9 := hq; simp at h9; omega)] <;> rfl) ?_; refine wg _ rfl rfl rfl rfl (by decide) (fun hq ev e h => by simp [go_sem, h, ↓gw_t (beq_t hq), hsz, gm, mm0] <;> rfl) ?_; refine wka rfl rfl (by decide) rfl rfl rfl ?_; intro a hA
          replace hA := hA.keepN [0, 4, 6, 8, 11, 153]
          refine wN (nT ?_)
          refine wp_if hA 153 _ rfl (fun hq8 => ?yM) (fun hq8 => ?nM)
          case yM =>
            have hml : m < s.length := by have h9 := hq8; simp at h9; omega
            refine wp_skip (nT (wB (wR ?_)))
            revert a; (iterate 3 refine wo rfl rfl (by decide) (fun ev e h => by simp [go_sem, h, i4] <;> rfl) ?_); intro a hA
            replace hA := hA.keepN [0, 4, 6, 8, 11]
            refine wN (nB (nT ?_))
            refine ⟨g - 1, by omega, m + 1, by omega, fun i z hi hz => ?_, rfl, hA⟩
            rcases Nat.lt_or_ge i m with h9 | h9
            · exact hall i z h9 hz
            · have him : i = m := by omega
              rw [him, hsm hml] at hz
              injection hz with hz
              subst hz
              refine ⟨fun e => ?_, ?_⟩
              · rw [e] at hq8; simp at hq8
              · rw [hsg]; simp at hq8 ⊢; omega
          case nM =>
            have hm2 : ∀ z, s[m]? = some z → z = 58 ∨ signB z = false := fun z hz => by
              have hml := (List.getElem?_eq_some_iff.1 hz).1
              rw [hsm hml] at hz
              injection hz with hz
              subst hz
              by_cases he : x = 58
              · exact .inl he
              · right
                rw [hsg]
                have hne8 : (((x.toNat : Nat) : Int) != 58) = true := by unfold bne; rw [h58]; simp [he]
                rw [show decide (m < s.length) = true from decide_eq_true hml, hne8] at hq8
                simp at hq8 ⊢
                omega
            rw [step_ref hbl2 (by omega) hall hm2] at hrs
            replace hA := hA.keepN [0, 4, 6, 8, 11]
            refine wp_exit (xT (xT (xB (nT (wS (wR ?_))))))
            revert a; (iterate 3 refine wo rfl rfl (by decide) (fun ev e h => by simp [go_sem, h, hsz, gm, mm0] <;> rfl) ?_); (iterate 4 refine wg _ rfl rfl rfl rfl (by decide) (fun hq ev e h => by simp [go_sem, h, ↓gw_t (beq_t hq), hsz, gm, mm0] <;> rfl) ?_); refine wka rfl rfl (by decide) rfl rfl rfl ?_; refine wo rfl rfl (by decide) (fun ev e h => by simp [go_sem, h, hsz, gm, mm0] <;> rfl) ?_; refine wg _ rfl rfl rfl rfl (by decide) (fun hq ev e h => by simp [go_sem, h, ↓gw_t (beq_t hq), hsz, gm, mm0] <;> rfl) ?_; intro a hA
            replace hA := hA.keepN [0, 4, 6, 8, 11, 164, 165]
            revert a; refine wg _ rfl rfl rfl rfl (by decide) (fun hq ev e h => by simp [go_sem, h, ↓gw_t (beq_t hq), hsz, gm, mm0] <;> rfl) ?_; refine wg _ rfl rfl rfl rfl (by decide) (fun hq ev e h => by simp [go_sem, h, ↓gw_t (beq_t hq), hsz, gm, mm0, (show m < s.length from by have h9 := hq; simp at h9; omega)] <;> rfl) ?_; refine wg _ rfl rfl rfl rfl (by decide) (fun hq ev e h => by simp [go_sem, h, ↓gw_t (beq_t hq), hsz, gm, mm0] <;> rfl) ?_; refine wka rfl rfl (by decide) rfl rfl rfl ?_; refine wo rfl rfl (by decide) (fun ev e h => by simp [go_sem, h, hsz, gm, mm0] <;> rfl) ?_; intro a hA
            replace hA := hA.keepN [0, 4, 5, 6, 8, 11]
            refine wN (nT (wS (wR ?_)))
            revert a; refine wo rfl rfl (by decide) (fun ev e h => by simp [go_sem, h, hsz, gm, mm0] <;> rfl) ?_; intro a hA
            replace hA := hA.keepN [0, 4, 5, 6, 8, 11, 170]
            refine wN (nT ?_)
            rw [h58] at hA
            obtain ⟨on, hon⟩ : ∃ q, (decide (0 < m) && decide (m < s.length) && x == 58) = q := ⟨_, rfl⟩
            rw [hon] at hA
            have hiff : on = true ↔ (0 < m ∧ s[m]? = some 58) := by
              rw [← hon]
              constructor
              · intro h9
                simp only [Bool.and_eq_true, decide_eq_true_eq, beq_iff_eq] at h9
                exact ⟨h9.1.1, by rw [hsm h9.1.2, h9.2]⟩
              · rintro ⟨h9, h8⟩
                have hml := (List.getElem?_eq_some_iff.1 h8).1
                rw [hsm hml] at h8
                injection h8 with h8
                simp [h9, hml, h8]
            refine wp_if hA 170 _ rfl (fun hq9 => ?yP) (fun hq9 => ?nP)
            case nP =>
              have hof : on = false := by simpa using hq9
              rw [if_neg fun e => by rw [hiff.2 e] at hof; cases hof] at hrs
              rw [hof] at hA
              replace hA := hA.keepN [0, 4, 5, 6]
              refine wp_skip (nB (nT ?_))
              exact ⟨F, by omega, nx, V, l, false, by omega, hrest, by rw [hrs]; congr 1; omega, (fun h => by cases h), by omega, by omega, ho, HB, hA⟩
            case yP =>
              have hot : on = true := by simpa using hq9
              obtain ⟨hm0, hm58⟩ := hiff.1 hot
              have hml := (List.getElem?_eq_some_iff.1 hm58).1
              rw [if_pos (hiff.1 hot)] at hrs
              rw [hot] at hA
              have e1 : (St s).extract (m + 1) s.length = St (s.drop (m + 1)) := extract_drop s (m + 1) s.length rfl
              have q1 : ((m : Nat) : Int) + 1 ≤ ((s.length : Nat) : Int) := by omega
              have q2 : ((m : Nat) : Int) ≤ ((s.length : Nat) : Int) := by omega
              have q3 : (0 : Int) ≤ ((m : Nat) : Int) + 1 := by omega
              have q4 : (((m : Nat) : Int) + 1).toNat = m + 1 := by omega
              have q5 : m + 1 ≤ s.length := hml
              have q6 : m ≤ s.length := by omega
              obtain ⟨n1, hn1⟩ : ∃ z, s.take m = z := ⟨_, rfl⟩
              obtain ⟨v1, hv1⟩ : ∃ z, s.drop (m + 1) = z := ⟨_, rfl⟩
              have hv1l : v1.length ≤ s.length := by rw [← hv1, List.length_drop]; omega
              rw [hn1, hv1] at hrs
              rw [hv1] at e1
              have e2 : (St s).extract 0 m = St n1 := by rw [extract_take, hn1]
              obtain ⟨Av, cv, rfl, -, -⟩ := ho.reads
              refine wp_region_split 11 ?_
              simp only [List.take_succ_cons, List.take_zero, List.drop_succ_cons, List.drop_zero]
              refine wp_any_split_at hA [(.det ?dR0), (.det ?dR1), (.det ?dR2), (.det ?dR3), (.det ?dR4), (.det ?dR5), (.det ?dR6), (.det ?dR7), (.det ?dR8), (.used (fun val wy => ∃ g, val = .slice (some ⟨g, 0, none⟩) 1 1 ∧ RowR fldSh wy (some ⟨g, 0, none⟩) [⟨n1, v1⟩])), (.held (fun val wy => OwnR fldSh B wy val (l ++ [⟨n1, v1⟩])))] [⟨none, (some 10), [], fun _ => (fun wy => OwnR fldSh B wy (.slice Av l.length cv) l), fun _ _ _ _ h => h⟩] (fun wy => Below B wx wy) (TSp [(10, fun _ _ => True)] Grows) (by kernel_rfl) rfl (by kernel_rfl) (by kernel_rfl) rfl (by kernel_rfl) (by kernel_rfl) (by kernel_rfl) (by kernel_rfl) ((Below.refl _ _).drew) (stab_sp [(10, fun _ _ => True)] [true, true, true, true, true, true, true, true, true, false, false] [true, true, true, true, true, true, true, true, true, false, true] [] rfl rfl rfl (by kernel_rfl) ⟨trivial, trivial, trivial, trivial, trivial, trivial, trivial, trivial, trivial, (fun _ _ _ _ hp hb => by obtain ⟨g, h1, h2⟩ := hp; exact ⟨g, h1, h2.below hb⟩), (fun _ _ _ _ hp hb => hp.below hb), trivial⟩ trivial) (List.forall_mem_cons.2 ⟨(fun hn => ho.below (Below.refl _ _).drew), (fun _ h => by cases h)⟩) (phase_sp [(10, fun _ _ => True)] [(none, (some 10))] [] rfl (by kernel_rfl) (List.forall_mem_cons.2 ⟨fun _ => fun _ _ _ hp hb => hp.below hb, (fun _ h => by cases h)⟩) trivial) (List.forall_mem_cons.2 ⟨(fun a h => by first | (exact (no_1 h).elim) | (injection h with h; subst h; exact Nat.le_of_ble_eq_true rfl)), (fun _ h => by cases h)⟩) ⟨?oR0, ?oR1, ?oR2, ?oR3, ?oR4, ?oR5, ?oR6, ?oR7, ?oR8, ?oR9, ?oR10, trivial⟩ (by kernel_rfl) ?fR
              case oR0 => intro ev wo hev hC hs hph; have x0 := se hA hs 4; exact od rfl rfl (by kernel_rfl) hC (TSp.of rfl (Grows.refl _)) (by simp [go_sem, x0, hsz, i4, e1, e2, q1, q2, q3, q4, q5, q6, mm0] <;> rfl)
              case oR1 => intro ev wo hev hC hs hph; have x0 := se hA hs 8; exact od rfl rfl (by kernel_rfl) hC (TSp.of rfl (Grows.refl _)) (by simp [go_sem, x0, hsz, i4, e1, e2, q1, q2, q3, q4, q5, q6, mm0] <;> rfl)
              case oR2 => intro ev wo hev hC hs hph; have x0 := se hA hs 11; exact od rfl rfl (by kernel_rfl) hC (TSp.of rfl (Grows.refl _)) (by simp [go_sem, x0, hsz, i4, e1, e2, q1, q2, q3, q4, q5, q6, mm0] <;> rfl)
              case oR3 => intro ev wo hev hC hs hph; have x0 := sd hs 172 1; have x1 := sd hs 173 2; exact od rfl rfl (by kernel_rfl) hC (TSp.of rfl (Grows.refl _)) (by simp [go_sem, x0, x1, hsz, i4, e1, e2, q1, q2, q3, q4, q5, q6, mm0] <;> rfl)
              case oR4 => intro ev wo hev hC hs hph; have x0 := se hA hs 8; exact od rfl rfl (by kernel_rfl) hC (TSp.of rfl (Grows.refl _)) (by simp [go_sem, x0, hsz, i4, e1, e2, q1, q2, q3, q4, q5, q6, mm0] <;> rfl)
              case oR5 => intro ev wo hev hC hs hph; have x0 := se hA hs 11; exact od rfl rfl (by kernel_rfl) hC (TSp.of rfl (Grows.refl _)) (by simp [go_sem, x0, hsz, i4, e1, e2, q1, q2, q3, q4, q5, q6, mm0] <;> rfl)
              case oR6 => intro ev wo hev hC hs hph; have x0 := sd hs 176 5; exact od rfl rfl (by kernel_rfl) hC (TSp.of rfl (Grows.refl _)) (by simp [go_sem, x0, hev.const, hsz, i4, e1, e2, q1, q2, q3, q4, q5, q6, mm0] <;> rfl)
              case oR7 => intro ev wo hev hC hs hph; have x0 := sd hs 175 4; have x1 := sd hs 177 6; exact od rfl rfl (by kernel_rfl) hC (TSp.of rfl (Grows.refl _)) (by simp [go_sem, x0, x1, hsz, i4, e1, e2, q1, q2, q3, q4, q5, q6, mm0] <;> rfl)
              case oR8 => intro ev wo hev hC hs hph; have x0 := sd hs 174 3; have x1 := sd hs 178 7; exact od rfl rfl (by kernel_rfl) hC (TSp.of rfl (Grows.refl _)) (by simp [go_sem, x0, x1, hsz, i4, e1, e2, q1, q2, q3, q4, q5, q6, mm0] <;> rfl)
              case oR9 =>
                intro ev wo hev hC hs hph
                have e179 := sd hs 179 8
                have hbn := (Below.refl wo.heap.size wo).alloc (Nat.le_refl _) (.cells #[.string (St n1), .string (St v1)] 72)
                have hBo : B ≤ wo.heap.size := Nat.le_trans hBx hC.size
                exact ob_yes (wanted_none rfl) (does_value (v := .slice (some ⟨wo.heap.size, 0, none⟩) 1 1) (w' := wo.alloc (.cells #[.string (St n1), .string (St v1)] 72)) (by simp [go_sem, e179]) ⟨hC.trans (hbn.mono hBo), TSp.of rfl hbn, ⟨_, rfl, rowR_blk (s := fldSh) (x := ⟨n1, v1⟩) (Blk.new wo _ _) (fun p hp => by cases hp)⟩, no_start (by kernel_rfl)⟩)
              case oR10 =>
                intro ev wo hev hC hs hph
                have e171 := sd hs 171 0
                have u180 := su hs 180 9
                have hp1 := (hph _ List.mem_cons_self (by kernel_rfl))
                obtain ⟨g, h1, h2⟩ := u180
                have hBo : B ≤ wo.heap.size := Nat.le_trans hBx hC.size
                obtain ⟨r, w3, hr3, ho3, hgr, _⟩ := run_appR (c := 1) hp1 h2 (fun _ _ m _ p hp => by cases hp) (by simp; omega) hBo
                exact ob_yes (wanted_none rfl) (does_value (exec_append rfl e171 h1 hr3) ⟨below_appR hC hp1 hgr (Nat.le_refl _) hBo, TSp.sp rfl trivial, ho3, no_start (by kernel_rfl)⟩)
              intro sg wf hC hph
              intro x180 hx180
              intro x181 hx181 h181
              intro a hA
              replace hA := hA.keepN [0, 5, 6, 181]
              revert a; refine wo rfl rfl (by decide) (fun ev e h => by simp [go_sem, h] <;> rfl) ?_; intro a hA
              replace hA := hA.keepN [0, 4, 5, 6]
              refine wN (nB (nT ?_))
              have hnl : (l ++ [(⟨n1, v1⟩ : FieldS)]).length = l.length + 1 := by simp
              have hsvn : sumV (l ++ [(⟨n1, v1⟩ : FieldS)]) = sumV l + v1.length := by rw [sumV_app]; simp [sumV]
              have hsl2 : s.length ≤ e - at_ := by omega
              refine ⟨F, by omega, nx, _, l ++ [⟨n1, v1⟩], true, by omega, hrest, by rw [hrs]; congr 1; omega, (fun _ e => by rw [e] at hnl; simp at hnl), by omega, by omega, h181, HB.trans hC, hA⟩
end Go.Proofs.YtjhaccmcjlbllaaGreatDoor
/-
  What a row says of the first world: what the walks of seqset and search need.
-/
namespace Go.Proofs.YtjhaccmcjlbllaaGreatDoor
open Go.RowKit
theorem tabF_met {l : List (String × DataW Unit)} {W : World} (h : laidMetH Tryz.prog l W) (hl : l.filter (fun x => x.1 == "internal/strconv.uint64pow10") = [("internal/strconv.uint64pow10", Lib.tabData .u64 Lib.pow10Tab)]) :
    Lib.TabIs Tryz.prog W "internal/strconv.uint64pow10" .u64 Lib.pow10Tab := by
  have h1 := laidMetH.filter (fun x => x.1 == "internal/strconv.uint64pow10") h
  rw [hl, MakeChecks.laidMetH_plain _ _ _ (by kernel_rfl)] at h1
  exact Lib.tabIs_of_head (g := 1) (t := 200) (e := 35) (n := 20) (by kernel_rfl) (by kernel_rfl) Tryz.underlying200 Tryz.underlying35 (by kernel_rfl) (by kernel_rfl) h1
theorem star_eq : "*" ++ "errors.errorString" = "*errors.errorString" := by decide
theorem err_row (u : TypeId) (h : Tryz.prog.typeName? 3 u = some "*errors.errorString") : u = 248 :=
  typeName_ptr_named (nm := "errors.errorString") (by rw [star_eq]; kernel_rfl) (by kernel_rfl) (by decide) u (by rw [star_eq]; exact h)
theorem err_met {l : List (String × DataW Unit)} {W : World} (n : String) (text : List UInt8) (g : Nat) (h : laidMetH Tryz.prog l W) (hl : l.filter (fun x => x.1 == n) = [(n, .iface "*errors.errorString" (.ptr (.agg [.lit (.string text)])))])
    (hp : ([(n, (.iface "*errors.errorString" (.ptr (.agg [.lit (.string text)])) : DataW Unit))].all fun x => x.2.handleName?.isNone) = true)
    (hg : Tryz.prog.globalNamed n = some g) (ht : (Tryz.prog.globals[g]?).map (·.type) = some 119) : ∃ ev, W.cell? ⟨g, 0, none⟩ = some ev ∧ (ev = .nilIface ∨ ∃ te pe, ev = .iface te pe) := by
  have h1 := laidMetH.filter (fun x => x.1 == n) h
  rw [hl, MakeChecks.laidMetH_plain _ _ _ hp] at h1
  obtain ⟨a, s, hv, _⟩ := laid_sentinel h1 hg ht Tryz.underlying119 err_row Tryz.underlying248 Tryz.underlying250 rfl rfl Tryz.underlying9 (by kernel_rfl) (by kernel_rfl)
  exact ⟨_, by simpa using World.var?_cell hg hv 0, .inr ⟨_, _, rfl⟩⟩
theorem fine_met {l : List (String × DataW Unit)} {W : World} (h : laidMetH Tryz.prog l W) (hsh : W.ShapedOpen Tryz.prog)
    (hl : l.filter (fun x => x.1 == "internal/strconv.uint64pow10") = [("internal/strconv.uint64pow10", Lib.tabData .u64 Lib.pow10Tab)])
    (h5 : l.filter (fun x => x.1 == "strconv.ErrSyntax") = [("strconv.ErrSyntax", .iface "*errors.errorString" (.ptr (.agg [.lit (.string [105, 110, 118, 97, 108, 105, 100, 32, 115, 121, 110, 116, 97, 120])])))])
    (h6 : l.filter (fun x => x.1 == "strconv.ErrRange") = [("strconv.ErrRange", .iface "*errors.errorString" (.ptr (.agg [.lit (.string [118, 97, 108, 117, 101, 32, 111, 117, 116, 32, 111, 102, 32, 114, 97, 110, 103, 101])])))]) : Fine W := by
  have e6 := err_met "strconv.ErrRange" _ 8 h h6 rfl (by kernel_rfl) (by kernel_rfl)
  refine ⟨tabF_met h hl, Tryz.laysM146.s1_3 W hsh, err_met "strconv.ErrSyntax" _ 7 h h5 rfl (by kernel_rfl) (by kernel_rfl), e6, ?_⟩
  obtain ⟨ev5, hc5, _⟩ := err_met "strconv.ErrSyntax" _ 7 h h5 rfl (by kernel_rfl) (by kernel_rfl)
  obtain ⟨ev, hc, _⟩ := e6
  exact ⟨block_lt_of_cell hc, block_lt_of_cell hc5⟩
end Go.Proofs.YtjhaccmcjlbllaaGreatDoor
/-
  Walk of the statement's own text: within.
-/
namespace Go.Proofs.YtjhaccmcjlbllaaGreatDoor
open Go.RowKit
set_option linter.unusedSimpArgs false
set_option linter.unusedVariables false
set_option linter.unusedSimpArgs false
set_option linter.unusedVariables false
set_option maxRecDepth 100000 in
set_option maxHeartbeats 4000000 in
theorem within17_any (s x : List UInt8) (w : World) (hs : s.length ≤ 4000000) (hx : x.length ≤ 4000000) : Calls Tryz.prog 46 #[.string (St s), .string (St x)] w fun ev w' => ev = .returned (.bool (withinS s x)) ∧ Below w.heap.size w w' := by
  obtain ⟨n, hsn⟩ : ∃ n, s.length = n := ⟨_, rfl⟩
  obtain ⟨q, hxq⟩ : ∃ q, x.length = q := ⟨_, rfl⟩
  have hsz : (St s).size = n := hsn
  have hxz : (St x).size = q := hxq
  refine calls_at 24 Tryz.func46 rfl rfl (Nat.le_of_ble_eq_true rfl) ?_
  intro a hA; replace hA := hA.norm
  refine wS (wR ?_)
  revert a; refine wo rfl rfl (by decide) (fun ev e h => by simp [go_sem, h] <;> rfl) ?_; intro a hA
  replace hA := hA.keepN [0, 1]
  refine wN (nT (wS (wS (wR ?_))))
  revert a; refine wo rfl rfl (by decide) (fun ev e h => by simp [go_sem, h] <;> rfl) ?_; intro a hA
  replace hA := hA.keepN [0, 1, 5]
  refine wN (nT (wB ?_))
  refine wp_loop_at (fun f a wx => ∃ j : Nat, j + f = n + 1 ∧ (∀ i, i < j → i + x.length ≤ s.length → (lowerS ((s.drop i).take x.length) == lowerS x) = false) ∧ Below w.heap.size w wx ∧ At 24 [(0, .string (St s)), (1, .string (St x)), (5, .int .i64 (j : Nat))] a) (n + 1) ?_ ?_
  · exact ⟨0, by omega, fun i hi => absurd hi (Nat.not_lt_zero _), Below.refl _ _, hA⟩
  clear hA
  rintro f a wx ⟨j, hjf, hno, HB, hA⟩
  obtain ⟨r, hr⟩ : ∃ r, j + q = r := ⟨_, rfl⟩
  have ja : IntKind.i64.wrap (((j : Nat) : Int) + ((q : Nat) : Int)) = ((r : Nat) : Int) := by rw [IntWalk.i64_in _ (by omega)]; omega
  have jw : IntKind.i64.wrap (((j : Nat) : Int) + 1) = ((j + 1 : Nat) : Int) := by rw [IntWalk.i64_in _ (by omega)]; omega
  refine wS (wS (wR ?_))
  revert a; (iterate 7 refine wo rfl rfl (by decide) (fun ev e h => by simp [go_sem, h, hsz, hxz, hsn, hxq, ja] <;> rfl) ?_); intro a hA
  replace hA := hA.keepN [0, 1, 5, 12]
  refine wN (nT ?_)
  refine wp_if hA 12 _ rfl (fun hq => ?yA) (fun hq => ?nA)
  case nA =>
    have hjn : ¬ j + q ≤ n := by simp at hq; omega
    replace hA := hA.keepN []
    refine wp_exit (xT (xT (xB (nT (wS (wR ?_))))))
    revert a; refine wo rfl rfl (by decide) (fun ev e h => by simp [go_sem, h, hsz, hxz, hsn, hxq, ja] <;> rfl) ?_; intro a hA
    replace hA := hA.keepN [4]
    refine wN (nT (wp_ret ?_))
    refine ret_1 hA 4 rfl rfl ?_
    refine ⟨ret_bool ?_, HB⟩
    rw [within_no fun i hi => ?_]
    rcases Nat.lt_or_ge i j with h | h
    · exact hno i h hi
    · omega
  case yA =>
    have hjn : j + q ≤ n := by simp at hq; omega
    have k1 : ((j : Nat) : Int) ≤ ((r : Nat) : Int) := by omega
    have k2 : ((r : Nat) : Int) ≤ ((n : Nat) : Int) := by omega
    have k3 : j ≤ r := by omega
    have k4 : r ≤ n := by omega
    have hex : (St s).extract j r = St ((s.drop j).take q) := by rw [← hr]; exact extract_mid s j q
    refine wp_skip (nT (wS (wB (wS (wR ?_)))))
    revert a; (iterate 8 refine wo rfl rfl (by decide) (fun ev e h => by simp [go_sem, h, hsz, hxz, hsn, hxq, ja, k1, k2, k3, k4, hex] <;> rfl) ?_); intro a hA
    refine wl_call hA rfl rfl (by decide) (fun ev h => exec_call Tryz.func38 (by kernel_rfl) rfl (h.f _) (by first | (simp only [mL, h.get 21 rfl, h.get 22 rfl, h.c] <;> rfl) | (simp [mL, h.get 21 rfl, h.get 22 rfl, h.c, hsz, hxz, hsn, hxq, ja, k1, k2, k3, k4, hex] <;> rfl))) (lalikeK_any ((s.drop j).take q) x _ (by rw [List.length_take]; omega) (by omega)) ?_
    rintro e w2 ⟨rfl, hb2⟩
    refine ⟨_, rfl, fun a hA => ?_⟩
    obtain ⟨o, ho⟩ : ∃ o, (lowerS ((s.drop j).take q) == lowerS x) = o := ⟨_, rfl⟩
    rw [ho] at hA
    replace HB := HB.trans (hb2.mono HB.size)
    replace hA := hA.keepN [0, 1, 5, 23]
    refine wN (nT ?_)
    refine wp_if hA 23 _ rfl (fun hq2 => ?yB) (fun hq2 => ?nB)
    case yB =>
      have ho1 : o = true := by simpa using hq2
      refine wS (wR ?_)
      revert a; refine wo rfl rfl (by decide) (fun ev e h => by simp [go_sem, h, hsz, hxz, hsn, hxq, ja, k1, k2, k3, k4, hex] <;> rfl) ?_; intro a hA
      replace hA := hA.keepN [4]
      refine wN (nT (wp_ret (rB (rT (rT (rB (rT ?_)))))))
      refine ret_1 hA 4 rfl rfl ?_
      exact ⟨ret_bool (within_yes (i := j) (by omega) (by rw [hxq, ho, ho1])).symm, HB⟩
    case nB =>
      have ho1 : o = false := by simpa using hq2
      refine wp_skip (nB (nT (wR ?_)))
      revert a; (iterate 3 refine wo rfl rfl (by decide) (fun ev e h => by simp [go_sem, h, jw] <;> rfl) ?_); intro a hA
      replace hA := hA.keepN [0, 1, 5]
      refine wN (nT ?_)
      refine ⟨f - 1, by omega, j + 1, by omega, fun i hi hr => ?_, HB, hA⟩
      rcases Nat.lt_or_ge i j with h | h
      · exact hno i h hr
      · have : i = j := by omega
        subst this
        rw [hxq, ho, ho1]
end Go.Proofs.YtjhaccmcjlbllaaGreatDoor
/-
  Walk of the statement's own text: is (of every key).
-/
namespace Go.Proofs.YtjhaccmcjlbllaaGreatDoor
open Go.RowKit
set_option linter.unusedSimpArgs false
set_option linter.unusedVariables false
set_option linter.unusedSimpArgs false
set_option linter.unusedVariables false
/-- what is asked of a key -/
def IsSpec (d : Nat) : Prop := ∀ (k : KeyV) (nm : ByteArray) (ep nx : Nat) (A : Option Addr) (c : Nat) (ms : List MsgV) (i : Nat) (m : MsgV) (w : World), Msgs w A ms.length ms → ms[i]? = some m → ms.length ≤ 1000000 → m.b.length ≤ 1048576 → KeyFits d k → KeyMem w d k → (toksK d k).isSome = true → Calls Tryz.prog 24 #[.agg (boxC nm ep nx A ms.length c), .int .i64 (i : Nat), .agg (keyC k).toArray] w fun ev w' => ev = .returned (.bool (evalK (keyOf d k) (seesM ms i m))) ∧ Below w.heap.size w w'
def fld3 : List (List UInt8) := [[115, 117, 98, 106, 101, 99, 116], [102, 114, 111, 109], [116, 111]]
theorem fld3_low : ∀ j, j < 3 → lowerS (fld3[j]?.getD []) = lowerS ([sSUBJECT, sFROM, sTO][j]?.getD []) := by decide
theorem all_some {tok : KeyV → Option (List TokI)} {L : List KeyV} {x : KeyV} (hx : x ∈ L) (h : (allK tok L).isSome = true) : (tok x).isSome = true := by
  cases hc : tok x with
  | some a => rfl
  | none => rw [all_none hx hc] at h; cases h
/-- the first field of a name, from a place on -/
def fromF (n : List UInt8) (l : List FieldS) : Option (List UInt8) := (l.find? fun f => lowerS f.n == lowerS n).map (·.v)
theorem fromF_cons (n : List UInt8) (x : FieldS) (l : List FieldS) : fromF n (x :: l) = if (lowerS x.n == lowerS n) = true then some x.v else fromF n l := by
  unfold fromF
  rw [List.find?_cons]
  cases h : lowerS x.n == lowerS n
  · rw [if_neg (by simp)]
  · rw [if_pos rfl]; rfl
theorem vlen_of {b : List UInt8} {x : FieldS} (hx : x ∈ fieldsS b) : x.v.length ≤ b.length := by
  unfold fieldsS at hx
  obtain ⟨y, hy, rfl⟩ := List.mem_map.1 hx
  have h1 := sumV_mem hy
  have h2 := lines_sum b.length (headS b) ([], false)
  have h3 : sumV ([] : List FieldS) = 0 := rfl
  have h4 := congrArg List.length (head_body b)
  rw [List.length_append] at h4
  have h5 := trimS_le [32, 9] y.v
  show (trimS [32, 9] y.v).length ≤ _
  simp only at h2
  omega
theorem drop_ofK {a b o : List UInt8} (h : a ++ b = o) : o.drop a.length = b := by subst h; exact List.drop_left
theorem span_reads {w : World} {g a b : Nat} {T : TypeId} (K : Blk w g T (spanCells [(a, b)]).toArray) : Reads w w.heap.size 2 (some ⟨g, 0, none⟩) 1 (spanCells [(a, b)]) := by
  refine ⟨rfl, fun _ => ⟨⟨g, 0, none⟩, rfl, K.lt, fun j u hu => ?_⟩⟩
  rw [add0, K.cell]
  simpa using hu
theorem addr_zero (a : Addr) : a.add 0 = a := by
  unfold Addr.add
  simp
theorem addr_six (a : Addr) : a.add 6 = ⟨a.block, a.off + 6, none⟩ := by
  unfold Addr.add
  simp
theorem shr_nat (x : Int) (i : Nat) : bits .and .i64 (x / 2 ^ i) 1 = x / 2 ^ i % 2 := and1_i64 _
set_option maxRecDepth 100000 in
set_option maxHeartbeats 16000000 in
theorem is_step (d : Nat) (hd : d ≤ 10) (ih : ∀ e, d = e + 1 → IsSpec e) : IsSpec d := by
  intro k nm ep nx A c ms i m w hms hm hlen hbig hfit hmem htk
  cases d with
  | zero => cases htk
  | succ e =>
  obtain ⟨kind, word, n, fr, up, A2, len, c2, l⟩ := k
  obtain ⟨hll, hk, hn, hfr, hup, hsub⟩ := hfit
  obtain ⟨hrow, hmems⟩ := hmem
  simp only [KeyV.kind, KeyV.n, KeyV.fr, KeyV.up, KeyV.l, KeyV.len, KeyV.A] at hll hk hn hfr hup hsub hrow hmems
  rw [toks_eq] at htk
  by_cases hw : 100 < word.length
  · rw [if_pos hw] at htk; cases htk
  rw [if_neg hw] at htk
  obtain ⟨K, hK⟩ : ∃ K, keyOf (e + 1) ⟨kind, word, n, fr, up, A2, len, c2, l⟩ = K := ⟨_, rfl⟩
  rw [hK]
  rw [keyOf_eq] at hK
  have HB := Below.refl w.heap.size w
  have hil := (List.getElem?_eq_some_iff.1 hm).1
  obtain ⟨ad, rfl, hadl, q0, q1, q2, q3⟩ := hms.at_ hm
  have hro := hms.octs m (List.mem_of_getElem? hm)
  have hrc := hms.caps m (List.mem_of_getElem? hm)
  have hru := hms.uids m (List.mem_of_getElem? hm)
  obtain ⟨uid, date, flags, a8, c8, o⟩ := m
  simp only at hbig q0 q1 q2 q3 hro hrc hru
  obtain ⟨N, hN⟩ : ∃ N, ms.length = N := ⟨_, rfl⟩
  rw [hN] at hil hlen hms
  rw [hN]
  have ii0 : (0 : Int) ≤ (i : Int) := by omega
  have ii1 : (i : Int) < (N : Int) := by omega
  have kk0 : (0 : Int) ≤ (kind : Int) := by omega
  have hrowx : RowR keySh w A2 l := ⟨by rw [hll]; exact hrow, fun m hm p hp => by cases hp⟩
  show Calls Tryz.prog _ #[.agg #[.string nm, .int .u32 (ep : Nat), .int .u32 (nx : Nat), .slice (some ad) N c], .int .i64 (i : Nat), .agg #[.int .u8 (kind : Nat), .string (St word), .int .u16 (n : Nat), .int .u32 (fr : Nat), .int .u32 (up : Nat), .slice A2 len c2]] _ _
  refine calls_at 216 Tryz.func24 rfl rfl (Nat.le_of_ble_eq_true rfl) ?_
  intro a hA; replace hA := hA.norm
  refine wS (wR ?_)
  refine wl_new hA rfl rfl (by decide) (fun ev h => by simp [go_sem, h.get 0 rfl]; try first | exact ⟨rfl, rfl⟩ | rfl) fun w1 a (K1 : Blk _ _ _ _) hz1 hb1 hA => ?_
  replace HB := HB.trans (hb1.mono HB.size)
  refine wl_new hA rfl rfl (by decide) (fun ev h => by simp [go_sem, h.get 2 rfl]; try first | exact ⟨rfl, rfl⟩ | rfl) fun w2 a (K2 : Blk _ _ _ _) hz2 hb2 hA => ?_
  replace K1 := K1.below hb2 K1.lt
  replace HB := HB.trans (hb2.mono HB.size)
  have y0 := (HB.cell (by rw [block_of_add] at hadl ⊢; exact hadl)).trans q0
  have hadq : ∀ x, (⟨(ad.add (i * 4)).block, x, none⟩ : Addr).block < w.heap.size := fun _ => hadl
  have y1 := (HB.cell (hadq _)).trans q1
  have y2 := (HB.cell (hadq _)).trans q2
  have y3 := (HB.cell (hadq _)).trans q3
  revert a; refine wo rfl rfl (by decide) (fun ev e h => by simp [go_sem, h, K1.cell, y0, y1, y2, y3, ii0, ii1, hil] <;> rfl) ?_; intro a hA
  replace hA := hA.keepN [1, 3, 5]
  refine wN (nT (wS (wR ?_)))
  revert a; (iterate 5 refine wo rfl rfl (by decide) (fun ev e h => by simp [go_sem, h, K1.cell, y0, y1, y2, y3, ii0, ii1, hil] <;> rfl) ?_); intro a hA
  refine wl_local [.int .u32 (uid : Nat), .int .i64 date, .int .i64 flags, .slice a8 o.length c8] hA rfl rfl (by decide) (fun ev h => by simp [go_sem, K1.cell, y0, y1, y2, y3, ii0, ii1, hil]; try first | exact ⟨rfl, rfl⟩ | rfl) rfl rfl (by rfl) (fun w1 g ev hb h => by simp [go_sem, h.get 7 rfl, h.get 17 rfl, K1.cell, y0, y1, y2, y3, ii0, ii1, hil, setAll, hb.cell, hb.frozen]) fun w3 a (K3 : Blk _ _ _ _) hz3 hb3 hA => ?_
  replace K1 := K1.below hb3 K1.lt
  replace K2 := K2.below hb3 K2.lt
  replace HB := HB.trans (hb3.mono HB.size)
  replace hA := hA.keepN [1, 3, 5, 7]
  refine wN (nT (wS (wR ?_)))
  revert a; (iterate 2 refine wo rfl rfl (by decide) (fun ev e h => by simp [go_sem, h, K3.cell] <;> rfl) ?_); intro a hA
  refine wl_call hA rfl rfl (by decide) (fun ev h => exec_call Tryz.func10 (by kernel_rfl) rfl (h.f _) (by first | (simp only [mL, h.get 20 rfl, h.c] <;> rfl) | (simp [mL, h.get 20 rfl, h.c, K3.cell] <;> rfl))) (refHead_any a8 c8 o _ (by omega) hrc.1 ((hro.below HB).more HB.size)) ?_
  rintro e w4 ⟨V, rfl, hoF, hb4⟩
  refine ⟨_, rfl, fun a hA => ?_⟩
  replace K1 := K1.below hb4 K1.lt
  replace K2 := K2.below hb4 K2.lt
  replace K3 := K3.below hb4 K3.lt
  replace HB := HB.trans (hb4.mono HB.size)
  obtain ⟨AF, cF, rfl, hrF, -⟩ := hoF.reads
  obtain ⟨F, hF⟩ : ∃ F, fieldsS o = F := ⟨_, rfl⟩
  rw [hF] at hrF hA
  obtain ⟨q, hq⟩ : ∃ q, F.length = q := ⟨_, rfl⟩
  rw [hq] at hA
  have hbd := fields_bd o
  rw [hF, hq] at hbd
  revert a; (iterate 5 refine wo rfl rfl (by decide) (fun ev e h => by simp [go_sem, h, K2.cell] <;> rfl) ?_); intro a hA
  replace hA := hA.keepN [1, 3, 5, 7, 8, 9]
  refine wN (nT (wS (wB (wS (wR ?_)))))
  revert a; (iterate 4 refine wo rfl rfl (by decide) (fun ev e h => by simp [go_sem, h, K2.cell] <;> rfl) ?_); intro a hA
  replace hA := hA.keepN [1, 3, 5, 7, 8, 9, 24]
  refine wN (nT ?_)
  refine wp_if hA 24 _ rfl (fun hc0 => ?yC0) (fun hc0 => ?nC0)
  case yC0 =>
    have h0 : kind = 0 := by simp at hc0; omega
    rw [if_pos h0] at hK
    subst hK
    refine wS (wR ?_)
    revert a; refine wo rfl rfl (by decide) (fun ev e h => by simp [go_sem, h, K2.cell] <;> rfl) ?_; intro a hA
    replace hA := hA.keepN [6]
    refine wN (nT (wp_ret (rB (rT ?_))))
    refine ret_1 hA 6 rfl rfl ?_
    exact ⟨by rw [evalK], HB⟩
  case nC0 =>
    have h0 : ¬ kind = 0 := by simp at hc0; omega
    rw [if_neg h0] at hK
    refine wS (wR ?_)
    revert a; (iterate 4 refine wo rfl rfl (by decide) (fun ev e h => by simp [go_sem, h, K2.cell] <;> rfl) ?_); intro a hA
    replace hA := hA.keepN [1, 3, 5, 7, 8, 9, 28]
    refine wN (nT ?_)
    refine wp_if hA 28 _ rfl (fun hc1 => ?yC1) (fun hc1 => ?nC1)
    case yC1 =>
      have h1 : kind < 6 := by simp at hc1; omega
      rw [if_pos h1] at hK
      subst hK
      obtain ⟨j, rfl⟩ : ∃ j, kind = j + 1 := ⟨kind - 1, by omega⟩
      have e1 : IntKind.u8.wrap ((j : Nat) : Int) = ((j : Nat) : Int) := IntWalk.u8_in _ (by omega)
      have e3 : min j 64 = j := Nat.min_eq_left (by omega)
      have e2 : IntKind.u64.wrap ((j : Nat) : Int) = ((j : Nat) : Int) := IntWalk.u64_in _ (by omega)
      refine wS (wR ?_)
      revert a; (iterate 5 refine wo rfl rfl (by decide) (fun ev e h => by simp [go_sem, h, K2.cell, K3.cell, e1, e2, e3] <;> rfl) ?_); intro a hA
      refine wl_op hA rfl rfl (by decide) (fun ev h => by simp [go_sem, h.get 36 rfl, K2.cell, K3.cell, e1, e2, e3]; try first | exact ⟨rfl, rfl⟩ | rfl) fun a hA => ?_
      revert a; (iterate 4 refine wo rfl rfl (by decide) (fun ev e h => by simp [go_sem, h, K2.cell, K3.cell, e1, e2, e3] <;> rfl) ?_); intro a hA
      replace hA := hA.keepN [6]
      refine wN (nT (wp_ret (rB (rT ?_))))
      refine ret_1 hA 6 rfl rfl ?_
      refine ⟨ret_bool ?_, HB⟩
      rw [and1_i64, evalK, Nat.add_sub_cancel, Bool.bne_false]
      rfl
    case nC1 =>
      have h1 : ¬ kind < 6 := by simp at hc1; omega
      rw [if_neg h1] at hK
      refine wS (wR ?_)
      revert a; (iterate 4 refine wo rfl rfl (by decide) (fun ev e h => by simp [go_sem, h, K2.cell] <;> rfl) ?_); intro a hA
      replace hA := hA.keepN [1, 3, 5, 7, 8, 9, 41]
      refine wN (nT ?_)
      refine wp_if hA 41 _ rfl (fun hc2 => ?yC2) (fun hc2 => ?nC2)
      case yC2 =>
        have h2 : kind < 11 := by simp at hc2; omega
        rw [if_pos h2] at hK
        subst hK
        obtain ⟨j, rfl⟩ : ∃ j, kind = j + 6 := ⟨kind - 6, by omega⟩
        have e1 : IntKind.u8.wrap ((j : Nat) : Int) = ((j : Nat) : Int) := IntWalk.u8_in _ (by omega)
        have e3 : min j 64 = j := Nat.min_eq_left (by omega)
        have e2 : IntKind.u64.wrap ((j : Nat) : Int) = ((j : Nat) : Int) := IntWalk.u64_in _ (by omega)
        refine wS (wR ?_)
        revert a; (iterate 5 refine wo rfl rfl (by decide) (fun ev e h => by simp [go_sem, h, K2.cell, K3.cell, e1, e2, e3] <;> rfl) ?_); intro a hA
        refine wl_op hA rfl rfl (by decide) (fun ev h => by simp [go_sem, h.get 49 rfl, K2.cell, K3.cell, e1, e2, e3]; try first | exact ⟨rfl, rfl⟩ | rfl) fun a hA => ?_
        revert a; (iterate 4 refine wo rfl rfl (by decide) (fun ev e h => by simp [go_sem, h, K2.cell, K3.cell, e1, e2, e3] <;> rfl) ?_); intro a hA
        replace hA := hA.keepN [6]
        refine wN (nT (wp_ret (rB (rT ?_))))
        refine ret_1 hA 6 rfl rfl ?_
        refine ⟨ret_bool ?_, HB⟩
        rw [and1_i64, evalK, Nat.add_sub_cancel]
        show (flags / 2 ^ j % 2 == 0) = ((flags / 2 ^ j % 2 == 1) != true)
        have : flags / 2 ^ j % 2 = 0 ∨ flags / 2 ^ j % 2 = 1 := by omega
        rcases this with h | h <;> rw [h] <;> rfl
      case nC2 =>
        have h2 : ¬ kind < 11 := by simp at hc2; omega
        rw [if_neg h2] at hK htk
        refine wS (wR ?_)
        revert a; (iterate 4 refine wo rfl rfl (by decide) (fun ev e h => by simp [go_sem, h, K2.cell] <;> rfl) ?_); intro a hA
        replace hA := hA.keepN [1, 3, 5, 7, 8, 9, 54]
        refine wN (nT ?_)
        refine wp_if hA 54 _ rfl (fun hc3 => ?yC3) (fun hc3 => ?nC3)
        case yC3 =>
          have h3 : kind < 14 := by simp at hc3; omega
          obtain ⟨j, rfl⟩ : ∃ j, kind = j + 11 := ⟨kind - 11, by omega⟩
          have hj3 : j < 3 := by omega
          obtain ⟨nn, hnn⟩ : ∃ nn, fld3[j]?.getD [] = nn := ⟨_, rfl⟩
          have hlow := fld3_low j hj3
          obtain ⟨ns, hns⟩ : ∃ ns, ([sSUBJECT, sFROM, sTO][j]?.getD []) = ns := ⟨_, rfl⟩
          rw [hnn, hns] at hlow
          have hnl : nn.length ≤ 10 := by rw [← hnn]; rcases (by omega : j = 0 ∨ j = 1 ∨ j = 2) with rfl | rfl | rfl <;> decide
          have hKf : KeyA.field ns word = K := by
            rw [← hK, ← hns]
            rcases (by omega : j = 0 ∨ j = 1 ∨ j = 2) with rfl | rfl | rfl <;> rfl
          subst hKf
          clear hK
          have e10 : IntKind.u8.wrap 0 = 0 := rfl
          have e11 : IntKind.u8.wrap 1 = 1 := rfl
          have e12 : IntKind.u8.wrap 2 = 2 := rfl
          refine wp_seq_cut (fun a wy => w4 = wy ∧ At 216 [(5, .pointer (some ⟨w1.heap.size, 0, none⟩)), (9, .slice AF q cF), (10, .string (St nn))] a) ?jfT ?jrT
          rcases (by omega : j = 0 ∨ j = 1 ∨ j = 2) with rfl | rfl | rfl
          · subst hnn
            refine wR ?_
            revert a; (iterate 6 refine wo rfl rfl (by decide) (fun ev e h => by simp [go_sem, h, K2.cell, e10, e11, e12] <;> rfl) ?_); intro a hA
            replace hA := hA.keepN [5, 9, 10]
            refine wN (nT ?_)
            exact ⟨rfl, hA⟩
          · subst hnn
            refine wR ?_
            revert a; (iterate 6 refine wo rfl rfl (by decide) (fun ev e h => by simp [go_sem, h, K2.cell, e10, e11, e12] <;> rfl) ?_); intro a hA
            replace hA := hA.keepN [5, 9, 10]
            refine wN (nT ?_)
            exact ⟨rfl, hA⟩
          · subst hnn
            refine wR ?_
            revert a; (iterate 6 refine wo rfl rfl (by decide) (fun ev e h => by simp [go_sem, h, K2.cell, e10, e11, e12] <;> rfl) ?_); intro a hA
            replace hA := hA.keepN [5, 9, 10]
            refine wN (nT ?_)
            exact ⟨rfl, hA⟩
          clear hA
          rintro a wy ⟨rfl, hA⟩
          refine wS (wS (wR ?_))
          revert a; (iterate 3 refine wo rfl rfl (by decide) (fun ev e h => by simp [go_sem, h, K2.cell] <;> rfl) ?_); intro a hA
          replace hA := hA.keepN [5, 9, 10, 64, 65]
          refine wN (nT (wB ?_))
          refine wp_loop_at (fun g a wx => ∃ (x : Nat), x + g = q ∧ fromF nn F = fromF nn (F.drop x) ∧ Below w4.heap.size w4 wx ∧ At 216 [(5, .pointer (some ⟨w1.heap.size, 0, none⟩)), (9, .slice AF q cF), (10, .string (St nn)), (64, .int .i64 (q : Nat)), (65, .int .i64 (x : Nat))] a) (q) ?_ ?_
          · exact ⟨0, by omega, rfl, Below.refl _ _, hA⟩
          clear hA
          rintro g a wx ⟨x, hxg, hfr0, HX, hA⟩
          have HW := HB.trans (HX.mono HB.size)
          have K2x := K2.below HX K2.lt
          have hev : evalK (.field ns word) (seesM ms i ⟨uid, date, flags, a8, c8, o⟩) = (match fromF nn (F.drop x) with | none => false | some v => withinS v word) := by
            rw [evalK, ← hfr0]
            unfold fieldV fromF
            rw [hlow, ← hF]
            rfl
          have jw : IntKind.i64.wrap ((x : Int) + 1) = ((x + 1 : Nat) : Int) := IntWalk.i64_in _ (by omega)
          refine wS (wR ?_)
          revert a; refine wo rfl rfl (by decide) (fun ev e h => by simp [go_sem, h] <;> rfl) ?_; intro a hA
          replace hA := hA.keepN [5, 9, 10, 64, 65, 66]
          refine wN (nT (wS ?_))
          refine wp_if hA 66 _ rfl (fun hcl => ?yL) (fun hcl => ?nL)
          case nL =>
            have hxq : x = q := by simp at hcl; omega
            rw [hxq, List.drop_of_length_le (by omega)] at hev
            replace hA := hA.keepN []
            refine wp_exit (xT (xT (xB (nT (wS (wR ?_))))))
            revert a; refine wo rfl rfl (by decide) (fun ev e h => by simp [go_sem, h] <;> rfl) ?_; intro a hA
            replace hA := hA.keepN [6]
            refine wN (nT (wp_ret (rB (rT ?_))))
            refine ret_1 hA 6 rfl rfl ?_
            exact ⟨by rw [hev]; rfl, HW⟩
          case yL =>
            have hxq : x < q := by simp at hcl; omega
            have xx0 : (0 : Int) ≤ (x : Int) := by omega
            have xx1 : (x : Int) < (q : Int) := by omega
            obtain ⟨f, hf⟩ : ∃ f, F[x]? = some f := ⟨_, List.getElem?_eq_getElem (by omega)⟩
            have hfm := List.mem_of_getElem? hf
            have hfn := hbd.2 f hfm
            have hfv : f.v.length ≤ o.length := vlen_of (hF ▸ hfm)
            obtain ⟨ag, rfl, hagb, hc0', hc1'⟩ := (hrF.below HX).cell hf
            have hagb2 : ∀ y, (⟨(ag.add (x * 2)).block, y, none⟩ : Addr).block < wx.heap.size := fun _ => by show (ag.add (x * 2)).block < _; rw [block_of_add]; exact hagb
            have z0 : wx.cell? (ag.add (x * 2)) = some (.string (St f.n)) := hc0' _ rfl
            have z1 : wx.cell? ⟨(ag.add (x * 2)).block, (ag.add (x * 2)).off + 1, none⟩ = some (.string (St f.v)) := hc1' 1 _ (by decide) rfl
            have hdr : F.drop x = f :: F.drop (x + 1) := by
              rw [List.drop_eq_getElem_cons (by omega)]
              congr 1
              have := (List.getElem?_eq_some_iff.1 hf).2
              exact this
            rw [hdr, fromF_cons] at hev hfr0
            refine wp_skip (nT (wS (wB (wS (wR ?_)))))
            revert a; (iterate 2 refine wo rfl rfl (by decide) (fun ev e h => by simp [go_sem, h, z0, z1, xx0, xx1, hxq] <;> rfl) ?_); intro a hA
            replace hA := hA.keepN [5, 9, 10, 11, 64, 65]
            refine wN (nT (wS (wR ?_)))
            revert a; (iterate 6 refine wo rfl rfl (by decide) (fun ev e h => by simp [go_sem, h, z0, z1, xx0, xx1, hxq] <;> rfl) ?_); intro a hA
            refine wl_call hA rfl rfl (by decide) (fun ev h => exec_call Tryz.func38 (by kernel_rfl) rfl (h.f _) (by first | (simp only [mL, h.get 72 rfl, h.get 73 rfl, h.c] <;> rfl) | (simp [mL, h.get 72 rfl, h.get 73 rfl, h.c, z0, z1, xx0, xx1, hxq] <;> rfl))) (lalikeK_any f.n nn _ (by omega) (by omega)) ?_
            rintro e w5 ⟨rfl, hb5⟩
            refine ⟨_, rfl, fun a hA => ?_⟩
            obtain ⟨t, ht⟩ : ∃ t, (lowerS f.n == lowerS nn) = t := ⟨_, rfl⟩
            rw [ht] at hev hfr0 hA
            replace hA := hA.keepN [5, 9, 10, 11, 64, 65, 74]
            refine wN (nT ?_)
            refine wp_if hA 74 _ rfl (fun hcm => ?yM) (fun hcm => ?nM)
            case nM =>
              have ht0 : t = false := by simpa using hcm
              rw [ht0, if_neg (by decide)] at hfr0
              refine wp_skip (nB (nT (wR ?_)))
              revert a; (iterate 2 refine wo rfl rfl (by decide) (fun ev e h => by simp [go_sem, h, jw] <;> rfl) ?_); intro a hA
              replace hA := hA.keepN [5, 9, 10, 64, 65]
              refine wN (nT ?_)
              exact ⟨g - 1, by omega, x + 1, by omega, hfr0, HX.trans (hb5.mono HX.size), hA⟩
            case yM =>
              have ht1 : t = true := by simpa using hcm
              rw [ht1, if_pos rfl] at hev
              have HX5 := HX.trans (hb5.mono HX.size)
              have K25 := K2.below HX5 K2.lt
              have z15 : w5.cell? ⟨(ag.add (x * 2)).block, (ag.add (x * 2)).off + 1, none⟩ = some (.string (St f.v)) := (hb5.cell (hagb2 _)).trans z1
              have z05 : w5.cell? (ag.add (x * 2)) = some (.string (St f.n)) := (hb5.cell (by rw [block_of_add]; exact hagb)).trans z0
              have pR15 := fun (wo : World) (hC : (fun wy => Below w5.heap.size w5 wy) wo) => have Ky := K25.below hC K25.lt; have zy := (hC.cell (p := ⟨(ag.add (x * 2)).block, (ag.add (x * 2)).off + 1, none⟩) (Nat.lt_of_lt_of_le (hagb2 _) hb5.size)).trans z15; And.intro (Ky.cell) (zy)
              refine wS ?_
              refine wp_any_at hA [(.det ?dR150), (.det ?dR151), (.det ?dR152), (.det ?dR153), (.det ?dR154), (.det ?dR155), (.det ?dR156), (.det ?dR157), (.det ?dR158)] [] (fun wy => Below w5.heap.size w5 wy) (TSp [] Grows) (by kernel_rfl) rfl (by kernel_rfl) (by kernel_rfl) rfl ((Below.refl _ _).drew) (stab_sp [] [true, true, true, true, true, true, true, true, true] [true, true, true, true, true, true, true, true, true] [] rfl rfl rfl (by kernel_rfl) ⟨trivial, trivial, trivial, trivial, trivial, trivial, trivial, trivial, trivial, trivial⟩ trivial) (fun _ h => by cases h) (fun _ _ _ _ _ h => by cases h) (fun _ h => by cases h) ⟨?oR150, ?oR151, ?oR152, ?oR153, ?oR154, ?oR155, ?oR156, ?oR157, ?oR158, trivial⟩ (by kernel_rfl) ?fR15
              case oR150 => intro ev wo hev hC hs hph; have x0 := se hA hs 9; exact od rfl rfl (by kernel_rfl) hC (TSp.of rfl (Grows.refl _)) (by simp [go_sem, x0] <;> rfl)
              case oR151 => intro ev wo hev hC hs hph; have x0 := se hA hs 11; exact od rfl rfl (by kernel_rfl) hC (TSp.of rfl (Grows.refl _)) (by simp [go_sem, x0] <;> rfl)
              case oR152 => intro ev wo hev hC hs hph; have x0 := sd hs 75 0; have x1 := sd hs 76 1; exact od rfl rfl (by kernel_rfl) hC (TSp.of rfl (Grows.refl _)) (by simp [go_sem, x0, x1, xx0, xx1, hxq] <;> rfl)
              case oR153 => intro ev wo hev hC hs hph; have x0 := sd hs 77 2; exact od rfl rfl (by kernel_rfl) hC (TSp.of rfl (Grows.refl _)) (by simp [go_sem, x0] <;> rfl)
              case oR154 => intro ev wo hev hC hs hph; have x0 := sd hs 78 3; exact od rfl rfl (by kernel_rfl) hC (TSp.of rfl (Grows.refl _)) (by simp [go_sem, x0, pR15 _ hC, z0, z1, xx0, xx1, hxq] <;> rfl)
              case oR155 => intro ev wo hev hC hs hph; have x0 := se hA hs 5; exact od rfl rfl (by kernel_rfl) hC (TSp.of rfl (Grows.refl _)) (by simp [go_sem, x0] <;> rfl)
              case oR156 => intro ev wo hev hC hs hph; have x0 := sd hs 80 5; exact od rfl rfl (by kernel_rfl) hC (TSp.of rfl (Grows.refl _)) (by simp [go_sem, x0, pR15 _ hC, z0, z1, xx0, xx1, hxq] <;> rfl)
              case oR157 =>
                intro ev wo hev hC hs hph
                have e79 := sd hs 79 4
                have e81 := sd hs 81 6
                have Ky := K25.below hC K25.lt
                have zy := (hC.cell (p := ⟨(ag.add (x * 2)).block, (ag.add (x * 2)).off + 1, none⟩) (Nat.lt_of_lt_of_le (hagb2 _) hb5.size)).trans z15
                exact ob_dcall (wanted_none rfl) rfl (by kernel_rfl) (within17_any f.v word wo (by omega) (by omega)) (exec_call Tryz.func46 (by kernel_rfl) rfl (hev.func _) (by first | (simp only [mL, e79, e81, hev.const] <;> rfl) | (simp [mL, e79, e81, hev.const] <;> rfl))) (by rfl) (fun w3 hb3 => ⟨hC.trans (hb3.mono hC.size), TSp.of rfl hb3⟩)
              case oR158 => intro ev wo hev hC hs hph; have x0 := sd hs 82 7; exact od rfl rfl (by kernel_rfl) hC (TSp.of rfl (Grows.refl _)) (by simp [go_sem, x0] <;> rfl)
              intro sg wf hC hph
              intro a hA
              replace hA := hA.keepN [6]
              refine nT (wp_ret (rB (rT (rT (rB (rT (rB (rT ?_))))))))
              refine ret_1 hA 6 rfl rfl ?_
              exact ⟨by rw [hev], (HB.trans (HX5.mono HB.size)).trans (hC.mono (HB.trans (HX5.mono HB.size)).size)⟩
        case nC3 =>
          have h3 : ¬ kind < 14 := by simp at hc3; omega
          rw [if_neg (by omega), if_neg (by omega), if_neg (by omega)] at hK
          refine wS (wR ?_)
          revert a; (iterate 4 refine wo rfl rfl (by decide) (fun ev e h => by simp [go_sem, h, K2.cell] <;> rfl) ?_); intro a hA
          replace hA := hA.keepN [1, 3, 5, 7, 8, 84]
          refine wN (nT ?_)
          refine wp_if hA 84 _ rfl (fun hc4 => ?yC4) (fun hc4 => ?nC4)
          case yC4 =>
            have h4 : kind = 14 := by simp at hc4; omega
            rw [if_pos h4] at hK
            subst hK
            have hhb := head_body o
            have hhl : (headS o).length + (bodyH o).length = o.length := by have h0 := congrArg List.length hhb; rw [List.length_append] at h0; exact h0
            obtain ⟨h, hh⟩ : ∃ h, (headS o).length = h := ⟨_, rfl⟩
            have hrx2 : Reads w4 w4.heap.size 1 a8 o.length (u8s o) := (hro.below HB).more HB.size
            have hrd := hrx2.drop8 (c := c8) (k := h) (by omega) (by omega)
            have hdo : o.drop h = bodyH o := hh ▸ drop_ofK hhb
            rw [hdo] at hrd
            have k1 : ((h : Nat) : Int) ≤ ((c8 : Nat) : Int) := by omega
            have k2 : ((h : Nat) : Int) ≤ ((o.length : Nat) : Int) := by omega
            have k3 : h ≤ o.length := by omega
            have k4 : h ≤ c8 := by omega
            have k5 : ((o.length : Nat) : Int) ≤ ((c8 : Nat) : Int) := by omega
            rw [hh] at hA
            obtain ⟨on, hon⟩ : ∃ on, o.length = on := ⟨_, rfl⟩
            rw [hon] at hrd k2 k3 k5 K3
            rw [hon] at hhl
            have pR19 := fun (wo : World) (hC : (fun wy => Below w4.heap.size w4 wy) wo) => have Ky := K2.below hC K2.lt; have Kz := K3.below hC K3.lt; have hcv := conv_reads (n := on - h) (c := c8 - h) (l := bodyH o) (by omega) ((hrd.below hC).more hC.size); And.intro (Ky.cell) (Kz.cell)
            refine wS ?_
            refine wp_any_at hA [(.det ?dR190), (.det ?dR191), (.det ?dR192), (.det ?dR193), (.det ?dR194), (.det ?dR195), (.det ?dR196), (.det ?dR197), (.det ?dR198)] [] (fun wy => Below w4.heap.size w4 wy) (TSp [] Grows) (by kernel_rfl) rfl (by kernel_rfl) (by kernel_rfl) rfl ((Below.refl _ _).drew) (stab_sp [] [true, true, true, true, true, true, true, true, true] [true, true, true, true, true, true, true, true, true] [] rfl rfl rfl (by kernel_rfl) ⟨trivial, trivial, trivial, trivial, trivial, trivial, trivial, trivial, trivial, trivial⟩ trivial) (fun _ h => by cases h) (fun _ _ _ _ _ h => by cases h) (fun _ h => by cases h) ⟨?oR190, ?oR191, ?oR192, ?oR193, ?oR194, ?oR195, ?oR196, ?oR197, ?oR198, trivial⟩ (by kernel_rfl) ?fR19
            case oR190 => intro ev wo hev hC hs hph; have x0 := se hA hs 7; exact od rfl rfl (by kernel_rfl) hC (TSp.of rfl (Grows.refl _)) (by simp [go_sem, x0] <;> rfl)
            case oR191 => intro ev wo hev hC hs hph; have x0 := sd hs 88 0; exact od rfl rfl (by kernel_rfl) hC (TSp.of rfl (Grows.refl _)) (by simp [go_sem, x0, pR19 _ hC, K2.cell] <;> rfl)
            case oR192 => intro ev wo hev hC hs hph; have x0 := se hA hs 8; exact od rfl rfl (by kernel_rfl) hC (TSp.of rfl (Grows.refl _)) (by simp [go_sem, x0] <;> rfl)
            case oR193 => intro ev wo hev hC hs hph; have x0 := sd hs 89 1; have x1 := sd hs 90 2; exact od rfl rfl (by kernel_rfl) hC (TSp.of rfl (Grows.refl _)) (by simp [go_sem, x0, x1, k1, k2, k3, k4, k5] <;> rfl)
            case oR194 =>
              intro ev wo hev hC hs hph
              have e91 := sd hs 91 3
              have Ky := K2.below hC K2.lt
              have Kz := K3.below hC K3.lt
              have hcv := conv_reads (n := on - h) (c := c8 - h) (l := bodyH o) (by omega) ((hrd.below hC).more hC.size)
              exact ob_det (wanted_none rfl) rfl (by kernel_rfl) hC (TSp.of rfl (Grows.refl _)) (by simp [go_sem, e91, hcv]; try first | exact ⟨rfl, rfl⟩ | rfl)
            case oR195 => intro ev wo hev hC hs hph; have x0 := se hA hs 5; exact od rfl rfl (by kernel_rfl) hC (TSp.of rfl (Grows.refl _)) (by simp [go_sem, x0] <;> rfl)
            case oR196 => intro ev wo hev hC hs hph; have x0 := sd hs 93 5; exact od rfl rfl (by kernel_rfl) hC (TSp.of rfl (Grows.refl _)) (by simp [go_sem, x0, pR19 _ hC, K2.cell] <;> rfl)
            case oR197 =>
              intro ev wo hev hC hs hph
              have e92 := sd hs 92 4
              have e94 := sd hs 94 6
              have Ky := K2.below hC K2.lt
              have Kz := K3.below hC K3.lt
              have hcv := conv_reads (n := on - h) (c := c8 - h) (l := bodyH o) (by omega) ((hrd.below hC).more hC.size)
              exact ob_dcall (wanted_none rfl) rfl (by kernel_rfl) (within17_any (bodyH o) word wo (by omega) (by omega)) (exec_call Tryz.func46 (by kernel_rfl) rfl (hev.func _) (by first | (simp only [mL, e92, e94, hev.const] <;> rfl) | (simp [mL, e92, e94, hev.const] <;> rfl))) (by rfl) (fun w3 hb3 => ⟨hC.trans (hb3.mono hC.size), TSp.of rfl hb3⟩)
            case oR198 => intro ev wo hev hC hs hph; have x0 := sd hs 95 7; exact od rfl rfl (by kernel_rfl) hC (TSp.of rfl (Grows.refl _)) (by simp [go_sem, x0] <;> rfl)
            intro sg wf hC hph
            intro a hA
            replace hA := hA.keepN [6]
            refine nT (wp_ret (rB (rT ?_)))
            refine ret_1 hA 6 rfl rfl ?_
            refine ⟨by rw [evalK]; rfl, HB.trans (hC.mono HB.size)⟩
          case nC4 =>
            have h4 : ¬ kind = 14 := by simp at hc4; omega
            rw [if_neg h4] at hK
            refine wS (wR ?_)
            revert a; (iterate 4 refine wo rfl rfl (by decide) (fun ev e h => by simp [go_sem, h, K2.cell] <;> rfl) ?_); intro a hA
            replace hA := hA.keepN [1, 3, 5, 7, 96]
            refine wN (nT ?_)
            refine wp_if hA 96 _ rfl (fun hc5 => ?yC5) (fun hc5 => ?nC5)
            case yC5 =>
              have h5 : kind = 15 := by simp at hc5; omega
              rw [if_pos h5] at hK
              subst hK
              have hcv := conv_reads (n := o.length) (c := c8) (l := o) rfl ((hro.below HB).more HB.size)
              refine wS (wR ?_)
              revert a; (iterate 2 refine wo rfl rfl (by decide) (fun ev e h => by simp [go_sem, h, K2.cell, K3.cell, hcv] <;> rfl) ?_); intro a hA
              refine wl_op hA rfl rfl (by decide) (fun ev h => by simp [go_sem, h.get 101 rfl, K2.cell, K3.cell, hcv]; try first | exact ⟨rfl, rfl⟩ | rfl) fun a hA => ?_
              revert a; (iterate 2 refine wo rfl rfl (by decide) (fun ev e h => by simp [go_sem, h, K2.cell, K3.cell, hcv] <;> rfl) ?_); intro a hA
              refine wl_call hA rfl rfl (by decide) (fun ev h => exec_call Tryz.func46 (by kernel_rfl) rfl (h.f _) (by first | (simp only [mL, h.get 102 rfl, h.get 104 rfl, h.c] <;> rfl) | (simp [mL, h.get 102 rfl, h.get 104 rfl, h.c, K2.cell, K3.cell, hcv] <;> rfl))) (within17_any o word _ (by omega) (by omega)) ?_
              rintro e w5 ⟨rfl, hb5⟩
              refine ⟨_, rfl, fun a hA => ?_⟩
              revert a; refine wo rfl rfl (by decide) (fun ev e h => by simp [go_sem, h, K2.cell, K3.cell, hcv] <;> rfl) ?_; intro a hA
              replace hA := hA.keepN [6]
              refine wN (nT (wp_ret (rB (rT ?_))))
              refine ret_1 hA 6 rfl rfl ?_
              exact ⟨by rw [evalK]; rfl, HB.trans (hb5.mono HB.size)⟩
            case nC5 =>
              have h5 : ¬ kind = 15 := by simp at hc5; omega
              rw [if_neg h5] at hK
              refine wS (wR ?_)
              revert a; (iterate 4 refine wo rfl rfl (by decide) (fun ev e h => by simp [go_sem, h, K2.cell] <;> rfl) ?_); intro a hA
              replace hA := hA.keepN [1, 3, 5, 7, 106]
              refine wN (nT ?_)
              refine wp_if hA 106 _ rfl (fun hc6 => ?yC6) (fun hc6 => ?nC6)
              case yC6 =>
                have h6 : kind = 16 := by simp at hc6; omega
                rw [if_pos h6] at hK
                subst hK
                have nw : IntKind.i64.wrap ((n : Nat) : Int) = ((n : Nat) : Int) := IntWalk.i64_in _ (by omega)
                refine wS (wR ?_)
                revert a; (iterate 5 refine wo rfl rfl (by decide) (fun ev e h => by simp [go_sem, h, K2.cell, K3.cell, nw] <;> rfl) ?_); intro a hA
                refine wl_op hA rfl rfl (by decide) (fun ev h => by simp [go_sem, h.get 114 rfl, K2.cell, K3.cell, nw]; try first | exact ⟨rfl, rfl⟩ | rfl) fun a hA => ?_
                revert a; (iterate 2 refine wo rfl rfl (by decide) (fun ev e h => by simp [go_sem, h, K2.cell, K3.cell, nw] <;> rfl) ?_); intro a hA
                replace hA := hA.keepN [6]
                refine wN (nT (wp_ret (rB (rT ?_))))
                refine ret_1 hA 6 rfl rfl ?_
                exact ⟨ret_bool (by rw [evalK]; show decide (n < o.length) = decide (((n : Nat) : Int) < ((o.length : Nat) : Int)); exact decide_eq_decide.2 Int.ofNat_lt.symm), HB⟩
              case nC6 =>
                have h6 : ¬ kind = 16 := by simp at hc6; omega
                rw [if_neg h6] at hK
                refine wS (wR ?_)
                revert a; (iterate 4 refine wo rfl rfl (by decide) (fun ev e h => by simp [go_sem, h, K2.cell] <;> rfl) ?_); intro a hA
                replace hA := hA.keepN [1, 3, 5, 7, 117]
                refine wN (nT ?_)
                refine wp_if hA 117 _ rfl (fun hc7 => ?yC7) (fun hc7 => ?nC7)
                case yC7 =>
                  have h7 : kind = 17 := by simp at hc7; omega
                  rw [if_pos h7] at hK
                  subst hK
                  have nw : IntKind.i64.wrap ((n : Nat) : Int) = ((n : Nat) : Int) := IntWalk.i64_in _ (by omega)
                  refine wS (wR ?_)
                  revert a; (iterate 5 refine wo rfl rfl (by decide) (fun ev e h => by simp [go_sem, h, K2.cell, K3.cell, nw] <;> rfl) ?_); intro a hA
                  refine wl_op hA rfl rfl (by decide) (fun ev h => by simp [go_sem, h.get 125 rfl, K2.cell, K3.cell, nw]; try first | exact ⟨rfl, rfl⟩ | rfl) fun a hA => ?_
                  revert a; (iterate 2 refine wo rfl rfl (by decide) (fun ev e h => by simp [go_sem, h, K2.cell, K3.cell, nw] <;> rfl) ?_); intro a hA
                  replace hA := hA.keepN [6]
                  refine wN (nT (wp_ret (rB (rT ?_))))
                  refine ret_1 hA 6 rfl rfl ?_
                  exact ⟨ret_bool (by rw [evalK]; show decide (o.length < n) = decide (((o.length : Nat) : Int) < ((n : Nat) : Int)); exact decide_eq_decide.2 Int.ofNat_lt.symm), HB⟩
                case nC7 =>
                  have h7 : ¬ kind = 17 := by simp at hc7; omega
                  rw [if_neg h7] at hK
                  refine wS (wR ?_)
                  revert a; (iterate 4 refine wo rfl rfl (by decide) (fun ev e h => by simp [go_sem, h, K2.cell] <;> rfl) ?_); intro a hA
                  replace hA := hA.keepN [1, 3, 5, 7, 128]
                  refine wN (nT ?_)
                  refine wp_if hA 128 _ rfl (fun hc8 => ?yC8) (fun hc8 => ?nC8)
                  case yC8 =>
                    have h8 : kind = 18 := by simp at hc8; omega
                    rw [if_pos h8] at hK
                    subst hK
                    obtain ⟨M, hM⟩ : ∃ x, N = x + 1 := ⟨N - 1, by omega⟩
                    obtain ⟨y, hy⟩ : ∃ y, ms[M]? = some y := ⟨_, List.getElem?_eq_getElem (by omega)⟩
                    have hlast : lastUid ms = y.uid := by unfold lastUid; rw [List.getLast?_eq_getElem?, hN, hM, Nat.add_sub_cancel, hy]; rfl
                    have hyu := hms.uids y (List.mem_of_getElem? hy)
                    obtain ⟨ad2, e2, hadl2, p0, -⟩ := hms.at_ hy
                    injection e2 with e2
                    subst e2
                    have w0 := (HB.cell (by rw [block_of_add] at hadl2 ⊢; exact hadl2)).trans p0
                    have jj0 : (0 : Int) ≤ (M : Int) := by omega
                    have jj1 : (M : Int) < (N : Int) := by omega
                    have jj2 : M < N := by omega
                    have iw : IntKind.i64.wrap ((N : Int) - 1) = (M : Int) := by rw [IntWalk.i64_in _ (by omega)]; omega
                    have pR27 := fun (wo : World) (hC : (fun wy => Below w4.heap.size w4 wy) wo) => have Kx := K1.below hC K1.lt; have Ky := K2.below hC K2.lt; have Kz := K3.below hC K3.lt; have wz := (hC.cell (p := ad.add (M * 4)) (by rw [block_of_add] at hadl2 ⊢; exact Nat.lt_of_lt_of_le hadl2 HB.size)).trans w0; And.intro (Kx.cell) (And.intro (Ky.cell) (And.intro (Kz.cell) (wz)))
                    refine wS ?_
                    refine wp_any_at hA [(.det ?dR270), (.det ?dR271), (.det ?dR272), (.det ?dR273), (.det ?dR274), (.used (fun v wy => ∃ g, v = .slice (some ⟨g, 0, none⟩) 1 1 ∧ Blk wy g 94 (spanCells [(fr, up)]).toArray)), (.det ?dR276), (.det ?dR277), (.det ?dR278), (.det ?dR279), (.det ?dR2710), (.det ?dR2711), (.det ?dR2712), (.det ?dR2713), (.det ?dR2714), (.det ?dR2715), (.det ?dR2716), (.used (fun v wy => v = .bool (inSet [(fr, up)] uid y.uid))), (.held (fun v wy => v = .bool (inSet [(fr, up)] uid y.uid)))] [] (fun wy => Below w4.heap.size w4 wy) (TSp [] Grows) (by kernel_rfl) rfl (by kernel_rfl) (by kernel_rfl) rfl ((Below.refl _ _).drew) (stab_sp [] [true, true, true, true, true, false, true, true, true, true, true, true, true, true, true, true, true, false, false] [true, true, true, true, true, false, true, true, true, true, true, true, true, true, true, true, true, false, true] [] rfl rfl rfl (by kernel_rfl) ⟨trivial, trivial, trivial, trivial, trivial, (fun _ _ _ _ ⟨g, hx, hg⟩ hb => ⟨g, hx, hg.below hb hg.lt⟩), trivial, trivial, trivial, trivial, trivial, trivial, trivial, trivial, trivial, trivial, trivial, (fun _ _ _ _ hp _ => hp), (fun _ _ _ _ hp _ => hp), trivial⟩ trivial) (fun _ h => by cases h) (fun _ _ _ _ _ h => by cases h) (fun _ h => by cases h) ⟨?oR270, ?oR271, ?oR272, ?oR273, ?oR274, ?oR275, ?oR276, ?oR277, ?oR278, ?oR279, ?oR2710, ?oR2711, ?oR2712, ?oR2713, ?oR2714, ?oR2715, ?oR2716, ?oR2717, ?oR2718, trivial⟩ (by kernel_rfl) ?fR27
                    case oR270 => intro ev wo hev hC hs hph; have x0 := se hA hs 5; exact od rfl rfl (by kernel_rfl) hC (TSp.of rfl (Grows.refl _)) (by simp [go_sem, x0] <;> rfl)
                    case oR271 => intro ev wo hev hC hs hph; have x0 := sd hs 132 0; exact od rfl rfl (by kernel_rfl) hC (TSp.of rfl (Grows.refl _)) (by simp [go_sem, x0, pR27 _ hC, K2.cell] <;> rfl)
                    case oR272 => intro ev wo hev hC hs hph; have x0 := se hA hs 5; exact od rfl rfl (by kernel_rfl) hC (TSp.of rfl (Grows.refl _)) (by simp [go_sem, x0] <;> rfl)
                    case oR273 => intro ev wo hev hC hs hph; have x0 := sd hs 134 2; exact od rfl rfl (by kernel_rfl) hC (TSp.of rfl (Grows.refl _)) (by simp [go_sem, x0, pR27 _ hC, K2.cell] <;> rfl)
                    case oR274 => intro ev wo hev hC hs hph; have x0 := sd hs 133 1; have x1 := sd hs 135 3; exact od rfl rfl (by kernel_rfl) hC (TSp.of rfl (Grows.refl _)) (by simp [go_sem, x0, x1] <;> rfl)
                    case oR275 =>
                      intro ev wo hev hC hs hph
                      have e136 := sd hs 136 4
                      have Kx := K1.below hC K1.lt
                      have Ky := K2.below hC K2.lt
                      have Kz := K3.below hC K3.lt
                      have wz := (hC.cell (p := ad.add (M * 4)) (by rw [block_of_add] at hadl2 ⊢; exact Nat.lt_of_lt_of_le hadl2 HB.size)).trans w0
                      have hbn := (Below.refl wo.heap.size wo).alloc (Nat.le_refl _) (.cells (spanCells [(fr, up)]).toArray 94)
                      exact ob_yes (wanted_none rfl) (does_value (v := .slice (some ⟨wo.heap.size, 0, none⟩) 1 1) (w' := wo.alloc (.cells (spanCells [(fr, up)]).toArray 94)) (by simp [go_sem, e136, spanCells]) ⟨hC.trans (hbn.mono hC.size), TSp.of rfl hbn, ⟨_, rfl, Blk.new wo _ _⟩, no_start (by kernel_rfl)⟩)
                    case oR276 => intro ev wo hev hC hs hph; have x0 := se hA hs 7; exact od rfl rfl (by kernel_rfl) hC (TSp.of rfl (Grows.refl _)) (by simp [go_sem, x0] <;> rfl)
                    case oR277 => intro ev wo hev hC hs hph; have x0 := sd hs 138 6; exact od rfl rfl (by kernel_rfl) hC (TSp.of rfl (Grows.refl _)) (by simp [go_sem, x0, pR27 _ hC, K2.cell] <;> rfl)
                    case oR278 => intro ev wo hev hC hs hph; have x0 := se hA hs 3; exact od rfl rfl (by kernel_rfl) hC (TSp.of rfl (Grows.refl _)) (by simp [go_sem, x0] <;> rfl)
                    case oR279 => intro ev wo hev hC hs hph; have x0 := sd hs 140 8; exact od rfl rfl (by kernel_rfl) hC (TSp.of rfl (Grows.refl _)) (by simp [go_sem, x0, pR27 _ hC, K2.cell] <;> rfl)
                    case oR2710 => intro ev wo hev hC hs hph; have x0 := se hA hs 3; exact od rfl rfl (by kernel_rfl) hC (TSp.of rfl (Grows.refl _)) (by simp [go_sem, x0] <;> rfl)
                    case oR2711 => intro ev wo hev hC hs hph; have x0 := sd hs 142 10; exact od rfl rfl (by kernel_rfl) hC (TSp.of rfl (Grows.refl _)) (by simp [go_sem, x0, pR27 _ hC, K2.cell] <;> rfl)
                    case oR2712 => intro ev wo hev hC hs hph; have x0 := sd hs 143 11; exact od rfl rfl (by kernel_rfl) hC (TSp.of rfl (Grows.refl _)) (by simp [go_sem, x0] <;> rfl)
                    case oR2713 => intro ev wo hev hC hs hph; have x0 := sd hs 144 12; exact od rfl rfl (by kernel_rfl) hC (TSp.of rfl (Grows.refl _)) (by simp [go_sem, x0, hev.const, iw] <;> rfl)
                    case oR2714 => intro ev wo hev hC hs hph; have x0 := sd hs 141 9; have x1 := sd hs 145 13; exact od rfl rfl (by kernel_rfl) hC (TSp.of rfl (Grows.refl _)) (by simp [go_sem, x0, x1, jj0, jj1, jj2] <;> rfl)
                    case oR2715 => intro ev wo hev hC hs hph; have x0 := sd hs 146 14; exact od rfl rfl (by kernel_rfl) hC (TSp.of rfl (Grows.refl _)) (by simp [go_sem, x0] <;> rfl)
                    case oR2716 => intro ev wo hev hC hs hph; have x0 := sd hs 147 15; exact od rfl rfl (by kernel_rfl) hC (TSp.of rfl (Grows.refl _)) (by simp [go_sem, x0, pR27 _ hC, K2.cell] <;> rfl)
                    case oR2717 =>
                      intro ev wo hev hC hs hph
                      have u137 := su hs 137 5
                      have e139 := sd hs 139 7
                      have e148 := sd hs 148 16
                      have Kx := K1.below hC K1.lt
                      have Ky := K2.below hC K2.lt
                      have Kz := K3.below hC K3.lt
                      have wz := (hC.cell (p := ad.add (M * 4)) (by rw [block_of_add] at hadl2 ⊢; exact Nat.lt_of_lt_of_le hadl2 HB.size)).trans w0
                      obtain ⟨g, e137, hK9⟩ := u137
                      exact ob_yes (wanted_none rfl) (does_enter (exec_call Tryz.func47 (by kernel_rfl) rfl (hev.func _) (by first | (simp only [mL, e137, e139, e148, hev.const] <;> rfl) | (simp [mL, e137, e139, e148, hev.const] <;> rfl))) (Calls.mono (refHas_any (some ⟨g, 0, none⟩) 1 [(fr, up)] uid y.uid (fun x hx => by rw [List.mem_singleton.1 hx]; exact ⟨by omega, by omega⟩) (by omega) (by omega) (by simp) wo (span_reads hK9)) (by
                        rintro ev2 w9 ⟨rfl, hb9⟩
                        exact ⟨_, rfl, hC.trans (hb9.mono hC.size), TSp.of rfl hb9, rfl, no_start (by kernel_rfl)⟩)))
                    case oR2718 =>
                      intro ev wo hev hC hs hph
                      have u149 := su hs 149 17
                      have Kx := K1.below hC K1.lt
                      have Ky := K2.below hC K2.lt
                      have Kz := K3.below hC K3.lt
                      have wz := (hC.cell (p := ad.add (M * 4)) (by rw [block_of_add] at hadl2 ⊢; exact Nat.lt_of_lt_of_le hadl2 HB.size)).trans w0
                      exact ob_yes (wanted_none rfl) (does_value (v := ev (.tmp 149)) (by simp [go_sem]) ⟨hC, TSp.of rfl (Grows.refl _), u149, no_start (by kernel_rfl)⟩)
                    intro sg wf hC hph
                    intro x137 hx137
                    intro x149 hx149
                    intro x6 hx6 h6
                    intro a hA
                    replace hA := hA.keepN [6]
                    refine nT (wp_ret (rB (rT ?_)))
                    refine ret_1 hA 6 rfl rfl ?_
                    refine ⟨?_, HB.trans (hC.mono HB.size)⟩
                    rw [h6, evalK, if_pos rfl]
                    show _ = Ending.returned (.bool (inSet [(fr, up)] uid (lastUid ms)))
                    rw [hlast]
                  case nC8 =>
                    have h8 : ¬ kind = 18 := by simp at hc8; omega
                    rw [if_neg h8] at hK
                    refine wS (wR ?_)
                    revert a; (iterate 4 refine wo rfl rfl (by decide) (fun ev e h => by simp [go_sem, h, K2.cell] <;> rfl) ?_); intro a hA
                    replace hA := hA.keepN [1, 3, 5, 150]
                    refine wN (nT ?_)
                    refine wp_if hA 150 _ rfl (fun hc9 => ?yC9) (fun hc9 => ?nC9)
                    case yC9 =>
                      have h9 : kind = 19 := by simp at hc9; omega
                      rw [if_pos h9] at hK
                      subst hK
                      have i1 : IntKind.i64.wrap ((i : Int) + 1) = ((i + 1 : Nat) : Int) := by rw [IntWalk.i64_in _ (by omega)]; omega
                      have i2 : IntKind.u32.wrap ((i + 1 : Nat) : Int) = ((i + 1 : Nat) : Int) := IntWalk.u32_in _ (by omega)
                      have i3 : IntKind.u32.wrap ((N : Nat) : Int) = ((N : Nat) : Int) := IntWalk.u32_in _ (by omega)
                      obtain ⟨i9, hi9⟩ : ∃ x, i + 1 = x := ⟨_, rfl⟩
                      rw [hi9] at i1 i2
                      refine wS (wR ?_)
                      revert a; (iterate 5 refine wo rfl rfl (by decide) (fun ev e h => by simp [go_sem, h, K2.cell, i1, i2, i3] <;> rfl) ?_); intro a hA
                      refine wl_new hA rfl rfl (by decide) (fun ev h => by simp [go_sem, h.get 158 rfl, K2.cell, i1, i2, i3]; try first | exact ⟨rfl, rfl⟩ | rfl) fun w5 a (K5 : Blk _ _ _ _) hz5 hb5 hA => ?_
                      replace K1 := K1.below hb5 K1.lt
                      revert a; (iterate 2 refine wo rfl rfl (by decide) (fun ev e h => by simp [go_sem, h, K1.cell, i1, i2, i3] <;> rfl) ?_); intro a hA
                      refine wl_op hA rfl rfl (by decide) (fun ev h => by simp [go_sem, h.get 161 rfl, K1.cell, i1, i2, i3]; try first | exact ⟨rfl, rfl⟩ | rfl) fun a hA => ?_
                      revert a; (iterate 2 refine wo rfl rfl (by decide) (fun ev e h => by simp [go_sem, h, K1.cell, i1, i2, i3] <;> rfl) ?_); intro a hA
                      replace hA := hA.keepN [159, 162, 164]
                      revert a; refine wo rfl rfl (by decide) (fun ev e h => by simp [go_sem, h, K1.cell, i1, i2, i3] <;> rfl) ?_; intro a hA
                      refine wl_op hA rfl rfl (by decide) (fun ev h => by simp [go_sem, h.get 165 rfl, K1.cell, i1, i2, i3]; try first | exact ⟨rfl, rfl⟩ | rfl) fun a hA => ?_
                      have K6 : Blk w5 _ 94 (spanCells [(fr, up)]).toArray := K5
                      refine wl_call hA rfl rfl (by decide) (fun ev h => exec_call Tryz.func47 (by kernel_rfl) rfl (h.f _) (by first | (simp only [mL, h.get 159 rfl, h.get 162 rfl, h.get 166 rfl, h.c] <;> rfl) | (simp [mL, h.get 159 rfl, h.get 162 rfl, h.get 166 rfl, h.c, K1.cell, i1, i2, i3] <;> rfl))) (refHas_any _ 1 [(fr, up)] i9 N (fun x hx => by rw [List.mem_singleton.1 hx]; exact ⟨by omega, by omega⟩) (by omega) (by omega) (by simp) _ (span_reads K6)) ?_
                      rintro e w6 ⟨rfl, hb6⟩
                      refine ⟨_, rfl, fun a hA => ?_⟩
                      revert a; refine wo rfl rfl (by decide) (fun ev e h => by simp [go_sem, h, K1.cell, i1, i2, i3] <;> rfl) ?_; intro a hA
                      replace hA := hA.keepN [6]
                      refine wN (nT (wp_ret (rB (rT ?_))))
                      refine ret_1 hA 6 rfl rfl ?_
                      refine ⟨?_, HB.trans ((hb5.trans (hb6.mono hb5.size)).mono HB.size)⟩
                      rw [evalK, if_neg (by decide)]
                      show _ = Ending.returned (.bool (inSet [(fr, up)] (i + 1) ms.length))
                      rw [hN, hi9]
                    case nC9 =>
                      have h9 : ¬ kind = 19 := by simp at hc9; omega
                      rw [if_neg h9] at hK
                      rw [if_neg (by omega), if_neg (by omega), if_neg h8, if_neg h9] at htk
                      have hgood : ¬ (len < needK kind ∨ (kind < 22 ∧ len ≠ needK kind) ∨ 5 < len) := fun hb => by rw [if_pos hb] at htk; cases htk
                      rw [if_neg hgood] at htk
                      have hall : (allK (toksK e) l).isSome = true := by
                        cases hx : allK (toksK e) l with
                        | none => rw [hx] at htk; cases htk
                        | some _ => rfl
                      have hms0 : Msgs w (some ad) ms.length ms := hN.symm ▸ hms
                      have hat : ∀ (x : KeyV) (wo : World), x ∈ l → Below w.heap.size w wo → Calls Tryz.prog 24 #[.agg #[.string nm, .int .u32 (ep : Nat), .int .u32 (nx : Nat), .slice (some ad) N c], .int .i64 (i : Nat), .agg #[.int .u8 (x.kind : Nat), .string (St x.word), .int .u16 (x.n : Nat), .int .u32 (x.fr : Nat), .int .u32 (x.up : Nat), .slice x.A x.len x.c]] wo fun ev w' => ev = .returned (.bool (evalK (keyOf e x) (seesM ms i ⟨uid, date, flags, a8, c8, o⟩))) ∧ Below wo.heap.size wo w' := fun x wo hx hb => by
                        have h := ih e rfl x nm ep nx (some ad) c ms i ⟨uid, date, flags, a8, c8, o⟩ wo (hms0.below hb) hm (by omega) hbig (hsub x hx) ((hmems x hx).below hb) (all_some hx hall)
                        rw [hN] at h
                        exact h
                      have hcell : ∀ (x : KeyV) (j : Nat) (wo : World), l[j]? = some x → Below w.heap.size w wo → ∃ ag, A2 = some ag ∧ wo.cell? (ag.add (j * 6)) = some (.int .u8 (x.kind : Nat)) ∧ wo.cell? ⟨(ag.add (j * 6)).block, (ag.add (j * 6)).off + 1, none⟩ = some (.string (St x.word)) ∧ wo.cell? ⟨(ag.add (j * 6)).block, (ag.add (j * 6)).off + 2, none⟩ = some (.int .u16 (x.n : Nat)) ∧ wo.cell? ⟨(ag.add (j * 6)).block, (ag.add (j * 6)).off + 3, none⟩ = some (.int .u32 (x.fr : Nat)) ∧ wo.cell? ⟨(ag.add (j * 6)).block, (ag.add (j * 6)).off + 4, none⟩ = some (.int .u32 (x.up : Nat)) ∧ wo.cell? ⟨(ag.add (j * 6)).block, (ag.add (j * 6)).off + 5, none⟩ = some (.slice x.A x.len x.c) := fun x j wo hx hb => by
                        obtain ⟨ag, e9, -, hc0, hc1⟩ := (hrowx.below hb).cell hx
                        exact ⟨ag, e9, hc0 _ rfl, hc1 1 _ (by decide) rfl, hc1 2 _ (by decide) rfl, hc1 3 _ (by decide) rfl, hc1 4 _ (by decide) rfl, hc1 5 _ (by decide) rfl⟩
                      have hcell0 : ∀ (x : KeyV) (wo : World), l[0]? = some x → Below w.heap.size w wo → ∃ ag, A2 = some ag ∧ wo.cell? ag = some (.int .u8 (x.kind : Nat)) ∧ wo.cell? ⟨ag.block, ag.off + 1, none⟩ = some (.string (St x.word)) ∧ wo.cell? ⟨ag.block, ag.off + 2, none⟩ = some (.int .u16 (x.n : Nat)) ∧ wo.cell? ⟨ag.block, ag.off + 3, none⟩ = some (.int .u32 (x.fr : Nat)) ∧ wo.cell? ⟨ag.block, ag.off + 4, none⟩ = some (.int .u32 (x.up : Nat)) ∧ wo.cell? ⟨ag.block, ag.off + 5, none⟩ = some (.slice x.A x.len x.c) := fun x wo hx hb => by
                        obtain ⟨ag, e9, z⟩ := hcell x 0 wo hx hb
                        rw [Nat.zero_mul, addr_zero] at z
                        exact ⟨ag, e9, z⟩
                      have hcell1 : ∀ (x : KeyV) (wo : World), l[1]? = some x → Below w.heap.size w wo → ∃ ag, A2 = some ag ∧ wo.cell? ⟨ag.block, ag.off + 6, none⟩ = some (.int .u8 (x.kind : Nat)) ∧ wo.cell? ⟨ag.block, ag.off + 6 + 1, none⟩ = some (.string (St x.word)) ∧ wo.cell? ⟨ag.block, ag.off + 6 + 2, none⟩ = some (.int .u16 (x.n : Nat)) ∧ wo.cell? ⟨ag.block, ag.off + 6 + 3, none⟩ = some (.int .u32 (x.fr : Nat)) ∧ wo.cell? ⟨ag.block, ag.off + 6 + 4, none⟩ = some (.int .u32 (x.up : Nat)) ∧ wo.cell? ⟨ag.block, ag.off + 6 + 5, none⟩ = some (.slice x.A x.len x.c) := fun x wo hx hb => by
                        obtain ⟨ag, e9, z⟩ := hcell x 1 wo hx hb
                        rw [Nat.one_mul, addr_six] at z
                        exact ⟨ag, e9, z⟩
                      refine wS (wR ?_)
                      revert a; (iterate 4 refine wo rfl rfl (by decide) (fun ev e h => by simp [go_sem, h, K2.cell] <;> rfl) ?_); intro a hA
                      replace hA := hA.keepN [1, 3, 5, 168]
                      refine wN (nT ?_)
                      refine wp_if hA 168 _ rfl (fun hc10 => ?yC10) (fun hc10 => ?nC10)
                      case yC10 =>
                        have h10 : kind = 20 := by simp at hc10; omega
                        rw [h10] at hgood
                        rw [if_pos h10] at hK
                        have hl1 : l.length = 1 := by
                          rw [hll]
                          unfold needK at hgood
                          simp at hgood
                          omega
                        obtain ⟨x, rfl⟩ : ∃ x, l = [x] := by
                          match l, hl1 with
                          | [x], _ => exact ⟨x, rfl⟩
                        have hlen1 : len = 1 := by rw [← hll]; rfl
                        subst hK
                        obtain ⟨ag, hA2, -⟩ := hcell x 0 w rfl (Below.refl _ _)
                        refine wS ?_
                        refine wp_any_at hA [(.det ?dR310), (.det ?dR311), (.det ?dR312), (.det ?dR313), (.det ?dR314), (.det ?dR315), (.det ?dR316), (.det ?dR317), (.det ?dR318)] [] (fun wy => Below w4.heap.size w4 wy) (TSp [] Grows) (by kernel_rfl) rfl (by kernel_rfl) (by kernel_rfl) rfl ((Below.refl _ _).drew) (stab_sp [] [true, true, true, true, true, true, true, true, true] [true, true, true, true, true, true, true, true, true] [] rfl rfl rfl (by kernel_rfl) ⟨trivial, trivial, trivial, trivial, trivial, trivial, trivial, trivial, trivial, trivial⟩ trivial) (fun _ h => by cases h) (fun _ _ _ _ _ h => by cases h) (fun _ h => by cases h) ⟨?oR310, ?oR311, ?oR312, ?oR313, ?oR314, ?oR315, ?oR316, ?oR317, ?oR318, trivial⟩ (by kernel_rfl) ?fR31
                        case oR310 =>
                          intro ev wo hev hC hs hph
                          have e3 := se hA hs 3
                          have HBo := HB.trans (hC.mono HB.size)
                          have Kx := K1.below hC K1.lt
                          have Ky := K2.below hC K2.lt
                          obtain ⟨ag', e9, z0, z1, z2, z3, z4, z5⟩ := hcell0 x wo rfl HBo
                          have e9 : ag = ag' := Option.some.inj (hA2.symm.trans e9)
                          subst e9
                          exact ob_det (wanted_none rfl) rfl (by kernel_rfl) hC (TSp.of rfl (Grows.refl _)) (by simp [go_sem, e3, Kx.cell, Ky.cell, hA2, z0, z1, z2, z3, z4, z5, K2.cell]; try first | exact ⟨rfl, rfl⟩ | rfl)
                        case oR311 => intro ev wo hev hC hs hph; have x0 := se hA hs 1; exact od rfl rfl (by kernel_rfl) hC (TSp.of rfl (Grows.refl _)) (by simp [go_sem, x0] <;> rfl)
                        case oR312 => intro ev wo hev hC hs hph; have x0 := se hA hs 5; exact od rfl rfl (by kernel_rfl) hC (TSp.of rfl (Grows.refl _)) (by simp [go_sem, x0] <;> rfl)
                        case oR313 =>
                          intro ev wo hev hC hs hph
                          have e174 := sd hs 174 2
                          have HBo := HB.trans (hC.mono HB.size)
                          have Kx := K1.below hC K1.lt
                          have Ky := K2.below hC K2.lt
                          obtain ⟨ag', e9, z0, z1, z2, z3, z4, z5⟩ := hcell0 x wo rfl HBo
                          have e9 : ag = ag' := Option.some.inj (hA2.symm.trans e9)
                          subst e9
                          exact ob_det (wanted_none rfl) rfl (by kernel_rfl) hC (TSp.of rfl (Grows.refl _)) (by simp [go_sem, e174, Kx.cell, Ky.cell, hA2, z0, z1, z2, z3, z4, z5, K2.cell]; try first | exact ⟨rfl, rfl⟩ | rfl)
                        case oR314 =>
                          intro ev wo hev hC hs hph
                          have e175 := sd hs 175 3
                          have HBo := HB.trans (hC.mono HB.size)
                          have Kx := K1.below hC K1.lt
                          have Ky := K2.below hC K2.lt
                          obtain ⟨ag', e9, z0, z1, z2, z3, z4, z5⟩ := hcell0 x wo rfl HBo
                          have e9 : ag = ag' := Option.some.inj (hA2.symm.trans e9)
                          subst e9
                          exact ob_det (wanted_none rfl) rfl (by kernel_rfl) hC (TSp.of rfl (Grows.refl _)) (by simp [go_sem, e175, hev.const, hlen1]; try first | exact ⟨rfl, rfl⟩ | rfl)
                        case oR315 =>
                          intro ev wo hev hC hs hph
                          have e176 := sd hs 176 4
                          have HBo := HB.trans (hC.mono HB.size)
                          have Kx := K1.below hC K1.lt
                          have Ky := K2.below hC K2.lt
                          obtain ⟨ag', e9, z0, z1, z2, z3, z4, z5⟩ := hcell0 x wo rfl HBo
                          have e9 : ag = ag' := Option.some.inj (hA2.symm.trans e9)
                          subst e9
                          exact ob_det (wanted_none rfl) rfl (by kernel_rfl) hC (TSp.of rfl (Grows.refl _)) (by simp [go_sem, e176, Kx.cell, Ky.cell, hA2, z0, z1, z2, z3, z4, z5, K2.cell]; try first | exact ⟨rfl, rfl⟩ | rfl)
                        case oR316 =>
                          intro ev wo hev hC hs hph
                          have e172 := sd hs 172 0
                          have e173 := sd hs 173 1
                          have e177 := sd hs 177 5
                          have HBo := HB.trans (hC.mono HB.size)
                          have Kx := K1.below hC K1.lt
                          have Ky := K2.below hC K2.lt
                          obtain ⟨ag', e9, z0, z1, z2, z3, z4, z5⟩ := hcell0 x wo rfl HBo
                          have e9 : ag = ag' := Option.some.inj (hA2.symm.trans e9)
                          subst e9
                          exact ob_dcall (wanted_none rfl) rfl (by kernel_rfl) (hat x wo List.mem_cons_self HBo) (exec_call Tryz.func24 (by kernel_rfl) rfl (hev.func _) (by first | (simp only [mL, e172, e173, e177, hev.const] <;> rfl) | (simp [mL, e172, e173, e177, hev.const] <;> rfl))) (by rfl) (fun w3 hb3 => ⟨hC.trans (hb3.mono hC.size), TSp.of rfl hb3⟩)
                        case oR317 => intro ev wo hev hC hs hph; have x0 := sd hs 178 6; exact od rfl rfl (by kernel_rfl) hC (TSp.of rfl (Grows.refl _)) (by simp [go_sem, x0] <;> rfl)
                        case oR318 => intro ev wo hev hC hs hph; have x0 := sd hs 179 7; exact od rfl rfl (by kernel_rfl) hC (TSp.of rfl (Grows.refl _)) (by simp [go_sem, x0] <;> rfl)
                        intro sg wf hC hph
                        intro a hA
                        replace hA := hA.keepN [6]
                        refine nT (wp_ret (rB (rT ?_)))
                        refine ret_1 hA 6 rfl rfl ?_
                        exact ⟨by rw [evalK], HB.trans (hC.mono HB.size)⟩
                      case nC10 =>
                        have h10 : ¬ kind = 20 := by simp at hc10; omega
                        rw [if_neg h10] at hK
                        refine wS (wR ?_)
                        revert a; (iterate 4 refine wo rfl rfl (by decide) (fun ev e h => by simp [go_sem, h, K2.cell] <;> rfl) ?_); intro a hA
                        replace hA := hA.keepN [1, 3, 5, 180]
                        refine wN (nT ?_)
                        refine wp_if hA 180 _ rfl (fun hc11 => ?yC11) (fun hc11 => ?nC11)
                        case yC11 =>
                          have h11 : kind = 21 := by simp at hc11; omega
                          rw [h11] at hgood
                          rw [if_pos h11] at hK
                          have hl2 : l.length = 2 := by
                            rw [hll]
                            unfold needK at hgood
                            simp at hgood
                            omega
                          obtain ⟨x, y, rfl⟩ : ∃ x y, l = [x, y] := by
                            match l, hl2 with
                            | [x, y], _ => exact ⟨x, y, rfl⟩
                          have hlen1 : len = 2 := by rw [← hll]; rfl
                          subst hK
                          obtain ⟨ag, hA2, -⟩ := hcell x 0 w rfl (Below.refl _ _)
                          obtain ⟨ex, hex⟩ : ∃ b, evalK (keyOf e x) (seesM ms i ⟨uid, date, flags, a8, c8, o⟩) = b := ⟨_, rfl⟩
                          obtain ⟨ey, hey⟩ : ∃ b, evalK (keyOf e y) (seesM ms i ⟨uid, date, flags, a8, c8, o⟩) = b := ⟨_, rfl⟩
                          have hat1 := hat x
                          have hat2 := hat y
                          rw [hex] at hat1
                          rw [hey] at hat2
                          refine wS ?_
                          refine wp_any_at hA [(.det ?dR330), (.det ?dR331), (.det ?dR332), (.det ?dR333), (.det ?dR334), (.det ?dR335), (.det ?dR336), (.det ?dR337), (.det ?dR338), (.det ?dR339), (.det ?dR3310), (.det ?dR3311), (.det ?dR3312), (.det ?dR3313), (.det ?dR3314), (.det ?dR3315), (.det ?dR3316)] [] (fun wy => Below w4.heap.size w4 wy) (TSp [] Grows) (by kernel_rfl) rfl (by kernel_rfl) (by kernel_rfl) rfl ((Below.refl _ _).drew) (stab_sp [] [true, true, true, true, true, true, true, true, true, true, true, true, true, true, true, true, true] [true, true, true, true, true, true, true, true, true, true, true, true, true, true, true, true, true] [] rfl rfl rfl (by kernel_rfl) ⟨trivial, trivial, trivial, trivial, trivial, trivial, trivial, trivial, trivial, trivial, trivial, trivial, trivial, trivial, trivial, trivial, trivial, trivial⟩ trivial) (fun _ h => by cases h) (fun _ _ _ _ _ h => by cases h) (fun _ h => by cases h) ⟨?oR330, ?oR331, ?oR332, ?oR333, ?oR334, ?oR335, ?oR336, ?oR337, ?oR338, ?oR339, ?oR3310, ?oR3311, ?oR3312, ?oR3313, ?oR3314, ?oR3315, ?oR3316, trivial⟩ (by kernel_rfl) ?fR33
                          case oR330 =>
                            intro ev wo hev hC hs hph
                            have e3 := se hA hs 3
                            have HBo := HB.trans (hC.mono HB.size)
                            have Kx := K1.below hC K1.lt
                            have Ky := K2.below hC K2.lt
                            obtain ⟨ag', e9, z0, z1, z2, z3, z4, z5⟩ := hcell0 x wo rfl HBo
                            have e9 : ag = ag' := Option.some.inj (hA2.symm.trans e9)
                            subst e9
                            obtain ⟨ag', e9, v0, v1, v2, v3, v4, v5⟩ := hcell1 y wo rfl HBo
                            have e9 : ag = ag' := Option.some.inj (hA2.symm.trans e9)
                            subst e9
                            exact ob_det (wanted_none rfl) rfl (by kernel_rfl) hC (TSp.of rfl (Grows.refl _)) (by simp [go_sem, e3, Kx.cell, Ky.cell, hA2, z0, z1, z2, z3, z4, z5, v0, v1, v2, v3, v4, v5, K2.cell]; try first | exact ⟨rfl, rfl⟩ | rfl)
                          case oR331 => intro ev wo hev hC hs hph; have x0 := se hA hs 1; exact od rfl rfl (by kernel_rfl) hC (TSp.of rfl (Grows.refl _)) (by simp [go_sem, x0] <;> rfl)
                          case oR332 => intro ev wo hev hC hs hph; have x0 := se hA hs 5; exact od rfl rfl (by kernel_rfl) hC (TSp.of rfl (Grows.refl _)) (by simp [go_sem, x0] <;> rfl)
                          case oR333 =>
                            intro ev wo hev hC hs hph
                            have e186 := sd hs 186 2
                            have HBo := HB.trans (hC.mono HB.size)
                            have Kx := K1.below hC K1.lt
                            have Ky := K2.below hC K2.lt
                            obtain ⟨ag', e9, z0, z1, z2, z3, z4, z5⟩ := hcell0 x wo rfl HBo
                            have e9 : ag = ag' := Option.some.inj (hA2.symm.trans e9)
                            subst e9
                            obtain ⟨ag', e9, v0, v1, v2, v3, v4, v5⟩ := hcell1 y wo rfl HBo
                            have e9 : ag = ag' := Option.some.inj (hA2.symm.trans e9)
                            subst e9
                            exact ob_det (wanted_none rfl) rfl (by kernel_rfl) hC (TSp.of rfl (Grows.refl _)) (by simp [go_sem, e186, Kx.cell, Ky.cell, hA2, z0, z1, z2, z3, z4, z5, v0, v1, v2, v3, v4, v5, K2.cell]; try first | exact ⟨rfl, rfl⟩ | rfl)
                          case oR334 =>
                            intro ev wo hev hC hs hph
                            have e187 := sd hs 187 3
                            have HBo := HB.trans (hC.mono HB.size)
                            have Kx := K1.below hC K1.lt
                            have Ky := K2.below hC K2.lt
                            obtain ⟨ag', e9, z0, z1, z2, z3, z4, z5⟩ := hcell0 x wo rfl HBo
                            have e9 : ag = ag' := Option.some.inj (hA2.symm.trans e9)
                            subst e9
                            obtain ⟨ag', e9, v0, v1, v2, v3, v4, v5⟩ := hcell1 y wo rfl HBo
                            have e9 : ag = ag' := Option.some.inj (hA2.symm.trans e9)
                            subst e9
                            exact ob_det (wanted_none rfl) rfl (by kernel_rfl) hC (TSp.of rfl (Grows.refl _)) (by simp [go_sem, e187, hev.const, hlen1]; try first | exact ⟨rfl, rfl⟩ | rfl)
                          case oR335 =>
                            intro ev wo hev hC hs hph
                            have e188 := sd hs 188 4
                            have HBo := HB.trans (hC.mono HB.size)
                            have Kx := K1.below hC K1.lt
                            have Ky := K2.below hC K2.lt
                            obtain ⟨ag', e9, z0, z1, z2, z3, z4, z5⟩ := hcell0 x wo rfl HBo
                            have e9 : ag = ag' := Option.some.inj (hA2.symm.trans e9)
                            subst e9
                            obtain ⟨ag', e9, v0, v1, v2, v3, v4, v5⟩ := hcell1 y wo rfl HBo
                            have e9 : ag = ag' := Option.some.inj (hA2.symm.trans e9)
                            subst e9
                            exact ob_det (wanted_none rfl) rfl (by kernel_rfl) hC (TSp.of rfl (Grows.refl _)) (by simp [go_sem, e188, Kx.cell, Ky.cell, hA2, z0, z1, z2, z3, z4, z5, v0, v1, v2, v3, v4, v5, K2.cell]; try first | exact ⟨rfl, rfl⟩ | rfl)
                          case oR336 =>
                            intro ev wo hev hC hs hph
                            have e184 := sd hs 184 0
                            have e185 := sd hs 185 1
                            have e189 := sd hs 189 5
                            have HBo := HB.trans (hC.mono HB.size)
                            have Kx := K1.below hC K1.lt
                            have Ky := K2.below hC K2.lt
                            obtain ⟨ag', e9, z0, z1, z2, z3, z4, z5⟩ := hcell0 x wo rfl HBo
                            have e9 : ag = ag' := Option.some.inj (hA2.symm.trans e9)
                            subst e9
                            obtain ⟨ag', e9, v0, v1, v2, v3, v4, v5⟩ := hcell1 y wo rfl HBo
                            have e9 : ag = ag' := Option.some.inj (hA2.symm.trans e9)
                            subst e9
                            exact ob_dcall (wanted_none rfl) rfl (by kernel_rfl) (hat1 wo List.mem_cons_self HBo) (exec_call Tryz.func24 (by kernel_rfl) rfl (hev.func _) (by first | (simp only [mL, e184, e185, e189, hev.const] <;> rfl) | (simp [mL, e184, e185, e189, hev.const] <;> rfl))) (by rfl) (fun w3 hb3 => ⟨hC.trans (hb3.mono hC.size), TSp.of rfl hb3⟩)
                          case oR337 => intro ev wo hev hC hs hph; have x0 := sd hs 190 6; exact od rfl rfl (by kernel_rfl) hC (TSp.of rfl (Grows.refl _)) (by simp [go_sem, x0] <;> rfl)
                          case oR338 =>
                            intro ev wo hev hC hs hph
                            have e3 := se hA hs 3
                            have e191 := sd hs 191 7
                            have HBo := HB.trans (hC.mono HB.size)
                            have Kx := K1.below hC K1.lt
                            have Ky := K2.below hC K2.lt
                            obtain ⟨ag', e9, z0, z1, z2, z3, z4, z5⟩ := hcell0 x wo rfl HBo
                            have e9 : ag = ag' := Option.some.inj (hA2.symm.trans e9)
                            subst e9
                            obtain ⟨ag', e9, v0, v1, v2, v3, v4, v5⟩ := hcell1 y wo rfl HBo
                            have e9 : ag = ag' := Option.some.inj (hA2.symm.trans e9)
                            subst e9
                            exact ob_gv _ rfl rfl e191 rfl (by kernel_rfl) hC (TSp.of rfl (Grows.refl _)) (fun hq => by simp [go_sem, e3, e191, Kx.cell, Ky.cell, hA2, z0, z1, z2, z3, z4, z5, v0, v1, v2, v3, v4, v5, K2.cell]; try first | exact ⟨rfl, rfl⟩ | rfl) (by rfl)
                          case oR339 => intro ev wo hev hC hs hph; have x0 := se hA hs 1; have y := sd hs 191 7; exact ob_gv _ rfl rfl y rfl (by kernel_rfl) hC (TSp.of rfl (Grows.refl _)) (fun hq => by simp [go_sem, x0] <;> rfl) (by rfl)
                          case oR3310 => intro ev wo hev hC hs hph; have x0 := se hA hs 5; have y := sd hs 191 7; exact ob_gv _ rfl rfl y rfl (by kernel_rfl) hC (TSp.of rfl (Grows.refl _)) (fun hq => by simp [go_sem, x0] <;> rfl) (by rfl)
                          case oR3311 =>
                            intro ev wo hev hC hs hph
                            have e194 := sd hs 194 10
                            have e191 := sd hs 191 7
                            have HBo := HB.trans (hC.mono HB.size)
                            have Kx := K1.below hC K1.lt
                            have Ky := K2.below hC K2.lt
                            obtain ⟨ag', e9, z0, z1, z2, z3, z4, z5⟩ := hcell0 x wo rfl HBo
                            have e9 : ag = ag' := Option.some.inj (hA2.symm.trans e9)
                            subst e9
                            obtain ⟨ag', e9, v0, v1, v2, v3, v4, v5⟩ := hcell1 y wo rfl HBo
                            have e9 : ag = ag' := Option.some.inj (hA2.symm.trans e9)
                            subst e9
                            exact ob_gv _ rfl rfl e191 rfl (by kernel_rfl) hC (TSp.of rfl (Grows.refl _)) (fun hq => by simp [go_sem, (e194.trans (gw_t (beq_t hq))), e191, Kx.cell, Ky.cell, hA2, z0, z1, z2, z3, z4, z5, v0, v1, v2, v3, v4, v5, K2.cell]; try first | exact ⟨rfl, rfl⟩ | rfl) (by rfl)
                          case oR3312 =>
                            intro ev wo hev hC hs hph
                            have e195 := sd hs 195 11
                            have e191 := sd hs 191 7
                            have HBo := HB.trans (hC.mono HB.size)
                            have Kx := K1.below hC K1.lt
                            have Ky := K2.below hC K2.lt
                            obtain ⟨ag', e9, z0, z1, z2, z3, z4, z5⟩ := hcell0 x wo rfl HBo
                            have e9 : ag = ag' := Option.some.inj (hA2.symm.trans e9)
                            subst e9
                            obtain ⟨ag', e9, v0, v1, v2, v3, v4, v5⟩ := hcell1 y wo rfl HBo
                            have e9 : ag = ag' := Option.some.inj (hA2.symm.trans e9)
                            subst e9
                            exact ob_gv _ rfl rfl e191 rfl (by kernel_rfl) hC (TSp.of rfl (Grows.refl _)) (fun hq => by simp [go_sem, (e195.trans (gw_t (beq_t hq))), e191, hev.const, hlen1]; try first | exact ⟨rfl, rfl⟩ | rfl) (by rfl)
                          case oR3313 =>
                            intro ev wo hev hC hs hph
                            have e196 := sd hs 196 12
                            have e191 := sd hs 191 7
                            have HBo := HB.trans (hC.mono HB.size)
                            have Kx := K1.below hC K1.lt
                            have Ky := K2.below hC K2.lt
                            obtain ⟨ag', e9, z0, z1, z2, z3, z4, z5⟩ := hcell0 x wo rfl HBo
                            have e9 : ag = ag' := Option.some.inj (hA2.symm.trans e9)
                            subst e9
                            obtain ⟨ag', e9, v0, v1, v2, v3, v4, v5⟩ := hcell1 y wo rfl HBo
                            have e9 : ag = ag' := Option.some.inj (hA2.symm.trans e9)
                            subst e9
                            exact ob_gv _ rfl rfl e191 rfl (by kernel_rfl) hC (TSp.of rfl (Grows.refl _)) (fun hq => by simp [go_sem, (e196.trans (gw_t (beq_t hq))), e191, Kx.cell, Ky.cell, hA2, z0, z1, z2, z3, z4, z5, v0, v1, v2, v3, v4, v5, K2.cell]; try first | exact ⟨rfl, rfl⟩ | rfl) (by rfl)
                          case oR3314 =>
                            intro ev wo hev hC hs hph
                            have e192 := sd hs 192 8
                            have e193 := sd hs 193 9
                            have e197 := sd hs 197 13
                            have e191 := sd hs 191 7
                            have HBo := HB.trans (hC.mono HB.size)
                            have Kx := K1.below hC K1.lt
                            have Ky := K2.below hC K2.lt
                            obtain ⟨ag', e9, z0, z1, z2, z3, z4, z5⟩ := hcell0 x wo rfl HBo
                            have e9 : ag = ag' := Option.some.inj (hA2.symm.trans e9)
                            subst e9
                            obtain ⟨ag', e9, v0, v1, v2, v3, v4, v5⟩ := hcell1 y wo rfl HBo
                            have e9 : ag = ag' := Option.some.inj (hA2.symm.trans e9)
                            subst e9
                            exact ob_gcall _ rfl rfl e191 rfl (by kernel_rfl) (by rfl) (fun hq => exec_call Tryz.func24 (by kernel_rfl) rfl (hev.func _) (by first | (simp only [mL, (e192.trans (gw_t (beq_t hq))), (e193.trans (gw_t (beq_t hq))), (e197.trans (gw_t (beq_t hq))), e191, hev.const] <;> rfl) | (simp [mL, (e192.trans (gw_t (beq_t hq))), (e193.trans (gw_t (beq_t hq))), (e197.trans (gw_t (beq_t hq))), e191, hev.const] <;> rfl))) (fun hq => hat2 wo (by simp) HBo) (fun w3 hb3 => ⟨hC.trans (hb3.mono hC.size), TSp.of rfl hb3⟩)
                          case oR3315 => intro ev wo hev hC hs hph; have x0 := sd hs 191 7; have x1 := sd hs 198 14; exact od rfl rfl (by kernel_rfl) hC (TSp.of rfl (Grows.refl _)) (by rw [pick_or rfl x0 (hev.const _) x1] <;> rfl)
                          case oR3316 => intro ev wo hev hC hs hph; have x0 := sd hs 199 15; exact od rfl rfl (by kernel_rfl) hC (TSp.of rfl (Grows.refl _)) (by simp [go_sem, x0] <;> rfl)
                          intro sg wf hC hph
                          intro a hA
                          replace hA := hA.keepN [6]
                          refine nT (wp_ret (rB (rT ?_)))
                          refine ret_1 hA 6 rfl rfl ?_
                          refine ⟨?_, HB.trans (hC.mono HB.size)⟩
                          show _ = Ending.returned (.bool (evalK (.or (keyOf e x) (keyOf e y)) _))
                          rw [evalK, hex, hey]
                        case nC11 =>
                          have h11 : ¬ kind = 21 := by simp at hc11; omega
                          rw [if_neg h11] at hK
                          subst hK
                          rw [evalK]
                          refine wp_skip (nB (nT (wS (wS (wR ?_)))))
                          revert a; (iterate 4 refine wo rfl rfl (by decide) (fun ev e h => by simp [go_sem, h, K2.cell] <;> rfl) ?_); intro a hA
                          replace hA := hA.keepN [1, 3, 5, 202, 203]
                          refine wN (nT (wB ?_))
                          refine wp_loop_at (fun g a wx => ∃ (j : Nat), j + g = len ∧ evalL ((l.take j).map (keyOf e)) (seesM ms i ⟨uid, date, flags, a8, c8, o⟩) = true ∧ Below w4.heap.size w4 wx ∧ At 216 [(1, .int .i64 (i : Nat)), (3, .pointer (some ⟨w.heap.size, 0, none⟩)), (5, .pointer (some ⟨w1.heap.size, 0, none⟩)), (202, .int .i64 (len : Nat)), (203, .int .i64 (j : Nat))] a) (len) ?_ ?_
                          · exact ⟨0, by omega, by rw [List.take_zero, List.map_nil, evalL_nil], Below.refl _ _, hA⟩
                          clear hA
                          rintro g a wx ⟨j, hjg, hev, HX, hA⟩
                          have HW := HB.trans (HX.mono HB.size)
                          have K1x := K1.below HX K1.lt
                          have K2x := K2.below HX K2.lt
                          have jw : IntKind.i64.wrap ((j : Int) + 1) = ((j + 1 : Nat) : Int) := IntWalk.i64_in _ (by omega)
                          refine wS (wR ?_)
                          revert a; refine wo rfl rfl (by decide) (fun ev e h => by simp [go_sem, h] <;> rfl) ?_; intro a hA
                          replace hA := hA.keepN [1, 3, 5, 202, 203, 204]
                          refine wN (nT (wS ?_))
                          refine wp_if hA 204 _ rfl (fun hcl => ?yL2) (fun hcl => ?nL2)
                          case nL2 =>
                            have hjl : j = len := by simp at hcl; omega
                            rw [hjl, ← hll, List.take_length] at hev
                            replace hA := hA.keepN []
                            refine wp_exit (xT (xT (xB (nT (wS (wR ?_))))))
                            revert a; refine wo rfl rfl (by decide) (fun ev e h => by simp [go_sem, h] <;> rfl) ?_; intro a hA
                            replace hA := hA.keepN [6]
                            refine wN (nT (wp_ret ?_))
                            refine ret_1 hA 6 rfl rfl ?_
                            exact ⟨by rw [hev], HW⟩
                          case yL2 =>
                            have hjl : j < len := by simp at hcl; omega
                            have jj0 : (0 : Int) ≤ (j : Int) := by omega
                            have jj1 : (j : Int) < (len : Int) := by omega
                            obtain ⟨x, hx⟩ : ∃ x, l[j]? = some x := ⟨_, List.getElem?_eq_getElem (by omega)⟩
                            have hxm := List.mem_of_getElem? hx
                            obtain ⟨ex, hex⟩ : ∃ b, evalK (keyOf e x) (seesM ms i ⟨uid, date, flags, a8, c8, o⟩) = b := ⟨_, rfl⟩
                            have hat1 := hat x
                            rw [hex] at hat1
                            have htake : (l.take (j + 1)).map (keyOf e) = (l.take j).map (keyOf e) ++ [keyOf e x] := by
                              rw [List.take_add_one, hx]
                              simp
                            obtain ⟨ag, hA2, -⟩ := hcell x j w hx (Below.refl _ _)
                            refine wp_skip (nT (wS (wB (wS (wR ?_)))))
                            revert a; (iterate 2 refine wo rfl rfl (by decide) (fun ev e h => by simp [go_sem, h] <;> rfl) ?_); intro a hA
                            replace hA := hA.keepN [1, 3, 5, 12, 202, 203]
                            refine wN (nT (wS ?_))
                            refine wp_any_at hA [(.det ?dR370), (.det ?dR371), (.det ?dR372), (.det ?dR373), (.det ?dR374), (.det ?dR375), (.det ?dR376), (.det ?dR377), (.det ?dR378)] [] (fun wy => Below wx.heap.size wx wy) (TSp [] Grows) (by kernel_rfl) rfl (by kernel_rfl) (by kernel_rfl) rfl ((Below.refl _ _).drew) (stab_sp [] [true, true, true, true, true, true, true, true, true] [true, true, true, true, true, true, true, true, true] [] rfl rfl rfl (by kernel_rfl) ⟨trivial, trivial, trivial, trivial, trivial, trivial, trivial, trivial, trivial, trivial⟩ trivial) (fun _ h => by cases h) (fun _ _ _ _ _ h => by cases h) (fun _ h => by cases h) ⟨?oR370, ?oR371, ?oR372, ?oR373, ?oR374, ?oR375, ?oR376, ?oR377, ?oR378, trivial⟩ (by kernel_rfl) ?fR37
                            case oR370 =>
                              intro ev wo hev hC hs hph
                              have e3 := se hA hs 3
                              have HBo := HW.trans (hC.mono HW.size)
                              have Kx := K1x.below hC K1x.lt
                              have Ky := K2x.below hC K2x.lt
                              obtain ⟨ag', e9, z0, z1, z2, z3, z4, z5⟩ := hcell x j wo hx HBo
                              have e9 : ag = ag' := Option.some.inj (hA2.symm.trans e9)
                              subst e9
                              exact ob_det (wanted_none rfl) rfl (by kernel_rfl) hC (TSp.of rfl (Grows.refl _)) (by simp [go_sem, e3, Kx.cell, Ky.cell, hA2, z0, z1, z2, z3, z4, z5]; try first | exact ⟨rfl, rfl⟩ | rfl)
                            case oR371 => intro ev wo hev hC hs hph; have x0 := se hA hs 1; exact od rfl rfl (by kernel_rfl) hC (TSp.of rfl (Grows.refl _)) (by simp [go_sem, x0] <;> rfl)
                            case oR372 => intro ev wo hev hC hs hph; have x0 := se hA hs 5; exact od rfl rfl (by kernel_rfl) hC (TSp.of rfl (Grows.refl _)) (by simp [go_sem, x0] <;> rfl)
                            case oR373 =>
                              intro ev wo hev hC hs hph
                              have e208 := sd hs 208 2
                              have HBo := HW.trans (hC.mono HW.size)
                              have Kx := K1x.below hC K1x.lt
                              have Ky := K2x.below hC K2x.lt
                              obtain ⟨ag', e9, z0, z1, z2, z3, z4, z5⟩ := hcell x j wo hx HBo
                              have e9 : ag = ag' := Option.some.inj (hA2.symm.trans e9)
                              subst e9
                              exact ob_det (wanted_none rfl) rfl (by kernel_rfl) hC (TSp.of rfl (Grows.refl _)) (by simp [go_sem, e208, Kx.cell, Ky.cell, hA2, z0, z1, z2, z3, z4, z5]; try first | exact ⟨rfl, rfl⟩ | rfl)
                            case oR374 => intro ev wo hev hC hs hph; have x0 := se hA hs 12; exact od rfl rfl (by kernel_rfl) hC (TSp.of rfl (Grows.refl _)) (by simp [go_sem, x0] <;> rfl)
                            case oR375 =>
                              intro ev wo hev hC hs hph
                              have e209 := sd hs 209 3
                              have e210 := sd hs 210 4
                              have HBo := HW.trans (hC.mono HW.size)
                              have Kx := K1x.below hC K1x.lt
                              have Ky := K2x.below hC K2x.lt
                              obtain ⟨ag', e9, z0, z1, z2, z3, z4, z5⟩ := hcell x j wo hx HBo
                              have e9 : ag = ag' := Option.some.inj (hA2.symm.trans e9)
                              subst e9
                              exact ob_det (wanted_none rfl) rfl (by kernel_rfl) hC (TSp.of rfl (Grows.refl _)) (by simp [go_sem, e209, e210, jj0, jj1, hjl]; try first | exact ⟨rfl, rfl⟩ | rfl)
                            case oR376 =>
                              intro ev wo hev hC hs hph
                              have e211 := sd hs 211 5
                              have HBo := HW.trans (hC.mono HW.size)
                              have Kx := K1x.below hC K1x.lt
                              have Ky := K2x.below hC K2x.lt
                              obtain ⟨ag', e9, z0, z1, z2, z3, z4, z5⟩ := hcell x j wo hx HBo
                              have e9 : ag = ag' := Option.some.inj (hA2.symm.trans e9)
                              subst e9
                              exact ob_det (wanted_none rfl) rfl (by kernel_rfl) hC (TSp.of rfl (Grows.refl _)) (by simp [go_sem, e211, Kx.cell, Ky.cell, hA2, z0, z1, z2, z3, z4, z5]; try first | exact ⟨rfl, rfl⟩ | rfl)
                            case oR377 =>
                              intro ev wo hev hC hs hph
                              have e206 := sd hs 206 0
                              have e207 := sd hs 207 1
                              have e212 := sd hs 212 6
                              have HBo := HW.trans (hC.mono HW.size)
                              have Kx := K1x.below hC K1x.lt
                              have Ky := K2x.below hC K2x.lt
                              obtain ⟨ag', e9, z0, z1, z2, z3, z4, z5⟩ := hcell x j wo hx HBo
                              have e9 : ag = ag' := Option.some.inj (hA2.symm.trans e9)
                              subst e9
                              exact ob_dcall (wanted_none rfl) rfl (by kernel_rfl) (hat1 wo hxm HBo) (exec_call Tryz.func24 (by kernel_rfl) rfl (hev.func _) (by first | (simp only [mL, e206, e207, e212, hev.const] <;> rfl) | (simp [mL, e206, e207, e212, hev.const] <;> rfl))) (by rfl) (fun w3 hb3 => ⟨hC.trans (hb3.mono hC.size), TSp.of rfl hb3⟩)
                            case oR378 => intro ev wo hev hC hs hph; have x0 := sd hs 213 7; exact od rfl rfl (by kernel_rfl) hC (TSp.of rfl (Grows.refl _)) (by simp [go_sem, x0] <;> rfl)
                            intro sg wf hC hph
                            intro a hA
                            replace hA := hA.keepN [1, 3, 5, 202, 203, 214]
                            refine nT ?_
                            refine wp_if hA 214 _ rfl (fun hcm => ?yM2) (fun hcm => ?nM2)
                            case yM2 =>
                              have he1 : ex = false := by simpa using hcm
                              refine wS (wR ?_)
                              revert a; refine wo rfl rfl (by decide) (fun ev e h => by simp [go_sem, h] <;> rfl) ?_; intro a hA
                              replace hA := hA.keepN [6]
                              refine wN (nT (wp_ret (rB (rT (rT (rB (rT ?_)))))))
                              refine ret_1 hA 6 rfl rfl ?_
                              refine ⟨ret_bool ?_, HW.trans (hC.mono HW.size)⟩
                              have hd9 : l.map (keyOf e) = (l.take (j + 1)).map (keyOf e) ++ (l.drop (j + 1)).map (keyOf e) := by rw [← List.map_append, List.take_append_drop]
                              rw [hd9, evalL_app, htake, evalL_app, evalL_cons, hex, he1]
                              simp
                            case nM2 =>
                              have he1 : ex = true := by simpa using hcm
                              refine wp_skip (nB (nT (wR ?_)))
                              revert a; (iterate 2 refine wo rfl rfl (by decide) (fun ev e h => by simp [go_sem, h, jw] <;> rfl) ?_); intro a hA
                              replace hA := hA.keepN [1, 3, 5, 202, 203]
                              refine wN (nT ?_)
                              refine ⟨g - 1, by omega, j + 1, by omega, ?_, HX.trans (hC.mono HX.size), hA⟩
                              rw [htake, evalL_app, hev, evalL_cons, hex, he1, evalL_nil]
                              rfl
theorem is_any : ∀ d : Nat, d ≤ 10 → IsSpec d
  | 0, _ => is_step 0 (by omega) fun e h => by cases h
  | d + 1, h => is_step (d + 1) h fun e he => by
    injection he with he
    subst he
    exact is_any d (by omega)
end Go.Proofs.YtjhaccmcjlbllaaGreatDoor
/-
  Plain: a key more finds no more.
-/
namespace Go.Proofs.YtjhaccmcjlbllaaGreatDoor
open Go.RowKit
theorem isSo_both (L L3 : List KeyA) (ms : List MsgV) (i : Nat) : isSo (.both (L ++ L3)) ms i = (isSo (.both L) ms i && isSo (.both L3) ms i) := by
  unfold isSo
  cases ms[i]? with
  | none => rfl
  | some m =>
    show evalK _ _ = (evalK _ _ && evalK _ _)
    have e : ∀ l x, evalK (.both l) x = evalL l x := fun _ _ => by rw [evalK]
    rw [e, e, e, evalL_app]
theorem none_more {a c : List TokI} {k : KeyA} (ms : List MsgV) (h : readP a = some k) : ∃ Q : Nat → Bool, findS (readP (a ++ c)) ms = (findS (readP a) ms).filter Q := by
  rw [h]
  cases h2 : readP (a ++ c) with
  | none =>
    refine ⟨fun _ => false, ?_⟩
    show [] = _
    rw [List.filter_eq_nil_iff.2]
    intro _ _; simp
  | some k2 =>
    obtain ⟨L, L3, rfl, rfl⟩ := read_more h h2
    refine ⟨isSo (.both L3) ms, ?_⟩
    show List.filter _ _ = List.filter _ (List.filter _ _)
    rw [List.filter_filter]
    congr 1
    funext i
    rw [isSo_both, Bool.and_comm]
/-- one step of the comparison -/
theorem none_step {x y : List Nat} {Q : Nat → Bool} {i k v : Nat} (h : y.drop k = (x.drop i).filter Q) (hx : x[i]? = some v) :
    (Q v = true → y[k]? = some v ∧ y.drop (k + 1) = (x.drop (i + 1)).filter Q) ∧ (Q v = false → y[k]? ≠ some v ∧ y.drop k = (x.drop (i + 1)).filter Q) := by
  have hi := (List.getElem?_eq_some_iff.1 hx).1
  have hxi := (List.getElem?_eq_some_iff.1 hx).2
  rw [List.drop_eq_getElem_cons hi, hxi, List.filter_cons] at h
  refine ⟨fun hq => ?_, fun hq => ?_⟩
  · rw [if_pos hq] at h
    have h0 : y[k]? = some v := by
      have := congrArg (fun l => l[0]?) h
      simpa using this
    refine ⟨h0, ?_⟩
    have := congrArg (List.drop 1) h
    simpa [List.drop_drop, Nat.add_comm] using this
  · rw [if_neg (by rw [hq]; decide)] at h
    refine ⟨fun hy => ?_, h⟩
    have hm : v ∈ y.drop k := by
      have := congrArg (fun l => l[0]?) (show y.drop k = y.drop k from rfl)
      rw [List.mem_iff_getElem?]
      exact ⟨0, by simpa using hy⟩
    rw [h] at hm
    have := (List.mem_filter.1 hm).2
    rw [hq] at this
    cases this
theorem none_end {x y : List Nat} {Q : Nat → Bool} {k : Nat} (h : y.drop k = (x.drop x.length).filter Q) (hk : k ≤ y.length) : k = y.length := by
  rw [List.drop_length] at h
  have := congrArg List.length h
  simp at this
  omega
end Go.Proofs.YtjhaccmcjlbllaaGreatDoor
/-
  Walk: cubbylaw10.Few, over rows of messages.
-/
namespace Go.Proofs.YtjhaccmcjlbllaaGreatDoor
open Go.RowKit
set_option linter.unusedSimpArgs false
set_option linter.unusedVariables false
def fewS : Nat → List MsgV → Bool
  | s, [] => decide (s ≤ 60000)
  | s, m :: r => bif decide (60000 < s + 1 + m.b.length) then false else fewS (s + 1 + m.b.length) r
theorem fewS_true : ∀ {s : Nat} {l : List MsgV}, fewS s l = true → s + l.length + (l.map fun m => m.b.length).sum ≤ 60000
  | s, [], h => by
    unfold fewS at h
    simpa using h
  | s, m :: r, h => by
    unfold fewS at h
    cases hd : decide (60000 < s + 1 + m.b.length) with
    | true => rw [hd] at h; cases h
    | false =>
      rw [hd, cond_false] at h
      have := fewS_true h
      rw [List.length_cons, List.map_cons, List.sum_cons]
      omega
theorem fewS_drop {j : Nat} {l : List MsgV} {x : MsgV} (hx : l[j]? = some x) (s : Nat) : fewS s (l.drop j) = bif decide (60000 < s + 1 + x.b.length) then false else fewS (s + 1 + x.b.length) (l.drop (j + 1)) := by
  have hj := (List.getElem?_eq_some_iff.1 hx).1
  rw [List.drop_eq_getElem_cons hj, (List.getElem?_eq_some_iff.1 hx).2]
  rfl
set_option maxRecDepth 100000 in
theorem few_any (nm : ByteArray) (e nx : Nat) (A : Option Addr) (n c : Nat) (l : List MsgV) (w : World) (hs : nm.size ≤ 140737488355328) (hn : n ≤ 140737488355328) (hsz : ∀ m ∈ l, m.b.length ≤ 140737488355328) (hms : Msgs w A n l) :
    Calls Tryz.prog 20 #[.agg (boxC nm e nx A n c)] w fun ev w' => ev = .returned (.bool (fewS nm.size l)) ∧ Below w.heap.size w w' := by
  have hl := hms.len
  refine calls_at 29 Tryz.func20 rfl rfl (Nat.le_of_ble_eq_true rfl) ?_
  intro a hA; replace hA := hA.norm
  refine wS (wR ?_)
  refine wl_new hA rfl rfl (by decide) (fun ev h => by simp [go_sem, h.get 0 rfl]; try first | exact ⟨rfl, rfl⟩ | rfl) fun w1 a (K : Blk _ _ _ _) hz0 hb0 hA => ?_
  replace hms := hms.below hb0
  unfold boxC at K
  revert a; refine wo rfl rfl (by decide) (fun ev e h => by simp [go_sem, h, K.cell] <;> rfl) ?_; intro a hA
  replace hA := hA.keepN [1]
  refine wN (nT (wS (wR ?_)))
  revert a; (iterate 4 refine wo rfl rfl (by decide) (fun ev e h => by simp [go_sem, h, K.cell] <;> rfl) ?_); intro a hA
  replace hA := hA.keepN [1, 3]
  refine wN (nT (wS (wS (wR ?_))))
  revert a; (iterate 4 refine wo rfl rfl (by decide) (fun ev e h => by simp [go_sem, h, K.cell] <;> rfl) ?_); intro a hA
  replace hA := hA.keepN [1, 3, 10, 11]
  refine wN (nT (wB ?_))
  have HB := Below.refl w1.heap.size w1
  refine wp_loop_at (fun kk a wx => ∃ (j s : Nat), j + kk = n ∧ At 29 [(1, .pointer (some ⟨w.heap.size, 0, none⟩)), (3, .int .i64 (s : Nat)), (10, .int .i64 (n : Nat)), (11, .int .i64 (j : Nat))] a ∧ fewS nm.size l = fewS s (l.drop j) ∧ s ≤ 140737488355328 ∧ Below w1.heap.size w1 wx) (n) ?_ ?_
  · exact ⟨0, _, by omega, hA, rfl, hs, HB⟩
  clear HB
  rintro kk a wx ⟨j, s, hjk, hA, hfe, hs2, HB⟩
  have Kx := K.below HB K.lt
  refine wS (wR ?_)
  revert a; refine wo rfl rfl (by decide) (fun ev e h => by simp [go_sem, h] <;> rfl) ?_; intro a hA
  replace hA := hA.keepN [1, 3, 10, 11, 12]
  refine wN (nT (wS ?_))
  refine wp_if hA 12 _ rfl (fun hq => ?yL) (fun hq => ?nL)
  case yL =>
    have hlt : j < n := by simp at hq; omega
    obtain ⟨x, hx⟩ : ∃ x, l[j]? = some x := ⟨_, List.getElem?_eq_getElem (by omega)⟩
    have hxs := hsz x (List.mem_of_getElem? hx)
    obtain ⟨ad, rfl, hadl, k0, k1, k2, k3⟩ := hms.at_ hx
    have z3 := (HB.cell (p := ⟨(ad.add (j * 4)).block, (ad.add (j * 4)).off + 3, none⟩) hadl).trans k3
    have jj0 : (0 : Int) ≤ (j : Int) := by omega
    have jj1 : (j : Int) < (n : Int) := by omega
    have hwj : IntKind.i64.wrap ((j : Int) + 1) = (j : Int) + 1 := IntWalk.i64_in _ (by omega)
    have hw1 : IntKind.i64.wrap ((s : Int) + 1) = (s : Int) + 1 := IntWalk.i64_in _ (by omega)
    have hw2 : IntKind.i64.wrap ((s : Int) + 1 + (x.b.length : Int)) = ((s + 1 + x.b.length : Nat) : Int) := by rw [IntWalk.i64_in _ (by omega)]; omega
    rw [fewS_drop hx] at hfe
    refine wp_skip (nT (wS (wB (wS (wR ?_)))))
    revert a; (iterate 2 refine wo rfl rfl (by decide) (fun ev e h => by simp [go_sem, h, Kx.cell, z3, jj0, jj1, hw1, hw2] <;> rfl) ?_); intro a hA
    replace hA := hA.keepN [1, 3, 4, 10, 11]
    refine wN (nT (wS (wR ?_)))
    revert a; (iterate 10 refine wo rfl rfl (by decide) (fun ev e h => by simp [go_sem, h, Kx.cell, z3, jj0, jj1, hw1, hw2] <;> rfl) ?_); intro a hA
    replace hA := hA.keepN [1, 10, 11, 23]
    revert a; refine wo rfl rfl (by decide) (fun ev e h => by simp [go_sem, h, Kx.cell, z3, jj0, jj1, hw1, hw2] <;> rfl) ?_; intro a hA
    replace hA := hA.keepN [1, 3, 10, 11]
    refine wN (nT (wS (wR ?_)))
    revert a; (iterate 2 refine wo rfl rfl (by decide) (fun ev e h => by simp [go_sem, h, Kx.cell, z3, jj0, jj1, hw1, hw2] <;> rfl) ?_); intro a hA
    replace hA := hA.keepN [1, 3, 10, 11, 25]
    refine wN (nT ?_)
    refine wp_if hA 25 _ rfl (fun hq2 => ?yR) (fun hq2 => ?nR)
    case yR =>
      have hq2 : decide (60000 < s + 1 + x.b.length) = true := by simp at hq2 ⊢; omega
      rw [hq2, cond_true] at hfe
      refine wS (wR ?_)
      revert a; refine wo rfl rfl (by decide) (fun ev e h => by simp [go_sem, h, Kx.cell, z3, jj0, jj1, hw1, hw2] <;> rfl) ?_; intro a hA
      replace hA := hA.keepN [2]
      refine wN (nT (wp_ret (rB (rT (rT (rB (rT ?_)))))))
      refine ret_1 hA 2 rfl rfl ?_
      exact ⟨ret_bool hfe.symm, hb0.trans (HB.mono hb0.size)⟩
    case nR =>
      have hq2 : decide (60000 < s + 1 + x.b.length) = false := by simp at hq2 ⊢; omega
      rw [hq2, cond_false] at hfe
      refine wp_skip (nB (nT (wR ?_)))
      revert a; (iterate 2 refine wo rfl rfl (by decide) (fun ev e h => by simp [go_sem, h, hwj] <;> rfl) ?_); intro a hA
      replace hA := hA.keepN [1, 3, 10, 11]
      refine wN (nT ?_)
      rw [show ((j : Int) + 1) = ((j + 1 : Nat) : Int) by omega] at hA
      exact ⟨kk - 1, by omega, j + 1, s + 1 + x.b.length, by omega, hA, hfe, by simp at hq2; omega, HB⟩
  case nL =>
    have hjn : j = n := by simp at hq; omega
    rw [hjn, ← hl, List.drop_length] at hfe
    replace hA := hA.keepN [3]
    refine wp_exit (xT (xT (xB (nT (wS (wR ?_))))))
    revert a; (iterate 3 refine wo rfl rfl (by decide) (fun ev e h => by simp [go_sem, h] <;> rfl) ?_); intro a hA
    replace hA := hA.keepN [2]
    refine wN (nT (wp_ret ?_))
    refine ret_1 hA 2 rfl rfl ?_
    exact ⟨ret_bool (by rw [hfe]; unfold fewS; simp; omega), hb0.trans (HB.mono hb0.size)⟩
end Go.Proofs.YtjhaccmcjlbllaaGreatDoor
/-
  Walk: is a text a name, as it should be (the document's)?
-/
namespace Go.Proofs.YtjhaccmcjlbllaaGreatDoor
open Go.RowKit
def nameIs (s : ByteArray) : Bool := (refNormV s).2 && ((refNormV s).1.toList == s.toList)
set_option maxRecDepth 100000 in
theorem refNamed_any (s : ByteArray) (hs : s.size ≤ 9223372036854775807) (w : World) :
    Calls Tryz.prog 42 #[.string s] w fun e w' => e = .returned (.bool (nameIs s)) ∧ Below w.heap.size w w' := by
  have R := Lib.hid (refNorm_any s hs w)
  unfold nameIs
  generalize (refNormV s).1 = t at *
  generalize (refNormV s).2 = ok at *
  go_enter Tryz.func42, Tryz.ntmps42
  go_wp2_with fail
  refine R.out.mono ?_
  rintro e w1 ⟨rfl, n, rfl⟩
  have hb := below_drewN (Below.refl w.heap.size w) n
  generalize w.drewN n = w1 at *
  cases ok with
  | true =>
    go_wp2
    go_ret
    exact ⟨rfl, hb⟩
  | false =>
    go_wp2
    go_ret
    exact ⟨rfl, hb⟩
end Go.Proofs.YtjhaccmcjlbllaaGreatDoor
/-
  Messages: what they are in memory; which may be.
-/
namespace Go.Proofs.YtjhaccmcjlbllaaGreatDoor
open Go.RowKit
set_option linter.unusedSimpArgs false
set_option linter.unusedVariables false
def dateOk (t : Int) : Bool := decide (0 ≤ t) && decide (t ≤ 253402300799)
/-- may a time and flags be? -/
def fitsDF (d f : Int) : Bool := dateOk d && decide (0 ≤ f) && decide (f ≤ 31)
def fitsV (m : MsgV) : Bool := fitsDF m.date m.flags
def lastU (l : List MsgV) : Nat → Nat
  | 0 => 0
  | j + 1 => match l[j]? with | some y => y.uid | none => 0
theorem lastU_succ {l : List MsgV} {j : Nat} {x : MsgV} (hx : l[j]? = some x) : lastU l (j + 1) = x.uid := by
  show (match l[j]? with | some y => y.uid | none => 0) = _
  rw [hx]
/-- is a message right where it stands? -/
def msgStep (nx : Nat) (l : List MsgV) (j : Nat) (m : MsgV) : Bool := decide (lastU l j < m.uid) && decide (m.uid < nx) && fitsV m && decide (m.b.length ≤ 20000)
def msgAt (nx : Nat) (l : List MsgV) (j : Nat) : Bool := match l[j]? with | some m => msgStep nx l j m | none => true
def msgsN (nx : Nat) (l : List MsgV) (j : Nat) : Bool := (List.range j).all (msgAt nx l)
theorem msgsN_succ {nx : Nat} {l : List MsgV} {j : Nat} {x : MsgV} (hx : l[j]? = some x) : msgsN nx l (j + 1) = (msgsN nx l j && msgStep nx l j x) := by
  unfold msgsN
  rw [List.range_succ, List.all_append]
  simp [msgAt, hx]
theorem msgs_no {nx : Nat} {l : List MsgV} {j : Nat} {x : MsgV} (hx : l[j]? = some x) (h : msgStep nx l j x = false) : msgsN nx l l.length = false := by
  unfold msgsN
  rw [List.all_eq_false]
  exact ⟨j, List.mem_range.2 (List.getElem?_eq_some_iff.1 hx).1, by unfold msgAt; rw [hx]; simp only [h]; simp⟩
theorem msgs_at {nx : Nat} {l : List MsgV} {j : Nat} {x : MsgV} (hx : l[j]? = some x) (h : msgsN nx l l.length = true) : msgStep nx l j x = true := by
  cases hs : msgStep nx l j x with
  | true => rfl
  | false => rw [msgs_no hx hs] at h; cases h
/-- is a mailbox right? -/
def boxRight (nm : ByteArray) (e nx : Nat) (l : List MsgV) : Bool := nameIs nm && decide (1 ≤ e) && decide (1 ≤ nx) && decide (l.length ≤ 500) && msgsN nx l l.length
end Go.Proofs.YtjhaccmcjlbllaaGreatDoor
/-
  Walk: messages that may be, as the document says.
-/
namespace Go.Proofs.YtjhaccmcjlbllaaGreatDoor
open Go.RowKit
set_option linter.unusedSimpArgs false
set_option linter.unusedVariables false
theorem refFits_any (u d f : Int) (A : Option Addr) (n c : Nat) (w : World) :
    Calls Tryz.prog 43 #[.agg #[.int .u32 u, .int .i64 d, .int .i64 f, .slice A n c]] w fun e w' => e = .returned (.bool (fitsDF d f && decide (n ≤ 20000))) ∧ Below w.heap.size w w' := by
  refine calls_at 27 Tryz.func43 rfl rfl (Nat.le_of_ble_eq_true rfl) ?_
  intro a hA
  simp only [argsE, keepE, lookS, Nat.reduceBEq, cond_true, cond_false, Nat.reduceAdd, gv_tt, gv_ff, Bool.true_and, Bool.false_and, Bool.true_or, Bool.false_or] at hA
  refine wp_seq ?_
  refine wp_region_lit ?_
  -- stop box slot 1
  refine wl_new hA rfl rfl (by decide) (fun ev h => by simp [go_sem, h.get 0 rfl]; try first | exact ⟨rfl, rfl⟩ | rfl) fun w1 a20 (K : Blk _ _ _ _) hz hb hA20 => ?_
  refine wl_op hA20 rfl rfl (by decide) (fun ev h => by simp [go_sem, h.c, K.cell]; try first | exact ⟨rfl, rfl⟩ | rfl) fun a21 hA21 => ?_
  refine wl_nil ?_
  refine n_then ?_
  have hA22 := hA21.keep [1]
  simp only [argsE, keepE, lookS, Nat.reduceBEq, cond_true, cond_false, Nat.reduceAdd, gv_tt, gv_ff, Bool.true_and, Bool.false_and, Bool.true_or, Bool.false_or] at hA22
  clear hA hA20 hA21 a20
  refine wp_seq ?_
  refine wp_region_lit ?_
  refine wl_op hA22 rfl rfl (by decide) (fun ev h => by simp [go_sem, h.get 1 rfl, K.cell]; try first | exact ⟨rfl, rfl⟩ | rfl) fun a23 hA23 => ?_
  refine wl_op hA23 rfl rfl (by decide) (fun ev h => by simp [go_sem, h.get 3 rfl, K.cell]; try first | exact ⟨rfl, rfl⟩ | rfl) fun a24 hA24 => ?_
  refine wl_op hA24 rfl rfl (by decide) (fun ev h => by simp [go_sem, h.c, h.get 4 rfl, K.cell]; try first | exact ⟨rfl, rfl⟩ | rfl) fun a25 hA25 => ?_
  refine wl_op hA25 rfl rfl (by decide) (fun ev h => by simp [go_sem, h.get 5 rfl, K.cell]; try first | exact ⟨rfl, rfl⟩ | rfl) fun a26 hA26 => ?_
  refine wl_guard _ hA26 rfl rfl rfl rfl (by decide) (fun hq ev h => by simp [go_sem, (h.get 1 rfl), K.cell]; try first | exact ⟨rfl, rfl⟩ | rfl) fun a27 hA27 => ?_
  refine wl_guard _ hA27 rfl rfl rfl rfl (by decide) (fun hq ev h => by simp [go_sem, ((h.get 7 rfl).trans (gw_t (beq_t hq))), K.cell]; try first | exact ⟨rfl, rfl⟩ | rfl) fun a28 hA28 => ?_
  refine wl_guard _ hA28 rfl rfl rfl rfl (by decide) (fun hq ev h => by simp [go_sem, h.c, ((h.get 8 rfl).trans (gw_t (beq_t hq))), K.cell]; try first | exact ⟨rfl, rfl⟩ | rfl) fun a29 hA29 => ?_
  refine wl_op hA29 rfl rfl (by decide) (fun ev h => by first | exact pick_and rfl (h.get 6 rfl) (h.get 9 rfl) (h.c _) | exact pick_or rfl (h.get 6 rfl) (h.get 9 rfl) (h.c _) | (simp [go_sem, h.c, h.get 6 rfl, h.get 9 rfl, K.cell, gv_or, gv_and]; try first | exact ⟨rfl, rfl⟩ | rfl)) fun a30 hA30 => ?_
  refine wl_op hA30 rfl rfl (by decide) (fun ev h => by simp [go_sem, h.get 10 rfl, K.cell]; try first | exact ⟨rfl, rfl⟩ | rfl) fun a31 hA31 => ?_
  refine wl_guard _ hA31 rfl rfl rfl rfl (by decide) (fun hq ev h => by simp [go_sem, (h.get 1 rfl), K.cell]; try first | exact ⟨rfl, rfl⟩ | rfl) fun a32 hA32 => ?_
  refine wl_guard _ hA32 rfl rfl rfl rfl (by decide) (fun hq ev h => by simp [go_sem, ((h.get 12 rfl).trans (gw_t (beq_t hq))), K.cell]; try first | exact ⟨rfl, rfl⟩ | rfl) fun a33 hA33 => ?_
  refine wl_guard _ hA33 rfl rfl rfl rfl (by decide) (fun hq ev h => by simp [go_sem, h.c, ((h.get 13 rfl).trans (gw_t (beq_t hq))), K.cell]; try first | exact ⟨rfl, rfl⟩ | rfl) fun a34 hA34 => ?_
  refine wl_op hA34 rfl rfl (by decide) (fun ev h => by first | exact pick_and rfl (h.get 11 rfl) (h.get 14 rfl) (h.c _) | exact pick_or rfl (h.get 11 rfl) (h.get 14 rfl) (h.c _) | (simp [go_sem, h.c, h.get 11 rfl, h.get 14 rfl, K.cell, gv_or, gv_and]; try first | exact ⟨rfl, rfl⟩ | rfl)) fun a35 hA35 => ?_
  refine wl_op hA35 rfl rfl (by decide) (fun ev h => by simp [go_sem, h.get 15 rfl, K.cell]; try first | exact ⟨rfl, rfl⟩ | rfl) fun a36 hA36 => ?_
  refine wl_guard _ hA36 rfl rfl rfl rfl (by decide) (fun hq ev h => by simp [go_sem, (h.get 1 rfl), K.cell]; try first | exact ⟨rfl, rfl⟩ | rfl) fun a37 hA37 => ?_
  refine wl_guard _ hA37 rfl rfl rfl rfl (by decide) (fun hq ev h => by simp [go_sem, ((h.get 17 rfl).trans (gw_t (beq_t hq))), K.cell]; try first | exact ⟨rfl, rfl⟩ | rfl) fun a38 hA38 => ?_
  refine wl_guard _ hA38 rfl rfl rfl rfl (by decide) (fun hq ev h => by simp [go_sem, h.c, ((h.get 18 rfl).trans (gw_t (beq_t hq))), K.cell]; try first | exact ⟨rfl, rfl⟩ | rfl) fun a39 hA39 => ?_
  refine wl_op hA39 rfl rfl (by decide) (fun ev h => by first | exact pick_and rfl (h.get 16 rfl) (h.get 19 rfl) (h.c _) | exact pick_or rfl (h.get 16 rfl) (h.get 19 rfl) (h.c _) | (simp [go_sem, h.c, h.get 16 rfl, h.get 19 rfl, K.cell, gv_or, gv_and]; try first | exact ⟨rfl, rfl⟩ | rfl)) fun a40 hA40 => ?_
  refine wl_op hA40 rfl rfl (by decide) (fun ev h => by simp [go_sem, h.get 20 rfl, K.cell]; try first | exact ⟨rfl, rfl⟩ | rfl) fun a41 hA41 => ?_
  refine wl_guard _ hA41 rfl rfl rfl rfl (by decide) (fun hq ev h => by simp [go_sem, (h.get 1 rfl), K.cell]; try first | exact ⟨rfl, rfl⟩ | rfl) fun a42 hA42 => ?_
  refine wl_guard _ hA42 rfl rfl rfl rfl (by decide) (fun hq ev h => by simp [go_sem, ((h.get 22 rfl).trans (gw_t (beq_t hq))), K.cell]; try first | exact ⟨rfl, rfl⟩ | rfl) fun a43 hA43 => ?_
  refine wl_guard _ hA43 rfl rfl rfl rfl (by decide) (fun hq ev h => by simp [go_sem, ((h.get 23 rfl).trans (gw_t (beq_t hq))), K.cell]; try first | exact ⟨rfl, rfl⟩ | rfl) fun a44 hA44 => ?_
  refine wl_guard _ hA44 rfl rfl rfl rfl (by decide) (fun hq ev h => by simp [go_sem, h.c, ((h.get 24 rfl).trans (gw_t (beq_t hq))), K.cell]; try first | exact ⟨rfl, rfl⟩ | rfl) fun a45 hA45 => ?_
  refine wl_op hA45 rfl rfl (by decide) (fun ev h => by first | exact pick_and rfl (h.get 21 rfl) (h.get 25 rfl) (h.c _) | exact pick_or rfl (h.get 21 rfl) (h.get 25 rfl) (h.c _) | (simp [go_sem, h.c, h.get 21 rfl, h.get 25 rfl, K.cell, gv_or, gv_and]; try first | exact ⟨rfl, rfl⟩ | rfl)) fun a46 hA46 => ?_
  refine wl_op hA46 rfl rfl (by decide) (fun ev h => by simp [go_sem, h.get 26 rfl, K.cell]; try first | exact ⟨rfl, rfl⟩ | rfl) fun a47 hA47 => ?_
  refine wl_nil ?_
  refine n_then ?_
  have hA48 := hA47.keep [2]
  simp only [argsE, keepE, lookS, Nat.reduceBEq, cond_true, cond_false, Nat.reduceAdd, gv_tt, gv_ff, Bool.true_and, Bool.false_and, Bool.true_or, Bool.false_or] at hA48
  clear hA22 hA23 hA24 hA25 hA26 hA27 hA28 hA29 hA30 hA31 hA32 hA33 hA34 hA35 hA36 hA37 hA38 hA39 hA40 hA41 hA42 hA43 hA44 hA45 hA46 hA47 a21 a23 a24 a25 a26 a27 a28 a29 a30 a31 a32 a33 a34 a35 a36 a37 a38 a39 a40 a41 a42 a43 a44 a45 a46
  refine wp_ret ?_
  -- ret
  refine ret_1 hA48 2 rfl rfl ?_
  refine ⟨ret_bool ?_, hb⟩
  unfold fitsDF dateOk
  rw [show decide (f ≤ 31) = decide (f < 32) by rw [Bool.eq_iff_iff]; simp; omega, show decide (n ≤ 20000) = decide ((n : Int) ≤ 20000) by rw [Bool.eq_iff_iff]; simp; omega]
end Go.Proofs.YtjhaccmcjlbllaaGreatDoor
/-
  Walk: a mailbox that is right, as the document says.
-/
namespace Go.Proofs.YtjhaccmcjlbllaaGreatDoor
open Go.RowKit
set_option linter.unusedSimpArgs false
set_option linter.unusedVariables false
theorem headR (nm : ByteArray) (e nx n : Nat) : (!nameIs nm || ((e : Int) == 0) || ((nx : Int) == 0) || decide ((500 : Int) < (n : Int))) = !(nameIs nm && decide (1 ≤ e) && decide (1 ≤ nx) && decide (n ≤ 500)) := by
  rw [show ((e : Int) == 0) = !decide (1 ≤ e) by rw [Bool.eq_iff_iff]; simp, show ((nx : Int) == 0) = !decide (1 ≤ nx) by rw [Bool.eq_iff_iff]; simp, show decide ((500 : Int) < (n : Int)) = !decide (n ≤ 500) by rw [Bool.eq_iff_iff]; simp; omega]
  simp only [Bool.not_and]
theorem Msgs.prev {w : World} {ad : Addr} {n j : Nat} {l : List MsgV} (h : Msgs w (some ad) n l) (hn : j < n) (hj : 0 < j) :
    (ad.add ((j - 1) * 4)).block < w.heap.size ∧ w.cell? (ad.add ((j - 1) * 4)) = some (.int .u32 (lastU l j : Nat)) := by
  obtain ⟨i, rfl⟩ : ∃ i, j = i + 1 := ⟨j - 1, by omega⟩
  have hl := h.len
  obtain ⟨x, hx⟩ : ∃ x, l[i]? = some x := ⟨_, List.getElem?_eq_getElem (by omega)⟩
  obtain ⟨ad', e, hb, h0, _⟩ := h.at_ hx
  injection e with e
  subst e
  rw [Nat.add_sub_cancel, lastU_succ hx]
  exact ⟨hb, h0⟩
theorem refStepE (nx : Nat) (l : List MsgV) (j : Nat) (x : MsgV) : (((x.uid : Int) == 0 || decide (nx ≤ x.uid) || (!fitsDF x.date x.flags || !decide (x.b.length ≤ 20000)) || decide (0 < j) && decide (x.uid ≤ lastU l j))) = !msgStep nx l j x := by
  unfold msgStep fitsV
  rw [show ((x.uid : Int) == 0) = decide (x.uid = 0) by rw [Bool.eq_iff_iff]; simp, show decide (lastU l j < x.uid) = !decide (x.uid ≤ lastU l j) by rw [Bool.eq_iff_iff]; simp, show decide (x.uid < nx) = !decide (nx ≤ x.uid) by rw [Bool.eq_iff_iff]; simp]
  have h0 : j = 0 → lastU l j = 0 := fun e => by subst e; rfl
  have h1 : (decide (x.uid = 0) || decide (0 < j) && decide (x.uid ≤ lastU l j)) = decide (x.uid ≤ lastU l j) := by
    rcases Nat.eq_zero_or_pos j with h | h
    · rw [h0 h, h]
      rw [Bool.eq_iff_iff]; simp
    · rw [Bool.eq_iff_iff]; simp; omega
  rw [← h1]
  clear h1
  generalize decide (x.uid ≤ lastU l j) = b at *
  generalize decide (x.uid = 0) = a at *
  generalize decide (0 < j) = b2 at *
  generalize decide (nx ≤ x.uid) = c
  generalize fitsDF x.date x.flags = d
  generalize decide (x.b.length ≤ 20000) = e
  cases a <;> cases b <;> cases b2 <;> cases c <;> cases d <;> cases e <;> rfl
set_option maxRecDepth 100000 in
set_option maxHeartbeats 1000000 in
theorem refRight_any (nm : ByteArray) (A : Option Addr) (c n e nx : Nat) (l : List MsgV) (w : World) (hs : nm.size ≤ 9223372036854775807) (hn : n ≤ 9223372036854775807) (hms : Msgs w A n l) :
    Calls Tryz.prog 21 #[.agg (boxC nm e nx A n c)] w fun ev w' => ev = .returned (.bool (boxRight nm e nx l)) ∧ Below w.heap.size w w' := by
  have hl := hms.len
  refine calls_at 68 Tryz.func21 rfl rfl (Nat.le_of_ble_eq_true rfl) ?_
  intro a hA
  simp only [argsE, keepE, lookS, Nat.reduceBEq, cond_true, cond_false, Nat.reduceAdd, gv_tt, gv_ff, Bool.true_and, Bool.false_and, Bool.true_or, Bool.false_or] at hA
  refine wp_seq ?_
  refine wp_region_lit ?_
  -- stop box slot 1
  refine wl_new hA rfl rfl (by decide) (fun ev h => by simp [go_sem, h.get 0 rfl]; try first | exact ⟨rfl, rfl⟩ | rfl) fun w1 a1 (K : Blk _ _ _ _) hz hb0 hA1 => ?_
  replace hms := hms.below hb0
  have HB := Below.refl w1.heap.size w1
  unfold boxC at K
  refine wl_op hA1 rfl rfl (by decide) (fun ev h => by simp [go_sem, h.c, (K.below HB K.lt).cell]; try first | exact ⟨rfl, rfl⟩ | rfl) fun a2 hA2 => ?_
  refine wl_nil ?_
  refine n_then ?_
  have hA3 := hA2.keep [1]
  simp only [argsE, keepE, lookS, Nat.reduceBEq, cond_true, cond_false, Nat.reduceAdd, gv_tt, gv_ff, Bool.true_and, Bool.false_and, Bool.true_or, Bool.false_or] at hA3
  clear hA hA1 hA2 a1
  refine wp_seq ?_
  refine wp_seq ?_
  refine wp_region_lit ?_
  refine wl_op hA3 rfl rfl (by decide) (fun ev h => by simp [go_sem, h.get 1 rfl, (K.below HB K.lt).cell]; try first | exact ⟨rfl, rfl⟩ | rfl) fun a4 hA4 => ?_
  refine wl_op hA4 rfl rfl (by decide) (fun ev h => by simp [go_sem, h.get 5 rfl, (K.below HB K.lt).cell]; try first | exact ⟨rfl, rfl⟩ | rfl) fun a5 hA5 => ?_
  -- stop call slot 7
  refine wl_call hA5 rfl rfl (by decide) (fun ev h => by simp [go_sem, h.get 6 rfl, (K.below HB K.lt).cell, h.f]; try first | exact ⟨rfl, rfl⟩ | rfl) (refNamed_any nm hs _) ?_
  rintro e w2 ⟨rfl, hb⟩
  refine ⟨_, rfl, fun a6 hA6 => ?_⟩
  replace HB := HB.trans (hb.mono HB.size)
  have K0 := K.below HB K.lt
  refine wl_op hA6 rfl rfl (by decide) (fun ev h => by simp [go_sem, h.get 7 rfl, K0.cell]; try first | exact ⟨rfl, rfl⟩ | rfl) fun a7 hA7 => ?_
  refine wl_op hA7 rfl rfl (by decide) (fun ev h => by simp [go_sem, h.get 8 rfl, K0.cell]; try first | exact ⟨rfl, rfl⟩ | rfl) fun a8 hA8 => ?_
  refine wl_guard _ hA8 rfl rfl rfl rfl (by decide) (fun hq ev h => by simp [go_sem, (h.get 1 rfl), K0.cell]; try first | exact ⟨rfl, rfl⟩ | rfl) fun a9 hA9 => ?_
  refine wl_guard _ hA9 rfl rfl rfl rfl (by decide) (fun hq ev h => by simp [go_sem, ((h.get 10 rfl).trans (gw_t (beq_t hq))), K0.cell]; try first | exact ⟨rfl, rfl⟩ | rfl) fun a10 hA10 => ?_
  refine wl_guard _ hA10 rfl rfl rfl rfl (by decide) (fun hq ev h => by simp [go_sem, h.c, ((h.get 11 rfl).trans (gw_t (beq_t hq))), K0.cell]; try first | exact ⟨rfl, rfl⟩ | rfl) fun a11 hA11 => ?_
  refine wl_op hA11 rfl rfl (by decide) (fun ev h => by first | exact pick_and rfl (h.get 9 rfl) (h.c _) (h.get 12 rfl) | exact pick_or rfl (h.get 9 rfl) (h.c _) (h.get 12 rfl) | (simp [go_sem, h.c, h.get 9 rfl, h.get 12 rfl, K0.cell, gv_or, gv_and]; try first | exact ⟨rfl, rfl⟩ | rfl)) fun a12 hA12 => ?_
  refine wl_op hA12 rfl rfl (by decide) (fun ev h => by simp [go_sem, h.get 13 rfl, K0.cell]; try first | exact ⟨rfl, rfl⟩ | rfl) fun a13 hA13 => ?_
  refine wl_guard _ hA13 rfl rfl rfl rfl (by decide) (fun hq ev h => by simp [go_sem, (h.get 1 rfl), K0.cell]; try first | exact ⟨rfl, rfl⟩ | rfl) fun a14 hA14 => ?_
  refine wl_guard _ hA14 rfl rfl rfl rfl (by decide) (fun hq ev h => by simp [go_sem, ((h.get 15 rfl).trans (gw_t (beq_t hq))), K0.cell]; try first | exact ⟨rfl, rfl⟩ | rfl) fun a15 hA15 => ?_
  refine wl_guard _ hA15 rfl rfl rfl rfl (by decide) (fun hq ev h => by simp [go_sem, h.c, ((h.get 16 rfl).trans (gw_t (beq_t hq))), K0.cell]; try first | exact ⟨rfl, rfl⟩ | rfl) fun a16 hA16 => ?_
  refine wl_op hA16 rfl rfl (by decide) (fun ev h => by first | exact pick_and rfl (h.get 14 rfl) (h.c _) (h.get 17 rfl) | exact pick_or rfl (h.get 14 rfl) (h.c _) (h.get 17 rfl) | (simp [go_sem, h.c, h.get 14 rfl, h.get 17 rfl, K0.cell, gv_or, gv_and]; try first | exact ⟨rfl, rfl⟩ | rfl)) fun a17 hA17 => ?_
  refine wl_op hA17 rfl rfl (by decide) (fun ev h => by simp [go_sem, h.get 18 rfl, K0.cell]; try first | exact ⟨rfl, rfl⟩ | rfl) fun a18 hA18 => ?_
  refine wl_guard _ hA18 rfl rfl rfl rfl (by decide) (fun hq ev h => by simp [go_sem, (h.get 1 rfl), K0.cell]; try first | exact ⟨rfl, rfl⟩ | rfl) fun a19 hA19 => ?_
  refine wl_guard _ hA19 rfl rfl rfl rfl (by decide) (fun hq ev h => by simp [go_sem, ((h.get 20 rfl).trans (gw_t (beq_t hq))), K0.cell]; try first | exact ⟨rfl, rfl⟩ | rfl) fun a20 hA20 => ?_
  refine wl_guard _ hA20 rfl rfl rfl rfl (by decide) (fun hq ev h => by simp [go_sem, ((h.get 21 rfl).trans (gw_t (beq_t hq))), K0.cell]; try first | exact ⟨rfl, rfl⟩ | rfl) fun a21 hA21 => ?_
  refine wl_guard _ hA21 rfl rfl rfl rfl (by decide) (fun hq ev h => by simp [go_sem, h.c, ((h.get 22 rfl).trans (gw_t (beq_t hq))), K0.cell]; try first | exact ⟨rfl, rfl⟩ | rfl) fun a22 hA22 => ?_
  refine wl_op hA22 rfl rfl (by decide) (fun ev h => by first | exact pick_and rfl (h.get 19 rfl) (h.c _) (h.get 23 rfl) | exact pick_or rfl (h.get 19 rfl) (h.c _) (h.get 23 rfl) | (simp [go_sem, h.c, h.get 19 rfl, h.get 23 rfl, K0.cell, gv_or, gv_and]; try first | exact ⟨rfl, rfl⟩ | rfl)) fun a23 hA23 => ?_
  refine wl_nil ?_
  refine n_then ?_
  have hA24 := hA23.keep [1, 24]
  simp only [argsE, keepE, lookS, Nat.reduceBEq, cond_true, cond_false, Nat.reduceAdd, gv_tt, gv_ff, Bool.true_and, Bool.false_and, Bool.true_or, Bool.false_or] at hA24
  clear hA3 hA4 hA5 hA6 hA7 hA8 hA9 hA10 hA11 hA12 hA13 hA14 hA15 hA16 hA17 hA18 hA19 hA20 hA21 hA22 hA23 a2 a4 a5 a6 a7 a8 a9 a10 a11 a12 a13 a14 a15 a16 a17 a18 a19 a20 a21 a22
  -- cond
  obtain ⟨q, hqe⟩ : ∃ q, (nameIs nm && decide (1 ≤ e) && decide (1 ≤ nx) && decide (n ≤ 500)) = q := ⟨_, rfl⟩
  rw [headR, hqe] at hA24
  have hbr : boxRight nm e nx l = (q && msgsN nx l n) := by unfold boxRight; rw [hl, hqe]
  rw [hbr]
  refine wp_if hA24 24 _ rfl (fun hq => ?yA) (fun hq => ?nA)
  case yA =>
    have hq : q = false := by simpa using hq
    subst hq
    refine wp_seq ?_
    refine wp_region_lit ?_
    refine wl_op hA24 rfl rfl (by decide) (fun ev h => by simp [go_sem, h.c, K0.cell]; try first | exact ⟨rfl, rfl⟩ | rfl) fun a25 hA25 => ?_
    refine wl_nil ?_
    refine n_then ?_
    have hA26 := hA25.keep [2]
    simp only [argsE, keepE, lookS, Nat.reduceBEq, cond_true, cond_false, Nat.reduceAdd, gv_tt, gv_ff, Bool.true_and, Bool.false_and, Bool.true_or, Bool.false_or] at hA26
    clear hA24 hA25
    refine wp_ret ?_
    refine r_then ?_
    refine ret_1 hA26 2 rfl rfl ?_
    exact ⟨rfl, hb0.trans (HB.mono hb0.size)⟩
  case nA =>
    have hq : q = true := by simpa using hq
    subst hq
    rw [Bool.true_and]
    refine wp_skip ?_
    refine n_then ?_
    refine wp_seq ?_
    refine wp_seq ?_
    refine wp_region_lit ?_
    refine wl_op hA24 rfl rfl (by decide) (fun ev h => by simp [go_sem, h.get 1 rfl, K0.cell]; try first | exact ⟨rfl, rfl⟩ | rfl) fun a27 hA27 => ?_
    refine wl_op hA27 rfl rfl (by decide) (fun ev h => by simp [go_sem, h.get 25 rfl, K0.cell]; try first | exact ⟨rfl, rfl⟩ | rfl) fun a28 hA28 => ?_
    refine wl_op hA28 rfl rfl (by decide) (fun ev h => by simp [go_sem, h.get 26 rfl, K0.cell]; try first | exact ⟨rfl, rfl⟩ | rfl) fun a29 hA29 => ?_
    refine wl_op hA29 rfl rfl (by decide) (fun ev h => by simp [go_sem, h.c, K0.cell]; try first | exact ⟨rfl, rfl⟩ | rfl) fun a30 hA30 => ?_
    refine wl_nil ?_
    refine n_then ?_
    have hA31 := hA30.keep [1, 27, 28]
    simp only [argsE, keepE, lookS, Nat.reduceBEq, cond_true, cond_false, Nat.reduceAdd, gv_tt, gv_ff, Bool.true_and, Bool.false_and, Bool.true_or, Bool.false_or] at hA31
    clear hA24 hA27 hA28 hA29 hA30 a27 a28 a29
    refine wp_block ?_
    -- loop
    refine wp_loop_at (fun k a wx => ∃ (j : Nat), j + k = n ∧ At 68 [(1, .pointer (some ⟨w.heap.size, 0, none⟩)), (27, .int .i64 (n : Nat)), (28, .int .i64 (j : Nat))] a ∧ msgsN nx l j = true ∧ Below w1.heap.size w1 wx) (n) ?_ ?_
    · exact ⟨0, by omega, hA31, rfl, HB⟩
    clear HB K0
    rintro k a wx ⟨j, hjk, hA, hall, HB⟩
    refine wp_seq ?_
    refine wp_region_lit ?_
    refine wl_op hA rfl rfl (by decide) (fun ev h => by simp [go_sem, h.get 28 rfl, h.get 27 rfl]; try first | exact ⟨rfl, rfl⟩ | rfl) fun a32 hA32 => ?_
    refine wl_nil ?_
    refine n_then ?_
    have hA33 := hA32.keep [1, 27, 28, 29]
    simp only [argsE, keepE, lookS, Nat.reduceBEq, cond_true, cond_false, Nat.reduceAdd, gv_tt, gv_ff, Bool.true_and, Bool.false_and, Bool.true_or, Bool.false_or] at hA33
    clear hA hA32
    refine wp_seq ?_
    -- cond
    refine wp_if hA33 29 _ rfl (fun hq => ?yL) (fun hq => ?nL)
    case yL =>
      have hlt : j < n := by simp at hq; omega
      obtain ⟨x, hx⟩ : ∃ x, l[j]? = some x := ⟨_, List.getElem?_eq_getElem (by omega)⟩
      obtain ⟨ad, rfl, hadl, k0, k1, k2, k3⟩ := hms.at_ hx
      have z0 := (HB.cell hadl).trans k0
      have z1 := (HB.cell (p := ⟨(ad.add (j * 4)).block, (ad.add (j * 4)).off + 1, none⟩) hadl).trans k1
      have z2 := (HB.cell (p := ⟨(ad.add (j * 4)).block, (ad.add (j * 4)).off + 2, none⟩) hadl).trans k2
      have z3 := (HB.cell (p := ⟨(ad.add (j * 4)).block, (ad.add (j * 4)).off + 3, none⟩) hadl).trans k3
      have jj0 : (0 : Int) ≤ (j : Int) := by omega
      have jj1 : (j : Int) < (n : Int) := by omega
      have hwj : IntKind.i64.wrap ((j : Int) + 1) = (j : Int) + 1 := IntWalk.i64_in _ (by omega)
      have hwk : IntKind.i64.wrap ((j : Int) - 1) = (j : Int) - 1 := IntWalk.i64_in _ (by omega)
      have hpi : decide (0 < j) = true → 0 < j := fun h => by simpa using h
      have hpj : decide (0 < j) = true → (1 : Int) ≤ (j : Int) := fun h => by have := hpi h; omega
      have hpk : (j : Int) - 1 < (n : Int) := by omega
      have K0 := K.below HB K.lt
      refine wp_skip ?_
      refine n_then ?_
      refine wp_seq ?_
      refine wp_block ?_
      refine wp_seq ?_
      refine wp_region_lit ?_
      refine wl_op hA33 rfl rfl (by decide) (fun ev h => by simp [go_sem, h.get 28 rfl, K0.cell, z0, z1, z2, z3, jj0, jj1]; try first | exact ⟨rfl, rfl⟩ | rfl) fun a34 hA34 => ?_
      refine wl_op hA34 rfl rfl (by decide) (fun ev h => by simp [go_sem, h.get 30 rfl, K0.cell, z0, z1, z2, z3, jj0, jj1]; try first | exact ⟨rfl, rfl⟩ | rfl) fun a35 hA35 => ?_
      refine wl_nil ?_
      refine n_then ?_
      have hA36 := hA35.keep [1, 3, 27, 28]
      simp only [argsE, keepE, lookS, Nat.reduceBEq, cond_true, cond_false, Nat.reduceAdd, gv_tt, gv_ff, Bool.true_and, Bool.false_and, Bool.true_or, Bool.false_or] at hA36
      clear hA33 hA34 hA35 a34
      refine wp_seq ?_
      refine wp_region_lit ?_
      refine wl_op hA36 rfl rfl (by decide) (fun ev h => by simp [go_sem, h.get 1 rfl, K0.cell, z0, z1, z2, z3, jj0, jj1]; try first | exact ⟨rfl, rfl⟩ | rfl) fun a37 hA37 => ?_
      refine wl_op hA37 rfl rfl (by decide) (fun ev h => by simp [go_sem, h.get 31 rfl, K0.cell, z0, z1, z2, z3, jj0, jj1]; try first | exact ⟨rfl, rfl⟩ | rfl) fun a38 hA38 => ?_
      refine wl_op hA38 rfl rfl (by decide) (fun ev h => by simp [go_sem, h.get 3 rfl, K0.cell, z0, z1, z2, z3, jj0, jj1]; try first | exact ⟨rfl, rfl⟩ | rfl) fun a39 hA39 => ?_
      refine wl_op hA39 rfl rfl (by decide) (fun ev h => by simp [go_sem, h.get 32 rfl, h.get 33 rfl, K0.cell, z0, z1, z2, z3, jj0, jj1]; try first | exact ⟨rfl, rfl⟩ | rfl) fun a40 hA40 => ?_
      refine wl_op hA40 rfl rfl (by decide) (fun ev h => by simp [go_sem, h.get 34 rfl, K0.cell, z0, z1, z2, z3, jj0, jj1]; try first | exact ⟨rfl, rfl⟩ | rfl) fun a41 hA41 => ?_
      -- stop alloc slot 4
      refine wl_local [.int .u32 (x.uid : Nat), .int .i64 x.date, .int .i64 x.flags, .slice x.a x.b.length x.c] hA41 rfl rfl (by decide) (fun ev h => by simp [go_sem, K0.cell, z0, z1, z2, z3, jj0, jj1]; try first | exact ⟨rfl, rfl⟩ | rfl) rfl rfl (by rfl) (fun w1 g ev hb h => by simp [go_sem, h.get 4 rfl, h.get 35 rfl, K0.cell, z0, z1, z2, z3, jj0, jj1, setAll, hb.cell, hb.frozen]) fun w5 a42 (Ke : Blk _ _ _ _) hz5 hb hA42 => ?_
      replace K0 := K0.below hb K0.lt
      replace HB := HB.trans (hb.mono HB.size)
      refine wl_nil ?_
      refine n_then ?_
      have hA43 := hA42.keep [1, 3, 4, 27, 28]
      simp only [argsE, keepE, lookS, Nat.reduceBEq, cond_true, cond_false, Nat.reduceAdd, gv_tt, gv_ff, Bool.true_and, Bool.false_and, Bool.true_or, Bool.false_or] at hA43
      clear hA36 hA37 hA38 hA39 hA40 hA41 hA42 a35 a37 a38 a39 a40 a41
      refine wp_seq ?_
      refine wp_any_at hA43 ((.det ?dD0) :: (.det ?dD1) :: (.det ?dD2) :: (.det ?dD3) :: (.det ?dD4) :: (.det ?dD5) :: (.det ?dD6) :: (.det ?dD7) :: (.det ?dD8) :: (.det ?dD9) :: (.det ?dD10) :: (.det ?dD11) :: (.det ?dD12) :: (.det ?dD13) :: (.det ?dD14) :: (.det ?dD15) :: (.det ?dD16) :: (.det ?dD17) :: (.det ?dD18) :: (.det ?dD19) :: (.det ?dD20) :: (.det ?dD21) :: (.det ?dD22) :: (.det ?dD23) :: (.det ?dD24) :: (.det ?dD25) :: (.det ?dD26) :: (.det ?dD27) :: (.det ?dD28) :: (.det ?dD29) :: (.det ?dD30) :: []) [] (fun wy => Below w5.heap.size w5 wy) (TSp [] Grows) (by kernel_rfl) rfl (by kernel_rfl) (by kernel_rfl) rfl ((Below.refl w5.heap.size w5).drew) (stab_sp [] (true :: true :: true :: true :: true :: true :: true :: true :: true :: true :: true :: true :: true :: true :: true :: true :: true :: true :: true :: true :: true :: true :: true :: true :: true :: true :: true :: true :: true :: true :: true :: []) (true :: true :: true :: true :: true :: true :: true :: true :: true :: true :: true :: true :: true :: true :: true :: true :: true :: true :: true :: true :: true :: true :: true :: true :: true :: true :: true :: true :: true :: true :: true :: []) [] rfl rfl rfl (by kernel_rfl) ⟨trivial, trivial, trivial, trivial, trivial, trivial, trivial, trivial, trivial, trivial, trivial, trivial, trivial, trivial, trivial, trivial, trivial, trivial, trivial, trivial, trivial, trivial, trivial, trivial, trivial, trivial, trivial, trivial, trivial, trivial, trivial, trivial⟩ trivial) (fun _ h => by cases h) (fun _ _ _ _ _ h => by cases h) (fun _ h => by cases h) ⟨?oD0, ?oD1, ?oD2, ?oD3, ?oD4, ?oD5, ?oD6, ?oD7, ?oD8, ?oD9, ?oD10, ?oD11, ?oD12, ?oD13, ?oD14, ?oD15, ?oD16, ?oD17, ?oD18, ?oD19, ?oD20, ?oD21, ?oD22, ?oD23, ?oD24, ?oD25, ?oD26, ?oD27, ?oD28, ?oD29, ?oD30, trivial⟩ (by kernel_rfl) ?fD
      case oD0 =>
        intro ev wo hev hC hs hph
        have e4 := see_env hA43 hs 4 (by kernel_rfl) (by kernel_rfl) rfl
        exact ob_det (wanted_none rfl) rfl (by kernel_rfl) hC (TSp.of rfl (Grows.refl _)) (by simp [go_sem, e4]; try first | exact ⟨rfl, rfl⟩ | rfl)
      case oD1 =>
        intro ev wo hev hC hs hph
        have e36 := see_det hs 36 0 (by kernel_rfl) (by kernel_rfl) rfl
        have Kx := K0.below hC K0.lt
        have Kex := Ke.below hC Ke.lt
        have pz := fun h => ((HB.trans (hC.mono HB.size)).cell (hms.prev hlt h).1).trans (hms.prev hlt h).2
        exact ob_det (wanted_none rfl) rfl (by kernel_rfl) hC (TSp.of rfl (Grows.refl _)) (by simp [go_sem, e36, Kx.cell, Kex.cell, K0.cell, Ke.cell]; try first | exact ⟨rfl, rfl⟩ | rfl)
      case oD2 =>
        intro ev wo hev hC hs hph
        have e37 := see_det hs 37 1 (by kernel_rfl) (by kernel_rfl) rfl
        exact ob_det (wanted_none rfl) rfl (by kernel_rfl) hC (TSp.of rfl (Grows.refl _)) (by simp [go_sem, e37, hev.const]; try first | exact ⟨rfl, rfl⟩ | rfl)
      case oD3 =>
        intro ev wo hev hC hs hph
        have e38 := see_det hs 38 2 (by kernel_rfl) (by kernel_rfl) rfl
        exact ob_det (wanted_none rfl) rfl (by kernel_rfl) hC (TSp.of rfl (Grows.refl _)) (by simp [go_sem, e38]; try first | exact ⟨rfl, rfl⟩ | rfl)
      case oD4 =>
        intro ev wo hev hC hs hph
        have e4 := see_env hA43 hs 4 (by kernel_rfl) (by kernel_rfl) rfl
        have e39 := see_det hs 39 3 (by kernel_rfl) (by kernel_rfl) rfl
        exact ob_gv _ rfl rfl e39 rfl (by kernel_rfl) hC (TSp.of rfl (Grows.refl _)) (fun hq => by simp [go_sem, e4, e39]; try first | exact ⟨rfl, rfl⟩ | rfl) (by rfl)
      case oD5 =>
        intro ev wo hev hC hs hph
        have e40 := see_det hs 40 4 (by kernel_rfl) (by kernel_rfl) rfl
        have e39 := see_det hs 39 3 (by kernel_rfl) (by kernel_rfl) rfl
        have Kx := K0.below hC K0.lt
        have Kex := Ke.below hC Ke.lt
        have pz := fun h => ((HB.trans (hC.mono HB.size)).cell (hms.prev hlt h).1).trans (hms.prev hlt h).2
        exact ob_gv _ rfl rfl e39 rfl (by kernel_rfl) hC (TSp.of rfl (Grows.refl _)) (fun hq => by simp [go_sem, (e40.trans (gw_t (beq_t hq))), e39, Kx.cell, Kex.cell, K0.cell, Ke.cell]; try first | exact ⟨rfl, rfl⟩ | rfl) (by rfl)
      case oD6 =>
        intro ev wo hev hC hs hph
        have e1 := see_env hA43 hs 1 (by kernel_rfl) (by kernel_rfl) rfl
        have e39 := see_det hs 39 3 (by kernel_rfl) (by kernel_rfl) rfl
        exact ob_gv _ rfl rfl e39 rfl (by kernel_rfl) hC (TSp.of rfl (Grows.refl _)) (fun hq => by simp [go_sem, e1, e39]; try first | exact ⟨rfl, rfl⟩ | rfl) (by rfl)
      case oD7 =>
        intro ev wo hev hC hs hph
        have e42 := see_det hs 42 6 (by kernel_rfl) (by kernel_rfl) rfl
        have e39 := see_det hs 39 3 (by kernel_rfl) (by kernel_rfl) rfl
        have Kx := K0.below hC K0.lt
        have Kex := Ke.below hC Ke.lt
        have pz := fun h => ((HB.trans (hC.mono HB.size)).cell (hms.prev hlt h).1).trans (hms.prev hlt h).2
        exact ob_gv _ rfl rfl e39 rfl (by kernel_rfl) hC (TSp.of rfl (Grows.refl _)) (fun hq => by simp [go_sem, (e42.trans (gw_t (beq_t hq))), e39, Kx.cell, Kex.cell, K0.cell, Ke.cell]; try first | exact ⟨rfl, rfl⟩ | rfl) (by rfl)
      case oD8 =>
        intro ev wo hev hC hs hph
        have e41 := see_det hs 41 5 (by kernel_rfl) (by kernel_rfl) rfl
        have e43 := see_det hs 43 7 (by kernel_rfl) (by kernel_rfl) rfl
        have e39 := see_det hs 39 3 (by kernel_rfl) (by kernel_rfl) rfl
        exact ob_gv _ rfl rfl e39 rfl (by kernel_rfl) hC (TSp.of rfl (Grows.refl _)) (fun hq => by simp [go_sem, (e41.trans (gw_t (beq_t hq))), (e43.trans (gw_t (beq_t hq))), e39]; try first | exact ⟨rfl, rfl⟩ | rfl) (by rfl)
      case oD9 =>
        intro ev wo hev hC hs hph
        have e39 := see_det hs 39 3 (by kernel_rfl) (by kernel_rfl) rfl
        have e44 := see_det hs 44 8 (by kernel_rfl) (by kernel_rfl) rfl
        exact ob_det (wanted_none rfl) rfl (by kernel_rfl) hC (TSp.of rfl (Grows.refl _)) (by first | (refine (pick_and ?_ (e39) (hev.const _) (e44)); rfl) | (rw [pick_and _ (e39) (hev.const _) (e44)]; rfl) | (refine (pick_or ?_ (e39) (hev.const _) (e44)); rfl) | (rw [pick_or _ (e39) (hev.const _) (e44)]; rfl) | (simp [go_sem, e39, e44, hev.const]; try first | exact ⟨rfl, rfl⟩ | rfl))
      case oD10 =>
        intro ev wo hev hC hs hph
        have e45 := see_det hs 45 9 (by kernel_rfl) (by kernel_rfl) rfl
        exact ob_det (wanted_none rfl) rfl (by kernel_rfl) hC (TSp.of rfl (Grows.refl _)) (by simp [go_sem, e45]; try first | exact ⟨rfl, rfl⟩ | rfl)
      case oD11 =>
        intro ev wo hev hC hs hph
        have e4 := see_env hA43 hs 4 (by kernel_rfl) (by kernel_rfl) rfl
        have e46 := see_det hs 46 10 (by kernel_rfl) (by kernel_rfl) rfl
        have Kx := K0.below hC K0.lt
        have Kex := Ke.below hC Ke.lt
        have pz := fun h => ((HB.trans (hC.mono HB.size)).cell (hms.prev hlt h).1).trans (hms.prev hlt h).2
        exact ob_gv _ rfl rfl e46 rfl (by kernel_rfl) hC (TSp.of rfl (Grows.refl _)) (fun hq => by simp [go_sem, e4, e46, Kx.cell, Kex.cell, K0.cell, Ke.cell]; try first | exact ⟨rfl, rfl⟩ | rfl) (by rfl)
      case oD12 =>
        intro ev wo hev hC hs hph
        have e47 := see_det hs 47 11 (by kernel_rfl) (by kernel_rfl) rfl
        have e46 := see_det hs 46 10 (by kernel_rfl) (by kernel_rfl) rfl
        have Kx := K0.below hC K0.lt
        have Kex := Ke.below hC Ke.lt
        have pz := fun h => ((HB.trans (hC.mono HB.size)).cell (hms.prev hlt h).1).trans (hms.prev hlt h).2
        exact ob_gcall _ rfl rfl e46 rfl (by kernel_rfl) (by rfl) (fun hq => by simp [go_sem, (e47.trans (gw_t (beq_t hq))), e46, hev.func, hev.const]; try first | exact ⟨rfl, rfl⟩ | rfl) (fun hq => refFits_any (x.uid : Nat) x.date x.flags x.a x.b.length x.c _) (fun w3 hb3 => ⟨hC.trans (hb3.mono hC.size), TSp.of rfl hb3⟩)
      case oD13 =>
        intro ev wo hev hC hs hph
        have e48 := see_det hs 48 12 (by kernel_rfl) (by kernel_rfl) rfl
        have e46 := see_det hs 46 10 (by kernel_rfl) (by kernel_rfl) rfl
        exact ob_gv _ rfl rfl e46 rfl (by kernel_rfl) hC (TSp.of rfl (Grows.refl _)) (fun hq => by simp [go_sem, (e48.trans (gw_t (beq_t hq))), e46]; try first | exact ⟨rfl, rfl⟩ | rfl) (by rfl)
      case oD14 =>
        intro ev wo hev hC hs hph
        have e46 := see_det hs 46 10 (by kernel_rfl) (by kernel_rfl) rfl
        have e49 := see_det hs 49 13 (by kernel_rfl) (by kernel_rfl) rfl
        exact ob_det (wanted_none rfl) rfl (by kernel_rfl) hC (TSp.of rfl (Grows.refl _)) (by first | (refine (pick_and ?_ (e46) (hev.const _) (e49)); rfl) | (rw [pick_and _ (e46) (hev.const _) (e49)]; rfl) | (refine (pick_or ?_ (e46) (hev.const _) (e49)); rfl) | (rw [pick_or _ (e46) (hev.const _) (e49)]; rfl) | (simp [go_sem, e46, e49, hev.const]; try first | exact ⟨rfl, rfl⟩ | rfl))
      case oD15 =>
        intro ev wo hev hC hs hph
        have e50 := see_det hs 50 14 (by kernel_rfl) (by kernel_rfl) rfl
        exact ob_det (wanted_none rfl) rfl (by kernel_rfl) hC (TSp.of rfl (Grows.refl _)) (by simp [go_sem, e50]; try first | exact ⟨rfl, rfl⟩ | rfl)
      case oD16 =>
        intro ev wo hev hC hs hph
        have e3 := see_env hA43 hs 3 (by kernel_rfl) (by kernel_rfl) rfl
        have e51 := see_det hs 51 15 (by kernel_rfl) (by kernel_rfl) rfl
        exact ob_gv _ rfl rfl e51 rfl (by kernel_rfl) hC (TSp.of rfl (Grows.refl _)) (fun hq => by simp [go_sem, e3, e51]; try first | exact ⟨rfl, rfl⟩ | rfl) (by rfl)
      case oD17 =>
        intro ev wo hev hC hs hph
        have e52 := see_det hs 52 16 (by kernel_rfl) (by kernel_rfl) rfl
        have e51 := see_det hs 51 15 (by kernel_rfl) (by kernel_rfl) rfl
        exact ob_gv _ rfl rfl e51 rfl (by kernel_rfl) hC (TSp.of rfl (Grows.refl _)) (fun hq => by simp [go_sem, (e52.trans (gw_t (beq_t hq))), e51, hev.const]; try first | exact ⟨rfl, rfl⟩ | rfl) (by rfl)
      case oD18 =>
        intro ev wo hev hC hs hph
        have e53 := see_det hs 53 17 (by kernel_rfl) (by kernel_rfl) rfl
        have e51 := see_det hs 51 15 (by kernel_rfl) (by kernel_rfl) rfl
        exact ob_gv _ rfl rfl e51 rfl (by kernel_rfl) hC (TSp.of rfl (Grows.refl _)) (fun hq => by simp [go_sem, (e53.trans (gw_t (beq_t hq))), e51]; try first | exact ⟨rfl, rfl⟩ | rfl) (by rfl)
      case oD19 =>
        intro ev wo hev hC hs hph
        have e1 := see_env hA43 hs 1 (by kernel_rfl) (by kernel_rfl) rfl
        have e54 := see_det hs 54 18 (by kernel_rfl) (by kernel_rfl) rfl
        exact ob_gw _ _ rfl rfl e54 rfl (by kernel_rfl) hC (TSp.of rfl (Grows.refl _)) (fun hq hr => by simp [go_sem, e1, e54]; try first | exact ⟨rfl, rfl⟩ | rfl) (by rfl)
      case oD20 =>
        intro ev wo hev hC hs hph
        have e55 := see_det hs 55 19 (by kernel_rfl) (by kernel_rfl) rfl
        have e54 := see_det hs 54 18 (by kernel_rfl) (by kernel_rfl) rfl
        have Kx := K0.below hC K0.lt
        have Kex := Ke.below hC Ke.lt
        have pz := fun h => ((HB.trans (hC.mono HB.size)).cell (hms.prev hlt h).1).trans (hms.prev hlt h).2
        exact ob_gw _ _ rfl rfl e54 rfl (by kernel_rfl) hC (TSp.of rfl (Grows.refl _)) (fun hq hr => by simp [go_sem, (e55.trans (gw_t (and_beq hq hr))), e54, Kx.cell, Kex.cell, K0.cell, Ke.cell]; try first | exact ⟨rfl, rfl⟩ | rfl) (by rfl)
      case oD21 =>
        intro ev wo hev hC hs hph
        have e3 := see_env hA43 hs 3 (by kernel_rfl) (by kernel_rfl) rfl
        have e54 := see_det hs 54 18 (by kernel_rfl) (by kernel_rfl) rfl
        exact ob_gw _ _ rfl rfl e54 rfl (by kernel_rfl) hC (TSp.of rfl (Grows.refl _)) (fun hq hr => by simp [go_sem, e3, e54]; try first | exact ⟨rfl, rfl⟩ | rfl) (by rfl)
      case oD22 =>
        intro ev wo hev hC hs hph
        have e57 := see_det hs 57 21 (by kernel_rfl) (by kernel_rfl) rfl
        have e54 := see_det hs 54 18 (by kernel_rfl) (by kernel_rfl) rfl
        have Kx := K0.below hC K0.lt
        have Kex := Ke.below hC Ke.lt
        have pz := fun h => ((HB.trans (hC.mono HB.size)).cell (hms.prev hlt h).1).trans (hms.prev hlt h).2
        exact ob_gw _ _ rfl rfl e54 rfl (by kernel_rfl) hC (TSp.of rfl (Grows.refl _)) (fun hq hr => by simp [go_sem, (e57.trans (gw_t (and_beq hq hr))), e54, hev.const, hwk]; try first | exact ⟨rfl, rfl⟩ | rfl) (by rfl)
      case oD23 =>
        intro ev wo hev hC hs hph
        have e56 := see_det hs 56 20 (by kernel_rfl) (by kernel_rfl) rfl
        have e58 := see_det hs 58 22 (by kernel_rfl) (by kernel_rfl) rfl
        have e54 := see_det hs 54 18 (by kernel_rfl) (by kernel_rfl) rfl
        have Kx := K0.below hC K0.lt
        have Kex := Ke.below hC Ke.lt
        have pz := fun h => ((HB.trans (hC.mono HB.size)).cell (hms.prev hlt h).1).trans (hms.prev hlt h).2
        exact ob_gw _ _ rfl rfl e54 rfl (by kernel_rfl) hC (TSp.of rfl (Grows.refl _)) (fun hq hr => by simp [go_sem, (e56.trans (gw_t (and_beq hq hr))), (e58.trans (gw_t (and_beq hq hr))), e54, hpj hr, hpk]; try first | exact ⟨rfl, rfl⟩ | rfl) (by rfl)
      case oD24 =>
        intro ev wo hev hC hs hph
        have e59 := see_det hs 59 23 (by kernel_rfl) (by kernel_rfl) rfl
        have e54 := see_det hs 54 18 (by kernel_rfl) (by kernel_rfl) rfl
        exact ob_gw _ _ rfl rfl e54 rfl (by kernel_rfl) hC (TSp.of rfl (Grows.refl _)) (fun hq hr => by simp [go_sem, (e59.trans (gw_t (and_beq hq hr))), e54]; try first | exact ⟨rfl, rfl⟩ | rfl) (by rfl)
      case oD25 =>
        intro ev wo hev hC hs hph
        have e60 := see_det hs 60 24 (by kernel_rfl) (by kernel_rfl) rfl
        have e54 := see_det hs 54 18 (by kernel_rfl) (by kernel_rfl) rfl
        have Kx := K0.below hC K0.lt
        have Kex := Ke.below hC Ke.lt
        have pz := fun h => ((HB.trans (hC.mono HB.size)).cell (hms.prev hlt h).1).trans (hms.prev hlt h).2
        exact ob_gw _ _ rfl rfl e54 rfl (by kernel_rfl) hC (TSp.of rfl (Grows.refl _)) (fun hq hr => by simp [go_sem, (e60.trans (gw_t (and_beq hq hr))), e54, Kx.cell, Kex.cell, K0.cell, Ke.cell, pz (hpi hr)]; try first | exact ⟨rfl, rfl⟩ | rfl) (by rfl)
      case oD26 =>
        intro ev wo hev hC hs hph
        have e4 := see_env hA43 hs 4 (by kernel_rfl) (by kernel_rfl) rfl
        have e54 := see_det hs 54 18 (by kernel_rfl) (by kernel_rfl) rfl
        exact ob_gw _ _ rfl rfl e54 rfl (by kernel_rfl) hC (TSp.of rfl (Grows.refl _)) (fun hq hr => by simp [go_sem, e4, e54]; try first | exact ⟨rfl, rfl⟩ | rfl) (by rfl)
      case oD27 =>
        intro ev wo hev hC hs hph
        have e62 := see_det hs 62 26 (by kernel_rfl) (by kernel_rfl) rfl
        have e54 := see_det hs 54 18 (by kernel_rfl) (by kernel_rfl) rfl
        have Kx := K0.below hC K0.lt
        have Kex := Ke.below hC Ke.lt
        have pz := fun h => ((HB.trans (hC.mono HB.size)).cell (hms.prev hlt h).1).trans (hms.prev hlt h).2
        exact ob_gw _ _ rfl rfl e54 rfl (by kernel_rfl) hC (TSp.of rfl (Grows.refl _)) (fun hq hr => by simp [go_sem, (e62.trans (gw_t (and_beq hq hr))), e54, Kx.cell, Kex.cell, K0.cell, Ke.cell]; try first | exact ⟨rfl, rfl⟩ | rfl) (by rfl)
      case oD28 =>
        intro ev wo hev hC hs hph
        have e61 := see_det hs 61 25 (by kernel_rfl) (by kernel_rfl) rfl
        have e63 := see_det hs 63 27 (by kernel_rfl) (by kernel_rfl) rfl
        have e54 := see_det hs 54 18 (by kernel_rfl) (by kernel_rfl) rfl
        exact ob_gw _ _ rfl rfl e54 rfl (by kernel_rfl) hC (TSp.of rfl (Grows.refl _)) (fun hq hr => by simp [go_sem, (e61.trans (gw_t (and_beq hq hr))), (e63.trans (gw_t (and_beq hq hr))), e54]; try first | exact ⟨rfl, rfl⟩ | rfl) (by rfl)
      case oD29 =>
        intro ev wo hev hC hs hph
        have e54 := see_det hs 54 18 (by kernel_rfl) (by kernel_rfl) rfl
        have e64 := see_det hs 64 28 (by kernel_rfl) (by kernel_rfl) rfl
        have e51 := see_det hs 51 15 (by kernel_rfl) (by kernel_rfl) rfl
        exact ob_gv _ rfl rfl e51 rfl (by kernel_rfl) hC (TSp.of rfl (Grows.refl _)) (fun hq => by first | (refine (pick_and ?_ ((e54.trans (gw_t (beq_t hq)))) ((e64.trans (gw_a (beq_t hq)))) (hev.const _)); rfl) | (rw [pick_and _ ((e54.trans (gw_t (beq_t hq)))) ((e64.trans (gw_a (beq_t hq)))) (hev.const _)]; rfl) | (refine (pick_or ?_ ((e54.trans (gw_t (beq_t hq)))) ((e64.trans (gw_a (beq_t hq)))) (hev.const _)); rfl) | (rw [pick_or _ ((e54.trans (gw_t (beq_t hq)))) ((e64.trans (gw_a (beq_t hq)))) (hev.const _)]; rfl) | (simp [go_sem, (e54.trans (gw_t (beq_t hq))), (e64.trans (gw_a (beq_t hq))), e51, hev.const]; try first | exact ⟨rfl, rfl⟩ | rfl)) (by rfl)
      case oD30 =>
        intro ev wo hev hC hs hph
        have e51 := see_det hs 51 15 (by kernel_rfl) (by kernel_rfl) rfl
        have e65 := see_det hs 65 29 (by kernel_rfl) (by kernel_rfl) rfl
        exact ob_det (wanted_none rfl) rfl (by kernel_rfl) hC (TSp.of rfl (Grows.refl _)) (by first | (refine (pick_and ?_ (e51) (hev.const _) (e65)); rfl) | (rw [pick_and _ (e51) (hev.const _) (e65)]; rfl) | (refine (pick_or ?_ (e51) (hev.const _) (e65)); rfl) | (rw [pick_or _ (e51) (hev.const _) (e65)]; rfl) | (simp [go_sem, e51, e65, hev.const]; try first | exact ⟨rfl, rfl⟩ | rfl))
      intro sg wf hC hph
      intro a44 hA44
      refine n_then ?_
      have hA45 := hA44.keep [1, 27, 28, 66]
      simp only [argsE, keepE, lookS, Nat.reduceBEq, cond_true, cond_false, Nat.reduceAdd, gv_tt, gv_ff, Bool.true_and, Bool.false_and, Bool.true_or, Bool.false_or] at hA45
      clear hA43 hA44 a42
      rw [refStepE nx l j x] at hA45
      obtain ⟨q, hqe⟩ : ∃ q, msgStep nx l j x = q := ⟨_, rfl⟩
      rw [hqe] at hA45
      have HB := HB.trans (hC.mono HB.size)
      refine wp_if hA45 66 _ rfl (fun hq2 => ?yR) (fun hq2 => ?nR)
      case yR =>
        have hq2 : q = false := by simpa using hq2
        subst hq2
        refine wp_seq ?_
        refine wp_region_lit ?_
        refine wl_op hA45 rfl rfl (by decide) (fun ev h => by simp [go_sem, h.c, hwj]; try first | exact ⟨rfl, rfl⟩ | rfl) fun a46 hA46 => ?_
        refine wl_nil ?_
        refine n_then ?_
        have hA47 := hA46.keep [2]
        simp only [argsE, keepE, lookS, Nat.reduceBEq, cond_true, cond_false, Nat.reduceAdd, gv_tt, gv_ff, Bool.true_and, Bool.false_and, Bool.true_or, Bool.false_or] at hA47
        clear hA45 hA46
        refine wp_ret ?_
        refine r_block ?_
        refine r_then ?_
        refine r_then ?_
        refine r_block ?_
        refine r_then ?_
        refine ret_1 hA47 2 rfl rfl ?_
        exact ⟨ret_bool (by rw [← hl]; exact (msgs_no hx hqe).symm), hb0.trans (HB.mono hb0.size)⟩
      case nR =>
        have hq2 : q = true := by simpa using hq2
        subst hq2
        refine wp_skip ?_
        refine n_block ?_
        refine n_then ?_
        refine wp_region_lit ?_
        refine wl_op hA45 rfl rfl (by decide) (fun ev h => by simp [go_sem, h.c, h.get 28 rfl, hwj]; try first | exact ⟨rfl, rfl⟩ | rfl) fun a48 hA48 => ?_
        refine wl_op hA48 rfl rfl (by decide) (fun ev h => by simp [go_sem, h.get 67 rfl, hwj]; try first | exact ⟨rfl, rfl⟩ | rfl) fun a49 hA49 => ?_
        refine wl_nil ?_
        refine n_then ?_
        have hA50 := hA49.keep [1, 27, 28]
        simp only [argsE, keepE, lookS, Nat.reduceBEq, cond_true, cond_false, Nat.reduceAdd, gv_tt, gv_ff, Bool.true_and, Bool.false_and, Bool.true_or, Bool.false_or] at hA50
        clear hA45 hA48 hA49 a48
        -- round
        rw [show ((j : Int) + 1) = ((j + 1 : Nat) : Int) by omega] at hA50
        exact ⟨k - 1, by omega, j + 1, by omega, hA50, by rw [msgsN_succ hx, hall, hqe]; rfl, HB⟩
    case nL =>
      have hjn : j = n := by simp at hq; omega
      subst hjn
      refine wp_exit ?_
      refine x_then ?_
      refine x_then ?_
      refine x_block ?_
      refine n_then ?_
      have hA51 := hA33.keep []
      simp only [argsE, keepE, lookS, Nat.reduceBEq, cond_true, cond_false, Nat.reduceAdd, gv_tt, gv_ff, Bool.true_and, Bool.false_and, Bool.true_or, Bool.false_or] at hA51
      clear hA33
      refine wp_seq ?_
      refine wp_region_lit ?_
      refine wl_op hA51 rfl rfl (by decide) (fun ev h => by simp [go_sem, h.c]; try first | exact ⟨rfl, rfl⟩ | rfl) fun a52 hA52 => ?_
      refine wl_nil ?_
      refine n_then ?_
      have hA53 := hA52.keep [2]
      simp only [argsE, keepE, lookS, Nat.reduceBEq, cond_true, cond_false, Nat.reduceAdd, gv_tt, gv_ff, Bool.true_and, Bool.false_and, Bool.true_or, Bool.false_or] at hA53
      clear hA51 hA52
      refine wp_ret ?_
      refine ret_1 hA53 2 rfl rfl ?_
      exact ⟨ret_bool hall.symm, hb0.trans (HB.mono hb0.size)⟩
end Go.Proofs.YtjhaccmcjlbllaaGreatDoor
