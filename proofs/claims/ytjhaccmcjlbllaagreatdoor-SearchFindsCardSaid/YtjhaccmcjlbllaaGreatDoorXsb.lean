/-
  Walks: strings.Trim at an ASCII cutset.
-/
import Derived.Test.YtjhaccmcjlbllaaGreatDoorXsa
import Derived.Lib.IndexMore
import Derived.Laws.AppendOwn
import Derived.Maps.AppendAt
import Derived.Lib.ParseIntB
import Derived.Lib.ItoaNum
import Derived.Lib.SplitLaws
import Derived.Lib.SliceRun
import Derived.Laws.BitsAllLaws
import Derived.Lib.SmallJoins
import Derived.Lib.AppendIntMem
import Derived.Lib.ItoaMem
import Derived.Lib.Walk
import Derived.Shelf.Strconv.Itoa1
import Derived.BigCall
import Derived.BigGuard
import Derived.Test.YtjhaccmcjlbllaaGreatDoorChecked
import Derived.Shelf.Pu.ErrVarParseUint
import Derived.Lib.AtoiTie
import Derived.Laws.OwnMore
import Derived.Deep.AppendLies
import Derived.OwnWalk
import Derived.Lib.Split
namespace Go.Proofs.YtjhaccmcjlbllaaGreatDoor
open Go.RowKit
set_option linter.unusedSimpArgs false
set_option linter.unusedVariables false
def trimL (cut : List UInt8) (l : List UInt8) : List UInt8 := l.dropWhile (cut.contains ·)
/-- what is left without the last ones that are in a set -/
def trimR (cut : List UInt8) : List UInt8 → List UInt8
  | [] => []
  | x :: r => bif (x :: r).all (cut.contains ·) then [] else x :: trimR cut r
theorem trimR_snoc (cut : List UInt8) (x : UInt8) : ∀ l : List UInt8, trimR cut (l ++ [x]) = bif cut.contains x then trimR cut l else l ++ [x]
  | [] => by
    show (bif ([x]).all (cut.contains ·) then [] else x :: trimR cut []) = _
    rw [show ([x]).all (cut.contains ·) = cut.contains x by rw [List.all_cons, List.all_nil, Bool.and_true]]
    cases cut.contains x <;> rfl
  | y :: r => by
    have ih := trimR_snoc cut x r
    rw [List.cons_append]
    show (bif (y :: (r ++ [x])).all (cut.contains ·) then [] else y :: trimR cut (r ++ [x])) = bif cut.contains x then (bif (y :: r).all (cut.contains ·) then [] else y :: trimR cut r) else y :: (r ++ [x])
    rw [ih, ← List.cons_append, List.all_append, show ([x]).all (cut.contains ·) = cut.contains x by rw [List.all_cons, List.all_nil, Bool.and_true]]
    cases cut.contains x
    · rw [Bool.and_false]; rfl
    · rw [Bool.and_true]; rfl
theorem set_cell {w : World} {g : Nat} {T : TypeId} {cut : List UInt8} (K : Blk w g T (Lib.setCells cut)) (x : UInt8) : w.cell? ⟨g, x.toNat, none⟩ = some (.bool (cut.contains x)) := by
  rw [K.cell, Lib.setCells_at]
set_option maxRecDepth 100000 in
theorem trimLeft_any (cut l : List UInt8) (g : Nat) (w : World) (hl : l.length ≤ 4000000) (K : Blk w g 174 (Lib.setCells cut)) :
    Calls Tryz.prog 129 #[.string (St l), .pointer (some ⟨g, 0, none⟩)] w fun ev w' => ev = .returned (.string (St (trimL cut l))) ∧ w' = w := by
  refine calls_at 16 Tryz.func129 rfl rfl (Nat.le_of_ble_eq_true rfl) ?_
  intro a hA; replace hA := hA.norm
  refine wS (wR ?_)
  revert a; refine wo rfl rfl (by decide) (fun ev e h => by simp [go_sem, h] <;> rfl) ?_; intro a hA
  replace hA := hA.keepN [0, 1]
  refine wN (nT (wS (wB ?_)))
  refine wp_loop_at (fun k a wx => ∃ (m : List UInt8), m.length = k ∧ trimL cut l = trimL cut m ∧ At 16 [(0, .string (St m)), (1, .pointer (some ⟨g, 0, none⟩))] a ∧ wx = w) (l.length) ?_ ?_
  · exact ⟨l, rfl, rfl, hA, rfl⟩
  rintro k a wx ⟨m, hm, ht, hA, rfl⟩
  refine wS (wS (wR ?_))
  revert a; (iterate 3 refine wo rfl rfl (by decide) (fun ev e h => by simp [go_sem, h] <;> rfl) ?_); intro a hA
  replace hA := hA.keepN [0, 1, 7]
  refine wN (nT ?_)
  refine wp_if hA 7 _ rfl (fun hq => ?yL) (fun hq => ?nL)
  case yL =>
    match m, hm with
    | [], hm =>
      exact absurd hq (by decide)
    | x :: r, hm =>
      refine wp_skip (nT (wB (wS (wS (wR ?_)))))
      revert a; (iterate 3 refine wo rfl rfl (by decide) (fun ev e h => by simp [go_sem, h] <;> rfl) ?_); intro a hA
      refine wl_call hA rfl rfl (by decide) (fun ev h => exec_call Tryz.func174 (by kernel_rfl) rfl (h.f _) (by first | (simp only [mL, h.get 8 rfl, h.get 10 rfl, h.c] <;> rfl) | (simp [mL, h.get 8 rfl, h.get 10 rfl, h.c] <;> rfl))) (Tryz.asciiSet_contains g x (cut.contains x) _ (set_cell K x)) ?_
      rintro e wa ⟨rfl, rfl⟩
      refine ⟨_, rfl, fun a hA => ?_⟩
      revert a; refine wo rfl rfl (by decide) (fun ev e h => by simp [go_sem, h] <;> rfl) ?_; intro a hA
      replace hA := hA.keepN [0, 1, 12]
      refine wN (nT ?_)
      refine wp_if hA 12 _ rfl (fun hq2 => ?yR) (fun hq2 => ?nR)
      case yR =>
        have hx : cut.contains x = false := by simpa using hq2
        replace hA := hA.keepN [0]
        refine wp_exit (xT (x_miss (by decide) (xT (xB (nT (wS (wR ?_)))))))
        revert a; (iterate 2 refine wo rfl rfl (by decide) (fun ev e h => by simp [go_sem, h] <;> rfl) ?_); intro a hA
        replace hA := hA.keepN [4]
        refine wN (nT (wp_ret ?_))
        refine ret_1 hA 4 rfl rfl ?_
        refine ⟨?_, rfl⟩
        rw [ht]
        unfold trimL
        rw [List.dropWhile_cons, hx]
        rfl
      case nR =>
        have hx : cut.contains x = true := by simpa using hq2
        have hext : (St (x :: r)).extract 1 (r.length + 1) = St r := extract_drop (x :: r) 1 _ rfl
        have hle : (1 : Int) ≤ (r.length : Int) + 1 := by omega
        refine wp_skip (nT (wR ?_))
        revert a; (iterate 3 refine wo rfl rfl (by decide) (fun ev e h => by simp [go_sem, h, hext, hle] <;> rfl) ?_); intro a hA
        replace hA := hA.keepN [0, 1]
        refine wN (nB (nT ?_))
        refine ⟨r.length, by rw [← hm]; exact Nat.lt_succ_self _, r, rfl, ?_, hA, rfl⟩
        rw [ht]
        unfold trimL
        rw [List.dropWhile_cons, hx]
        rfl
  case nL =>
    have hm0 : m = [] := by
      have : m.length = 0 := by simp at hq; exact hq ▸ rfl
      exact List.length_eq_zero_iff.1 this
    subst hm0
    replace hA := hA.keepN [0]
    refine wp_exit (xT (xT (xB (nT (wS (wR ?_))))))
    revert a; (iterate 2 refine wo rfl rfl (by decide) (fun ev e h => by simp [go_sem, h] <;> rfl) ?_); intro a hA
    replace hA := hA.keepN [4]
    refine wN (nT (wp_ret ?_))
    refine ret_1 hA 4 rfl rfl ?_
    exact ⟨by rw [ht]; rfl, rfl⟩
set_option maxRecDepth 100000 in
theorem trimRight_any (cut l : List UInt8) (g : Nat) (w : World) (hl : l.length ≤ 4000000) (K : Blk w g 174 (Lib.setCells cut)) :
    Calls Tryz.prog 130 #[.string (St l), .pointer (some ⟨g, 0, none⟩)] w fun ev w' => ev = .returned (.string (St (trimR cut l))) ∧ w' = w := by
  refine calls_at 22 Tryz.func130 rfl rfl (Nat.le_of_ble_eq_true rfl) ?_
  intro a hA; replace hA := hA.norm
  refine wS (wR ?_)
  revert a; refine wo rfl rfl (by decide) (fun ev e h => by simp [go_sem, h] <;> rfl) ?_; intro a hA
  replace hA := hA.keepN [0, 1]
  refine wN (nT (wS (wB ?_)))
  refine wp_loop_at (fun k a wx => ∃ (m : List UInt8), m.length = k ∧ k ≤ 4000000 ∧ trimR cut l = trimR cut m ∧ At 22 [(0, .string (St m)), (1, .pointer (some ⟨g, 0, none⟩))] a ∧ wx = w) (l.length) ?_ ?_
  · exact ⟨l, rfl, hl, rfl, hA, rfl⟩
  rintro k a wx ⟨m, hm, hk, ht, hA, rfl⟩
  refine wS (wS (wR ?_))
  revert a; (iterate 3 refine wo rfl rfl (by decide) (fun ev e h => by simp [go_sem, h] <;> rfl) ?_); intro a hA
  replace hA := hA.keepN [0, 1, 7]
  refine wN (nT ?_)
  refine wp_if hA 7 _ rfl (fun hq => ?yL) (fun hq => ?nL)
  case yL =>
    obtain ⟨q, rfl⟩ : ∃ q, k = q + 1 := ⟨k - 1, by simp at hq; omega⟩
    obtain ⟨r, x, hM, hr⟩ := snoc_of hm
    have e1 : IntKind.i64.wrap (q : Int) = (q : Int) := IntWalk.i64_in _ (by omega)
    have j1 : (0 : Int) ≤ (q : Int) := by omega
    have j2 : (q : Int) < (q : Int) + 1 := by omega
    have j3 : q < q + 1 := by omega
    have hgx : ∀ h : q < (St m).size, (St m)[q]'h = x := fun h => by subst hM; exact get_snoc r x q hr h
    refine wp_skip (nT (wB (wS (wS (wR ?_)))))
    revert a; (iterate 6 refine wo rfl rfl (by decide) (fun ev e h => by simp [go_sem, h, hm, e1, j1, j2, j3, hgx] <;> rfl) ?_); intro a hA
    refine wl_call hA rfl rfl (by decide) (fun ev h => exec_call Tryz.func174 (by kernel_rfl) rfl (h.f _) (by first | (simp only [mL, h.get 8 rfl, h.get 13 rfl, h.c] <;> rfl) | (simp [mL, h.get 8 rfl, h.get 13 rfl, h.c, hm, e1, j1, j2, j3, hgx] <;> rfl))) (Tryz.asciiSet_contains g x (cut.contains x) _ (set_cell K x)) ?_
    rintro e wa ⟨rfl, rfl⟩
    refine ⟨_, rfl, fun a hA => ?_⟩
    have hsn := trimR_snoc cut x r
    rw [← hM] at hsn
    revert a; refine wo rfl rfl (by decide) (fun ev e h => by simp [go_sem, h, hm, e1, j1, j2, j3, hgx] <;> rfl) ?_; intro a hA
    replace hA := hA.keepN [0, 1, 15]
    refine wN (nT ?_)
    refine wp_if hA 15 _ rfl (fun hq2 => ?yR) (fun hq2 => ?nR)
    case yR =>
      have hx : cut.contains x = false := by simpa using hq2
      replace hA := hA.keepN [0]
      refine wp_exit (xT (x_miss (by decide) (xT (xB (nT (wS (wR ?_)))))))
      revert a; (iterate 2 refine wo rfl rfl (by decide) (fun ev e h => by simp [go_sem, h, hm, e1, j1, j2, j3, hgx] <;> rfl) ?_); intro a hA
      replace hA := hA.keepN [4]
      refine wN (nT (wp_ret ?_))
      refine ret_1 hA 4 rfl rfl ?_
      refine ⟨?_, rfl⟩
      rw [ht, hsn, hx, hM]
      rfl
    case nR =>
      have hx : cut.contains x = true := by simpa using hq2
      have hext : (St m).extract 0 q = St r := by rw [extract_take, hM, ← hr, List.take_left' rfl]
      have j4 : (q : Int) ≤ (q : Int) + 1 := by omega
      refine wp_skip (nT (wR ?_))
      revert a; (iterate 6 refine wo rfl rfl (by decide) (fun ev e h => by simp [go_sem, h, hm, e1, j1, j4, hext] <;> rfl) ?_); intro a hA
      replace hA := hA.keepN [0, 1]
      refine wN (nB (nT ?_))
      refine ⟨q, Nat.lt_succ_self _, r, hr, by omega, ?_, hA, rfl⟩
      rw [ht, hsn, hx]
      rfl
  case nL =>
    have hm0 : m = [] := by simpa using hq
    subst hm0
    replace hA := hA.keepN [0]
    refine wp_exit (xT (xT (xB (nT (wS (wR ?_))))))
    revert a; (iterate 2 refine wo rfl rfl (by decide) (fun ev e h => by simp [go_sem, h] <;> rfl) ?_); intro a hA
    replace hA := hA.keepN [4]
    refine wN (nT (wp_ret ?_))
    refine ret_1 hA 4 rfl rfl ?_
    exact ⟨by rw [ht]; rfl, rfl⟩
def trimS (cut l : List UInt8) : List UInt8 := trimL cut (trimR cut l)
theorem trimR_len (cut : List UInt8) : ∀ l : List UInt8, (trimR cut l).length ≤ l.length
  | [] => Nat.le_refl _
  | x :: r => by
    unfold trimR
    cases (x :: r).all (cut.contains ·)
    · have := trimR_len cut r
      simp only [cond_false, List.length_cons]
      omega
    · simp
theorem trimR_all {cut l : List UInt8} (h : l.all (cut.contains ·) = true) : trimR cut l = [] := by
  cases l with
  | nil => rfl
  | cons x r => unfold trimR; rw [h]; rfl
theorem trimR_ne {cut : List UInt8} : ∀ {l : List UInt8}, l.all (cut.contains ·) = false → ∃ r x, trimR cut l = r ++ [x] ∧ cut.contains x = false
  | [], h => by cases h
  | x :: r, h => by
    unfold trimR
    rw [h, cond_false]
    cases hr : r.all (cut.contains ·) with
    | true =>
      rw [trimR_all hr]
      rw [List.all_cons, hr, Bool.and_true] at h
      exact ⟨[], x, rfl, h⟩
    | false =>
      obtain ⟨s, y, e, hy⟩ := trimR_ne hr
      exact ⟨x :: s, y, by rw [e]; rfl, hy⟩
/-- nothing is left just of what is in the set -/
theorem trimS_nil (cut l : List UInt8) : (trimS cut l == []) = l.all (cut.contains ·) := by
  unfold trimS
  cases h : l.all (cut.contains ·) with
  | true => rw [trimR_all h]; rfl
  | false =>
    obtain ⟨r, x, e, hx⟩ := trimR_ne h
    rw [e]
    unfold trimL
    have : ∀ s : List UInt8, (s ++ [x]).dropWhile (cut.contains ·) ≠ [] := by
      intro s
      induction s with
      | nil => rw [List.nil_append, List.dropWhile_cons, hx]; simp
      | cons y s ih =>
        rw [List.cons_append, List.dropWhile_cons]
        split
        · exact ih
        · simp
    simpa using this r
set_option maxRecDepth 100000 in
theorem trim_any (cut l : List UInt8) (w : World) (hl : l.length ≤ 4000000) (h2 : 2 ≤ cut.length) (hc : cut.length ≤ 1000) (hascii : ∀ (j : Nat) b, cut[j]? = some b → b.toNat < 128) :
    Calls Tryz.prog 95 #[.string (St l), .string (St cut)] w fun ev w' => ev = .returned (.string (St (trimS cut l))) ∧ Below w.heap.size w w' := by
  have hv : ∀ w, (zeroValue 174).run Tryz.prog w = .ok (.agg (Array.replicate 256 (.bool false))) w := fun w => by kernel_rfl
  obtain ⟨C, hC⟩ : ∃ C, St cut = C := ⟨_, rfl⟩
  have hsz : C.size = cut.length := by rw [← hC]; rfl
  have hCl : C.data.toList = cut := by rw [← hC]
  have c1 : ((cut.length : Int) == 1) = false := by simp; omega
  have hCe : C.toList.isEmpty = false := by
    rw [ByteArray.toList_eq, hCl]
    cases cut with
    | nil => simp at h2
    | cons x r => rfl
  have hCa : ∀ (j : Nat) b, C.data.toList[j]? = some b → b.toNat < 128 := by rw [hCl]; exact hascii
  rw [hC]
  refine calls_at 43 Tryz.func95 rfl rfl (Nat.le_of_ble_eq_true rfl) ?_
  intro a hA; replace hA := hA.norm
  refine wS (wR ?_)
  revert a; refine wo rfl rfl (by decide) (fun ev e h => by simp [go_sem, h, hsz, c1, hCe] <;> rfl) ?_; intro a hA
  replace hA := hA.keepN [0, 1]
  refine wN (nT (wS (wS (wR ?_))))
  revert a; (iterate 3 refine wo rfl rfl (by decide) (fun ev e h => by simp [go_sem, h, hsz, c1, hCe] <;> rfl) ?_); (iterate 2 refine wg _ rfl rfl rfl rfl (by decide) (fun hq ev e h => by simp [go_sem, h, ↓gw_t (beq_t hq), hsz, c1, hCe] <;> rfl) ?_); (first | refine wko rfl rfl (by decide) rfl rfl rfl ?_ | refine wo rfl rfl (by decide) (fun ev e h => by simp [go_sem, h, gv_or, gv_and, hsz, c1, hCe] <;> rfl) ?_); intro a hA
  replace hA := hA.keepN [0, 1, 12]
  refine wN (nT ?_)
  rw [Bool.or_false] at hA
  refine wp_if hA 12 _ rfl (fun hq => ?yA) (fun hq => ?nA)
  case yA =>
    have hl0 : l = [] := by simpa using hq
    subst hl0
    refine wS (wR ?_)
    revert a; (iterate 2 refine wo rfl rfl (by decide) (fun ev e h => by simp [go_sem, h, hsz, c1, hCe] <;> rfl) ?_); intro a hA
    replace hA := hA.keepN [4]
    refine wN (nT (wp_ret (rT ?_)))
    refine ret_1 hA 4 rfl rfl ?_
    exact ⟨rfl, Below.refl _ _⟩
  case nA =>
    refine wp_skip (nT (wS (wS (wR ?_))))
    refine wl_op hA rfl rfl (by decide) (fun ev h => by simp [go_sem, h.get 1 rfl, hsz, c1]; try first | exact ⟨rfl, rfl⟩ | rfl) fun a hA => ?_
    refine wl_op hA rfl rfl (by decide) (fun ev h => by simp [go_sem, h.get 14 rfl, hsz, c1]; try first | exact ⟨rfl, rfl⟩ | rfl) fun a hA => ?_
    refine wl_op hA rfl rfl (by decide) (fun ev h => by simp [go_sem, h.c, h.get 15 rfl, hsz, c1]; try first | exact ⟨rfl, rfl⟩ | rfl) fun a hA => ?_
    refine wl_op hA rfl rfl (by decide) (fun ev h => by simp [go_sem, h.get 16 rfl, hsz, c1]; try first | exact ⟨rfl, rfl⟩ | rfl) fun a hA => ?_
    refine wl_guard _ (v := .bool false) hA rfl rfl rfl rfl (by decide) (fun hq ev h => by first | (cases hq; done) | (cases hr; done)) fun a hA => ?_
    refine wl_guard _ (v := .bool false) hA rfl rfl rfl rfl (by decide) (fun hq ev h => by first | (cases hq; done) | (cases hr; done)) fun a hA => ?_
    refine wl_guard _ (v := .bool false) hA rfl rfl rfl rfl (by decide) (fun hq ev h => by first | (cases hq; done) | (cases hr; done)) fun a hA => ?_
    revert a; (first | refine wka rfl rfl (by decide) rfl rfl rfl ?_ | refine wo rfl rfl (by decide) (fun ev e h => by simp [go_sem, h, gv_or, gv_and, hsz, c1] <;> rfl) ?_); intro a hA
    replace hA := hA.keepN [0, 1, 21]
    refine wN (nT ?_)
    refine wp_if hA 21 _ rfl (fun hq2 => ?yB) (fun hq2 => ?nB)
    case yB => cases hq2
    case nB =>
      refine wp_skip (nT (wS (wS (wR ?_))))
      revert a; refine wo rfl rfl (by decide) (fun ev e h => by simp [go_sem, h, hsz, c1] <;> rfl) ?_; intro a hA
      refine wl_call hA rfl rfl (by decide) (fun ev h => exec_call Tryz.func128 (by kernel_rfl) rfl (h.f _) (by first | (simp only [mL, h.get 30 rfl, h.c] <;> rfl) | (simp [mL, h.get 30 rfl, h.c, hsz, c1] <;> rfl))) (Tryz.strings_makeASCIISet hv C _ (by rw [hsz]; omega) hCa) ?_
      rintro e w1 ⟨rfl, hw1⟩
      refine ⟨_, rfl, fun a hA => ?_⟩
      have hb1 : Below w.heap.size w w1 := by rw [hw1]; exact (Below.refl _ _).alloc (Nat.le_refl _) _
      clear hw1
      rw [hCl] at hA
      revert a; (iterate 3 refine wo rfl rfl (by decide) (fun ev e h => by simp [go_sem, h, hv] <;> rfl) ?_); intro a hA
      refine wl_new hA rfl rfl (by decide) (fun ev h => by simp [go_sem, hv]; try first | exact ⟨rfl, rfl⟩ | rfl) fun w2 a (K : Blk _ _ _ _) hz hb2 hA => ?_
      replace K : Blk w2 w1.heap.size 174 (List.replicate 256 (.bool false)).toArray := by rw [List.toArray_replicate]; exact K
      have h256 : (Lib.setCells cut).toList.length = 256 := by rw [Array.length_toList, Lib.setCells_size]
      have hone : (Lib.setCells cut).toList.all (·.oneCell') = true := by
        have := Lib.setCells_one cut
        rwa [← Array.all_toList] at this
      refine wl_setw ((Lib.setCells cut).toList) hA rfl rfl K (by simp) h256 (by kernel_rfl) hone rfl (fun ev h => ⟨h.get 5 rfl, h.get 32 rfl⟩) fun w3 (K : Blk _ _ _ _) hs => ?_
      have hb3 := hs.below hb2 (Nat.le_refl _)
      replace K : Blk w3 w1.heap.size 174 (Lib.setCells cut) := K
      revert a; refine wo rfl rfl (by decide) (fun ev e h => by simp [go_sem, h] <;> rfl) ?_; intro a hA
      replace hA := hA.keepN [0, 1, 5, 6]
      refine wN (nT (wS (wR ?_)))
      revert a; refine wo rfl rfl (by decide) (fun ev e h => by simp [go_sem, h] <;> rfl) ?_; intro a hA
      replace hA := hA.keepN [0, 1, 5, 34]
      refine wN (nT ?_)
      refine wp_if hA 34 _ rfl (fun hq3 => ?yD) (fun hq3 => ?nD)
      case nD => cases hq3
      case yD =>
        refine wS (wR ?_)
        revert a; refine wo rfl rfl (by decide) (fun ev e h => by simp [go_sem, h] <;> rfl) ?_; intro a hA
        refine wl_call hA rfl rfl (by decide) (fun ev h => exec_call Tryz.func130 (by kernel_rfl) rfl (h.f _) (by first | (simp only [mL, h.get 35 rfl, h.get 5 rfl, h.c] <;> rfl) | (simp [mL, h.get 35 rfl, h.get 5 rfl, h.c] <;> rfl))) (trimRight_any cut l _ _ hl K) ?_
        rintro e w4 ⟨rfl, rfl⟩
        refine ⟨_, rfl, fun a hA => ?_⟩
        refine wl_call hA rfl rfl (by decide) (fun ev h => exec_call Tryz.func129 (by kernel_rfl) rfl (h.f _) (by first | (simp only [mL, h.get 36 rfl, h.get 5 rfl, h.c] <;> rfl) | (simp [mL, h.get 36 rfl, h.get 5 rfl, h.c] <;> rfl))) (trimLeft_any cut (trimR cut l) _ _ (Nat.le_trans (trimR_len cut l) hl) K) ?_
        rintro e w5 ⟨rfl, rfl⟩
        refine ⟨_, rfl, fun a hA => ?_⟩
        revert a; refine wo rfl rfl (by decide) (fun ev e h => by simp [go_sem, h] <;> rfl) ?_; intro a hA
        replace hA := hA.keepN [4]
        refine wN (nT (wp_ret (rT ?_)))
        refine ret_1 hA 4 rfl rfl ?_
        exact ⟨rfl, hb1.trans (hb3.mono hb1.size)⟩
end Go.Proofs.YtjhaccmcjlbllaaGreatDoor
/-
  A message's head, plainly: its lines, its fields; as the program finds them, and as the document does.
-/
namespace Go.Proofs.YtjhaccmcjlbllaaGreatDoor
open Go.RowKit
/-- the first line, with its end -/
def lineS : List UInt8 → List UInt8 × List UInt8
  | [] => ([], [])
  | x :: r => if x = 10 then ([x], r) else (x :: (lineS r).1, (lineS r).2)
theorem line_app : ∀ b : List UInt8, (lineS b).1 ++ (lineS b).2 = b
  | [] => rfl
  | x :: r => by
    unfold lineS
    split
    · rfl
    · show x :: ((lineS r).1 ++ (lineS r).2) = _
      rw [line_app r]
theorem line_len (b : List UInt8) : (lineS b).1.length + (lineS b).2.length = b.length := by
  have := congrArg List.length (line_app b)
  rwa [List.length_append] at this
theorem line_pos {b : List UInt8} (h : b ≠ []) : 1 ≤ (lineS b).1.length := by
  cases b with
  | nil => exact absurd rfl h
  | cons x r =>
    unfold lineS
    split <;> simp
/-- a line, and what it is of -/
theorem line_cat : ∀ {b c : List UInt8}, (c = [] ∨ (lineS b).1.getLast? = some 10) → lineS ((lineS b).1 ++ c) = ((lineS b).1, c)
  | [], c, h => by
    rcases h with rfl | h
    · rfl
    · cases h
  | x :: r, c, h => by
    by_cases hx : x = 10
    · have e : lineS (x :: r) = ([x], r) := by unfold lineS; rw [if_pos hx]
      rw [e]
      show lineS (x :: c) = ([x], c)
      unfold lineS
      rw [if_pos hx]
    · have e : lineS (x :: r) = (x :: (lineS r).1, (lineS r).2) := by conv => lhs; unfold lineS; rw [if_neg hx]
      rw [e] at h ⊢
      have h2 : c = [] ∨ (lineS r).1.getLast? = some 10 := by
        rcases h with h | h
        · exact .inl h
        · right
          cases hr : (lineS r).1 with
          | nil =>
            rw [hr] at h
            injection h with h
            exact absurd h hx
          | cons y t =>
            rw [hr] at h
            rw [List.getLast?_cons_cons] at h
            exact h
      have ih := line_cat (b := r) h2
      show lineS (x :: ((lineS r).1 ++ c)) = _
      conv => lhs; unfold lineS
      rw [if_neg hx, ih]
theorem line_end : ∀ {b : List UInt8}, (lineS b).2 ≠ [] → (lineS b).1.getLast? = some 10
  | [], h => absurd rfl h
  | x :: r, h => by
    unfold lineS at h ⊢
    split
    · rename_i hx; rw [hx]; rfl
    · rename_i hx
      rw [if_neg hx] at h
      have ih := line_end (b := r) h
      show (x :: (lineS r).1).getLast? = some 10
      cases hr : (lineS r).1 with
      | nil => rw [hr] at ih; cases ih
      | cons y t => rw [List.getLast?_cons_cons, ← hr]; exact ih
def emptyS (l : List UInt8) : Bool := l == [10] || l == [13, 10]
/-- the head, and what stands behind it -/
def cutS : Nat → List UInt8 → List UInt8 × List UInt8
  | 0, b => (b, [])
  | f + 1, b => if b = [] then ([], []) else if emptyS (lineS b).1 = true then lineS b else ((lineS b).1 ++ (cutS f (lineS b).2).1, (cutS f (lineS b).2).2)
theorem cut_app : ∀ (f : Nat) (b : List UInt8), (cutS f b).1 ++ (cutS f b).2 = b
  | 0, b => List.append_nil b
  | f + 1, b => by
    unfold cutS
    split
    · rename_i h; rw [h]; rfl
    · split
      · exact line_app b
      · show (lineS b).1 ++ (cutS f (lineS b).2).1 ++ (cutS f (lineS b).2).2 = b
        rw [List.append_assoc, cut_app f, line_app]
def headS (b : List UInt8) : List UInt8 := (cutS b.length b).1
def bodyH (b : List UInt8) : List UInt8 := (cutS b.length b).2
theorem head_body (b : List UInt8) : headS b ++ bodyH b = b := cut_app _ _
theorem cut_fuel : ∀ (f g : Nat) (b : List UInt8), b.length ≤ f → b.length ≤ g → cutS f b = cutS g b
  | 0, 0, b, _, _ => rfl
  | 0, g + 1, b, h, _ => by
    have : b = [] := List.length_eq_zero_iff.1 (by omega)
    subst this
    rfl
  | f + 1, 0, b, _, h => by
    have : b = [] := List.length_eq_zero_iff.1 (by omega)
    subst this
    rfl
  | f + 1, g + 1, b, h, h2 => by
    unfold cutS
    by_cases hb : b = []
    · rw [if_pos hb, if_pos hb]
    · rw [if_neg hb, if_neg hb]
      have h3 := line_pos hb
      have h4 := line_len b
      rw [cut_fuel f g (lineS b).2 (by omega) (by omega)]
/-- a field -/
structure FieldS where
  n : List UInt8
  v : List UInt8
def bareS (l : List UInt8) : List UInt8 := Lib.trimSuffix (Lib.trimSuffix l [10]) [13]
def signB (c : UInt8) : Bool := decide (33 ≤ c.toNat) && decide (c.toNat ≤ 126)
def namedB (s : List UInt8) : Bool := !s.isEmpty && s.all signB
def blankB (s : List UInt8) : Bool := s.head? == some 32 || s.head? == some 9
def addLast (l : List FieldS) (s : List UInt8) : List FieldS := match l.getLast? with
  | none => l
  | some x => l.dropLast ++ [⟨x.n, x.v ++ s⟩]
/-- a line more -/
def stepF (st : List FieldS × Bool) (s : List UInt8) : List FieldS × Bool :=
  if blankB s = true then (if st.2 = true then (addLast st.1 s, true) else (st.1, false))
  else if ((Lib.cut s [58]).2.2 && namedB (Lib.cut s [58]).1) = true then (st.1 ++ [⟨(Lib.cut s [58]).1, (Lib.cut s [58]).2.1⟩], true) else (st.1, false)
def linesF : Nat → List UInt8 → List FieldS × Bool → List FieldS × Bool
  | 0, _, st => st
  | f + 1, b, st => if b = [] then st else linesF f (lineS b).2 (stepF st (bareS (lineS b).1))
def trimF (f : FieldS) : FieldS := ⟨f.n, trimS [32, 9] f.v⟩
def fieldsS (b : List UInt8) : List FieldS := ((linesF b.length (headS b) ([], false)).1).map trimF
theorem lines_fuel : ∀ (f g : Nat) (b : List UInt8) (st : List FieldS × Bool), b.length ≤ f → b.length ≤ g → linesF f b st = linesF g b st
  | 0, 0, b, _, _, _ => rfl
  | 0, g + 1, b, st, h, _ => by
    have : b = [] := List.length_eq_zero_iff.1 (by omega)
    subst this
    rfl
  | f + 1, 0, b, st, _, h => by
    have : b = [] := List.length_eq_zero_iff.1 (by omega)
    subst this
    rfl
  | f + 1, g + 1, b, st, h, h2 => by
    unfold linesF
    by_cases hb : b = []
    · rw [if_pos hb, if_pos hb]
    · rw [if_neg hb, if_neg hb]
      have h3 := line_pos hb
      have h4 := line_len b
      exact lines_fuel f g _ _ (by omega) (by omega)
theorem bare_empty {l : List UInt8} (h : emptyS l = true) : bareS l = [] := by
  unfold emptyS at h
  rw [Bool.or_eq_true, beq_iff_eq, beq_iff_eq] at h
  rcases h with rfl | rfl <;> rfl
theorem step_nil (st : List FieldS × Bool) : stepF st [] = (st.1, false) := rfl
/-- as the document goes: line by line, until an empty one -/
def refS : Nat → List UInt8 → List FieldS × Bool → Nat × (List FieldS × Bool)
  | 0, _, st => (0, st)
  | f + 1, b, st => if b = [] then (0, st) else if emptyS (lineS b).1 = true then ((lineS b).1.length, st) else ((lineS b).1.length + (refS f (lineS b).2 (stepF st (bareS (lineS b).1))).1, (refS f (lineS b).2 (stepF st (bareS (lineS b).1))).2)
theorem ref_cut : ∀ (f : Nat) (b : List UInt8) (st : List FieldS × Bool), b.length ≤ f → (refS f b st).1 = (cutS f b).1.length ∧ (refS f b st).2.1 = (linesF f (cutS f b).1 st).1
  | 0, b, st, h => by
    have : b = [] := List.length_eq_zero_iff.1 (by omega)
    subst this
    exact ⟨rfl, rfl⟩
  | f + 1, b, st, h => by
    unfold refS cutS
    by_cases hb : b = []
    · rw [if_pos hb, if_pos hb]
      exact ⟨rfl, rfl⟩
    · rw [if_neg hb, if_neg hb]
      have h3 := line_pos hb
      have h4 := line_len b
      by_cases he : emptyS (lineS b).1 = true
      · rw [if_pos he, if_pos he]
        refine ⟨rfl, ?_⟩
        unfold linesF
        have hne : ¬ (lineS b).1 = [] := fun e => by rw [e] at h3; simp at h3
        have e2 : lineS (lineS b).1 = ((lineS b).1, []) := by
          have := line_cat (b := b) (c := []) (.inl rfl)
          rwa [List.append_nil] at this
        rw [if_neg hne, e2]
        show st.1 = (linesF f [] (stepF st (bareS (lineS b).1))).1
        rw [bare_empty he, step_nil]
        cases f <;> rfl
      · rw [if_neg he, if_neg he]
        obtain ⟨ih1, ih2⟩ := ref_cut f (lineS b).2 (stepF st (bareS (lineS b).1)) (by omega)
        refine ⟨by rw [ih1, List.length_append], ?_⟩
        rw [ih2]
        have hcat : lineS ((lineS b).1 ++ (cutS f (lineS b).2).1) = ((lineS b).1, (cutS f (lineS b).2).1) := by
          refine line_cat ?_
          by_cases hr : (lineS b).2 = []
          · left
            rw [hr]
            cases f <;> rfl
          · exact .inr (line_end hr)
        have hne : ¬ (lineS b).1 ++ (cutS f (lineS b).2).1 = [] := fun e => by
          have := (List.append_eq_nil_iff.1 e).1
          rw [this] at h3
          simp at h3
        conv => rhs; unfold linesF
        rw [if_neg hne, hcat]
theorem ref_head (b : List UInt8) : (refS b.length b ([], false)).1 = (headS b).length ∧ (refS b.length b ([], false)).2.1.map trimF = fieldsS b := by
  obtain ⟨h1, h2⟩ := ref_cut b.length b ([], false) (Nat.le_refl _)
  exact ⟨h1, by rw [h2]; rfl⟩
/-- blanks off, on the other side first -/
theorem trim_comm (cut : List UInt8) : ∀ l : List UInt8, trimR cut (trimL cut l) = trimL cut (trimR cut l)
  | [] => rfl
  | x :: l => by
    have ih := trim_comm cut l
    cases hx : cut.contains x with
    | true =>
      have e1 : trimL cut (x :: l) = trimL cut l := by
        unfold trimL
        rw [List.dropWhile_cons, if_pos hx]
      rw [e1, ih]
      have e3 : trimR cut (x :: l) = bif (x :: l).all (cut.contains ·) then [] else x :: trimR cut l := rfl
      have e4 : (x :: l).all (cut.contains ·) = l.all (cut.contains ·) := by rw [List.all_cons, hx, Bool.true_and]
      rw [e3, e4]
      cases hal : l.all (cut.contains ·) with
      | true => rw [trimR_all hal]; rfl
      | false =>
        rw [cond_false]
        unfold trimL
        rw [List.dropWhile_cons (x := x), if_pos hx]
    | false =>
      have e1 : trimL cut (x :: l) = x :: l := by
        unfold trimL
        rw [List.dropWhile_cons, if_neg (by rw [hx]; decide)]
      have e3 : trimR cut (x :: l) = bif (x :: l).all (cut.contains ·) then [] else x :: trimR cut l := rfl
      have e4 : (x :: l).all (cut.contains ·) = false := by rw [List.all_cons, hx, Bool.false_and]
      rw [e1, e3, e4, cond_false]
      unfold trimL
      rw [List.dropWhile_cons, if_neg (by rw [hx]; decide)]
end Go.Proofs.YtjhaccmcjlbllaaGreatDoor
/-
  Rows of what takes k cells each.
-/
namespace Go.Proofs.YtjhaccmcjlbllaaGreatDoor
open Go.RowKit
section
variable {M : Type} {f : M → List Value} {k : Nat}
theorem flatK_len (hf : ∀ x, (f x).length = k) : ∀ l : List M, (l.flatMap f).length = l.length * k
  | [] => by simp
  | x :: r => by rw [List.flatMap_cons, List.length_append, hf, flatK_len hf r, List.length_cons, Nat.succ_mul]; omega
theorem flatK_at (hf : ∀ x, (f x).length = k) : ∀ (l : List M) (i j : Nat) (x : M), l[i]? = some x → j < k → (l.flatMap f)[i * k + j]? = (f x)[j]?
  | y :: r, 0, j, x, h, hj => by
    have e : y = x := by simpa using h
    subst e
    rw [List.flatMap_cons, Nat.zero_mul, Nat.zero_add, List.getElem?_append_left (by rw [hf]; exact hj)]
  | y :: r, i + 1, j, x, h, hj => by
    have ih := flatK_at hf r i j x (by simpa using h) hj
    rw [List.flatMap_cons, List.getElem?_append_right (by rw [hf, Nat.succ_mul]; omega)]
    have e : (i + 1) * k + j - (f y).length = i * k + j := by rw [hf, Nat.succ_mul]; omega
    rw [e]; exact ih
theorem flatK_take (hf : ∀ x, (f x).length = k) (l : List M) (i : Nat) : (l.take i).flatMap f = (l.flatMap f).take (i * k) := by
  induction l generalizing i with
  | nil => simp
  | cons y r ih =>
    cases i with
    | zero => simp
    | succ i =>
      have h1 : (f y).take ((i + 1) * k) = f y := List.take_of_length_le (by rw [hf, Nat.succ_mul]; omega)
      have h2 : (i + 1) * k - (f y).length = i * k := by rw [hf, Nat.succ_mul]; omega
      rw [List.take_succ_cons, List.flatMap_cons, List.flatMap_cons, List.take_append, h1, h2, ih i]
theorem add_kj (ad : Addr) (i j : Nat) (hj : 0 < j) : ad.add (i + j) = ⟨(ad.add i).block, (ad.add i).off + j, none⟩ := by
  unfold Addr.add; by_cases h : i = 0 <;> simp [h] <;> omega
/-- an element's cells -/
theorem rowK_at {w : World} {B n i : Nat} {A : Option Addr} {l : List M} {x : M} (hf : ∀ x, (f x).length = k) (h : Reads w B k A n (l.flatMap f)) (hn : 0 < n) (hx : l[i]? = some x) :
    ∃ ad, A = some ad ∧ ad.block < B ∧ (∀ u, (f x)[0]? = some u → w.cell? (ad.add (i * k)) = some u) ∧ ∀ j u, 0 < j → (f x)[j]? = some u → w.cell? ⟨(ad.add (i * k)).block, (ad.add (i * k)).off + j, none⟩ = some u := by
  obtain ⟨ad, rfl, hb, hc⟩ := h.2 hn
  have hk : ∀ j u, (f x)[j]? = some u → j < k := fun j u hu => by
    have := (List.getElem?_eq_some_iff.1 hu).1
    rw [hf] at this; exact this
  refine ⟨ad, rfl, hb, fun u hu => ?_, fun j u hj hu => ?_⟩
  · have := hc (i * k + 0) u (by rw [flatK_at hf l i 0 x hx (hk 0 u hu)]; exact hu)
    simpa using this
  · have := hc (i * k + j) u (by rw [flatK_at hf l i j x hx (hk j u hu)]; exact hu)
    rwa [add_kj _ _ _ hj] at this
theorem Reads.takeK {w : World} {B n : Nat} {A : Option Addr} {l : List M} (hf : ∀ x, (f x).length = k) (h : Reads w B k A n (l.flatMap f)) (hl : l.length = n) {i : Nat} (hi : i ≤ n) : Reads w B k A i ((l.take i).flatMap f) := by
  refine ⟨by rw [flatK_len hf, List.length_take]; congr 1; omega, fun hp => ?_⟩
  obtain ⟨ad, e, hb, hc⟩ := h.2 (by omega)
  refine ⟨ad, e, hb, fun j u hu => hc j u ?_⟩
  rw [flatK_take hf, List.getElem?_take] at hu
  split at hu
  · exact hu
  · cases hu
end
end Go.Proofs.YtjhaccmcjlbllaaGreatDoor
/-
  Rows of structs of one's own: a row that is one's own, the bytes of its parts elsewhere.
-/
namespace Go.Proofs.YtjhaccmcjlbllaaGreatDoor
open Go.RowKit
/-- a kind of struct: its type, the type of its rows, its cells, its parts -/
structure Sh (M : Type) where
  T : TypeId
  S : TypeId
  k : Nat
  by_ : Nat
  z : Value
  f : M → List Value
  parts : M → List (Option Addr × List UInt8)
  len : ∀ x, (f x).length = k
  one : ∀ x, ∀ u ∈ f x, u.oneCell' = true
  und : Tryz.prog.underlying S = some (.slice T)
  info : (Tryz.prog.info? T).map (fun i => (i.zero, i.size, i.bytes)) = some (some z, k, by_)
  zk : z.cells.size = k
  pos : 0 < k
  small : by_ ≤ 1000
/-- bytes lie apart from a block -/
def OffP (g : Nat) (p : Option Addr × List UInt8) : Prop := 0 < p.2.length → ∀ ad, p.1 = some ad → ad.block ≠ g
abbrev ReadsP (w : World) (p : Option Addr × List UInt8) : Prop := Reads w w.heap.size 1 p.1 p.2.length (u8s p.2)
structure RowR {M : Type} (s : Sh M) (w : World) (A : Option Addr) (l : List M) : Prop where
  row : Reads w w.heap.size s.k A l.length (l.flatMap s.f)
  octs : ∀ m ∈ l, ∀ p ∈ s.parts m, ReadsP w p
structure OwnR {M : Type} (s : Sh M) (B : Nat) (w : World) (v : Value) (l : List M) : Prop where
  row : w.ownsRow B s.T s.k v l.length (l.flatMap s.f)
  octs : ∀ m ∈ l, ∀ p ∈ s.parts m, ReadsP w p
  off : ∀ g, v.ownBlock = some g → ∀ m ∈ l, ∀ p ∈ s.parts m, OffP g p
theorem ReadsP.below {w w' : World} {p : Option Addr × List UInt8} (h : ReadsP w p) (hb : Below w.heap.size w w') : ReadsP w' p := (Reads.below h hb).more hb.size
theorem readsP_apart {w w' : World} {g : Nat} {p : Option Addr × List UInt8} (h : ReadsP w p) (hg : OffP g p) (hb : ∀ k, k < w.heap.size → k ≠ g → w'.heap[k]? = w.heap[k]?) (hs : w.heap.size ≤ w'.heap.size) : ReadsP w' p := by
  refine ⟨h.1, fun hn => ?_⟩
  obtain ⟨ad, e, hlt, hc⟩ := h.2 hn
  refine ⟨ad, e, by omega, fun j u hu => ?_⟩
  have := hc j u hu
  rwa [← World.cell?_of_block (w' := w') (hb _ (by rw [block_of_add]; exact hlt) (by rw [block_of_add]; exact hg hn ad e))] at this
theorem readsP_off {w : World} {p : Option Addr × List UInt8} (h : ReadsP w p) {g : Nat} (hg : w.heap.size ≤ g) : OffP g p := fun hn ad ha => by
  obtain ⟨ad', e, hlt, _⟩ := h.2 hn
  rw [ha] at e
  injection e with e
  subst e
  omega
/-- no cell of bytes -/
def noB8 : Value → Bool
  | .int .u8 _ => false
  | _ => true
theorem readsP_blk {w : World} {p : Option Addr × List UInt8} {g : Nat} {T : TypeId} {cs : Array Value} (h : ReadsP w p) (K : Blk w g T cs) (hno : cs.toList.all noB8 = true) : OffP g p := fun hn ad ha he => by
  obtain ⟨ad', e, _, hc⟩ := h.2 hn
  rw [ha] at e
  injection e with e
  subst e
  have h0 : (u8s p.2)[0]? = some (.int .u8 (((p.2[0]'hn).toNat : Nat) : Int)) := by rw [u8s_get, List.getElem?_eq_getElem hn]; rfl
  have h1 := hc 0 _ h0
  have h2 : ad.add 0 = ad := by unfold Addr.add; simp
  rw [h2] at h1
  unfold World.cell? at h1
  unfold Blk at K
  rw [he, K] at h1
  simp only at h1
  split at h1
  · cases h1
  · have hm : Value.int .u8 (((p.2[0]'hn).toNat : Nat) : Int) ∈ cs.toList := by
      have := Array.mem_of_getElem? h1
      simpa using this
    have := List.all_eq_true.1 hno _ hm
    cases this
/-- bytes stay, as a block without bytes turns -/
theorem reads_only {w w' : World} {A : Option Addr} {n g : Nat} {l : List UInt8} {T : TypeId} {cs : Array Value} (h : Reads w w.heap.size 1 A n (u8s l)) (hs : Only g w w') (K : Blk w g T cs) (hno : cs.toList.all noB8 = true) : Reads w' w'.heap.size 1 A n (u8s l) := by
  have hl : l.length = n := by have := h.1; rw [u8s_length] at this; omega
  subst hl
  exact readsP_apart (p := (A, l)) h (readsP_blk (p := (A, l)) h K hno) (fun j _ hj => hs.block j hj) (by rw [hs.size]; exact Nat.le_refl _)
section
variable {M : Type} {s : Sh M} {B : Nat} {w w' : World} {v : Value} {l : List M}
theorem RowR.below {A : Option Addr} (h : RowR s w A l) (hb : Below w.heap.size w w') : RowR s w' A l := ⟨(h.row.below hb).more hb.size, fun m hm p hp => (h.octs m hm p hp).below hb⟩
theorem RowR.nil (A : Option Addr) : RowR s w A [] := ⟨⟨by simp, fun h => absurd h (by simp)⟩, fun _ h => (by cases h)⟩
theorem OwnR.below (h : OwnR s B w v l) (hb : Below w.heap.size w w') : OwnR s B w' v l := ⟨own_below h.row hb, fun m hm p hp => (h.octs m hm p hp).below hb, h.off⟩
theorem OwnR.mono {B' : Nat} (h : OwnR s B w v l) (hb : B' ≤ B) : OwnR s B' w v l := ⟨own_mono h.row hb, h.octs, h.off⟩
theorem OwnR.reads (h : OwnR s B w v l) : ∃ A c, v = .slice A l.length c ∧ RowR s w A l ∧ l.length ≤ c := by
  obtain ⟨A, c, e, hr, hc⟩ := own_reads h.row
  exact ⟨A, c, e, ⟨hr, h.octs⟩, hc⟩
theorem OwnR.nil (B : Nat) (w : World) : OwnR s B w (.slice none 0 0) [] := ⟨World.ownsRow_nil _ _ _ _, fun _ h => (by cases h), fun _ _ _ h => (by cases h)⟩
theorem OwnR.empty {g : Nat} (K : Blk w g s.T #[]) (hb : B ≤ g) : OwnR s B w (.slice (some ⟨g, 0, none⟩) 0 0) [] := ⟨ownsRow_empty K hb, fun _ h => (by cases h), fun _ _ _ h => (by cases h)⟩
theorem RowR.parts_off {A : Option Addr} {g : Nat} (h : RowR s w A l) (hg : w.heap.size ≤ g) : ∀ m ∈ l, ∀ p ∈ s.parts m, OffP g p := fun m hm p hp => readsP_off (h.octs m hm p hp) hg
/-- an element's cells -/
theorem RowR.cell {A : Option Addr} {i : Nat} {x : M} (h : RowR s w A l) (hx : l[i]? = some x) : ∃ ad, A = some ad ∧ ad.block < w.heap.size ∧ (∀ u, (s.f x)[0]? = some u → w.cell? (ad.add (i * s.k)) = some u) ∧ ∀ j u, 0 < j → (s.f x)[j]? = some u → w.cell? ⟨(ad.add (i * s.k)).block, (ad.add (i * s.k)).off + j, none⟩ = some u :=
  rowK_at s.len h.row (by have := (List.getElem?_eq_some_iff.1 hx).1; omega) hx
theorem OwnR.at_ (h : OwnR s B w v l) (hl : 0 < l.length) : ∃ g c, v = .slice (some ⟨g, 0, none⟩) l.length c ∧ B ≤ g ∧ g < w.heap.size := by
  obtain ⟨g, cap, hv, hg, hlt⟩ := h.row.form hl
  exact ⟨g, cap, hv, hg, hlt⟩
theorem OwnR.only {k : Nat} (h : OwnR s B w v l) (hs : Only k w w') (hne : ∀ g, v.ownBlock = some g → g ≠ k) (hoff : ∀ m ∈ l, ∀ p ∈ s.parts m, OffP k p) : OwnR s B w' v l :=
  ⟨own_keep h.row fun g hg => hs.block g (hne g hg), fun m hm p hp => readsP_apart (h.octs m hm p hp) (hoff m hm p hp) (fun j _ hj => hs.block j hj) (by rw [hs.size]; exact Nat.le_refl _), h.off⟩
theorem OwnR.onlyK {k : Nat} {T : TypeId} {cs : Array Value} (h : OwnR s B w v l) (hs : Only k w w') (K : Blk w k T cs) (hT : T ≠ s.T) (hno : cs.toList.all noB8 = true) : OwnR s B w' v l :=
  h.only hs (own_ne h.row K hT) fun m hm p hp => readsP_blk (h.octs m hm p hp) K hno
theorem run_app0 {P : Program} {t ty e : TypeId} {i : TypeInfo} {base size n : Nat} {xs : List Value} (ht : P.underlying t = some (.slice e)) (hi : P.info? e = some i) (hown : w.ownsRow base e size v n xs) (c : Nat) :
    (Builtin.append_ #[t, t] ty #[v, .slice none 0 c]).run P w = .ok v w := by
  rcases hown.2 with ⟨rfl, rfl⟩ | ⟨g, cap, cur, rfl, _, _, hnc, _⟩
  · simp [Builtin.append_, run_underlying ht, sizeOf, typeInfo, hi, Builtin.lenOf, Builtin.firstCells, Result.andThen]
  · have := run_append_room_src (P := P) w t t ty e i ht hi g 0 n cap (.slice none 0 c) 0 [] (Src.ofNil w ht c) (by omega) (fun j hj => by simp at hj) (fun j hj => by simp at hj)
    rw [setCells_nil] at this
    exact this
theorem flat_one' (l : List M) : ∀ u ∈ l.flatMap s.f, u.oneCell' = true := by
  intro u hu
  obtain ⟨m, _, hm⟩ := List.mem_flatMap.1 hu
  exact s.one m u hm
/-- structs are appended -/
theorem run_appR {k : List M} {A : Option Addr} {c : Nat} (h : OwnR s B w v l) (hk : RowR s w A k) (hoff : ∀ g, v.ownBlock = some g → ∀ m ∈ k, ∀ p ∈ s.parts m, OffP g p) (hlen : l.length + k.length ≤ 100000000) (hB : B ≤ w.heap.size) :
    ∃ r w', (Builtin.append_ #[s.S, s.S] s.S #[v, .slice A k.length c]).run Tryz.prog w = .ok r w' ∧ OwnR s B w' r (l ++ k) ∧ w.grownBy w' v.ownBlock ∧ (r.ownBlock = v.ownBlock ∨ r.ownBlock = some w.heap.size) := by
  obtain ⟨i0, hi0, hz0, hz1, hz2⟩ := info_parts s.info
  have hmul : (l.length + k.length) * s.by_ ≤ 140737488355328 := Nat.le_trans (Nat.mul_le_mul hlen s.small) (by omega)
  have key : ∃ r w', (Builtin.append_ #[s.S, s.S] s.S #[v, .slice A k.length c]).run Tryz.prog w = .ok r w' ∧ w'.ownsRow B s.T s.k r (l.length + k.length) (l.flatMap s.f ++ k.flatMap s.f) ∧ w.grownBy w' v.ownBlock ∧ (r.ownBlock = v.ownBlock ∨ r.ownBlock = some w.heap.size) := by
    cases A with
    | some ad =>
      have hc : ∀ j u, (k.flatMap s.f)[j]? = some u → w.cell? (ad.add j) = some u := by
        rcases Nat.eq_zero_or_pos k.length with h0 | h0
        · intro j u hj
          rw [List.length_eq_zero_iff.1 h0] at hj
          cases hj
        · obtain ⟨ad', e, _, hc⟩ := hk.row.2 h0
          injection e with e; subst e; exact hc
      obtain ⟨v', w', hr, h2, h3, _, h5⟩ := run_append_own_at (P := Tryz.prog) w B s.S s.S s.T i0 s.z s.k s.by_ s.und hi0 hz0 hz1 hz2 s.zk s.pos v l.length _ h.row ad k.length c _ hk.row.1 hc (flat_one' k) (by unfold maxLen; omega) hmul hB
      exact ⟨v', w', hr, h2, h3, h5⟩
    | none =>
      have h0 : k.length = 0 := by
        rcases Nat.eq_zero_or_pos k.length with h0 | h0
        · exact h0
        · obtain ⟨ad, e, _⟩ := hk.row.2 h0; cases e
      have hk0 : k = [] := List.length_eq_zero_iff.1 h0
      subst hk0
      exact ⟨v, w, run_app0 s.und hi0 h.row c, by simpa using h.row, ⟨rfl, rfl, rfl, Nat.le_refl _, fun _ _ _ => rfl⟩, .inl rfl⟩
  obtain ⟨r, w', hr, h2, h3, h4⟩ := key
  have hoffB : ∀ {p : Option Addr × List UInt8}, ReadsP w p → (∀ g, v.ownBlock = some g → OffP g p) → ∀ g, r.ownBlock = some g → OffP g p := fun {p} hm ho g hg => by
    rcases h4 with e | e
    · exact ho g (e ▸ hg)
    · rw [e] at hg
      injection hg with hg
      subst hg
      exact readsP_off hm (Nat.le_refl _)
  have hkeep : ∀ {p : Option Addr × List UInt8}, ReadsP w p → (∀ g, v.ownBlock = some g → OffP g p) → ReadsP w' p := fun {p} hm ho => by
    cases hb : v.ownBlock with
    | none => exact (Reads.grown hm h3 (Nat.le_refl _) fun g hg => by rw [hb] at hg; cases hg).more h3.size
    | some g => exact readsP_apart hm (ho g hb) (fun j hj hne => h3.block j hj (fun e => by rw [hb] at e; exact hne (Option.some.inj e))) h3.size
  refine ⟨r, w', hr, ⟨?_, fun m hm p hp => ?_, fun g hg m hm p hp => ?_⟩, h3, h4⟩
  · rw [List.length_append, List.flatMap_append]; exact h2
  · rcases List.mem_append.1 hm with hm | hm
    · exact hkeep (h.octs m hm p hp) fun g hg => h.off g hg m hm p hp
    · exact hkeep (hk.octs m hm p hp) fun g hg => hoff g hg m hm p hp
  · rcases List.mem_append.1 hm with hm | hm
    · exact hoffB (h.octs m hm p hp) (fun g hg => h.off g hg m hm p hp) g hg
    · exact hoffB (hk.octs m hm p hp) (fun g hg => hoff g hg m hm p hp) g hg
/-- one struct, in a block of its own, as a row -/
theorem rowR_blk {g : Nat} {x : M} (K : Blk w g s.T (s.f x).toArray) (hp : ∀ p ∈ s.parts x, ReadsP w p) : RowR s w (some ⟨g, 0, none⟩) [x] := by
  refine ⟨⟨by simp [s.len], fun _ => ⟨⟨g, 0, none⟩, rfl, K.lt, fun j u hu => ?_⟩⟩, fun m hm => ?_⟩
  · rw [List.flatMap_cons, List.flatMap_nil, List.append_nil] at hu
    rw [add0]
    unfold World.cell?
    unfold Blk at K
    rw [K]
    simpa using hu
  · rw [List.mem_singleton.1 hm]; exact hp
theorem below_appR {W : World} {B0 : Nat} (hb : Below B0 W w) (h : OwnR s B w v l) (hg : w.grownBy w' v.ownBlock) (h0 : B0 ≤ B) (hB : B0 ≤ w.heap.size) : Below B0 W w' :=
  hb.grown hg hB fun k hk => Nat.le_trans h0 (World.ownsRow.lt h.row k hk).1
/-- what is known of a part stays, as one's row grows -/
theorem grown_part {p : Option Addr × List UInt8} (hg : w.grownBy w' v.ownBlock) (hm : ReadsP w p) (ho : ∀ g, v.ownBlock = some g → OffP g p) : ReadsP w' p := by
  cases hb : v.ownBlock with
  | none => exact (Reads.grown hm hg (Nat.le_refl _) fun g hg' => by rw [hb] at hg'; cases hg').more hg.size
  | some g => exact readsP_apart hm (ho g hb) (fun j hj hne => hg.block j hj (fun e => by rw [hb] at e; exact hne (Option.some.inj e))) hg.size
end
end Go.Proofs.YtjhaccmcjlbllaaGreatDoor
/-
  Tokens in memory: of any kind.
-/
namespace Go.Proofs.YtjhaccmcjlbllaaGreatDoor
open Go.RowKit
structure TokI where
  k : Int
  t : List UInt8
def tokIC (x : TokI) : List Value := [.int .i64 x.k, .string (St x.t)]
def tokISh : Sh TokI := ⟨60, 47, 2, 24, .agg #[.int .i64 0, .string ⟨#[]⟩], tokIC, fun _ => [], fun _ => rfl, fun x u hu => by
  unfold tokIC at hu
  simp only [List.mem_cons, List.not_mem_nil, or_false] at hu
  rcases hu with rfl | rfl <;> rfl, Tryz.underlying47, by kernel_rfl, rfl, by decide, by decide⟩
end Go.Proofs.YtjhaccmcjlbllaaGreatDoor
/-
  Plain laws: what text is a number, and which; no program in sight.
-/
namespace Go.Proofs.YtjhaccmcjlbllaaGreatDoor
def dgB (c : UInt8) : Bool := decide (48 ≤ c.toNat) && decide (c.toNat ≤ 57)
theorem dgB_iff (c : UInt8) : dgB c = true ↔ 48 ≤ c.toNat ∧ c.toNat ≤ 57 := by simp [dgB]
def decFrom (a : Nat) (l : List UInt8) : Nat := l.foldl (fun n c => n * 10 + (c.toNat - 48)) a
def decN (l : List UInt8) : Nat := decFrom 0 l
theorem decFrom_ge : ∀ (l : List UInt8) (a : Nat), a ≤ decFrom a l
  | [], a => Nat.le_refl _
  | c :: l, a => by
    have := decFrom_ge l (a * 10 + (c.toNat - 48))
    show a ≤ decFrom (a * 10 + (c.toNat - 48)) l
    omega
theorem decN_snoc (l : List UInt8) (c : UInt8) : decN (l ++ [c]) = decN l * 10 + (c.toNat - 48) := by simp [decN, decFrom]
/-- what strconv.ParseUint at 32 bits answers -/
theorem parseM_said : ∀ (l : List UInt8) (a : Nat), a ≤ 4294967295 →
    (l.all dgB = true ∧ decFrom a l ≤ 4294967295 ∧ Lib.parseUintM 4294967295 a l = .ok (decFrom a l)) ∨ ((l.all dgB = false ∨ 4294967295 < decFrom a l) ∧ ∀ u, Lib.parseUintM 4294967295 a l ≠ .ok u)
  | [], a, h => .inl ⟨rfl, h, rfl⟩
  | c :: l, a, h => by
    unfold Lib.parseUintM
    by_cases hd : 48 ≤ c.toNat ∧ c.toNat ≤ 57
    · have hb : dgB c = true := (dgB_iff c).2 hd
      rw [if_pos hd, if_neg (by omega), List.all_cons, hb, Bool.true_and]
      by_cases hm : 4294967295 < a * 10 + (c.toNat - 48)
      · rw [if_pos hm]
        refine .inr ⟨.inr ?_, by intro u e; cases e⟩
        have := decFrom_ge l (a * 10 + (c.toNat - 48))
        show _ < decFrom (a * 10 + (c.toNat - 48)) l
        omega
      · rw [if_neg hm]
        exact parseM_said l (a * 10 + (c.toNat - 48)) (by omega)
    · rw [if_neg hd]
      have hb : dgB c = false := by
        rcases Bool.eq_false_or_eq_true (dgB c) with e | e
        · exact absurd ((dgB_iff c).1 e) hd
        · exact e
      exact .inr ⟨.inl (by rw [List.all_cons, hb]; rfl), by intro u e; cases e⟩
/-- does a text spell a number of 32 bits, in digits? -/
def spellsB (l : List UInt8) : Bool := !l.isEmpty && l.all dgB && decide (decN l ≤ 4294967295)
theorem parse32 (l : List UInt8) : (spellsB l = true ∧ Lib.parseUintB 32 l = .ok (decN l)) ∨ (spellsB l = false ∧ ∀ u, Lib.parseUintB 32 l ≠ .ok u) := by
  unfold Lib.parseUintB spellsB
  cases l with
  | nil => exact .inr ⟨rfl, by intro u e; cases e⟩
  | cons c l =>
    rw [if_neg (by simp), show (2 : Nat) ^ 32 - 1 = 4294967295 from rfl]
    rcases parseM_said (c :: l) 0 (by omega) with ⟨h1, h2, h3⟩ | ⟨h1, h2⟩
    · refine .inl ⟨?_, h3⟩
      rw [h1]
      simp only [List.isEmpty_cons, Bool.not_false, Bool.true_and, decide_eq_true_eq]
      exact h2
    · refine .inr ⟨?_, h2⟩
      rcases h1 with h1 | h1
      · rw [h1]; simp
      · have : ¬ decN (c :: l) ≤ 4294967295 := by unfold decN; omega
        simp [this]
theorem decDigits_head (u : Nat) (h : 1 ≤ u) : ∃ c l, Lib.decDigits u = c :: l ∧ c ≠ 48 := by
  induction u using Nat.strongRecOn with
  | ind u ih =>
    rw [Lib.decDigits]
    by_cases hu : u < 10
    · rw [dif_pos hu]
      refine ⟨_, _, rfl, fun e => ?_⟩
      have := congrArg UInt8.toNat e
      simp at this
      omega
    · rw [dif_neg hu]
      obtain ⟨c, l, e, hc⟩ := ih (u / 10) (by omega) (by omega)
      exact ⟨c, l ++ [UInt8.ofNat (48 + u % 10)], by rw [e]; rfl, hc⟩
theorem last_split {l : List UInt8} (h : l ≠ []) : ∃ l' c, l = l' ++ [c] := ⟨l.dropLast, l.getLast h, (List.dropLast_concat_getLast h).symm⟩
/-- digits, the first of which is no 0: how many there are, and what they are -/
theorem decN_back : ∀ (n : Nat) (l : List UInt8), l.length = n + 1 → l.all dgB = true → l.head? ≠ some 48 → 10 ^ n ≤ decN l ∧ decN l < 10 ^ (n + 1) ∧ Lib.decDigits (decN l) = l := by
  intro n
  induction n with
  | zero =>
    intro l hl ha hh
    match l, hl with
    | [c], _ =>
      simp only [List.all_cons, List.all_nil, Bool.and_true] at ha
      have hc := (dgB_iff c).1 ha
      have hne : c.toNat ≠ 48 := fun e => hh (by
        have : c = 48 := by apply UInt8.toNat_inj.1; rw [e]; rfl
        rw [this]; rfl)
      have e : decN [c] = c.toNat - 48 := by simp [decN, decFrom]
      rw [e]
      refine ⟨by omega, by omega, ?_⟩
      rw [Lib.decDigits, dif_pos (by omega)]
      rw [show 48 + (c.toNat - 48) = c.toNat by omega]
      simp
  | succ n ih =>
    intro l hl ha hh
    obtain ⟨l', c, rfl⟩ := last_split (l := l) (by intro e; subst e; simp at hl)
    have hl' : l'.length = n + 1 := by simpa using hl
    simp only [List.all_append, List.all_cons, List.all_nil, Bool.and_true, Bool.and_eq_true] at ha
    have hc := (dgB_iff c).1 ha.2
    obtain ⟨h1, h2, h3⟩ := ih l' hl' ha.1 (by
      cases l' with
      | nil => simp at hl'
      | cons a l' => simpa using hh)
    rw [decN_snoc, Nat.pow_succ 10 (n + 1), Nat.pow_succ 10 n] at *
    have hp : 0 < 10 ^ n := Nat.pow_pos (by omega)
    refine ⟨by omega, by omega, ?_⟩
    rw [Lib.decDigits, dif_neg (by omega), show (decN l' * 10 + (c.toNat - 48)) / 10 = decN l' by omega, show (decN l' * 10 + (c.toNat - 48)) % 10 = c.toNat - 48 by omega, h3]
    rw [show 48 + (c.toNat - 48) = c.toNat by omega]
    simp
/-- the program's word on a number -/
def numOk (l : List UInt8) : Bool := l == [42] || (spellsB l && decide (1 ≤ decN l) && (Lib.decDigits (decN l) == l))
def numVal (l : List UInt8) : Nat := if l = [42] then 0 else decN l
/-- the document's word on a number -/
def oneOk (l : List UInt8) : Bool := l == [42] || (decide (1 ≤ l.length) && decide (l.length ≤ 10) && !(l.head? == some 48) && l.all dgB && decide (1 ≤ decN l) && decide (decN l ≤ 4294967295))
theorem num_one (l : List UInt8) : numOk l = oneOk l := by
  unfold numOk oneOk spellsB
  cases h42 : (l == [42]) with
  | true => rfl
  | false =>
  simp only [Bool.false_or]
  cases l with
  | nil => rfl
  | cons c l =>
    cases ha : (c :: l).all dgB with
    | false => simp
    | true =>
      by_cases h1 : 1 ≤ decN (c :: l)
      · by_cases h48 : c = 48
        · subst h48
          obtain ⟨d, m, e, hd⟩ := decDigits_head _ h1
          have : (Lib.decDigits (decN (48 :: l)) == 48 :: l) = false := by
            rw [e, beq_eq_false_iff_ne]
            intro e'
            injection e' with e'
            exact hd e'
          rw [this]; simp
        · obtain ⟨p1, p2, p3⟩ := decN_back l.length (c :: l) rfl ha (by simpa using h48)
          by_cases hm : decN (c :: l) ≤ 4294967295
          · have hlen : l.length + 1 ≤ 10 := by
              rcases Nat.lt_or_ge l.length 10 with h | h
              · exact h
              · have : 10 ^ 10 ≤ 10 ^ l.length := Nat.pow_le_pow_right (by omega) h
                omega
            rw [p3]
            simp [h1, hm, h48, hlen]
          · simp [hm]
      · simp [h1]
end Go.Proofs.YtjhaccmcjlbllaaGreatDoor
/-
  Plain laws: a text cut in pieces, and what a piece is; no program in sight.
-/
namespace Go.Proofs.YtjhaccmcjlbllaaGreatDoor
/-- the pieces between one byte -/
def onto (b : UInt8) : List (List UInt8) → List (List UInt8)
  | [] => [[b]]
  | h :: t => (b :: h) :: t
def splitC (c : UInt8) : List UInt8 → List (List UInt8)
  | [] => [[]]
  | b :: l => if b = c then [] :: splitC c l else onto b (splitC c l)
theorem splitC_ne (c : UInt8) (l : List UInt8) : ∃ h t, splitC c l = h :: t := by
  cases l with
  | nil => exact ⟨_, _, rfl⟩
  | cons b l =>
    unfold splitC
    by_cases hb : b = c
    · rw [if_pos hb]; exact ⟨_, _, rfl⟩
    · rw [if_neg hb]
      cases splitC c l with
      | nil => exact ⟨_, _, rfl⟩
      | cons h t => exact ⟨_, _, rfl⟩
theorem index_cons (b c : UInt8) (l : List UInt8) : Lib.index (b :: l) [c] = if b = c then 0 else if Lib.index l [c] = -1 then -1 else Lib.index l [c] + 1 := by
  rw [Lib.index]
  by_cases h : b = c
  · subst h; simp [List.isPrefixOf]
  · have : (c == b) = false := by rw [beq_eq_false_iff_ne]; exact fun e => h e.symm
    simp [List.isPrefixOf, this, h]
theorem splitC_eq (c : UInt8) : ∀ l : List UInt8, Lib.splitK [c] 0 (Lib.count l [c]) l = splitC c l
  | [] => by rw [Lib.count_miss (by simp [Lib.index])]; rfl
  | b :: l => by
    by_cases h : b = c
    · subst h
      rw [Lib.count_cons_eq, Nat.add_comm, Lib.splitK, index_cons, if_pos rfl, splitC, if_pos rfl, if_neg (by simp)]
      simp only [Int.toNat_zero, Nat.zero_add, List.take_zero, List.length_cons, List.length_nil, List.drop_one, List.tail_cons]
      rw [splitC_eq b l]
    · rw [Lib.count_cons_ne b c l h, splitC, if_neg h, ← splitC_eq c l]
      cases hk : Lib.count l [c] with
      | zero => rfl
      | succ k =>
        have hm : ¬ Lib.index l [c] = -1 := fun e => by rw [Lib.count_miss e] at hk; cases hk
        have hge := Lib.index_ge l [c]
        obtain ⟨j, hj⟩ : ∃ j : Nat, Lib.index l [c] = j := ⟨(Lib.index l [c]).toNat, by omega⟩
        have hix : Lib.index (b :: l) [c] = ((j + 1 : Nat) : Int) := by rw [index_cons, if_neg h, if_neg hm, hj]; rfl
        rw [Lib.splitK, Lib.splitK, hix, hj, if_neg (by rw [beq_iff_eq]; omega), if_neg (by rw [beq_iff_eq]; omega)]
        simp [onto]
/-- one byte more, at the end -/
def ontoLast (b : UInt8) : List (List UInt8) → List (List UInt8)
  | [] => []
  | [h] => [h ++ [b]]
  | h :: t => h :: ontoLast b t
theorem ontoLast_cons (b : UInt8) (h : List UInt8) (t : List (List UInt8)) (ht : t ≠ []) : ontoLast b (h :: t) = h :: ontoLast b t := by
  cases t with
  | nil => exact absurd rfl ht
  | cons a t => rfl
theorem splitC_snoc (c b : UInt8) : ∀ l : List UInt8, splitC c (l ++ [b]) = if b = c then splitC c l ++ [[]] else ontoLast b (splitC c l)
  | [] => by
    by_cases h : b = c
    · simp [splitC, h]
    · simp [splitC, h, onto, ontoLast]
  | a :: l => by
    rw [List.cons_append, splitC, splitC, splitC_snoc c b l]
    obtain ⟨h, t, e⟩ := splitC_ne c l
    rw [e]
    by_cases ha : a = c <;> by_cases hb : b = c
    · simp [ha, hb]
    · simp [ha, hb, ontoLast]
    · simp [ha, hb, onto]
    · simp only [ha, hb, if_false]
      cases t with
      | nil => simp [onto, ontoLast]
      | cons x t => simp [onto, ontoLast]
theorem ontoLast_eq (b : UInt8) : ∀ L : List (List UInt8), L ≠ [] → ontoLast b L = L.dropLast ++ [L.getLast! ++ [b]]
  | [], h => absurd rfl h
  | [h], _ => rfl
  | h :: a :: t, _ => by
    have := ontoLast_eq b (a :: t) (by simp)
    rw [ontoLast, this]
    · simp [List.getLast!]
    · simp
theorem splitC_length_pos (c : UInt8) (l : List UInt8) : 1 ≤ (splitC c l).length := by
  obtain ⟨h, t, e⟩ := splitC_ne c l
  rw [e]; simp
theorem splitC_length_le (c : UInt8) : ∀ l : List UInt8, (splitC c l).length ≤ l.length + 1
  | [] => by simp [splitC]
  | b :: l => by
    have := splitC_length_le c l
    rw [splitC]
    by_cases h : b = c
    · rw [if_pos h]; simpa using this
    · rw [if_neg h]
      obtain ⟨x, t, e⟩ := splitC_ne c l
      rw [e] at this ⊢
      simp only [onto, List.length_cons] at this ⊢
      omega
theorem splitC_mem_le (c : UInt8) : ∀ (l : List UInt8), ∀ p ∈ splitC c l, p.length ≤ l.length
  | [] => by intro p hp; simp [splitC] at hp; subst hp; simp
  | b :: l => by
    have ih := splitC_mem_le c l
    intro p hp
    rw [splitC] at hp
    by_cases h : b = c
    · rw [if_pos h] at hp
      rcases List.mem_cons.1 hp with e | e
      · subst e; simp
      · have := ih p e; simp only [List.length_cons]; omega
    · rw [if_neg h] at hp
      obtain ⟨x, t, e⟩ := splitC_ne c l
      rw [e] at hp ih
      simp only [onto] at hp
      rcases List.mem_cons.1 hp with e' | e'
      · subst e'; have := ih x (by simp); simp only [List.length_cons]; omega
      · have := ih p (by simp [e']); simp only [List.length_cons]; omega
/-- strings.Cut at one byte, and the pieces -/
theorem cut_spec (c : UInt8) : ∀ p : List UInt8, (c ∉ p ∧ Lib.cut p [c] = (p, [], false) ∧ splitC c p = [p]) ∨
    ∃ a b, p = a ++ c :: b ∧ c ∉ a ∧ Lib.cut p [c] = (a, b, true) ∧ splitC c p = a :: splitC c b
  | [] => .inl ⟨by simp, by simp [Lib.cut, Lib.index], rfl⟩
  | x :: p => by
    by_cases h : x = c
    · subst h
      refine .inr ⟨[], p, rfl, by simp, ?_, by simp [splitC]⟩
      rw [Lib.cut, index_cons]; simp
    · rcases cut_spec c p with ⟨h1, h2, h3⟩ | ⟨a, b, h1, h2, h3, h4⟩
      · refine .inl ⟨by simp [h1, Ne.symm h], ?_, by rw [splitC, if_neg h, h3]; rfl⟩
        have hm : Lib.index p [c] = -1 := by
          have hge := Lib.index_ge p [c]
          by_cases hh : 0 ≤ Lib.index p [c]
          · rw [Lib.cut, if_pos hh] at h2
            simp at h2
          · omega
        rw [Lib.cut, index_cons, if_neg h, if_pos hm, if_neg (by omega)]
      · refine .inr ⟨x :: a, b, by rw [h1]; rfl, by simp [h2, Ne.symm h], ?_, by rw [splitC, if_neg h, h4]; rfl⟩
        have hge := Lib.index_ge p [c]
        by_cases hh : 0 ≤ Lib.index p [c]
        · rw [Lib.cut, if_pos hh] at h3
          obtain ⟨j, hj⟩ : ∃ j : Nat, Lib.index p [c] = j := ⟨(Lib.index p [c]).toNat, by omega⟩
          have hic : Lib.index (x :: p) [c] = (j : Int) + 1 := by rw [index_cons, if_neg h, if_neg (by omega), hj]
          rw [Lib.cut, hic, if_pos (by omega)]
          rw [hj] at h3
          simp only [Prod.mk.injEq, Int.toNat_natCast, List.length_cons, List.length_nil] at h3
          have e1 : ((j : Int) + 1).toNat = j + 1 := by omega
          simp [e1, h3.1, h3.2.1]
        · rw [Lib.cut, if_neg hh] at h3
          simp at h3
/-- the two ends of a piece, as the program takes them -/
def partA (p : List UInt8) : List UInt8 := (Lib.cut p [58]).1
def partB (p : List UInt8) : List UInt8 := if (Lib.cut p [58]).2.2 = true then (Lib.cut p [58]).2.1 else (Lib.cut p [58]).1
def partOk (p : List UInt8) : Bool := numOk (partA p) && numOk (partB p)
def partVal (p : List UInt8) : Nat × Nat := (numVal (partA p), numVal (partB p))
theorem oneOk_no58 {l : List UInt8} (h : oneOk l = true) : (58 : UInt8) ∉ l := by
  intro hm
  unfold oneOk at h
  rcases Bool.or_eq_true_iff.1 h with h | h
  · rw [beq_iff_eq] at h; subst h; simp at hm
  · simp only [Bool.and_eq_true] at h
    have := List.all_eq_true.1 h.1.1.2 _ hm
    revert this
    decide
/-- .. and as the document does -/
theorem part_ref (p : List UInt8) : ∃ h t, splitC 58 p = h :: t ∧ partOk p = (oneOk h && oneOk ((h :: t).getLast (by simp)) && decide ((h :: t).length ≤ 2)) ∧
    (partOk p = true → partA p = h ∧ partB p = (h :: t).getLast (by simp)) := by
  rcases cut_spec 58 p with ⟨h1, h2, h3⟩ | ⟨a, b, h1, h2, h3, h4⟩
  · refine ⟨p, [], h3, ?_, ?_⟩
    · simp [partOk, partA, partB, h2, num_one]
    · simp [partA, partB, h2]
  · rcases cut_spec 58 b with ⟨g1, g2, g3⟩ | ⟨a', b', g1, g2, g3, g4⟩
    · refine ⟨a, [b], by rw [h4, g3], ?_, ?_⟩
      · simp [partOk, partA, partB, h3, num_one]
      · simp [partA, partB, h3]
    · obtain ⟨x, t, e⟩ := splitC_ne 58 b'
      have hb : oneOk b = false := by
        rcases Bool.eq_false_or_eq_true (oneOk b) with h | h
        · exact absurd (by rw [g1]; simp) (oneOk_no58 h)
        · exact h
      refine ⟨a, a' :: x :: t, by rw [h4, g4, e], ?_, ?_⟩
      · simp [partOk, partA, partB, h3, num_one, hb]
      · simp [partOk, partA, partB, h3, num_one, hb]
/-- a set -/
def setOk (l : List UInt8) : Bool := decide ((splitC 44 l).length ≤ 100) && (splitC 44 l).all partOk
def setVals (l : List UInt8) : List (Nat × Nat) := (splitC 44 l).map partVal
/-- a number in a part, and in a set -/
def inSpan (x : Nat × Nat) (n g : Nat) : Bool :=
  let a := if x.1 = 0 then g else x.1
  let b := if x.2 = 0 then g else x.2
  decide (min a b ≤ n) && decide (n ≤ max a b)
def inSet (l : List (Nat × Nat)) (n g : Nat) : Bool := decide (1 ≤ n) && l.any fun x => inSpan x n g
theorem inSpan_ref (x : Nat × Nat) (n g a b : Nat) (ha : a = if x.1 = 0 then g else x.1) (hb : b = if x.2 = 0 then g else x.2) :
    inSpan x n g = ((decide (a ≤ n) && decide (n ≤ b)) || (decide (b ≤ n) && decide (n ≤ a))) := by
  unfold inSpan
  rw [← ha, ← hb]
  show (decide (min a b ≤ n) && decide (n ≤ max a b)) = _
  rw [Bool.eq_iff_iff]
  simp only [Bool.and_eq_true, Bool.or_eq_true, decide_eq_true_eq]
  omega
theorem numVal_le {l : List UInt8} (h : numOk l = true) : numVal l ≤ 4294967295 := by
  unfold numVal
  by_cases e : l = [42]
  · rw [if_pos e]; omega
  · rw [if_neg e]
    unfold numOk spellsB at h
    simp only [Bool.or_eq_true, Bool.and_eq_true, beq_iff_eq, e, false_or, decide_eq_true_eq] at h
    exact h.1.1.2
/-- the two cells of a part -/
def spanCells (l : List (Nat × Nat)) : List Value := l.flatMap fun x => [Value.int .u32 (x.1 : Nat), Value.int .u32 (x.2 : Nat)]
theorem spanCells_length (l : List (Nat × Nat)) : (spanCells l).length = l.length * 2 := by
  induction l with
  | nil => rfl
  | cons a l ih => simp only [spanCells, List.flatMap_cons, List.length_append, List.length_cons, List.length_nil] at ih ⊢; omega
theorem spanCells_append (a b : List (Nat × Nat)) : spanCells (a ++ b) = spanCells a ++ spanCells b := by simp [spanCells]
theorem spanCells_at : ∀ (l : List (Nat × Nat)) (k : Nat) (x : Nat × Nat), l[k]? = some x → (spanCells l)[k * 2]? = some (.int .u32 (x.1 : Nat)) ∧ (spanCells l)[k * 2 + 1]? = some (.int .u32 (x.2 : Nat))
  | [], k, x, h => by simp at h
  | y :: l, 0, x, h => by simp at h; subst h; simp [spanCells]
  | y :: l, k + 1, x, h => by
    have := spanCells_at l k x (by simpa using h)
    have e : spanCells (y :: l) = Value.int .u32 (y.1 : Nat) :: Value.int .u32 (y.2 : Nat) :: spanCells l := by simp [spanCells]
    rw [e, show (k + 1) * 2 = k * 2 + 2 by omega]
    simpa using this
end Go.Proofs.YtjhaccmcjlbllaaGreatDoor
/-
  Keys, plainly: how tokens are read as a key, and what a key finds.
-/
namespace Go.Proofs.YtjhaccmcjlbllaaGreatDoor
open Go.RowKit
inductive KeyA where
  | never | all
  | field (n w : List UInt8)
  | body (w : List UInt8)
  | text (w : List UInt8)
  | larger (n : Int)
  | smaller (n : Int)
  | set (l : List (Nat × Nat)) (uids : Bool)
  | flag (i : Nat) (no : Bool)
  | not (k : KeyA)
  | or (a b : KeyA)
  | both (l : List KeyA)
/-- what is asked of a message -/
structure LookS where
  flags : Int
  octs : List UInt8
  uid : Nat
  n : Nat
  len : Nat
  last : Nat
/-- letters from one on, of the other size -/
def lettS (first : UInt8) (l : List UInt8) : List UInt8 := l.map fun c => if first ≤ c ∧ c < first + 26 then c ^^^ 32 else c
def withinS (s w : List UInt8) : Bool := Lib.contains (lettS 65 s) (lettS 65 w)
def lowerS (l : List UInt8) : List UInt8 := l.map fun c => if 65 ≤ c ∧ c ≤ 90 then c + 32 else c
def fieldV (b n : List UInt8) : Option (List UInt8) := ((fieldsS b).find? fun f => lowerS f.n == lowerS n).map (·.v)
mutual
def evalK : KeyA → LookS → Bool
  | .never, _ => false
  | .all, _ => true
  | .field n w, x => (match fieldV x.octs n with | none => false | some v => withinS v w)
  | .body w, x => withinS (bodyH x.octs) w
  | .text w, x => withinS x.octs w
  | .larger n, x => decide (n < ((x.octs.length : Nat) : Int))
  | .smaller n, x => decide (((x.octs.length : Nat) : Int) < n)
  | .set l u, x => if u = true then inSet l x.uid x.last else inSet l (x.n + 1) x.len
  | .flag i no, x => (x.flags / 2 ^ i % 2 == 1) != no
  | .not k, x => !evalK k x
  | .or a b, x => evalK a x || evalK b x
  | .both l, x => evalL l x
def evalL : List KeyA → LookS → Bool
  | [], _ => true
  | k :: r, x => evalK k x && evalL r x
end
theorem evalL_app (x : LookS) : ∀ a b : List KeyA, evalL (a ++ b) x = (evalL a x && evalL b x)
  | [], b => by simp [evalL]
  | k :: a, b => by
    have e : ∀ k r, evalL (k :: r) x = (evalK k x && evalL r x) := fun _ _ => by rw [evalL]
    rw [List.cons_append, e, e, evalL_app x a b, Bool.and_assoc]
-- how tokens are read
def wordP : List TokI → Option (List UInt8 × List TokI)
  | [] => none
  | t :: r => if t.k = 1 ∨ t.k = 2 then some (t.t, r) else none
def dig8 (c : UInt8) : Bool := decide (48 ≤ c.toNat) && decide (c.toNat ≤ 57)
def val8 (l : List UInt8) : Nat := l.foldl (fun n b => n * 10 + (b.toNat - 48)) 0
def numP (l : List TokI) : Option (Int × List TokI) := match wordP l with
  | none => none
  | some (w, r) => if 1 ≤ w.length ∧ w.length ≤ 9 ∧ w.all dig8 = true then some ((val8 w : Nat), r) else none
def setP (s : List UInt8) (u : Bool) : Option KeyA := if setOk s = true then some (.set (setVals s) u) else none
def flagNames : List (List UInt8) := [[83, 69, 69, 78], [65, 78, 83, 87, 69, 82, 69, 68], [70, 76, 65, 71, 71, 69, 68], [68, 69, 76, 69, 84, 69, 68], [68, 82, 65, 70, 84]]
def flagP (s : List UInt8) : Option KeyA := match flagNames.findIdx? (· == Lib.trimPrefix s [85, 78]) with
  | none => none
  | some i => some (.flag i (Lib.hasPrefix s [85, 78]))
def sSUBJECT : List UInt8 := [83, 85, 66, 74, 69, 67, 84]
def sFROM : List UInt8 := [70, 82, 79, 77]
def sTO : List UInt8 := [84, 79]
def sALL : List UInt8 := [65, 76, 76]
def sBODY : List UInt8 := [66, 79, 68, 89]
def sTEXT : List UInt8 := [84, 69, 88, 84]
def sLARGER : List UInt8 := [76, 65, 82, 71, 69, 82]
def sSMALLER : List UInt8 := [83, 77, 65, 76, 76, 69, 82]
def sUID : List UInt8 := [85, 73, 68]
def sNOT : List UInt8 := [78, 79, 84]
def sOR : List UInt8 := [79, 82]
/-- a key of a word: none: it is none; some none: it is bad -/
def namedP (s : List UInt8) (r : List TokI) : Option (Option (KeyA × List TokI)) :=
  if s = sALL then some (some (.all, r))
  else if s = sSUBJECT ∨ s = sFROM ∨ s = sTO then some ((wordP r).map fun p => (.field s p.1, p.2))
  else if s = sBODY then some ((wordP r).map fun p => (.body p.1, p.2))
  else if s = sTEXT then some ((wordP r).map fun p => (.text p.1, p.2))
  else if s = sLARGER then some ((numP r).map fun p => (.larger p.1, p.2))
  else if s = sSMALLER then some ((numP r).map fun p => (.smaller p.1, p.2))
  else if s = sUID then some (match r with
    | [] => none
    | t :: r' => if t.k = 1 then (setP t.t true).map fun k => (k, r') else none)
  else (flagP s).map fun k => some (k, r)
def moreP (f : List TokI → Option (KeyA × List TokI)) : Nat → List KeyA → List TokI → Option (List KeyA × List TokI)
  | 0, acc, l => some (acc, l)
  | n + 1, acc, l => match l with
    | [] => some (acc, [])
    | t :: _ => if t.k = 4 then some (acc, l) else match f l with
      | none => none
      | some (k, l') => moreP f n (acc ++ [k]) l'
def bothP (f : List TokI → Option (KeyA × List TokI)) (l : List TokI) : Option (List KeyA × List TokI) := match f l with
  | none => none
  | some (k, l') => moreP f l'.length [k] l'
def keyP : Nat → List TokI → Option (KeyA × List TokI)
  | 0, _ => none
  | _ + 1, [] => none
  | d + 1, t :: r => if t.k = 3 then (match bothP (keyP d) r with
      | some (l, x :: r') => if x.k = 4 then some (.both l, r') else none
      | _ => none)
    else if t.k = 1 then (if lettS 97 t.t = sNOT then (keyP d r).map fun p => (.not p.1, p.2)
      else if lettS 97 t.t = sOR then (match keyP d r with
        | none => none
        | some (a, r1) => (keyP d r1).map fun p => (.or a p.1, p.2))
      else match namedP (lettS 97 t.t) r with
        | some x => x
        | none => (setP t.t false).map fun k => (k, r))
    else none
def readP (l : List TokI) : Option KeyA := match bothP (keyP 10) l with
  | some (x, []) => some (.both x)
  | _ => none
-- more tokens behind
/-- what stands behind isn't looked at -/
def Ext (f : List TokI → Option (KeyA × List TokI)) : Prop := ∀ l c k r, f l = some (k, r) → f (l ++ c) = some (k, r ++ c)
theorem word_app {l c : List TokI} {w : List UInt8} {r : List TokI} (h : wordP l = some (w, r)) : wordP (l ++ c) = some (w, r ++ c) := by
  cases l with
  | nil => cases h
  | cons t l =>
    have h : (if t.k = 1 ∨ t.k = 2 then some (t.t, l) else none) = some (w, r) := h
    split at h
    · rename_i hk
      injection h with h
      injection h with h1 h2
      subst h1 h2
      show (if t.k = 1 ∨ t.k = 2 then some (t.t, l ++ c) else none) = _
      rw [if_pos hk]
    · cases h
theorem num_app {l c : List TokI} {n : Int} {r : List TokI} (h : numP l = some (n, r)) : numP (l ++ c) = some (n, r ++ c) := by
  unfold numP at h ⊢
  cases hw : wordP l with
  | none => rw [hw] at h; cases h
  | some p =>
    obtain ⟨w, r'⟩ := p
    rw [hw] at h
    rw [word_app hw]
    simp only [] at h ⊢
    split at h
    · rename_i hc
      injection h with h
      injection h with h1 h2
      subst h1 h2
      rw [if_pos hc]
    · cases h
theorem uid_app {l c : List TokI} {k : KeyA} {r : List TokI} (h : (match l with
    | [] => none
    | t :: r' => if t.k = 1 then (setP t.t true).map fun k => (k, r') else none) = some (k, r)) : (match l ++ c with
    | [] => none
    | t :: r' => if t.k = 1 then (setP t.t true).map fun k => (k, r') else none) = some (k, r ++ c) := by
  cases l with
  | nil => cases h
  | cons t l =>
    simp only [List.cons_append] at h ⊢
    split at h
    · rename_i hk
      rw [if_pos hk]
      cases hs : setP t.t true with
      | none => rw [hs] at h; cases h
      | some q =>
        rw [hs] at h
        injection h with h
        injection h with h1 h2
        subst h1 h2
        rfl
    · cases h
theorem map_app {α : Type} {o o' : Option (α × List TokI)} {c : List TokI} {g : α → KeyA} (ho : ∀ a r, o = some (a, r) → o' = some (a, r ++ c)) {k : KeyA} {r : List TokI} (h : o.map (fun p => (g p.1, p.2)) = some (k, r)) : o'.map (fun p => (g p.1, p.2)) = some (k, r ++ c) := by
  cases o with
  | none => cases h
  | some p =>
    obtain ⟨a, q⟩ := p
    rw [ho a q rfl]
    injection h with h
    injection h with h1 h2
    subst h1 h2
    rfl
theorem named_app {s : List UInt8} {l c : List TokI} {k : KeyA} {r : List TokI} (h : namedP s l = some (some (k, r))) : namedP s (l ++ c) = some (some (k, r ++ c)) := by
  unfold namedP at h ⊢
  split at h
  · rename_i h1
    rw [if_pos h1]
    injection h with h
    injection h with h
    injection h with h2 h3
    subst h2 h3
    rfl
  · rename_i h1
    rw [if_neg h1]
    split at h
    · rename_i h2
      rw [if_pos h2]
      injection h with h
      exact congrArg some (map_app (g := .field s) (fun a r e => word_app e) h)
    · rename_i h2
      rw [if_neg h2]
      split at h
      · rename_i h3
        rw [if_pos h3]
        injection h with h
        exact congrArg some (map_app (g := .body) (fun a r e => word_app e) h)
      · rename_i h3
        rw [if_neg h3]
        split at h
        · rename_i h4
          rw [if_pos h4]
          injection h with h
          exact congrArg some (map_app (g := .text) (fun a r e => word_app e) h)
        · rename_i h4
          rw [if_neg h4]
          split at h
          · rename_i h5
            rw [if_pos h5]
            injection h with h
            exact congrArg some (map_app (g := .larger) (fun a r e => num_app e) h)
          · rename_i h5
            rw [if_neg h5]
            split at h
            · rename_i h6
              rw [if_pos h6]
              injection h with h
              exact congrArg some (map_app (g := .smaller) (fun a r e => num_app e) h)
            · rename_i h6
              rw [if_neg h6]
              split at h
              · rename_i h7
                rw [if_pos h7]
                injection h with h
                exact congrArg some (uid_app h)
              · rename_i h7
                rw [if_neg h7]
                cases hf : flagP s with
                | none => rw [hf] at h; cases h
                | some q =>
                  rw [hf] at h
                  injection h with h
                  injection h with h
                  injection h with h8 h9
                  subst h8 h9
                  rfl
theorem named_none {s : List UInt8} {l : List TokI} (c : List TokI) (h : namedP s l = none) : namedP s (l ++ c) = none := by
  unfold namedP at h ⊢
  split at h
  · cases h
  · rename_i h1
    rw [if_neg h1]
    split at h
    · cases h
    · rename_i h2
      rw [if_neg h2]
      split at h
      · cases h
      · rename_i h3
        rw [if_neg h3]
        split at h
        · cases h
        · rename_i h4
          rw [if_neg h4]
          split at h
          · cases h
          · rename_i h5
            rw [if_neg h5]
            split at h
            · cases h
            · rename_i h6
              rw [if_neg h6]
              split at h
              · cases h
              · rename_i h7
                rw [if_neg h7]
                cases hf : flagP s with
                | none => rfl
                | some q => rw [hf] at h; cases h
theorem more_ext {f : List TokI → Option (KeyA × List TokI)} (hf : Ext f) {x : TokI} (hx : x.k = 4) {r' c : List TokI} : ∀ (n m : Nat) (acc : List KeyA) (l : List TokI) (L : List KeyA), n ≤ m → moreP f n acc l = some (L, x :: r') → moreP f m acc (l ++ c) = some (L, x :: r' ++ c) := by
  have stop : ∀ (m : Nat) (acc : List KeyA), moreP f m acc (x :: r' ++ c) = some (acc, x :: r' ++ c) := fun m acc => by
    cases m with
    | zero => rfl
    | succ m =>
      show (if x.k = 4 then _ else _) = _
      rw [if_pos hx]
  intro n
  induction n with
  | zero =>
    intro m acc l L _ h
    injection h with h
    injection h with h1 h2
    subst h1 h2
    exact stop m acc
  | succ n ih =>
    intro m acc l L hm h
    cases l with
    | nil => injection h with h; injection h with h1 h2; cases h2
    | cons t l =>
      have h : (if t.k = 4 then some (acc, t :: l) else match f (t :: l) with
        | none => none
        | some (k, l') => moreP f n (acc ++ [k]) l') = some (L, x :: r') := h
      by_cases h4 : t.k = 4
      · rw [if_pos h4] at h
        injection h with h
        injection h with h1 h2
        rw [h2, h1]
        exact stop m L
      · rw [if_neg h4] at h
        cases hq : f (t :: l) with
        | none => rw [hq] at h; cases h
        | some p =>
          obtain ⟨k, l'⟩ := p
          rw [hq] at h
          obtain ⟨m, rfl⟩ : ∃ q, m = q + 1 := ⟨m - 1, by omega⟩
          show (if t.k = 4 then some (acc, t :: l ++ c) else match f (t :: l ++ c) with
            | none => none
            | some (k, l') => moreP f m (acc ++ [k]) l') = _
          rw [if_neg h4, hf _ c _ _ hq]
          exact ih m _ l' L (by omega) h
theorem both_ext {f : List TokI → Option (KeyA × List TokI)} (hf : Ext f) {x : TokI} (hx : x.k = 4) {l r' c : List TokI} {L : List KeyA} (h : bothP f l = some (L, x :: r')) : bothP f (l ++ c) = some (L, x :: r' ++ c) := by
  unfold bothP at h ⊢
  cases hq : f l with
  | none => rw [hq] at h; cases h
  | some p =>
    obtain ⟨k, l'⟩ := p
    rw [hq] at h
    rw [hf _ c _ _ hq]
    exact more_ext hf hx _ _ _ _ _ (by simp) h
theorem key_ext : ∀ d : Nat, Ext (keyP d)
  | 0 => fun l c k r h => by cases h
  | d + 1 => fun l c k r h => by
    have ih := key_ext d
    cases l with
    | nil => cases h
    | cons t l =>
      rw [List.cons_append]
      unfold keyP at h ⊢
      split at h
      · rename_i h3
        rw [if_pos h3]
        cases hb : bothP (keyP d) l with
        | none => rw [hb] at h; cases h
        | some p =>
          obtain ⟨L, q⟩ := p
          rw [hb] at h
          cases q with
          | nil => cases h
          | cons x r' =>
            simp only [] at h
            split at h
            · rename_i hx
              injection h with h
              injection h with h1 h2
              subst h1 h2
              rw [both_ext ih hx hb]
              simp only [List.cons_append]
              rw [if_pos hx]
            · cases h
      · rename_i h3
        rw [if_neg h3]
        split at h
        · rename_i h1
          rw [if_pos h1]
          split at h
          · rename_i h2
            rw [if_pos h2]
            exact map_app (g := .not) (fun a r e => ih _ c _ _ e) h
          · rename_i h2
            rw [if_neg h2]
            split at h
            · rename_i h4
              rw [if_pos h4]
              cases ha : keyP d l with
              | none => rw [ha] at h; cases h
              | some p =>
                obtain ⟨a, r1⟩ := p
                rw [ha] at h
                rw [ih _ c _ _ ha]
                exact map_app (g := .or a) (fun b r e => ih _ c _ _ e) h
            · rename_i h4
              rw [if_neg h4]
              cases hn : namedP (lettS 97 t.t) l with
              | none =>
                rw [hn] at h
                rw [named_none c hn]
                simp only [] at h ⊢
                cases hs : setP t.t false with
                | none => rw [hs] at h; cases h
                | some q =>
                  rw [hs] at h
                  injection h with h
                  injection h with h5 h6
                  subst h5 h6
                  rfl
              | some o =>
                rw [hn] at h
                have h : o = some (k, r) := h
                subst h
                rw [named_app hn]
        · cases h
theorem more_acc {f : List TokI → Option (KeyA × List TokI)} : ∀ (n : Nat) (acc : List KeyA) (l : List TokI) (L : List KeyA) (r : List TokI), moreP f n acc l = some (L, r) → ∃ L3, L = acc ++ L3
  | 0, acc, l, L, r, h => by
    injection h with h
    injection h with h1 h2
    exact ⟨[], by rw [← h1, List.append_nil]⟩
  | n + 1, acc, l, L, r, h => by
    cases l with
    | nil =>
      injection h with h
      injection h with h1 h2
      exact ⟨[], by rw [← h1, List.append_nil]⟩
    | cons t l =>
      have h : (if t.k = 4 then some (acc, t :: l) else match f (t :: l) with
        | none => none
        | some (k, l') => moreP f n (acc ++ [k]) l') = some (L, r) := h
      split at h
      · injection h with h
        injection h with h1 h2
        exact ⟨[], by rw [← h1, List.append_nil]⟩
      · cases hq : f (t :: l) with
        | none => rw [hq] at h; cases h
        | some p =>
          obtain ⟨k, l'⟩ := p
          rw [hq] at h
          obtain ⟨L3, h3⟩ := more_acc n (acc ++ [k]) l' L r h
          exact ⟨k :: L3, by rw [h3]; simp⟩
theorem more_more {f : List TokI → Option (KeyA × List TokI)} (hf : Ext f) {c : List TokI} : ∀ (n m : Nat) (acc : List KeyA) (l : List TokI) (L L2 : List KeyA) (r2 : List TokI), n ≤ m → moreP f n acc l = some (L, []) → moreP f m acc (l ++ c) = some (L2, r2) → ∃ L3, L2 = L ++ L3
  | 0, m, acc, l, L, L2, r2, _, h, h2 => by
    injection h with h
    injection h with h1 h3
    subst h1 h3
    exact more_acc m _ _ _ _ h2
  | n + 1, m, acc, l, L, L2, r2, hm, h, h2 => by
    cases l with
    | nil =>
      injection h with h
      injection h with h1 h3
      subst h1
      exact more_acc m _ _ _ _ h2
    | cons t l =>
      have h : (if t.k = 4 then some (acc, t :: l) else match f (t :: l) with
        | none => none
        | some (k, l') => moreP f n (acc ++ [k]) l') = some (L, []) := h
      by_cases h4 : t.k = 4
      · rw [if_pos h4] at h
        injection h with h
        injection h with h1 h3
        cases h3
      · rw [if_neg h4] at h
        cases hq : f (t :: l) with
        | none => rw [hq] at h; cases h
        | some p =>
          obtain ⟨k, l'⟩ := p
          rw [hq] at h
          obtain ⟨m, rfl⟩ : ∃ q, m = q + 1 := ⟨m - 1, by omega⟩
          have h2 : (if t.k = 4 then some (acc, t :: l ++ c) else match f (t :: l ++ c) with
            | none => none
            | some (k, l') => moreP f m (acc ++ [k]) l') = some (L2, r2) := h2
          rw [if_neg h4, hf _ c _ _ hq] at h2
          exact more_more hf n m _ l' L L2 r2 (by omega) h h2
/-- a key more finds no more -/
theorem read_more {a c : List TokI} {k k2 : KeyA} (h : readP a = some k) (h2 : readP (a ++ c) = some k2) : ∃ L L3, k = .both L ∧ k2 = .both (L ++ L3) := by
  unfold readP at h h2
  cases hb : bothP (keyP 10) a with
  | none => rw [hb] at h; cases h
  | some p =>
    obtain ⟨L, q⟩ := p
    rw [hb] at h
    cases q with
    | cons x q => cases h
    | nil =>
      injection h with h
      cases hb2 : bothP (keyP 10) (a ++ c) with
      | none => rw [hb2] at h2; cases h2
      | some p2 =>
        obtain ⟨L2, q2⟩ := p2
        rw [hb2] at h2
        cases q2 with
        | cons x q => cases h2
        | nil =>
          injection h2 with h2
          unfold bothP at hb hb2
          cases hq : keyP 10 a with
          | none => rw [hq] at hb; cases hb
          | some p3 =>
            obtain ⟨k3, l'⟩ := p3
            rw [hq] at hb
            rw [key_ext 10 _ c _ _ hq] at hb2
            obtain ⟨L3, h3⟩ := more_more (key_ext 10) l'.length (l' ++ c).length [k3] l' L L2 [] (by simp) hb hb2
            exact ⟨L, L3, h.symm, by rw [← h2, h3]⟩
end Go.Proofs.YtjhaccmcjlbllaaGreatDoor
/-
  Worlds that differ in some blocks alone; rows of structs of one's own: an element set, cut, cleared.
-/
namespace Go.Proofs.YtjhaccmcjlbllaaGreatDoor
open Go.RowKit
section
variable {w w' w'' : World} {B B' : Nat}
/-- two worlds differ in some blocks alone -/
structure Apart (S : Nat → Prop) (w w' : World) : Prop where
  os : w'.os = w.os
  tape : w'.tape = w.tape
  output : w'.output = w.output
  size : w.heap.size ≤ w'.heap.size
  block : ∀ i, i < w.heap.size → ¬ S i → w'.heap[i]? = w.heap[i]?
variable {S S' : Nat → Prop}
theorem Apart.refl (S : Nat → Prop) (w : World) : Apart S w w := ⟨rfl, rfl, rfl, Nat.le_refl _, fun _ _ _ => rfl⟩
theorem Apart.mono' (h : Apart S w w') (hs : ∀ i, S i → S' i) : Apart S' w w' := ⟨h.os, h.tape, h.output, h.size, fun i hi hn => h.block i hi fun h' => hn (hs i h')⟩
theorem Apart.trans (h : Apart S w w') (k : Apart S' w' w'') (hs : ∀ i, i < w.heap.size → S' i → S i) : Apart S w w'' :=
  ⟨k.os.trans h.os, k.tape.trans h.tape, k.output.trans h.output, Nat.le_trans h.size k.size, fun i hi hn => (k.block i (Nat.lt_of_lt_of_le hi h.size) fun h' => hn (hs i hi h')).trans (h.block i hi hn)⟩
theorem Apart.below (h : Apart S w w') (k : Below w'.heap.size w' w'') : Apart S w w'' :=
  ⟨k.os.trans h.os, k.tape.trans h.tape, k.output.trans h.output, Nat.le_trans h.size k.size, fun i hi hn => (k.block i (Nat.lt_of_lt_of_le hi h.size)).trans (h.block i hi hn)⟩
theorem Apart.grown {row : Option Nat} (h : Apart S w w') (k : w'.grownBy w'' row) (hs : ∀ g, row = some g → w.heap.size ≤ g ∨ S g) : Apart S w w'' :=
  ⟨k.os.trans h.os, k.tape.trans h.tape, k.output.trans h.output, Nat.le_trans h.size k.size, fun i hi hn => (k.block i (Nat.lt_of_lt_of_le hi h.size) fun e => by
    rcases hs i e.symm with h1 | h1
    · omega
    · exact hn h1).trans (h.block i hi hn)⟩
theorem Apart.only {g : Nat} (h : Apart S w w') (k : Only g w' w'') (hs : w.heap.size ≤ g ∨ S g) : Apart S w w'' :=
  h.grown k.grown fun g' e => by rw [← Option.some.inj e]; exact hs
theorem Apart.toBelow (h : Apart S w w') (hs : ∀ i, S i → B ≤ i) (hB : B ≤ w.heap.size) : Below B w w' :=
  ⟨h.os, h.tape, h.output, h.size, fun i hi => h.block i (by omega) fun hS => by have := hs i hS; omega⟩
theorem Apart.blk {g : Nat} {T : TypeId} {cs : Array Value} (h : Apart S w w') (K : Blk w g T cs) (hg : ¬ S g) : Blk w' g T cs := (h.block g K.lt hg).trans K
theorem Apart.reads {n : Nat} {A : Option Addr} {xs : List Value} (h : Apart S w w') (hr : Reads w w.heap.size 1 A n xs) (hn : 0 < n → ∀ ad, A = some ad → ¬ S ad.block) : Reads w' w'.heap.size 1 A n xs := by
  refine ⟨hr.1, fun h0 => ?_⟩
  obtain ⟨ad, e, hlt, hc⟩ := hr.2 h0
  refine ⟨ad, e, Nat.lt_of_lt_of_le hlt h.size, fun j u hu => ?_⟩
  have := hc j u hu
  rwa [← World.cell?_of_block (w' := w') (h.block _ (by rw [block_of_add]; exact hlt) (by rw [block_of_add]; exact hn h0 ad e))] at this
theorem grown_tr {row : Option Nat} (h : w.grownBy w' row) (k : w'.grownBy w'' row) : w.grownBy w'' row :=
  ⟨k.os.trans h.os, k.tape.trans h.tape, k.output.trans h.output, Nat.le_trans h.size k.size, fun i hi hn => (k.block i (Nat.lt_of_lt_of_le hi h.size) hn).trans (h.block i hi hn)⟩
theorem own_setCells {g n c size : Nat} {e : TypeId} {xs : List Value} : ∀ (vs : List Value) (o : Nat) (w : World), w.ownsRow B e size (.slice (some ⟨g, 0, none⟩) n c) n xs → n * size ≤ o → (w.setCells g o vs).ownsRow B e size (.slice (some ⟨g, 0, none⟩) n c) n xs ∧ w.grownBy (w.setCells g o vs) (some g)
  | [], _, w, h, _ => ⟨h, ⟨rfl, rfl, rfl, Nat.le_refl _, fun _ _ _ => rfl⟩⟩
  | u :: r, o, w, h, ho => by
    obtain ⟨h1, h2⟩ := h.stored o u
    rw [List.set_eq_of_length_le (by rw [h.1]; exact ho)] at h1
    obtain ⟨h3, h4⟩ := own_setCells r (o + 1) _ h1 (by omega)
    exact ⟨h3, grown_tr h2 h4⟩
theorem own_putCells {g n c N size : Nat} {e : TypeId} : ∀ (vs : List Value) (o : Nat) (w : World) (xs : List Value), w.ownsRow B e size (.slice (some ⟨g, 0, none⟩) n c) n xs → o + vs.length ≤ xs.length → (w.setCells g o vs).ownsRow B e size (.slice (some ⟨g, 0, none⟩) n c) n (xs.take o ++ vs ++ xs.drop (o + vs.length)) ∧ w.grownBy (w.setCells g o vs) (some g)
  | [], o, w, xs, h, _ => ⟨(show xs.take o ++ [] ++ xs.drop (o + ([] : List Value).length) = xs by simp).symm ▸ h, ⟨rfl, rfl, rfl, Nat.le_refl _, fun _ _ _ => rfl⟩⟩
  | u :: r, o, w, xs, h, ho => by
    rw [List.length_cons] at ho
    obtain ⟨h1, h2⟩ := h.stored o u
    obtain ⟨h3, h4⟩ := own_putCells (N := N) r (o + 1) _ _ h1 (by rw [List.length_set]; omega)
    refine ⟨?_, grown_tr h2 h4⟩
    have e1 : (xs.set o u).take (o + 1) = xs.take o ++ [u] := by
      rw [List.take_add_one, List.take_set_of_le (Nat.le_refl o), List.getElem?_set_self (by omega)]
      rfl
    have e2 : (xs.set o u).drop (o + 1 + r.length) = xs.drop (o + (u :: r).length) := by
      rw [List.drop_set_of_lt (by omega), List.length_cons]
      congr 1
      omega
    rw [e1, e2, List.append_assoc (xs.take o)] at h3
    exact h3
end
section
variable {M : Type} {s : Sh M} {B : Nat} {w w' : World} {l : List M} {g n c i : Nat}
theorem flatR_set {x y : M} (hy : l[i]? = some y) : (l.set i x).flatMap s.f = (l.flatMap s.f).take (i * s.k) ++ s.f x ++ (l.flatMap s.f).drop (i * s.k + s.k) := by
  have hi := (List.getElem?_eq_some_iff.1 hy).1
  have e0 : l = l.take i ++ y :: l.drop (i + 1) := by
    have h1 : l[i] = y := (List.getElem?_eq_some_iff.1 hy).2
    rw [← h1, ← List.drop_eq_getElem_cons hi, List.take_append_drop]
  have hlt : (l.take i).length = i := by rw [List.length_take]; omega
  have hf : ((l.take i).flatMap s.f).length = i * s.k := by rw [flatK_len s.len, hlt]
  rw [List.set_eq_take_append_cons_drop, if_pos hi, List.flatMap_append, List.flatMap_cons, flatK_take s.len, List.append_assoc]
  congr 1
  congr 1
  conv => rhs; rw [e0, List.flatMap_append, List.flatMap_cons]
  rw [← List.append_assoc, List.drop_left' (by rw [List.length_append, hf, s.len])]
theorem OwnR.len (h : OwnR s B w (.slice (some ⟨g, 0, none⟩) n c) l) : l.length = n := by
  obtain ⟨A, c', e, _⟩ := h.reads
  injection e with _ e _
  exact e.symm
/-- an element is set -/
theorem OwnR.put {x y : M} (h : OwnR s B w (.slice (some ⟨g, 0, none⟩) n c) l) (hy : l[i]? = some y) (ho : ∀ p ∈ s.parts x, ReadsP w p) (hoff : ∀ p ∈ s.parts x, OffP g p) :
    OwnR s B (w.setCells g (i * s.k) (s.f x)) (.slice (some ⟨g, 0, none⟩) n c) (l.set i x) ∧ w.grownBy (w.setCells g (i * s.k) (s.f x)) (some g) := by
  have hi := (List.getElem?_eq_some_iff.1 hy).1
  have hn := h.len
  have hr := h.row
  rw [hn] at hr
  have hle : i * s.k + s.k ≤ (l.flatMap s.f).length := by
    rw [flatK_len s.len, ← Nat.succ_mul]
    exact Nat.mul_le_mul_right _ hi
  obtain ⟨h1, h2⟩ := own_putCells (N := 0) (s.f x) (i * s.k) w _ hr (by rw [s.len]; exact hle)
  rw [s.len, ← flatR_set hy] at h1
  have keep : ∀ {p}, ReadsP w p → OffP g p → ReadsP (w.setCells g (i * s.k) (s.f x)) p := fun {p} hp hg => readsP_apart hp hg (fun j hj hne => h2.block j hj (fun e => hne (Option.some.inj e))) h2.size
  refine ⟨⟨by rw [List.length_set, hn]; exact h1, fun m hm p hp => ?_, fun g' hg' m hm p hp => ?_⟩, h2⟩
  · rcases List.mem_or_eq_of_mem_set hm with hm | hm
    · exact keep (h.octs m hm p hp) (h.off g rfl m hm p hp)
    · subst hm; exact keep (ho p hp) (hoff p hp)
  · rcases List.mem_or_eq_of_mem_set hm with hm | hm
    · exact h.off g' hg' m hm p hp
    · subst hm; rw [← Option.some.inj hg']; exact hoff p hp
/-- the elements ahead alone -/
theorem OwnR.cut (h : OwnR s B w (.slice (some ⟨g, 0, none⟩) n c) l) (hi : i ≤ n) : OwnR s B w (.slice (some ⟨g, 0, none⟩) i c) (l.take i) := by
  have hn := h.len
  have hm : ∀ {m}, m ∈ l.take i → m ∈ l := fun {m} hm => List.mem_of_mem_take hm
  have hl : (l.take i).length = i := by rw [List.length_take]; omega
  refine ⟨?_, fun m h' => h.octs m (hm h'), fun g' hg' m h' => h.off g' hg' m (hm h')⟩
  rw [hl]
  rcases h.row.2 with ⟨e, _⟩ | ⟨g', cap, cur, e, h1, h2, h3, h4, h5, h6⟩
  · cases e
  · injection e with e1 e2 e3
    injection e1 with e1
    injection e1 with e1 _
    subst e1 e3
    refine ⟨by rw [flatK_len s.len, hl], .inr ⟨g, c, cur, rfl, h1, h2, by omega, h4, h5, ?_⟩⟩
    rw [flatK_take s.len, ← h6, List.take_take, Nat.min_eq_left (Nat.mul_le_mul_right s.k (by omega))]
/-- the rest of a row is cleared -/
theorem run_clearR {d : Nat} (h : OwnR s B w (.slice (some ⟨g, 0, none⟩) n c) l) (hi : i < n) (hz1 : s.z.cells.toList.all (·.oneCell') = true) :
    ∃ w', (∀ ty, (Builtin.clear_ #[s.S] ty #[.slice (some ⟨g, i * s.k, none⟩) (n - i) d]).run Tryz.prog w = .ok (.tuple #[]) w') ∧ OwnR s B w' (.slice (some ⟨g, 0, none⟩) i c) (l.take i) ∧ w.grownBy w' (some g) := by
  obtain ⟨i0, hi0, hz0, _, _⟩ := info_parts s.info
  have hn := h.len
  have hr := h.row
  rw [hn] at hr
  have hz : ∀ k, ((Builtin.zeroCells s.z.cells k).toList).length = k * s.k := fun k => by simp [Builtin.zeroCells, s.zk]
  have h1z : ∀ k, ∀ u ∈ (Builtin.zeroCells s.z.cells k).toList, u.oneCell' = true := fun k u hu => by
    simp only [Builtin.zeroCells, Array.toList_map, List.mem_map] at hu
    obtain ⟨j, _, rfl⟩ := hu
    have hlt : j % s.z.cells.size < s.z.cells.size := Nat.mod_lt _ (by rw [s.zk]; exact s.pos)
    rw [getElem!_pos s.z.cells _ hlt]
    exact List.all_eq_true.1 hz1 _ (by simp)
  have hst := run_storeCells_cells (P := Tryz.prog) g (i * s.k) (Builtin.zeroCells s.z.cells (n - i)).toList 0 w (fun j hj => by
    rw [hz] at hj
    have hb : i * s.k + (n - i) * s.k = n * s.k := by rw [← Nat.add_mul, Nat.add_sub_cancel' (Nat.le_of_lt hi)]
    rw [Nat.add_zero, hr.cellAt _ (by omega), List.getElem?_eq_getElem (by rw [hr.1]; omega)]
    rfl) (fun j _ => hr.frozenAt _) (h1z _)
  rw [Nat.add_zero] at hst
  have hcut := h.cut (Nat.le_of_lt hi)
  have hl : (l.take i).length = i := by rw [List.length_take]; omega
  have hcr := hcut.row
  rw [hl] at hcr
  obtain ⟨q1, q2⟩ := own_setCells (Builtin.zeroCells s.z.cells (n - i)).toList (i * s.k) w hcr (Nat.le_refl _)
  refine ⟨_, ?_, ⟨by rw [hl]; exact q1, fun m hm p hp => ?_, hcut.off⟩, q2⟩
  · intro ty
    obtain ⟨m, hm⟩ : ∃ m, n - i = m + 1 := ⟨n - i - 1, by omega⟩
    rw [hm] at hst ⊢
    simp [Builtin.clear_, run_underlying s.und, zeroValue, typeInfo, hi0, hz0, hst]
  · exact readsP_apart (hcut.octs m hm p hp) (hcut.off g rfl m hm p hp) (fun k hk hne => q2.block k hk (fun e => hne (Option.some.inj e))) q2.size
end
end Go.Proofs.YtjhaccmcjlbllaaGreatDoor
/-
  Rows of structs of one's own: one cell of an element is set.
-/
namespace Go.Proofs.YtjhaccmcjlbllaaGreatDoor
open Go.RowKit
theorem flatK_put {M : Type} {f : M → List Value} {k : Nat} (hf : ∀ x, (f x).length = k) : ∀ (l : List M) (i j : Nat) (x y : M) (u : Value), l[i]? = some x → j < k → f y = (f x).set j u → (l.set i y).flatMap f = (l.flatMap f).set (i * k + j) u
  | [], i, j, x, y, u, h, _, _ => by cases h
  | z :: r, 0, j, x, y, u, h, hj, hy => by
    injection h with h
    subst h
    rw [List.set_cons_zero, List.flatMap_cons, List.flatMap_cons, hy, Nat.zero_mul, Nat.zero_add, List.set_append_left _ _ (by rw [hf]; exact hj)]
  | z :: r, i + 1, j, x, y, u, h, hj, hy => by
    rw [List.set_cons_succ, List.flatMap_cons, List.flatMap_cons, flatK_put hf r i j x y u h hj hy, List.set_append_right _ _ (by rw [hf, Nat.succ_mul]; omega), hf]
    congr 2
    rw [Nat.succ_mul]
    omega
section
variable {M : Type} {s : Sh M} {B : Nat} {w w' : World} {l : List M} {g n c i j : Nat}
/-- one cell of an element is set; its parts stay -/
theorem OwnR.put1 {x y : M} {u : Value} (h : OwnR s B w (.slice (some ⟨g, 0, none⟩) n c) l) (hy : l[i]? = some y) (hj : j < s.k) (hx : s.f x = (s.f y).set j u) (hp : s.parts x = s.parts y) :
    OwnR s B (w.setCell ⟨g, i * s.k + j, none⟩ u) (.slice (some ⟨g, 0, none⟩) n c) (l.set i x) ∧ w.grownBy (w.setCell ⟨g, i * s.k + j, none⟩ u) (some g) := by
  have hn := h.len
  have hr := h.row
  rw [hn] at hr
  obtain ⟨h1, h2⟩ := hr.stored (i * s.k + j) u
  rw [← flatK_put s.len l i j y x u hy hj hx] at h1
  have keep : ∀ {p}, ReadsP w p → OffP g p → ReadsP (w.setCell ⟨g, i * s.k + j, none⟩ u) p := fun {p} hp hg => readsP_apart hp hg (fun j hj hne => h2.block j hj (fun e => hne (Option.some.inj e))) h2.size
  have hm0 := List.mem_of_getElem? hy
  refine ⟨⟨by rw [List.length_set, hn]; exact h1, fun m hm p hp' => ?_, fun g' hg' m hm p hp' => ?_⟩, h2⟩
  · rcases List.mem_or_eq_of_mem_set hm with hm | hm
    · exact keep (h.octs m hm p hp') (h.off g rfl m hm p hp')
    · subst hm
      rw [hp] at hp'
      exact keep (h.octs y hm0 p hp') (h.off g rfl y hm0 p hp')
  · rcases List.mem_or_eq_of_mem_set hm with hm | hm
    · exact h.off g' hg' m hm p hp'
    · subst hm
      rw [hp] at hp'
      exact h.off g' hg' y hm0 p hp'
/-- what an element's cell holds -/
theorem OwnR.cellAt {x : M} {u : Value} (h : OwnR s B w (.slice (some ⟨g, 0, none⟩) n c) l) (hx : l[i]? = some x) (hk : (s.f x)[j]? = some u) : w.cell? ⟨g, i * s.k + j, none⟩ = some u := by
  have hn := h.len
  have hr := h.row
  rw [hn] at hr
  have hi := (List.getElem?_eq_some_iff.1 hx).1
  have hj : j < s.k := by have := (List.getElem?_eq_some_iff.1 hk).1; rw [s.len] at this; exact this
  have hle : i * s.k + s.k ≤ n * s.k := by rw [← Nat.succ_mul]; exact Nat.mul_le_mul_right _ (by omega)
  rw [hr.cellAt _ (by omega)]
  exact (flatK_at s.len l i j x hx hj).trans hk
theorem OwnR.frozenAt (h : OwnR s B w (.slice (some ⟨g, 0, none⟩) n c) l) (k : Nat) : w.frozen? ⟨g, k, none⟩ = false := by
  have hn := h.len
  have hr := h.row
  rw [hn] at hr
  exact hr.frozenAt k
/-- another row grows -/
theorem OwnR.grown {v : Value} {row : Option Nat} (h : OwnR s B w v l) (hg : w.grownBy w' row) (hne : ∀ g, v.ownBlock = some g → row ≠ some g) (hoff : ∀ g, row = some g → ∀ m ∈ l, ∀ p ∈ s.parts m, OffP g p) : OwnR s B w' v l := by
  refine ⟨own_keep h.row fun g hg' => hg.block g (World.ownsRow.lt h.row g hg').2 (fun e => hne g hg' e.symm), fun m hm p hp => ?_, h.off⟩
  cases hb : row with
  | none => exact (Reads.grown (h.octs m hm p hp) hg (Nat.le_refl _) fun g hg' => by rw [hb] at hg'; cases hg').more hg.size
  | some g => exact readsP_apart (h.octs m hm p hp) (hoff g hb m hm p hp) (fun j hj hne => hg.block j hj (fun e => by rw [hb] at e; exact hne (Option.some.inj e))) hg.size
/-- rows of different kinds lie in different blocks -/
theorem OwnR.ne {M2 : Type} {s2 : Sh M2} {B2 : Nat} {v v2 : Value} {l2 : List M2} (h : OwnR s B w v l) (h2 : OwnR s2 B2 w v2 l2) (ht : s2.T ≠ s.T) {g : Nat} (hg : v.ownBlock = some g) : v2.ownBlock ≠ some g := fun hg2 => by
  obtain ⟨cs, hc⟩ := own_kind h.row hg
  obtain ⟨cs2, hc2⟩ := own_kind h2.row hg2
  rw [hc] at hc2
  injection hc2 with hc2
  injection hc2 with _ hc2
  exact ht hc2.symm
end
end Go.Proofs.YtjhaccmcjlbllaaGreatDoor
/-
  The memory of search: a reader of tokens; closures that are keys.
-/
namespace Go.Proofs.YtjhaccmcjlbllaaGreatDoor
open Go Go.RowKit
theorem flat_drop2 (l : List TokI) : (l.flatMap tokIC).drop 2 = l.tail.flatMap tokIC := by
  cases l with
  | nil => rfl
  | cons t l => rfl
theorem rowI_cut {w : World} {A : Option Addr} {t : TokI} {r : List TokI} {c : Nat} (h : RowR tokISh w A (t :: r)) (hc : r.length + 1 ≤ c) : RowR tokISh w (if c = 1 then A else A.map (·.add 2)) r := by
  refine ⟨?_, fun m _ p hp => by cases hp⟩
  have h1 : Reads w w.heap.size 2 A (t :: r).length ((t :: r).flatMap tokIC) := h.row
  have h2 := h1.cut (k := 1) (cap := c) (by simp) (by rw [List.length_cons]; exact hc)
  rw [show 1 * 2 = 2 from rfl, flat_drop2, show (t :: r).length - 1 = r.length by simp] at h2
  exact h2
/-- a reader in memory -/
structure RdAt (w : World) (pr : Nat) (l : List TokI) (bad : Bool) : Prop where
  ex : ∃ A c, Blk w pr 131 #[.slice A l.length c, .bool bad] ∧ RowR tokISh w A l ∧ l.length ≤ c ∧ ∀ ad, A = some ad → ∃ cs, Blk w ad.block 60 cs
/-- what a reader's method may turn -/
abbrev TurnR (pr : Nat) (w w' : World) : Prop := Apart (fun i => i = pr) w w'
theorem RdAt.lt {w : World} {pr : Nat} {l : List TokI} {bad : Bool} (h : RdAt w pr l bad) : pr < w.heap.size := by
  obtain ⟨A, c, K, _⟩ := h.ex
  exact K.lt
theorem RdAt.below {w w' : World} {pr : Nat} {l : List TokI} {bad : Bool} (h : RdAt w pr l bad) (hb : Below w.heap.size w w') : RdAt w' pr l bad := by
  obtain ⟨A, c, K, hr, hc, ht⟩ := h.ex
  exact ⟨A, c, K.below hb K.lt, hr.below hb, hc, fun ad e => by
    obtain ⟨cs, k⟩ := ht ad e
    exact ⟨cs, k.below hb k.lt⟩⟩
theorem row_only {w w' : World} {pr : Nat} {A : Option Addr} {l : List TokI} (h : RowR tokISh w A l) (hs : Only pr w w') (hne : ∀ ad, A = some ad → ad.block ≠ pr) : RowR tokISh w' A l := by
  refine ⟨?_, fun m _ p hp => by cases hp⟩
  refine ⟨h.row.1, fun h0 => ?_⟩
  obtain ⟨ad, e, hlt, hc⟩ := h.row.2 h0
  refine ⟨ad, e, by rw [hs.size]; exact hlt, fun j u hu => ?_⟩
  rw [World.cell?_of_block (hs.block _ (by rw [block_of_add]; exact hne ad e))]
  exact hc j u hu
/-- a key's closure: all its blocks are from lo on, and before hi -/
inductive IsKey (lo hi : Nat) (w : World) : KeyA → Value → Prop
  | never : IsKey lo hi w .never (.func (.func 134) #[] #[])
  | all : IsKey lo hi w .all (.func (.func 177) #[] #[])
  | field {n x : List UInt8} {p q : Nat} (hp : Blk w p 9 #[.string (St n)]) (hq : Blk w q 9 #[.string (St x)]) (h1 : lo ≤ p ∧ p < hi) (h2 : lo ≤ q ∧ q < hi) (h3 : n.length ≤ 1048576) (h4 : x.length ≤ 1048576) : IsKey lo hi w (.field n x) (.func (.func 179) #[] #[.pointer (some ⟨p, 0, none⟩), .pointer (some ⟨q, 0, none⟩)])
  | body {x : List UInt8} {q : Nat} (hq : Blk w q 9 #[.string (St x)]) (h2 : lo ≤ q ∧ q < hi) (h4 : x.length ≤ 1048576) : IsKey lo hi w (.body x) (.func (.func 182) #[] #[.pointer (some ⟨q, 0, none⟩)])
  | text {x : List UInt8} {q : Nat} (hq : Blk w q 9 #[.string (St x)]) (h2 : lo ≤ q ∧ q < hi) (h4 : x.length ≤ 1048576) : IsKey lo hi w (.text x) (.func (.func 183) #[] #[.pointer (some ⟨q, 0, none⟩)])
  | larger {n : Int} {q : Nat} (hq : Blk w q 3 #[.int .i64 n]) (h2 : lo ≤ q ∧ q < hi) : IsKey lo hi w (.larger n) (.func (.func 185) #[] #[.pointer (some ⟨q, 0, none⟩)])
  | smaller {n : Int} {q : Nat} (hq : Blk w q 3 #[.int .i64 n]) (h2 : lo ≤ q ∧ q < hi) : IsKey lo hi w (.smaller n) (.func (.func 186) #[] #[.pointer (some ⟨q, 0, none⟩)])
  | set {l : List (Nat × Nat)} {u : Bool} {v : Value} {p q : Nat} (hp : Blk w p 4 #[.bool u]) (hq : Blk w q 64 #[v]) (hv : w.ownsRow lo 193 2 v l.length (spanCells l)) (hl : ∀ g, v.ownBlock = some g → g < hi) (h1 : lo ≤ p ∧ p < hi) (h2 : lo ≤ q ∧ q < hi) (h3 : ∀ x ∈ l, x.1 ≤ 4294967295 ∧ x.2 ≤ 4294967295) (h4 : l.length ≤ 65536) : IsKey lo hi w (.set l u) (.func (.func 188) #[] #[.pointer (some ⟨p, 0, none⟩), .pointer (some ⟨q, 0, none⟩)])
  | flag {i : Nat} {no : Bool} {p q : Nat} (hp : Blk w p 3 #[.int .i64 (i : Nat)]) (hq : Blk w q 4 #[.bool no]) (h1 : lo ≤ p ∧ p < hi) (h2 : lo ≤ q ∧ q < hi) (h3 : i < 5) : IsKey lo hi w (.flag i no) (.func (.func 213) #[] #[.pointer (some ⟨p, 0, none⟩), .pointer (some ⟨q, 0, none⟩)])
  | not {k : KeyA} {v : Value} {q : Nat} (hq : Blk w q 87 #[v]) (h2 : lo ≤ q ∧ q < hi) (hk : IsKey lo hi w k v) : IsKey lo hi w (.not k) (.func (.func 136) #[] #[.pointer (some ⟨q, 0, none⟩)])
  | or {a b : KeyA} {va vb : Value} {p q : Nat} (hp : Blk w p 87 #[va]) (hq : Blk w q 87 #[vb]) (h1 : lo ≤ p ∧ p < hi) (h2 : lo ≤ q ∧ q < hi) (ha : IsKey lo hi w a va) (hb : IsKey lo hi w b vb) : IsKey lo hi w (.or a b) (.func (.func 137) #[] #[.pointer (some ⟨p, 0, none⟩), .pointer (some ⟨q, 0, none⟩)])
  | both {l : List KeyA} {vs : List Value} {v : Value} {q : Nat} (hq : Blk w q 146 #[v]) (h2 : lo ≤ q ∧ q < hi) (hv : w.ownsRow lo 87 1 v l.length vs) (hl : ∀ g, v.ownBlock = some g → g < hi) (hk : ∀ (i : Nat) (k : KeyA) (x : Value), l[i]? = some k → vs[i]? = some x → IsKey lo hi w k x) : IsKey lo hi w (.both l) (.func (.func 97) #[] #[.pointer (some ⟨q, 0, none⟩)])
theorem IsKey.wide {lo hi lo' hi' : Nat} {w : World} {k : KeyA} {v : Value} (h : IsKey lo hi w k v) (h1 : lo' ≤ lo) (h2 : hi ≤ hi') : IsKey lo' hi' w k v := by
  induction h with
  | never => exact .never
  | all => exact .all
  | field hp hq a b c d => exact .field hp hq ⟨Nat.le_trans h1 a.1, Nat.lt_of_lt_of_le a.2 h2⟩ ⟨Nat.le_trans h1 b.1, Nat.lt_of_lt_of_le b.2 h2⟩ c d
  | body hq b d => exact .body hq ⟨Nat.le_trans h1 b.1, Nat.lt_of_lt_of_le b.2 h2⟩ d
  | text hq b d => exact .text hq ⟨Nat.le_trans h1 b.1, Nat.lt_of_lt_of_le b.2 h2⟩ d
  | larger hq b => exact .larger hq ⟨Nat.le_trans h1 b.1, Nat.lt_of_lt_of_le b.2 h2⟩
  | smaller hq b => exact .smaller hq ⟨Nat.le_trans h1 b.1, Nat.lt_of_lt_of_le b.2 h2⟩
  | set hp hq hv hl a b c d => exact .set hp hq (own_mono hv h1) (fun g e => Nat.lt_of_lt_of_le (hl g e) h2) ⟨Nat.le_trans h1 a.1, Nat.lt_of_lt_of_le a.2 h2⟩ ⟨Nat.le_trans h1 b.1, Nat.lt_of_lt_of_le b.2 h2⟩ c d
  | flag hp hq a b c => exact .flag hp hq ⟨Nat.le_trans h1 a.1, Nat.lt_of_lt_of_le a.2 h2⟩ ⟨Nat.le_trans h1 b.1, Nat.lt_of_lt_of_le b.2 h2⟩ c
  | not hq b _ ih => exact .not hq ⟨Nat.le_trans h1 b.1, Nat.lt_of_lt_of_le b.2 h2⟩ ih
  | or hp hq a b _ _ ih1 ih2 => exact .or hp hq ⟨Nat.le_trans h1 a.1, Nat.lt_of_lt_of_le a.2 h2⟩ ⟨Nat.le_trans h1 b.1, Nat.lt_of_lt_of_le b.2 h2⟩ ih1 ih2
  | both hq b hv hl _ ih => exact .both hq ⟨Nat.le_trans h1 b.1, Nat.lt_of_lt_of_le b.2 h2⟩ (own_mono hv h1) (fun g e => Nat.lt_of_lt_of_le (hl g e) h2) (fun i k x e1 e2 => ih i k x e1 e2)
theorem IsKey.keep {lo hi : Nat} {w w' : World} {k : KeyA} {v : Value} (h : IsKey lo hi w k v) (hk : ∀ g, lo ≤ g → g < hi → w'.heap[g]? = w.heap[g]?) : IsKey lo hi w' k v := by
  have kb : ∀ {g : Nat} {T : TypeId} {cs : Array Value}, Blk w g T cs → lo ≤ g ∧ g < hi → Blk w' g T cs := fun K b => (hk _ b.1 b.2).trans K
  induction h with
  | never => exact .never
  | all => exact .all
  | field hp hq a b c d => exact .field (kb hp a) (kb hq b) a b c d
  | body hq b d => exact .body (kb hq b) b d
  | text hq b d => exact .text (kb hq b) b d
  | larger hq b => exact .larger (kb hq b) b
  | smaller hq b => exact .smaller (kb hq b) b
  | set hp hq hv hl a b c d => exact .set (kb hp a) (kb hq b) (own_keep hv fun g e => hk g (World.ownsRow.lt hv g e).1 (hl g e)) hl a b c d
  | flag hp hq a b c => exact .flag (kb hp a) (kb hq b) a b c
  | not hq b _ ih => exact .not (kb hq b) b ih
  | or hp hq a b _ _ ih1 ih2 => exact .or (kb hp a) (kb hq b) a b ih1 ih2
  | both hq b hv hl _ ih => exact .both (kb hq b) b (own_keep hv fun g e => hk g (World.ownsRow.lt hv g e).1 (hl g e)) hl (fun i k x e1 e2 => ih i k x e1 e2)
theorem IsKey.later {lo hi : Nat} {w w' : World} {k : KeyA} {v : Value} (h : IsKey lo hi w k v) (hb : Below w.heap.size w w') (hh : hi ≤ w.heap.size) : IsKey lo hi w' k v := h.keep fun g _ h2 => hb.block g (Nat.lt_of_lt_of_le h2 hh)
end Go.Proofs.YtjhaccmcjlbllaaGreatDoor
/-
  The bytes of a text, copied ([]byte(s)), and turned in place.
-/
namespace Go.Proofs.YtjhaccmcjlbllaaGreatDoor
open Go Go.RowKit
/-- a block of a text's bytes; the mark of a conversion stands behind them -/
def BytF (w : World) (g : Nat) (l : List UInt8) : Prop := ∃ (z : List Value) (k : Nat), l.length ≤ k ∧ w.heap[g]? = some (.cells (u8s l ++ z).toArray 5 (k, k + 1))
section
variable {w w' : World} {g : Nat} {l : List UInt8}
theorem BytF.lt (h : BytF w g l) : g < w.heap.size := by
  obtain ⟨z, k, _, h⟩ := h
  rcases Nat.lt_or_ge g w.heap.size with hlt | hge
  · exact hlt
  · rw [Array.getElem?_eq_none hge] at h; cases h
theorem BytF.cell (h : BytF w g l) {j : Nat} {x : UInt8} (hx : l[j]? = some x) : w.cell? ⟨g, j, none⟩ = some (.int .u8 ((x.toNat : Nat) : Int)) := by
  obtain ⟨z, k, _, h⟩ := h
  rw [cell_of_row w g j _ _ _ h]
  have hj := (List.getElem?_eq_some_iff.1 hx).1
  have e : (u8s l)[j]? = some (.int .u8 ((x.toNat : Nat) : Int)) := by simp [u8s, hx]
  simp [List.getElem?_append_left (show j < (u8s l).length by rw [u8s_length]; exact hj), e]
theorem BytF.frozen (h : BytF w g l) {j : Nat} (hj : j < l.length) : w.frozen? ⟨g, j, none⟩ = false := by
  obtain ⟨z, k, hk, h⟩ := h
  simp [World.frozen?, h]
  omega
theorem BytF.set_ (h : BytF w g l) {j : Nat} (hj : j < l.length) (x : UInt8) : BytF (w.setCell ⟨g, j, none⟩ (.int .u8 ((x.toNat : Nat) : Int))) g (l.set j x) := by
  obtain ⟨z, k, hk, h⟩ := h
  refine ⟨z, k, by rw [List.length_set]; exact hk, ?_⟩
  have e : (u8s l ++ z).set j (.int .u8 ((x.toNat : Nat) : Int)) = u8s (l.set j x) ++ z := by
    rw [List.set_append_left _ _ (by rw [u8s_length]; exact hj)]
    congr 1
    simp [u8s, List.map_set]
  rw [← e]
  simp [World.setCell, Array.getElem?_modify, h]
theorem BytF.reads (h : BytF w g l) : Reads w w.heap.size 1 (some ⟨g, 0, none⟩) l.length (u8s l) := by
  refine ⟨by rw [u8s_length, Nat.mul_one], fun _ => ⟨_, rfl, h.lt, fun j u hu => ?_⟩⟩
  have hj : j < l.length := by have := (List.getElem?_eq_some_iff.1 hu).1; rwa [u8s_length] at this
  rw [add0, h.cell (List.getElem?_eq_getElem hj), ← hu]
  simp [u8s, List.getElem?_eq_getElem hj]
theorem BytF.below (h : BytF w g l) (hb : Below w.heap.size w w') : BytF w' g l := by
  have hl := h.lt
  obtain ⟨z, k, hk, h⟩ := h
  exact ⟨z, k, hk, (hb.block g hl).trans h⟩
end
theorem conv_bytF (l : List UInt8) (w : World) : ∃ c w', (convert 9 23 (.string (St l))).run Tryz.prog w = .ok (.slice (some ⟨w.heap.size, 0, none⟩) l.length c) w' ∧ BytF w' w.heap.size l ∧ Below w.heap.size w w' ∧ w'.heap.size = w.heap.size + 1 := by
  have hcv := Lib.run_convert_string_bytes (P := Tryz.prog) w 9 23 5 (St l) Tryz.underlying9 Tryz.underlying23 Tryz.underlying5
  refine ⟨_, _, hcv, ?_, ⟨rfl, rfl, rfl, by rw [Lib.bytesWorld_size]; omega, fun k hk => Lib.bytesWorld_at_old w 5 (St l) k hk⟩, Lib.bytesWorld_size _ _ _⟩
  have h := Lib.bytesWorld_at_new w 5 (St l)
  have e : Lib.bytesCells w 5 (St l) = (u8s l ++ List.replicate (grownCap w (St l).size 0 5 - (St l).size) (Value.int .u8 0)).toArray := by
    unfold Lib.bytesCells
    simp [u8s]
  rw [e] at h
  exact ⟨_, _, by simp [u8s_length], h⟩
section
variable {P : Program} {Q : Exit → Act → World → Prop} {a : Act} {w w' : World} {n : Nat} {Γ : Env} {l rest : List Oper} {o : Oper} {t : Nat} {v : Value}
/-- a byte of a text's copy is set -/
theorem wl_setb {g j : Nat} {m : List UInt8} (x : UInt8) (hA : At n Γ a) (hg : o.guard = none) (hd : o.dst = none) (hK : BytF w g m) (hj : j < m.length) (hrun : ∀ ev, EvIn Γ ev → (execOp ev o).run P w = .ok .skip (w.setCell ⟨g, j, none⟩ (.int .u8 ((x.toNat : Nat) : Int))))
    (hk : ∀ w1, BytF w1 g (m.set j x) → Only g w w1 → wpList P l.toArray Q rest a w1) : wpList P l.toArray Q (o :: rest) a w :=
  wl_skip hA hg hd hrun (hk _ (hK.set_ hj x) Only.set)
end
end Go.Proofs.YtjhaccmcjlbllaaGreatDoor
/-
  Walk: head.lower.
-/
namespace Go.Proofs.YtjhaccmcjlbllaaGreatDoor
open Go.RowKit
set_option linter.unusedSimpArgs false
set_option linter.unusedVariables false
def low1 (c : UInt8) : UInt8 := if 65 ≤ c ∧ c ≤ 90 then c + 32 else c
theorem lowerS_eq (l : List UInt8) : lowerS l = l.map low1 := rfl
/-- the first bytes are turned -/
def mixS (f : UInt8 → UInt8) (l : List UInt8) (j : Nat) : List UInt8 := (l.take j).map f ++ l.drop j
theorem mix_len (f : UInt8 → UInt8) (l : List UInt8) (j : Nat) : (mixS f l j).length = l.length := by
  unfold mixS
  rw [List.length_append, List.length_map, List.length_take, List.length_drop]
  omega
theorem mix_at {f : UInt8 → UInt8} {l : List UInt8} {j : Nat} {x : UInt8} (hx : l[j]? = some x) : (mixS f l j)[j]? = some x := by
  have hj := (List.getElem?_eq_some_iff.1 hx).1
  unfold mixS
  rw [List.getElem?_append_right (by rw [List.length_map, List.length_take]; omega), List.length_map, List.length_take, show j - min j l.length = 0 by omega, List.getElem?_drop, Nat.add_zero]
  exact hx
theorem mix_set {f : UInt8 → UInt8} {l : List UInt8} {j : Nat} {x : UInt8} (hx : l[j]? = some x) : (mixS f l j).set j (f x) = mixS f l (j + 1) := by
  have hj := (List.getElem?_eq_some_iff.1 hx).1
  unfold mixS
  rw [List.set_append_right _ _ (by rw [List.length_map, List.length_take]; omega), List.length_map, List.length_take, show j - min j l.length = 0 by omega, List.take_add_one, hx, List.map_append, List.append_assoc]
  congr 1
  rw [show l.drop j = x :: l.drop (j + 1) by rw [← (List.getElem?_eq_some_iff.1 hx).2]; exact List.drop_eq_getElem_cons hj]
  rfl
theorem mix_skip {f : UInt8 → UInt8} {l : List UInt8} {j : Nat} {x : UInt8} (hx : l[j]? = some x) (hf : f x = x) : mixS f l (j + 1) = mixS f l j := by
  have hj := (List.getElem?_eq_some_iff.1 hx).1
  unfold mixS
  rw [List.take_add_one, hx, List.map_append, List.append_assoc, show l.drop j = x :: l.drop (j + 1) by rw [← (List.getElem?_eq_some_iff.1 hx).2]; exact List.drop_eq_getElem_cons hj]
  show _ ++ (f x :: l.drop (j + 1)) = _
  rw [hf]
theorem mix_zero (f : UInt8 → UInt8) (l : List UInt8) : mixS f l 0 = l := rfl
theorem mix_all {f : UInt8 → UInt8} {l : List UInt8} {j : Nat} (h : l.length ≤ j) : mixS f l j = l.map f := by
  unfold mixS
  rw [List.take_of_length_le h, List.drop_of_length_le h, List.append_nil]
theorem low_yes {x : UInt8} (h1 : 65 ≤ x.toNat) (h2 : x.toNat ≤ 90) : ((low1 x).toNat : Nat) = x.toNat + 32 := by
  unfold low1
  rw [if_pos ⟨UInt8.le_iff_toNat_le.2 h1, UInt8.le_iff_toNat_le.2 h2⟩, UInt8.toNat_add]
  show (x.toNat + 32) % 256 = _
  omega
theorem low_no {x : UInt8} (h : ¬ (65 ≤ x.toNat ∧ x.toNat ≤ 90)) : low1 x = x := by
  unfold low1
  refine if_neg fun e => h ?_
  have h1 := UInt8.le_iff_toNat_le.1 e.1
  have h2 := UInt8.le_iff_toNat_le.1 e.2
  exact ⟨h1, h2⟩
set_option maxRecDepth 100000 in
set_option maxHeartbeats 4000000 in
theorem lower_any (s : List UInt8) (w : World) (hs : s.length ≤ 1000000000) : Calls Tryz.prog 67 #[.string (St s)] w fun ev w' => ev = .returned (.string (St (lowerS s))) ∧ Below w.heap.size w w' := by
  obtain ⟨c, w1, hcv, hK, hb1, hz1⟩ := conv_bytF s w
  refine calls_at 30 Tryz.func67 rfl rfl (Nat.le_of_ble_eq_true rfl) ?_
  intro a hA; replace hA := hA.norm
  refine wS (wR ?_)
  revert a; refine wo rfl rfl (by decide) (fun ev e h => by simp [go_sem, h] <;> rfl) ?_; intro a hA
  replace hA := hA.keepN [0]
  refine wN (nT (wS (wR ?_)))
  revert a; refine wo rfl rfl (by decide) (fun ev e h => by simp [go_sem, h] <;> rfl) ?_; intro a hA
  refine wl_op hA rfl rfl (by decide) (fun ev h => by simp [go_sem, h.get 6 rfl, hcv]; try first | exact ⟨rfl, rfl⟩ | rfl) fun a hA => ?_
  revert a; refine wo rfl rfl (by decide) (fun ev e h => by simp [go_sem, h] <;> rfl) ?_; intro a hA
  replace hA := hA.keepN [3]
  refine wN (nT (wS (wS (wR ?_))))
  revert a; (iterate 3 refine wo rfl rfl (by decide) (fun ev e h => by simp [go_sem, h] <;> rfl) ?_); intro a hA
  replace hA := hA.keepN [3, 8, 9, 10]
  refine wN (nT (wB ?_))
  refine wp_loop_at (fun f a wx => ∃ j : Nat, j + f = s.length ∧ BytF wx w.heap.size (mixS low1 s j) ∧ Below w.heap.size w wx ∧ wx.heap.size = w1.heap.size ∧ At 30 [(3, .slice (some ⟨w.heap.size, 0, none⟩) s.length c), (8, .slice (some ⟨w.heap.size, 0, none⟩) s.length c), (9, .int .i64 (s.length : Nat)), (10, .int .i64 (j : Nat))] a) (s.length) ?_ ?_
  · exact ⟨0, by omega, hK, hb1, rfl, hA⟩
  clear hA hK hb1
  rintro f a wx ⟨j, hjf, hK, HB, hzx, hA⟩
  refine wS (wR ?_)
  revert a; refine wo rfl rfl (by decide) (fun ev e h => by simp [go_sem, h] <;> rfl) ?_; intro a hA
  replace hA := hA.keepN [3, 8, 9, 10, 11]
  refine wN (nT (wS ?_))
  refine wp_if hA 11 _ rfl (fun hq => ?yA) (fun hq => ?nA)
  case nA =>
    have hjn : s.length ≤ j := by simp at hq; omega
    rw [mix_all hjn] at hK
    have hr := hK.reads
    rw [List.length_map] at hr
    have hcv2 := conv_reads (n := s.length) (c := c) (l := s.map low1) (by rw [List.length_map]) hr
    replace hA := hA.keepN [3]
    refine wp_exit (xT (xT (xB (nT (wS (wR ?_))))))
    revert a; refine wo rfl rfl (by decide) (fun ev e h => by simp [go_sem, h, hcv2] <;> rfl) ?_; intro a hA
    refine wl_op hA rfl rfl (by decide) (fun ev h => by simp [go_sem, h.get 28 rfl, hcv2]; try first | exact ⟨rfl, rfl⟩ | rfl) fun a hA => ?_
    revert a; refine wo rfl rfl (by decide) (fun ev e h => by simp [go_sem, h, hcv2] <;> rfl) ?_; intro a hA
    replace hA := hA.keepN [2]
    refine wN (nT (wp_ret ?_))
    refine ret_1 hA 2 rfl rfl ?_
    exact ⟨rfl, HB⟩
  case yA =>
    have hjn : j < s.length := by simp at hq; omega
    obtain ⟨x, hx⟩ : ∃ x, s[j]? = some x := ⟨_, List.getElem?_eq_getElem hjn⟩
    have hcell := hK.cell (mix_at (f := low1) hx)
    have jj0 : (0 : Int) ≤ (j : Int) := by omega
    have jj1 : (j : Int) < (s.length : Int) := by omega
    have i3 : IntKind.i64.wrap (((j : Nat) : Int) + 1) = ((j + 1 : Nat) : Int) := by rw [IntWalk.i64_in _ (by omega)]; omega
    refine wp_skip (nT (wS (wB (wS (wR ?_)))))
    revert a; (iterate 5 refine wo rfl rfl (by decide) (fun ev e h => by simp [go_sem, h, add0, hcell, jj0, jj1] <;> rfl) ?_); intro a hA
    replace hA := hA.keepN [3, 4, 5, 8, 9, 10]
    refine wN (nT (wS (wR ?_)))
    revert a; (iterate 3 refine wo rfl rfl (by decide) (fun ev e h => by simp [go_sem, h, add0, hcell, jj0, jj1] <;> rfl) ?_); (iterate 2 refine wg _ rfl rfl rfl rfl (by decide) (fun hq ev e h => by simp [go_sem, h, ↓gw_t (beq_t hq), add0, hcell, jj0, jj1] <;> rfl) ?_); refine wka rfl rfl (by decide) rfl rfl rfl ?_; intro a hA
    replace hA := hA.keepN [3, 4, 5, 8, 9, 10, 20]
    refine wN (nT ?_)
    refine wp_if hA 20 _ rfl (fun hq2 => ?yB) (fun hq2 => ?nB)
    case nB =>
      have hn : low1 x = x := low_no (by simp at hq2; omega)
      rw [← mix_skip hx hn] at hK
      refine wp_skip (nB (nT (wR ?_)))
      revert a; (iterate 2 refine wo rfl rfl (by decide) (fun ev e h => by simp [go_sem, h, i3] <;> rfl) ?_); intro a hA
      replace hA := hA.keepN [3, 8, 9, 10]
      refine wN (nT ?_)
      exact ⟨f - 1, by omega, j + 1, by omega, hK, HB, hzx, hA⟩
    case yB =>
      have h1 : 65 ≤ x.toNat ∧ x.toNat ≤ 90 := by simp at hq2; omega
      have hy := low_yes h1.1 h1.2
      obtain ⟨y, hye⟩ : ∃ y, low1 x = y := ⟨_, rfl⟩
      rw [hye] at hy
      have u1 : IntKind.u8.wrap (((x.toNat : Nat) : Int) + 97) = ((x.toNat + 97 : Nat) : Int) := by rw [IntWalk.u8_in _ (by omega)]; omega
      have u2 : IntKind.u8.wrap (((x.toNat + 97 : Nat) : Int) - 65) = ((y.toNat : Nat) : Int) := by rw [IntWalk.u8_in _ (by omega)]; omega
      obtain ⟨q, hq9⟩ : ∃ q, x.toNat + 97 = q := ⟨_, rfl⟩
      rw [hq9] at u1 u2
      have hlj : j < (mixS low1 s j).length := by rw [mix_len]; exact hjn
      refine wR ?_
      revert a; (iterate 6 refine wo rfl rfl (by decide) (fun ev e h => by simp [go_sem, h, add0, u1, u2, jj0, jj1, hcell] <;> rfl) ?_); intro a hA
      refine wl_setb (y) hA rfl rfl hK hlj (fun ev h => by simp [go_sem, h.get 26 rfl, h.get 25 rfl, add0, u1, u2, jj0, jj1, hcell, add0, hK.frozen hlj]; try first | exact ⟨rfl, rfl⟩ | rfl) fun w2 hK hs2 => ?_
      rw [← hye, mix_set hx] at hK
      replace hA := hA.keepN [3, 8, 9, 10]
      refine wN (nB (nT (wR ?_)))
      revert a; (iterate 2 refine wo rfl rfl (by decide) (fun ev e h => by simp [go_sem, h, i3] <;> rfl) ?_); intro a hA
      replace hA := hA.keepN [3, 8, 9, 10]
      refine wN (nT ?_)
      exact ⟨f - 1, by omega, j + 1, by omega, hK, hs2.below HB (Nat.le_refl _), by rw [hs2.size]; exact hzx, hA⟩
end Go.Proofs.YtjhaccmcjlbllaaGreatDoor
/-
  Walks: search.letters; the reader's take, word, number.
-/
namespace Go.Proofs.YtjhaccmcjlbllaaGreatDoor
open Go.RowKit
set_option linter.unusedSimpArgs false
set_option linter.unusedVariables false
def lett1 (first c : UInt8) : UInt8 := if first ≤ c ∧ c < first + 26 then c ^^^ 32 else c
theorem lettS_eq (first : UInt8) (l : List UInt8) : lettS first l = l.map (lett1 first) := rfl
theorem lett_yes {f x : UInt8} (hf : f = 65 ∨ f = 97) (h1 : f.toNat ≤ x.toNat) (h2 : x.toNat < f.toNat + 26) : lett1 f x = x ^^^ 32 := by
  unfold lett1
  refine if_pos ⟨UInt8.le_iff_toNat_le.2 h1, UInt8.lt_iff_toNat_lt.2 ?_⟩
  rcases hf with rfl | rfl
  · show _ < 91; exact h2
  · show _ < 123; exact h2
theorem lett_no {f x : UInt8} (hf : f = 65 ∨ f = 97) (h : ¬ (f.toNat ≤ x.toNat ∧ x.toNat < f.toNat + 26)) : lett1 f x = x := by
  unfold lett1
  refine if_neg fun e => h ⟨UInt8.le_iff_toNat_le.1 e.1, ?_⟩
  have h2 := UInt8.lt_iff_toNat_lt.1 e.2
  rcases hf with rfl | rfl
  · exact h2
  · exact h2
set_option maxRecDepth 100000 in
set_option maxHeartbeats 4000000 in
theorem letters_any (s : List UInt8) (f : UInt8) (w : World) (hf : f = 65 ∨ f = 97) (hs : s.length ≤ 1000000000) : Calls Tryz.prog 135 #[.string (St s), .int .u8 ((f.toNat : Nat) : Int)] w fun ev w' => ev = .returned (.string (St (lettS f s))) ∧ Below w.heap.size w w' := by
  obtain ⟨c, w1, hcv, hK, hb1, hz1⟩ := conv_bytF s w
  have hf2 : f.toNat ≤ 97 := by rcases hf with rfl | rfl <;> decide
  refine calls_at 34 Tryz.func135 rfl rfl (Nat.le_of_ble_eq_true rfl) ?_
  intro a hA; replace hA := hA.norm
  refine wS (wR ?_)
  revert a; refine wo rfl rfl (by decide) (fun ev e h => by simp [go_sem, h] <;> rfl) ?_; intro a hA
  replace hA := hA.keepN [0, 1]
  refine wN (nT (wS (wR ?_)))
  revert a; refine wo rfl rfl (by decide) (fun ev e h => by simp [go_sem, h] <;> rfl) ?_; intro a hA
  refine wl_op hA rfl rfl (by decide) (fun ev h => by simp [go_sem, h.get 8 rfl, hcv]; try first | exact ⟨rfl, rfl⟩ | rfl) fun a hA => ?_
  revert a; refine wo rfl rfl (by decide) (fun ev e h => by simp [go_sem, h] <;> rfl) ?_; intro a hA
  replace hA := hA.keepN [1, 5]
  refine wN (nT (wS (wS (wR ?_))))
  revert a; (iterate 3 refine wo rfl rfl (by decide) (fun ev e h => by simp [go_sem, h] <;> rfl) ?_); intro a hA
  replace hA := hA.keepN [1, 5, 10, 11, 12]
  refine wN (nT (wB ?_))
  refine wp_loop_at (fun k a wx => ∃ j : Nat, j + k = s.length ∧ BytF wx w.heap.size (mixS (lett1 f) s j) ∧ Below w.heap.size w wx ∧ At 34 [(1, .int .u8 ((f.toNat : Nat) : Int)), (5, .slice (some ⟨w.heap.size, 0, none⟩) s.length c), (10, .slice (some ⟨w.heap.size, 0, none⟩) s.length c), (11, .int .i64 (s.length : Nat)), (12, .int .i64 (j : Nat))] a) (s.length) ?_ ?_
  · exact ⟨0, by omega, hK, hb1, hA⟩
  clear hA hK hb1
  rintro k a wx ⟨j, hjk, hK, HB, hA⟩
  refine wS (wR ?_)
  revert a; refine wo rfl rfl (by decide) (fun ev e h => by simp [go_sem, h] <;> rfl) ?_; intro a hA
  replace hA := hA.keepN [1, 5, 10, 11, 12, 13]
  refine wN (nT (wS ?_))
  refine wp_if hA 13 _ rfl (fun hq => ?yA) (fun hq => ?nA)
  case nA =>
    have hjn : s.length ≤ j := by simp at hq; omega
    rw [mix_all hjn] at hK
    have hr := hK.reads
    rw [List.length_map] at hr
    have hcv2 := conv_reads (n := s.length) (c := c) (l := s.map (lett1 f)) (by rw [List.length_map]) hr
    replace hA := hA.keepN [5]
    refine wp_exit (xT (xT (xB (nT (wS (wR ?_))))))
    revert a; refine wo rfl rfl (by decide) (fun ev e h => by simp [go_sem, h, hcv2] <;> rfl) ?_; intro a hA
    refine wl_op hA rfl rfl (by decide) (fun ev h => by simp [go_sem, h.get 32 rfl, hcv2]; try first | exact ⟨rfl, rfl⟩ | rfl) fun a hA => ?_
    revert a; refine wo rfl rfl (by decide) (fun ev e h => by simp [go_sem, h, hcv2] <;> rfl) ?_; intro a hA
    replace hA := hA.keepN [4]
    refine wN (nT (wp_ret ?_))
    refine ret_1 hA 4 rfl rfl ?_
    exact ⟨rfl, HB⟩
  case yA =>
    have hjn : j < s.length := by simp at hq; omega
    obtain ⟨x, hx⟩ : ∃ x, s[j]? = some x := ⟨_, List.getElem?_eq_getElem hjn⟩
    have hcell := hK.cell (mix_at (f := lett1 f) hx)
    have jj0 : (0 : Int) ≤ (j : Int) := by omega
    have jj1 : (j : Int) < (s.length : Int) := by omega
    have i3 : IntKind.i64.wrap (((j : Nat) : Int) + 1) = ((j + 1 : Nat) : Int) := by rw [IntWalk.i64_in _ (by omega)]; omega
    have u1 : IntKind.u8.wrap (((f.toNat : Nat) : Int) + 26) = ((f.toNat + 26 : Nat) : Int) := by rw [IntWalk.u8_in _ (by omega)]; omega
    obtain ⟨f2, hf3⟩ : ∃ f2, f.toNat + 26 = f2 := ⟨_, rfl⟩
    rw [hf3] at u1
    refine wp_skip (nT (wS (wB (wS (wR ?_)))))
    revert a; (iterate 5 refine wo rfl rfl (by decide) (fun ev e h => by simp [go_sem, h, add0, hcell, jj0, jj1, u1] <;> rfl) ?_); intro a hA
    replace hA := hA.keepN [1, 5, 6, 7, 10, 11, 12]
    refine wN (nT (wS (wR ?_)))
    revert a; (iterate 4 refine wo rfl rfl (by decide) (fun ev e h => by simp [go_sem, h, add0, hcell, jj0, jj1, u1] <;> rfl) ?_); (iterate 4 refine wg _ rfl rfl rfl rfl (by decide) (fun hq ev e h => by simp [go_sem, h, ↓gw_t (beq_t hq), add0, hcell, jj0, jj1, u1] <;> rfl) ?_); refine wka rfl rfl (by decide) rfl rfl rfl ?_; intro a hA
    replace hA := hA.keepN [1, 5, 6, 7, 10, 11, 12, 25]
    refine wN (nT ?_)
    refine wp_if hA 25 _ rfl (fun hq2 => ?yB) (fun hq2 => ?nB)
    case nB =>
      have hn : lett1 f x = x := lett_no hf (by simp at hq2; omega)
      rw [← mix_skip hx hn] at hK
      refine wp_skip (nB (nT (wR ?_)))
      revert a; (iterate 2 refine wo rfl rfl (by decide) (fun ev e h => by simp [go_sem, h, i3] <;> rfl) ?_); intro a hA
      replace hA := hA.keepN [1, 5, 10, 11, 12]
      refine wN (nT ?_)
      exact ⟨k - 1, by omega, j + 1, by omega, hK, HB, hA⟩
    case yB =>
      have h1 : f.toNat ≤ x.toNat ∧ x.toNat < f.toNat + 26 := by simp at hq2; omega
      have hy := lett_yes hf h1.1 h1.2
      have hlj : j < (mixS (lett1 f) s j).length := by rw [mix_len]; exact hjn
      have hx8 : x.toNat < 256 := x.toNat_lt
      have u2 : bits .xor .u8 ((x.toNat : Nat) : Int) 32 = (((x ^^^ 32).toNat : Nat) : Int) := by
        have := u8_xor_nat x.toNat 32 hx8 (by decide)
        rw [UInt8.toNat_xor]
        exact this
      obtain ⟨y, hye⟩ : ∃ y, x ^^^ 32 = y := ⟨_, rfl⟩
      rw [hye] at u2 hy
      refine wR ?_
      revert a; (iterate 5 refine wo rfl rfl (by decide) (fun ev e h => by simp [go_sem, h, add0, jj0, jj1, hcell, u2] <;> rfl) ?_); intro a hA
      refine wl_setb (y) hA rfl rfl hK hlj (fun ev h => by simp [go_sem, h.get 30 rfl, h.get 29 rfl, add0, jj0, jj1, hcell, u2, add0, hK.frozen hlj]; try first | exact ⟨rfl, rfl⟩ | rfl) fun w2 hK hs2 => ?_
      rw [← hy, mix_set hx] at hK
      replace hA := hA.keepN [1, 5, 10, 11, 12]
      refine wN (nB (nT (wR ?_)))
      revert a; (iterate 2 refine wo rfl rfl (by decide) (fun ev e h => by simp [go_sem, h, i3] <;> rfl) ?_); intro a hA
      replace hA := hA.keepN [1, 5, 10, 11, 12]
      refine wN (nT ?_)
      exact ⟨k - 1, by omega, j + 1, by omega, hK, hs2.below HB (Nat.le_refl _), hA⟩
set_option maxRecDepth 100000 in
set_option maxHeartbeats 4000000 in
theorem within_any (s x : List UInt8) (m : Int) (w : World) (hm : w.cell? ⟨0, 0, none⟩ = some (.int .i64 m)) (hs : s.length ≤ 4000000) (hx : x.length ≤ 4000000) : Calls Tryz.prog 181 #[.string (St s), .string (St x)] w fun ev w' => ev = .returned (.bool (withinS s x)) ∧ Below w.heap.size w w' := by
  have hm0 : 0 < w.heap.size := block_lt_of_cell hm
  have HB := Below.refl w.heap.size w
  have hl1 : (lettS 65 s).length = s.length := by rw [lettS_eq, List.length_map]
  refine calls_at 10 Tryz.func181 rfl rfl (Nat.le_of_ble_eq_true rfl) ?_
  intro a hA; replace hA := hA.norm
  refine wS (wR ?_)
  revert a; refine wo rfl rfl (by decide) (fun ev e h => by simp [go_sem, h] <;> rfl) ?_; intro a hA
  replace hA := hA.keepN [0, 1]
  refine wN (nT (wS (wR ?_)))
  revert a; refine wo rfl rfl (by decide) (fun ev e h => by simp [go_sem, h] <;> rfl) ?_; intro a hA
  refine wl_call hA rfl rfl (by decide) (fun ev h => exec_call Tryz.func135 (by kernel_rfl) rfl (h.f _) (by first | (simp only [mL, h.get 5 rfl, h.c] <;> rfl) | (simp [mL, h.get 5 rfl, h.c] <;> rfl))) (letters_any s 65 w (.inl rfl) (by omega)) ?_
  rintro e w1 ⟨rfl, hb1⟩
  refine ⟨_, rfl, fun a hA => ?_⟩
  replace HB := HB.trans (hb1.mono HB.size)
  revert a; refine wo rfl rfl (by decide) (fun ev e h => by simp [go_sem, h] <;> rfl) ?_; intro a hA
  refine wl_call hA rfl rfl (by decide) (fun ev h => exec_call Tryz.func135 (by kernel_rfl) rfl (h.f _) (by first | (simp only [mL, h.get 7 rfl, h.c] <;> rfl) | (simp [mL, h.get 7 rfl, h.c] <;> rfl))) (letters_any x 65 _ (.inl rfl) (by omega)) ?_
  rintro e w2 ⟨rfl, hb2⟩
  refine ⟨_, rfl, fun a hA => ?_⟩
  replace HB := HB.trans (hb2.mono HB.size)
  refine wl_call hA rfl rfl (by decide) (fun ev h => exec_call Tryz.func212 (by kernel_rfl) rfl (h.f _) (by first | (simp only [mL, h.get 6 rfl, h.get 8 rfl, h.c] <;> rfl) | (simp [mL, h.get 6 rfl, h.get 8 rfl, h.c] <;> rfl))) (Tryz.strings_Contains (St (lettS 65 s)) (St (lettS 65 x)) m _ (by show (lettS 65 s).length < _; omega) ((HB.cell hm0).trans hm)) ?_
  rintro e w3 ⟨rfl, rfl⟩
  refine ⟨_, rfl, fun a hA => ?_⟩
  revert a; refine wo rfl rfl (by decide) (fun ev e h => by simp [go_sem, h] <;> rfl) ?_; intro a hA
  replace hA := hA.keepN [4]
  refine wN (nT (wp_ret ?_))
  refine ret_1 hA 4 rfl rfl ?_
  exact ⟨rfl, HB⟩
/-- taking a token turns the reader alone -/
theorem TurnR.refl (pr : Nat) (w : World) : TurnR pr w w := Apart.refl _ _
theorem TurnR.trans {pr : Nat} {w w2 w3 : World} (h : TurnR pr w w2) (h2 : TurnR pr w2 w3) : TurnR pr w w3 := Apart.trans h h2 fun _ _ e => e
theorem TurnR.below {pr : Nat} {w w2 w3 : World} (h : TurnR pr w w2) (h2 : Below w2.heap.size w2 w3) : TurnR pr w w3 := Apart.below h h2
theorem TurnR.only {pr : Nat} {w w2 w3 : World} (h : TurnR pr w w2) (h2 : Only pr w2 w3) : TurnR pr w w3 := Apart.only h h2 (.inr rfl)
theorem TurnR.of {pr : Nat} {w w2 : World} (h : Below w.heap.size w w2) : TurnR pr w w2 := (TurnR.refl pr w).below h
theorem TurnR.toBelow {pr : Nat} {w w2 : World} (h : TurnR pr w w2) (B : Nat) (hp : B ≤ pr) (hB : B ≤ w.heap.size) : Below B w w2 := Apart.toBelow h (fun i e => by rw [e]; exact hp) hB
/-- what a take answers, and what is left -/
def takeV : List TokI → TokI
  | [] => ⟨0, []⟩
  | t :: _ => t
theorem rd_kind {w : World} {ad : Addr} {pr : Nat} {cs : Array Value} (h : ∃ c, Blk w ad.block 60 c) (K : Blk w pr 131 cs) : ad.block ≠ pr := fun e => by
  obtain ⟨c, k⟩ := h
  rw [e] at k
  unfold Blk at k K
  rw [k] at K
  injection K with K
  injection K with _ K
  exact absurd K (by decide)
theorem add_two (ad : Addr) : ad.add 2 = ⟨ad.block, ad.off + 2, none⟩ := by unfold Addr.add; simp
/-- a reader's tokens lie in a block of tokens -/
def TokB (w : World) (A : Option Addr) : Prop := ∀ ad, A = some ad → ∃ cs, Blk w ad.block 60 cs
theorem rows_turn {w w' : World} {pr : Nat} {A : Option Addr} {l : List TokI} {cs : Array Value} (hr : RowR tokISh w A l) (ht : TokB w A) (K : Blk w pr 131 cs) (T : TurnR pr w w') : RowR tokISh w' A l ∧ TokB w' A := by
  have hne : ∀ ad, A = some ad → ad.block ≠ pr := fun ad e => rd_kind (ht ad e) K
  refine ⟨⟨⟨hr.row.1, fun h0 => ?_⟩, fun m _ p hp => by cases hp⟩, fun ad e => ?_⟩
  · obtain ⟨ad, e, hlt, hc⟩ := hr.row.2 h0
    refine ⟨ad, e, Nat.lt_of_lt_of_le hlt T.size, fun j u hu => ?_⟩
    rw [World.cell?_of_block (T.block _ (by rw [block_of_add]; exact hlt) (by rw [block_of_add]; exact hne ad e))]
    exact hc j u hu
  obtain ⟨c, k⟩ := ht ad e
  exact ⟨c, Apart.blk T k (hne ad e)⟩
set_option maxRecDepth 100000 in
set_option maxHeartbeats 4000000 in
theorem take_any (pr : Nat) (l : List TokI) (bad : Bool) (w : World) (h : RdAt w pr l bad) (hl : l.length ≤ 50000000) : Calls Tryz.prog 133 #[.pointer (some ⟨pr, 0, none⟩)] w fun ev w' => ev = .returned (.agg #[.int .i64 (takeV l).k, .string (St (takeV l).t)]) ∧ RdAt w' pr l.tail (bad || l.isEmpty) ∧ TurnR pr w w' := by
  obtain ⟨A, c, K, hr, hc, ht⟩ := h.ex
  have hpw := K.lt
  have K00 := K
  have hr0 := hr
  refine calls_at 29 Tryz.func133 rfl rfl (Nat.le_of_ble_eq_true rfl) ?_
  intro a hA; replace hA := hA.norm
  refine wS (wR ?_)
  refine wl_new hA rfl rfl (by decide) (fun ev h => by simp [go_sem]; try first | exact ⟨rfl, rfl⟩ | rfl) fun w1 a (K2 : Blk _ _ _ _) hz1 hb1 hA => ?_
  replace K := K.below hb1 K.lt
  replace hr := hr.below hb1
  have T1 := TurnR.of (pr := pr) hb1
  cases l with
  | nil =>
    replace hA := hA.keepN [0, 2]
    refine wN (nT (wS (wS (wR ?_))))
    revert a; (iterate 6 refine wo rfl rfl (by decide) (fun ev e h => by simp [go_sem, h, K.cell] <;> rfl) ?_); intro a hA
    replace hA := hA.keepN [0, 2, 9]
    refine wN (nT ?_)
    refine wp_if hA 9 _ rfl (fun hq => ?yA) (fun hq => ?nA)
    case nA => simp at hq
    case yA =>
      refine wS (wR ?_)
      revert a; (iterate 3 refine wo rfl rfl (by decide) (fun ev e h => by simp [go_sem, h, K.cell] <;> rfl) ?_); intro a hA
      refine wl_setf ([.slice A 0 c, .bool true]) _ hA rfl rfl K (j := 1) (by rfl) (fun ev h => by simp [go_sem, h.c, h.get 12 rfl, K.cell, K.cell, K.frozen]; try first | exact ⟨rfl, rfl⟩ | rfl) fun w2 (K : Blk _ _ _ _) hs2 => ?_
      replace K2 := hs2.blk K2 (by omega)
      have T2 := T1.only hs2
      replace hA := hA.keepN [2]
      refine wN (nT (wS (wR ?_)))
      revert a; refine wo rfl rfl (by decide) (fun ev e h => by simp [go_sem, h, K.cell] <;> rfl) ?_; intro a hA
      refine wl_set [.int .i64 0, .string ⟨#[]⟩] hA rfl rfl K2 (by rfl) (fun ev h => by simp [go_sem, h.get 2 rfl, h.get 13 rfl, K.cell, setAll, K2.cell, K2.frozen]) fun w3 (K2 : Blk _ _ _ _) hs3 => ?_
      replace K := hs3.blk K (by omega)
      have T3 : TurnR pr w w3 := Apart.only T2 hs3 (.inl (Nat.le_refl _))
      replace hA := hA.keepN [2]
      refine wN (nT (wp_ret (rT ?_)))
      refine bodyPost_ret (by simp [results, Tryz.results133, go_sem, hA.env 2 _ rfl, K2.cell]; try first | exact ⟨rfl, rfl⟩ | rfl) hA.defers ?_
      refine ⟨rfl, ?_, T3⟩
      show RdAt w3 pr [] (bad || true)
      rw [Bool.or_true]
      exact ⟨A, c, K, RowR.nil A, hc, (rows_turn hr0 ht K00 T3).2⟩
  | cons t r =>
    rw [List.length_cons] at hl hc
    obtain ⟨ad, rfl, hadl, k0, k1⟩ := hr.cell (i := 0) (x := t) rfl
    have z0 : w1.cell? ad = some (.int .i64 t.k) := by
      have := k0 _ rfl
      rw [Nat.zero_mul] at this
      exact this
    have z1 : w1.cell? ⟨ad.block, ad.off + 1, none⟩ = some (.string (St t.t)) := by
      have := k1 1 _ (by decide) rfl
      rw [Nat.zero_mul] at this
      exact this
    have hlen : (t :: r).length = r.length + 1 := rfl
    rw [hlen] at K
    have jj1 : (0 : Int) < ((r.length + 1 : Nat) : Int) := by omega
    have jj2 : 0 < r.length + 1 := by omega
    replace hA := hA.keepN [0, 2]
    refine wN (nT (wS (wS (wR ?_))))
    revert a; (iterate 6 refine wo rfl rfl (by decide) (fun ev e h => by simp [go_sem, h, K.cell, z0, z1, jj1, jj2] <;> rfl) ?_); intro a hA
    replace hA := hA.keepN [0, 2, 9]
    refine wN (nT ?_)
    refine wp_if hA 9 _ rfl (fun hq => ?yA) (fun hq => ?nA)
    case yA => exact absurd hq (by simp; omega)
    case nA =>
      refine wp_skip (nT (wS (wR ?_)))
      revert a; (iterate 6 refine wo rfl rfl (by decide) (fun ev e h => by simp [go_sem, h, K.cell, z0, z1, jj1, jj2] <;> rfl) ?_); intro a hA
      refine wl_local [.int .i64 t.k, .string (St t.t)] hA rfl rfl (by decide) (fun ev h => by simp [go_sem, K.cell, z0, z1, jj1, jj2]; try first | exact ⟨rfl, rfl⟩ | rfl) rfl rfl (by rfl) (fun w1 g ev hb h => by simp [go_sem, h.get 3 rfl, h.get 19 rfl, K.cell, z0, z1, jj1, jj2, setAll, hb.cell, hb.frozen]) fun w3 a (K3 : Blk _ _ _ _) hz3 hb3 hA => ?_
      replace K := K.below hb3 K.lt
      replace K2 := K2.below hb3 K2.lt
      have T3 := T1.below hb3
      obtain ⟨A', hA'⟩ : ∃ A', (if c = 1 then some ad else some (⟨ad.block, ad.off + 2, none⟩ : Addr)) = A' := ⟨_, rfl⟩
      have q1 : (1 : Int) ≤ ((c : Nat) : Int) := by omega
      have q2 : 1 ≤ c := by omega
      have q3 : (1 : Int) ≤ ((r.length : Nat) : Int) + 1 := by omega
      have q4 : ((r.length : Nat) : Int) + 1 ≤ ((c : Nat) : Int) := by omega
      have q5 : r.length + 1 ≤ c := by omega
      replace hA := hA.keepN [0, 2, 3]
      refine wN (nT (wS (wR ?_)))
      revert a; (iterate 8 refine wo rfl rfl (by decide) (fun ev e h => by simp [go_sem, h, K.cell, hA', q1, q2, q3, q4, q5] <;> rfl) ?_); intro a hA
      refine wl_setf ([.slice A' r.length (c - 1), .bool bad]) _ hA rfl rfl K (j := 0) (by rfl) (fun ev h => by simp [go_sem, h.get 27 rfl, h.get 25 rfl, K.cell, hA', q1, q2, q3, q4, q5, K.cell, K.frozen]; try first | exact ⟨rfl, rfl⟩ | rfl) fun w4 (K : Blk _ _ _ _) hs4 => ?_
      have hpw1 : pr < w1.heap.size := by omega
      replace K2 := hs4.blk K2 (by omega)
      replace K3 := hs4.blk K3 (by omega)
      have T4 := T3.only hs4
      replace hA := hA.keepN [2, 3]
      refine wN (nT (wS (wR ?_)))
      revert a; refine wo rfl rfl (by decide) (fun ev e h => by simp [go_sem, h, K3.cell] <;> rfl) ?_; intro a hA
      refine wl_set [.int .i64 t.k, .string (St t.t)] hA rfl rfl K2 (by rfl) (fun ev h => by simp [go_sem, h.get 2 rfl, h.get 28 rfl, K3.cell, setAll, K2.cell, K2.frozen]) fun w5 (K2 : Blk _ _ _ _) hs5 => ?_
      replace K := hs5.blk K (by omega)
      have T5 : TurnR pr w w5 := Apart.only T4 hs5 (.inl (Nat.le_refl _))
      replace hA := hA.keepN [2]
      refine wN (nT (wp_ret ?_))
      refine bodyPost_ret (by simp [results, Tryz.results133, go_sem, hA.env 2 _ rfl, K2.cell]; try first | exact ⟨rfl, rfl⟩ | rfl) hA.defers ?_
      refine ⟨rfl, ?_, T5⟩
      show RdAt w5 pr r (bad || false)
      rw [Bool.or_false]
      obtain ⟨hr5, ht5⟩ := rows_turn hr0 ht K00 T5
      have hcut := rowI_cut hr5 hc
      rw [Option.map_some, add_two, hA'] at hcut
      refine ⟨A', c - 1, K, hcut, by omega, fun ad2 e => ?_⟩
      obtain ⟨cs, k⟩ := ht5 ad rfl
      refine ⟨cs, ?_⟩
      rw [← hA'] at e
      split at e
      · injection e with e; rw [← e]; exact k
      · injection e with e; rw [← e]; exact k
end Go.Proofs.YtjhaccmcjlbllaaGreatDoor
/-
  Units of bytes, plainly: byte by byte, and line by line: the same.
-/
namespace Go.Proofs.YtjhaccmcjlbllaaGreatDoor
structure ChunkS where
  done : List UInt8
  line : List UInt8
  left : Nat
  lost : Bool
  ahead : List UInt8
def chunk0 : ChunkS := ⟨[], [], 0, false, []⟩
abbrev UnitB := Nat × List UInt8
def digiB (b : UInt8) : Bool := decide (48 ≤ b.toNat) && decide (b.toNat ≤ 57)
def valB (ds : List UInt8) : Nat := ds.foldl (fun n b => n * 10 + (b.toNat - 48)) 0
/-- the length that a line's end asks for -/
def litP (line : List UInt8) : Option Nat := match line.reverse with
  | 125 :: r => (match r.dropWhile digiB with
    | 123 :: _ => if 1 ≤ (r.takeWhile digiB).length ∧ (r.takeWhile digiB).length ≤ 6 then some (valB (r.takeWhile digiB).reverse) else none
    | _ => none)
  | _ => none
/-- what a whole line completes -/
def endS (s : ChunkS) : ChunkS × List UnitB :=
  if s.lost = true then (chunk0, [(2, s.ahead)]) else match litP s.line with
    | some n => if 20000 < n then (chunk0, [(3, (s.done ++ s.line).take 100)]) else (⟨s.done ++ s.line ++ [13, 10], [], n, false, s.ahead⟩, [(4, [])])
    | none => (chunk0, [(1, s.done ++ s.line)])
def longL (n : Nat) (x : UInt8) : Bool := decide (2001 < n) || (decide (2000 < n) && !(x == 13))
def keepS (s : ChunkS) (x : UInt8) (line : List UInt8) : ChunkS :=
  if s.lost = true then ⟨s.done, [x], s.left, true, s.ahead⟩ else if longL line.length x = true then ⟨s.done, [x], s.left, true, (s.done ++ line).take 100⟩ else ⟨s.done, line, s.left, false, s.ahead⟩
def addS (s : ChunkS) (x : UInt8) : ChunkS × List UnitB :=
  if (s.line ++ [x]).drop ((s.line ++ [x]).length - 2) = [13, 10] then endS ⟨s.done, (s.line ++ [x]).take ((s.line ++ [x]).length - 2), s.left, s.lost, s.ahead⟩ else (keepS s x (s.line ++ [x]), [])
def stepS (s : ChunkS) (x : UInt8) : ChunkS × List UnitB := if 0 < s.left then (⟨s.done ++ [x], s.line, s.left - 1, s.lost, s.ahead⟩, []) else addS s x
def feedS : ChunkS → List UInt8 → ChunkS × List UnitB
  | s, [] => (s, [])
  | s, x :: r => ((feedS (stepS s x).1 r).1, (stepS s x).2 ++ (feedS (stepS s x).1 r).2)
theorem feed_nil (s : ChunkS) : feedS s [] = (s, []) := rfl
theorem feed_cons (s : ChunkS) (x : UInt8) (r : List UInt8) : feedS s (x :: r) = ((feedS (stepS s x).1 r).1, (stepS s x).2 ++ (feedS (stepS s x).1 r).2) := rfl
theorem feed_append : ∀ (s : ChunkS) (a b : List UInt8), feedS s (a ++ b) = ((feedS (feedS s a).1 b).1, (feedS s a).2 ++ (feedS (feedS s a).1 b).2)
  | s, [], b => by rw [List.nil_append, feed_nil, List.nil_append]
  | s, x :: a, b => by
    rw [List.cons_append, feed_cons, feed_cons, feed_append _ a b, List.append_assoc]
/-- bytes of a literal -/
theorem feed_left : ∀ (b : List UInt8) (s : ChunkS), b.length ≤ s.left → feedS s b = (⟨s.done ++ b, s.line, s.left - b.length, s.lost, s.ahead⟩, [])
  | [], s, _ => by unfold feedS; simp
  | x :: b, s, h => by
    rw [List.length_cons] at h
    have e : stepS s x = (⟨s.done ++ [x], s.line, s.left - 1, s.lost, s.ahead⟩, []) := by unfold stepS; rw [if_pos (by omega)]
    rw [feed_cons, e, feed_left b _ (show b.length ≤ s.left - 1 by omega)]
    simp only [List.append_assoc, List.nil_append, List.length_cons, List.singleton_append]
    rw [show s.left - 1 - b.length = s.left - (b.length + 1) by omega]
/-- the first line, and what stands behind it -/
def crlf : List UInt8 → Option (List UInt8 × List UInt8)
  | [] => none
  | x :: r => if x = 13 ∧ r.head? = some 10 then some ([], r.tail) else (crlf r).map fun p => (x :: p.1, p.2)
theorem crlf_some : ∀ {b l r : List UInt8}, crlf b = some (l, r) → b = l ++ [13, 10] ++ r
  | [], l, r, h => by cases h
  | x :: b, l, r, h => by
    unfold crlf at h
    split at h
    · rename_i hx
      obtain ⟨rfl, h2⟩ := hx
      injection h with h
      injection h with h3 h4
      subst h3 h4
      cases b with
      | nil => cases h2
      | cons y b =>
        injection h2 with h2
        subst h2
        rfl
    · cases hc : crlf b with
      | none => rw [hc] at h; cases h
      | some p =>
        rw [hc] at h
        injection h with h
        injection h with h3 h4
        subst h3 h4
        rw [crlf_some (b := b) (l := p.1) (r := p.2) (by rw [hc])]
        rfl
def unitsS : Nat → List UInt8 → List UInt8 → List UnitB × Bool
  | 0, _, _ => ([], false)
  | f + 1, d, b => match crlf b with
    | none => ([], false)
    | some (line, rest) =>
      if 2000 < line.length then ((2, (d ++ line).take 100) :: (unitsS f [] rest).1, (unitsS f [] rest).2) else match litP line with
        | some n => if 20000 < n then ((3, (d ++ line).take 100) :: (unitsS f [] rest).1, (unitsS f [] rest).2) else if rest.length < n then ([(4, [])], true) else ((4, []) :: (unitsS f (d ++ line ++ [13, 10] ++ rest.take n) (rest.drop n)).1, (unitsS f (d ++ line ++ [13, 10] ++ rest.take n) (rest.drop n)).2)
        | none => ((1, d ++ line) :: (unitsS f [] rest).1, (unitsS f [] rest).2)
-- a line, byte by byte
def lostP (p : List UInt8) : Bool := decide (2001 < p.length) || (decide (2000 < p.length) && !(p.getLast? == some 13))
def after (d p : List UInt8) : ChunkS := if lostP p = true then ⟨d, [p.getLast?.getD 0], 0, true, (d ++ p).take 100⟩ else ⟨d, p, 0, false, []⟩
theorem take100 (d p : List UInt8) (x : List UInt8) (h : 2000 < p.length) : (d ++ (p ++ x)).take 100 = (d ++ p).take 100 := by
  rw [← List.append_assoc, List.take_append_of_le_length (by rw [List.length_append]; omega)]
theorem drop_two (p : List UInt8) (x : UInt8) : (p ++ [x]).drop ((p ++ [x]).length - 2) = [13, 10] ↔ p.getLast? = some 13 ∧ x = 10 := by
  rcases List.eq_nil_or_concat p with e | ⟨q, y, e⟩
  · subst e
    simp
  · subst e
    rw [List.concat_eq_append, List.append_assoc, List.getLast?_concat, List.length_append, show [y] ++ [x] = [y, x] from rfl, show q.length + [y, x].length - 2 = q.length by simp, List.drop_left' rfl]
    simp
theorem take_two (p : List UInt8) (x y : UInt8) : (p ++ [x] ++ [y]).take ((p ++ [x] ++ [y]).length - 2) = p := by
  rw [List.append_assoc, List.length_append, show p.length + ([x] ++ [y]).length - 2 = p.length by simp, List.take_left' rfl]
theorem lostP_snoc (p : List UInt8) (x : UInt8) : lostP (p ++ [x]) = longL (p.length + 1) x := by
  unfold lostP longL
  rw [List.length_append, List.getLast?_concat]
  simp
theorem lostP_len {p : List UInt8} (h : lostP p = true) : 2000 < p.length := by
  unfold lostP at h
  simp at h
  omega
theorem after_step (d p : List UInt8) (x : UInt8) (h : ¬ (p.getLast? = some 13 ∧ x = 10)) : stepS (after d p) x = (after d (p ++ [x]), []) := by
  unfold stepS addS
  cases hl : lostP p with
  | true =>
    have h1 := lostP_len hl
    have e : after d p = ⟨d, [p.getLast?.getD 0], 0, true, (d ++ p).take 100⟩ := by unfold after; rw [if_pos hl]
    have hlast : ¬ ([p.getLast?.getD 0] ++ [x]).drop (([p.getLast?.getD 0] ++ [x]).length - 2) = [13, 10] := by
      rw [drop_two]
      intro ⟨h3, h4⟩
      refine h ⟨?_, h4⟩
      rcases List.eq_nil_or_concat p with e2 | ⟨q, y, e2⟩
      · rw [e2] at h1; simp at h1
      · rw [e2, List.concat_eq_append, List.getLast?_concat] at h3 ⊢
        simpa using h3
    rw [e, if_neg (by simp), if_neg hlast]
    have h2 : lostP (p ++ [x]) = true := by rw [lostP_snoc]; unfold longL; simp; omega
    unfold keepS after
    rw [if_pos rfl, if_pos h2, take100 d p [x] h1, List.getLast?_concat]
    rfl
  | false =>
    have e : after d p = ⟨d, p, 0, false, []⟩ := by unfold after; rw [if_neg (by rw [hl]; decide)]
    have hlast : ¬ (p ++ [x]).drop ((p ++ [x]).length - 2) = [13, 10] := by rw [drop_two]; exact h
    rw [e, if_neg (by simp), if_neg hlast]
    unfold keepS after
    rw [if_neg (fun h => by cases h), lostP_snoc]
    have e2 : (p ++ [x]).length = p.length + 1 := by simp
    show (if longL (p ++ [x]).length x = true then _ else _, ([] : List UnitB)) = _
    rw [e2]
    by_cases h2 : longL (p.length + 1) x = true
    · rw [if_pos h2, if_pos h2, List.getLast?_concat]
      rfl
    · rw [if_neg h2, if_neg h2]
theorem after_end (d line : List UInt8) : stepS (after d (line ++ [13])) 10 = if 2000 < line.length then (chunk0, [(2, (d ++ line).take 100)]) else endS ⟨d, line, 0, false, []⟩ := by
  unfold stepS addS
  by_cases hl : 2000 < line.length
  · have h1 : lostP (line ++ [13]) = true := by rw [lostP_snoc]; unfold longL; simp; omega
    have e : after d (line ++ [13]) = ⟨d, [13], 0, true, (d ++ line).take 100⟩ := by
      unfold after
      rw [if_pos h1, List.getLast?_concat, take100 d line [13] hl]
      rfl
    rw [e, if_pos hl, if_neg (by simp), if_pos (by rfl)]
    unfold endS
    rw [if_pos rfl]
  · have h1 : lostP (line ++ [13]) = false := by rw [lostP_snoc]; unfold longL; simp; omega
    have e : after d (line ++ [13]) = ⟨d, line ++ [13], 0, false, []⟩ := by unfold after; rw [if_neg (by rw [h1]; decide)]
    rw [e, if_neg hl, if_neg (by simp), if_pos (by rw [drop_two, List.getLast?_concat]; exact ⟨rfl, rfl⟩)]
    show endS ⟨d, (line ++ [13] ++ [10]).take ((line ++ [13] ++ [10]).length - 2), 0, false, []⟩ = _
    rw [take_two]
theorem feed_line : ∀ {b : List UInt8} (d p : List UInt8), (crlf b = none → (p.getLast? = some 13 → b.head? ≠ some 10) → feedS (after d p) b = (after d (p ++ b), [])) ∧
    ∀ l r, crlf b = some (l, r) → (p.getLast? = some 13 → b.head? ≠ some 10) → feedS (after d p) b = ((feedS (stepS (after d (p ++ l ++ [13])) 10).1 r).1, (stepS (after d (p ++ l ++ [13])) 10).2 ++ (feedS (stepS (after d (p ++ l ++ [13])) 10).1 r).2)
  | [], d, p => ⟨fun _ _ => by unfold feedS; simp, fun l r h => by cases h⟩
  | x :: b, d, p => by
    have hx : (p.getLast? = some 13 → (x :: b).head? ≠ some 10) → ¬ (p.getLast? = some 13 ∧ x = 10) := fun h ⟨h1, h2⟩ => h h1 (by rw [h2]; rfl)
    have hn : ¬ (x = 13 ∧ b.head? = some 10) → (p ++ [x]).getLast? = some 13 → b.head? ≠ some 10 := fun h h1 h2 => by
      rw [List.getLast?_concat] at h1
      injection h1 with h1
      exact h ⟨h1, h2⟩
    obtain ⟨ih1, ih2⟩ := feed_line (b := b) d (p ++ [x])
    refine ⟨fun h hp => ?_, fun l r h hp => ?_⟩
    · unfold crlf at h
      split at h
      · cases h
      · rename_i hc
        have h3 : crlf b = none := by cases hb : crlf b with | none => rfl | some q => rw [hb] at h; cases h
        rw [feed_cons, after_step d p x (hx hp), ih1 h3 (hn hc), List.append_assoc]
        rfl
    · unfold crlf at h
      split at h
      · rename_i hc
        obtain ⟨rfl, h2⟩ := hc
        injection h with h
        injection h with h3 h4
        subst h3 h4
        cases b with
        | nil => cases h2
        | cons y b =>
          injection h2 with h2
          subst h2
          rw [feed_cons, after_step d p 13 (hx hp), feed_cons, List.append_nil]
          rfl
      · rename_i hc
        cases hb : crlf b with
        | none => rw [hb] at h; cases h
        | some q =>
          rw [hb] at h
          injection h with h
          injection h with h3 h4
          subst h3 h4
          rw [feed_cons, after_step d p x (hx hp), ih2 q.1 q.2 (by rw [hb]) (hn hc)]
          rw [List.nil_append, show p ++ x :: q.1 = p ++ [x] ++ q.1 by simp]
theorem after_nil (d : List UInt8) : after d [] = ⟨d, [], 0, false, []⟩ := rfl
/-- byte by byte, and line by line: the same -/
theorem feed_units : ∀ (f : Nat) (d b : List UInt8), b.length < f → (feedS ⟨d, [], 0, false, []⟩ b).2 = (unitsS f d b).1 ∧ decide (0 < (feedS ⟨d, [], 0, false, []⟩ b).1.left) = (unitsS f d b).2
  | 0, d, b, h => by omega
  | f + 1, d, b, h => by
    obtain ⟨h1, h2⟩ := feed_line (b := b) d []
    rw [after_nil] at h1 h2
    unfold unitsS
    cases hc : crlf b with
    | none =>
      rw [h1 hc (fun h => by cases h), List.nil_append]
      refine ⟨rfl, ?_⟩
      unfold after
      split <;> rfl
    | some q =>
      obtain ⟨line, rest⟩ := q
      rw [h2 line rest hc (fun h => by cases h), List.nil_append, after_end]
      have hb := congrArg List.length (crlf_some hc)
      rw [List.length_append, List.length_append] at hb
      have hr : rest.length < f := by simp at hb; omega
      have ih0 := feed_units f [] rest hr
      have z : feedS chunk0 rest = feedS ⟨[], [], 0, false, []⟩ rest := rfl
      by_cases hl : 2000 < line.length
      · simp only [if_pos hl]
        rw [z]
        exact ⟨by rw [ih0.1]; rfl, ih0.2⟩
      · simp only [if_neg hl]
        unfold endS
        rw [if_neg (fun h => by cases h)]
        cases hn : litP line with
        | none =>
          simp only []
          rw [z]
          exact ⟨by rw [ih0.1]; rfl, ih0.2⟩
        | some n =>
          simp only []
          by_cases h2 : 20000 < n
          · simp only [if_pos h2]
            rw [z]
            exact ⟨by rw [ih0.1]; rfl, ih0.2⟩
          · simp only [if_neg h2]
            by_cases h3 : rest.length < n
            · simp only [if_pos h3]
              rw [feed_left rest _ (by show rest.length ≤ n; omega)]
              refine ⟨rfl, ?_⟩
              show decide (0 < n - rest.length) = true
              simp
              omega
            · simp only [if_neg h3]
              have ih3 := feed_units f (d ++ line ++ [13, 10] ++ rest.take n) (rest.drop n) (by rw [List.length_drop]; omega)
              have e : feedS ⟨d ++ line ++ [13, 10], [], n, false, []⟩ rest = feedS ⟨d ++ line ++ [13, 10] ++ rest.take n, [], 0, false, []⟩ (rest.drop n) := by
                have h4 := feed_append ⟨d ++ line ++ [13, 10], [], n, false, []⟩ (rest.take n) (rest.drop n)
                rw [List.take_append_drop, feed_left (rest.take n) _ (by rw [List.length_take]; show min n _ ≤ n; omega), List.nil_append] at h4
                have h5 : (rest.take n).length = n := by rw [List.length_take]; omega
                rw [h4, h5]
                show (_, _) = _
                rw [Nat.sub_self]
              rw [e]
              exact ⟨by rw [ih3.1]; rfl, ih3.2⟩
theorem crlf_step (x : UInt8) (r : List UInt8) : crlf (x :: r) = if x = 13 ∧ r.head? = some 10 then some ([], r.tail) else (crlf r).map fun p => (x :: p.1, p.2) := by
  rw [crlf]
end Go.Proofs.YtjhaccmcjlbllaaGreatDoor
/-
  Tokens, plainly: what is written of them is read as they were.
-/
namespace Go.Proofs.YtjhaccmcjlbllaaGreatDoor
structure TokS where
  k : Nat
  t : List UInt8
def plainB (c : UInt8) : Bool := decide (33 ≤ c.toNat) && decide (c.toNat ≤ 126) && !(c == 40 || c == 41 || c == 123 || c == 34)
/-- a text in quotes, behind the first one -/
def quotedS (acc : List UInt8) : List UInt8 → Option (List UInt8 × List UInt8)
  | [] => none
  | c :: r => if c = 34 then some (acc, r) else if c = 92 then (match r with
      | [] => none
      | y :: r' => if y = 34 ∨ y = 92 then quotedS (acc ++ [y]) r' else none) else if c = 13 ∨ c = 10 then none else quotedS (acc ++ [c]) r
/-- a literal -/
def countedS (s : List UInt8) : Option (List UInt8 × List UInt8) := match crlf s with
  | none => none
  | some (head, rest) => match litP head with
    | none => none
    | some n => if n ≤ rest.length ∧ head.tail.contains 123 = false then some (rest.take n, rest.drop n) else none
def oneS : List UInt8 → Option (TokS × List UInt8)
  | [] => none
  | c :: r => if c = 40 then some (⟨3, []⟩, r) else if c = 41 then some (⟨4, []⟩, r) else if c = 34 then (quotedS [] r).map fun p => (⟨2, p.1⟩, p.2) else if c = 123 then (countedS (c :: r)).map fun p => (⟨2, p.1⟩, p.2)
    else if plainB c = true then some (⟨1, (c :: r).takeWhile plainB⟩, (c :: r).dropWhile plainB) else none
theorem one_cons (c : UInt8) (r : List UInt8) : oneS (c :: r) = if c = 40 then some (⟨3, []⟩, r) else if c = 41 then some (⟨4, []⟩, r) else if c = 34 then (quotedS [] r).map fun p => (⟨2, p.1⟩, p.2) else if c = 123 then (countedS (c :: r)).map fun p => (⟨2, p.1⟩, p.2)
    else if plainB c = true then some (⟨1, (c :: r).takeWhile plainB⟩, (c :: r).dropWhile plainB) else none := rfl
theorem quoted_cons (acc : List UInt8) (c : UInt8) (r : List UInt8) : quotedS acc (c :: r) = if c = 34 then some (acc, r) else if c = 92 then (match r with
      | [] => none
      | y :: r' => if y = 34 ∨ y = 92 then quotedS (acc ++ [y]) r' else none) else if c = 13 ∨ c = 10 then none else quotedS (acc ++ [c]) r := by
  cases r with
  | nil => conv => lhs; unfold quotedS
  | cons y r => conv => lhs; unfold quotedS
/-- the blank between two tokens -/
def apartS (s : List UInt8) (k : Nat) : Option (List UInt8) := match s with
  | [] => some []
  | c :: r => if c = 32 then (match r with
      | [] => none
      | d :: r' => if d ≠ 32 ∧ d ≠ 41 ∧ k ≠ 3 then some (d :: r') else none) else if c = 41 ∨ k = 3 then some (c :: r) else none
def deepS (d : Int) (k : Nat) : Int := if k = 3 then d + 1 else if k = 4 then d - 1 else d
def tokS : Nat → Int → Nat → List UInt8 → Option (List TokS)
  | 0, _, _, _ => none
  | f + 1, d, n, s => if s = [] then (if d = 0 then some [] else none) else match oneS s with
    | none => none
    | some (t, rest) => if n = 200 ∨ deepS d t.k < 0 then none else match apartS rest t.k with
      | none => none
      | some s' => (tokS f (deepS d t.k) (n + 1) s').map (t :: ·)
-- written
def countB : Nat → Nat → List UInt8
  | 0, _ => []
  | f + 1, n => if n < 10 then [UInt8.ofNat (48 + n)] else countB f (n / 10) ++ [UInt8.ofNat (48 + n % 10)]
def escB (c : UInt8) : List UInt8 := if c = 34 ∨ c = 92 then [92, c] else [c]
def bodyS (lit : Bool) (t : TokS) : List UInt8 := if t.k = 1 then t.t else if t.k = 2 then (if lit = true then [123] ++ countB 7 t.t.length ++ [125] ++ [13, 10] ++ t.t else [34] ++ t.t.flatMap escB ++ [34]) else if t.k = 3 then [40] else [41]
def sepS (p k : Nat) : List UInt8 := if k ≠ 4 ∧ p ≠ 3 then [32] else []
/-- those behind a token of a kind -/
def restS (lit : Bool) : Nat → List TokS → List UInt8
  | _, [] => []
  | p, t :: r => sepS p t.k ++ bodyS lit t ++ restS lit t.k r
def writtenS (lit : Bool) : List TokS → List UInt8
  | [] => []
  | t :: r => bodyS lit t ++ restS lit t.k r
def okTok (lit : Bool) (t : TokS) : Prop := (t.k = 1 ∧ t.t ≠ [] ∧ ∀ c ∈ t.t, plainB c = true) ∨ (t.k = 2 ∧ t.t.length < 1000000 ∧ (lit = true ∨ ∀ c ∈ t.t, c ≠ 13 ∧ c ≠ 10)) ∨ ((t.k = 3 ∨ t.k = 4) ∧ t.t = [])
def deepOk : Int → List TokS → Prop
  | d, [] => d = 0
  | d, t :: r => 0 ≤ deepS d t.k ∧ deepOk (deepS d t.k) r
-- numbers
theorem countB_digit : ∀ (f n : Nat), ∀ c ∈ countB f n, digiB c = true
  | 0, _, c, h => by cases h
  | f + 1, n, c, h => by
    unfold countB at h
    have hd : ∀ m, m < 10 → digiB (UInt8.ofNat (48 + m)) = true := fun m hm => by
      have : (UInt8.ofNat (48 + m)).toNat = 48 + m := by simp; omega
      unfold digiB
      rw [this]
      simp
      omega
    split at h
    · rename_i hn
      rw [List.mem_singleton.1 h]
      exact hd n hn
    · rcases List.mem_append.1 h with h | h
      · exact countB_digit f _ c h
      · rw [List.mem_singleton.1 h]
        exact hd _ (Nat.mod_lt _ (by decide))
theorem valB_snoc (l : List UInt8) (b : UInt8) : valB (l ++ [b]) = valB l * 10 + (b.toNat - 48) := by
  unfold valB
  rw [List.foldl_append]
  rfl
theorem countB_val : ∀ (f n : Nat), n < 10 ^ f → valB (countB f n) = n
  | 0, n, h => by
    have : n = 0 := by omega
    subst this
    rfl
  | f + 1, n, h => by
    have hd : ∀ m, m < 10 → (UInt8.ofNat (48 + m)).toNat - 48 = m := fun m hm => by simp; omega
    unfold countB
    split
    · rename_i hn
      show 0 * 10 + ((UInt8.ofNat (48 + n)).toNat - 48) = n
      rw [hd n hn]
      omega
    · rw [valB_snoc, countB_val f (n / 10) (by rw [Nat.pow_succ] at h; omega), hd _ (Nat.mod_lt _ (by decide))]
      omega
theorem countB_len : ∀ (f n : Nat), (countB f n).length ≤ f
  | 0, _ => Nat.le_refl _
  | f + 1, n => by
    unfold countB
    split
    · simp
    · rw [List.length_append]
      have := countB_len f (n / 10)
      simp
      omega
theorem countB_six {n : Nat} (h : n < 1000000) : countB 7 n = countB 6 n := by
  suffices H : ∀ f n, n < 10 ^ f → 0 < f → countB (f + 1) n = countB f n from H 6 n h (by decide)
  intro f
  induction f with
  | zero => intro n _ h; omega
  | succ f ih =>
    intro n h _
    by_cases hn : n < 10
    · show (if n < 10 then _ else _) = (if n < 10 then _ else _)
      rw [if_pos hn, if_pos hn]
    · show (if n < 10 then _ else countB (f + 1) (n / 10) ++ _) = (if n < 10 then _ else countB f (n / 10) ++ _)
      rw [if_neg hn, if_neg hn]
      have hf : 0 < f := by
        rcases Nat.eq_zero_or_pos f with h0 | h0
        · subst h0; omega
        · exact h0
      rw [ih (n / 10) (by rw [Nat.pow_succ] at h; omega) hf]
theorem countB_pos (f n : Nat) : 1 ≤ (countB (f + 1) n).length := by
  unfold countB
  split
  · simp
  · rw [List.length_append]; simp
theorem digit_ne {c : UInt8} (h : digiB c = true) : c ≠ 123 ∧ c ≠ 13 ∧ c ≠ 10 ∧ c ≠ 125 := by
  unfold digiB at h
  simp at h
  refine ⟨?_, ?_, ?_, ?_⟩ <;> (intro e; subst e; revert h; decide)
theorem takeWhile_app {α : Type} {p : α → Bool} {a b : List α} (h : ∀ x ∈ a, p x = true) (hb : ∀ x, b.head? = some x → p x = false) : (a ++ b).takeWhile p = a ∧ (a ++ b).dropWhile p = b := by
  induction a with
  | nil =>
    cases b with
    | nil => exact ⟨rfl, rfl⟩
    | cons y b =>
      have := hb y rfl
      rw [List.nil_append, List.takeWhile_cons, List.dropWhile_cons, this]
      exact ⟨rfl, rfl⟩
  | cons x a ih =>
    obtain ⟨h1, h2⟩ := ih fun y hy => h y (List.mem_cons_of_mem _ hy)
    have hx := h x List.mem_cons_self
    rw [List.cons_append, List.takeWhile_cons, List.dropWhile_cons, hx]
    exact ⟨by simp [h1], by simp [h2]⟩
theorem litP_count {n : Nat} (h : n < 1000000) : litP ([123] ++ countB 7 n ++ [125]) = some n := by
  have hr : ([123] ++ countB 7 n ++ [125]).reverse = 125 :: ((countB 7 n).reverse ++ [123]) := by simp
  have hd : ∀ x ∈ (countB 7 n).reverse, digiB x = true := fun x hx => countB_digit 7 n x (List.mem_reverse.1 hx)
  obtain ⟨h1, h2⟩ := takeWhile_app (p := digiB) (a := (countB 7 n).reverse) (b := [123]) hd (fun x hx => by injection hx with hx; subst hx; rfl)
  unfold litP
  rw [hr]
  simp only []
  rw [h2, h1]
  simp only []
  have h3 := countB_pos 6 n
  have h4 : (countB 7 n).length ≤ 6 := by rw [countB_six h]; exact countB_len 6 n
  rw [if_pos (by rw [List.length_reverse]; exact ⟨h3, h4⟩), List.reverse_reverse, countB_val 7 n (by omega)]
theorem crlf_app : ∀ {a : List UInt8} (r : List UInt8), (∀ c ∈ a, c ≠ 13) → crlf (a ++ [13, 10] ++ r) = some (a, r)
  | [], r, _ => rfl
  | x :: a, r, h => by
    have hx := h x List.mem_cons_self
    rw [List.cons_append, List.cons_append]
    unfold crlf
    rw [if_neg (fun e => hx e.1), crlf_app r fun c hc => h c (List.mem_cons_of_mem _ hc)]
    rfl
theorem counted_ok (t r : List UInt8) (h : t.length < 1000000) : countedS ([123] ++ countB 7 t.length ++ [125] ++ [13, 10] ++ t ++ r) = some (t, r) := by
  have hd := countB_digit 7 t.length
  have hc : ∀ c ∈ [123] ++ countB 7 t.length ++ [125], c ≠ 13 := by
    intro c hc
    rcases List.mem_append.1 hc with hc | hc
    · rcases List.mem_append.1 hc with hc | hc
      · rw [List.mem_singleton.1 hc]; decide
      · exact (digit_ne (hd c hc)).2.1
    · rw [List.mem_singleton.1 hc]; decide
  unfold countedS
  rw [List.append_assoc _ t r, crlf_app (t ++ r) hc]
  simp only []
  rw [litP_count h]
  simp only []
  have hn : (([123] ++ countB 7 t.length ++ [125]) : List UInt8).tail.contains 123 = false := by
    rw [List.append_assoc, List.singleton_append, List.tail_cons]
    cases hcc : (countB 7 t.length ++ [125]).contains 123 with
    | false => rfl
    | true =>
      rw [List.contains_iff_mem] at hcc
      rcases List.mem_append.1 hcc with hcc | hcc
      · exact absurd rfl (digit_ne (hd _ hcc)).1
      · rw [List.mem_singleton] at hcc; exact absurd hcc (by decide)
  rw [if_pos ⟨by rw [List.length_append]; omega, hn⟩, List.take_left' rfl, List.drop_left' rfl]
theorem quoted_ok : ∀ (t acc r : List UInt8), (∀ c ∈ t, c ≠ 13 ∧ c ≠ 10) → quotedS acc (t.flatMap escB ++ [34] ++ r) = some (acc ++ t, r)
  | [], acc, r, _ => by
    show quotedS acc (34 :: r) = _
    rw [quoted_cons, if_pos rfl, List.append_nil]
  | c :: t, acc, r, h => by
    have hc := h c List.mem_cons_self
    have ih := fun acc => quoted_ok t acc r fun x hx => h x (List.mem_cons_of_mem _ hx)
    rw [List.flatMap_cons]
    unfold escB
    by_cases h1 : c = 34 ∨ c = 92
    · rw [if_pos h1]
      show quotedS acc (92 :: c :: (t.flatMap escB ++ [34] ++ r)) = _
      rw [quoted_cons, if_neg (by decide), if_pos rfl]
      simp only []
      rw [if_pos h1, ih, List.append_assoc]
      rfl
    · rw [if_neg h1]
      show quotedS acc (c :: (t.flatMap escB ++ [34] ++ r)) = _
      rw [quoted_cons, if_neg (fun e => h1 (.inl e)), if_neg (fun e => h1 (.inr e)), if_neg (fun e => by rcases e with e | e; exact hc.1 e; exact hc.2 e), ih, List.append_assoc]
      rfl
/-- a token that is written is cut off -/
theorem one_ok (lit : Bool) (t : TokS) (r : List UInt8) (h : okTok lit t) (hr : t.k = 1 → ∀ x, r.head? = some x → plainB x = false) : oneS (bodyS lit t ++ r) = some (t, r) := by
  obtain ⟨k, tx⟩ := t
  unfold bodyS
  rcases h with ⟨rfl, hne, hp⟩ | ⟨rfl, hlen, hl⟩ | ⟨hk, rfl⟩
  · simp only [if_pos]
    obtain ⟨h1, h2⟩ := takeWhile_app hp (hr rfl)
    cases tx with
    | nil => exact absurd rfl hne
    | cons c tx =>
      have hc := hp c List.mem_cons_self
      have hc2 := hc
      unfold plainB at hc2
      simp at hc2
      rw [List.cons_append] at h1 h2 ⊢
      rw [one_cons, if_neg hc2.2.1.1.1, if_neg hc2.2.1.1.2, if_neg hc2.2.2, if_neg hc2.2.1.2, if_pos hc, h1, h2]
  · rw [if_neg (fun e => by cases e), if_pos rfl]
    cases lit with
    | true =>
      rw [if_pos rfl]
      have hcd := counted_ok tx r hlen
      have e : [123] ++ countB 7 tx.length ++ [125] ++ [13, 10] ++ tx ++ r = 123 :: (countB 7 tx.length ++ [125] ++ [13, 10] ++ tx ++ r) := by simp
      rw [e] at hcd ⊢
      rw [one_cons, if_neg (by decide), if_neg (by decide), if_neg (by decide), if_pos rfl, hcd]
      rfl
    | false =>
      have hno : ∀ c ∈ tx, c ≠ 13 ∧ c ≠ 10 := by
        rcases hl with hl | hl
        · cases hl
        · exact hl
      rw [if_neg (by decide)]
      have hq := quoted_ok tx [] r hno
      rw [List.nil_append] at hq
      show oneS (34 :: (tx.flatMap escB ++ [34] ++ r)) = _
      rw [one_cons, if_neg (by decide), if_neg (by decide), if_pos rfl, hq]
      rfl
  · rcases hk with rfl | rfl <;> rfl
theorem body_head (lit : Bool) (t : TokS) (h : okTok lit t) : ∃ c r, bodyS lit t = c :: r ∧ c ≠ 32 ∧ (c = 41 ↔ t.k = 4) := by
  obtain ⟨k, tx⟩ := t
  unfold bodyS
  rcases h with ⟨rfl, hne, hp⟩ | ⟨rfl, hlen, hl⟩ | ⟨hk, rfl⟩
  · cases tx with
    | nil => exact absurd rfl hne
    | cons c tx =>
      have hc := hp c List.mem_cons_self
      unfold plainB at hc
      simp at hc
      refine ⟨c, tx, rfl, ?_, ?_⟩
      · intro e; subst e; revert hc; decide
      · exact ⟨fun e => absurd e hc.2.1.1.2, fun e => by cases e⟩
  · rw [if_neg (fun e => by cases e), if_pos rfl]
    cases lit with
    | true => exact ⟨123, _, rfl, by decide, ⟨fun e => absurd e (by decide), fun e => by cases e⟩⟩
    | false => exact ⟨34, _, rfl, by decide, ⟨fun e => absurd e (by decide), fun e => by cases e⟩⟩
  · rcases hk with rfl | rfl
    · exact ⟨40, [], rfl, by decide, ⟨fun e => absurd e (by decide), fun e => by cases e⟩⟩
    · exact ⟨41, [], rfl, by decide, ⟨fun _ => rfl, fun _ => rfl⟩⟩
theorem apart_ok (lit : Bool) (p : Nat) (l : List TokS) (h : ∀ t ∈ l, okTok lit t) : apartS (restS lit p l) p = some (match l with | [] => [] | t :: r => bodyS lit t ++ restS lit t.k r) := by
  cases l with
  | nil => rfl
  | cons t r =>
    obtain ⟨c, b, hb, h1, h2⟩ := body_head lit t (h t List.mem_cons_self)
    show apartS (sepS p t.k ++ bodyS lit t ++ restS lit t.k r) p = some (bodyS lit t ++ restS lit t.k r)
    unfold sepS
    rw [hb]
    by_cases hs : t.k ≠ 4 ∧ p ≠ 3
    · rw [if_pos hs]
      unfold apartS
      show (if (32 : UInt8) = 32 then _ else _) = _
      rw [if_pos rfl]
      show (if c ≠ 32 ∧ c ≠ 41 ∧ p ≠ 3 then some (c :: (b ++ restS lit t.k r)) else none) = _
      rw [if_pos ⟨h1, fun e => hs.1 (h2.1 e), hs.2⟩]
      rfl
    · rw [if_neg hs]
      unfold apartS
      show (if c = 32 then _ else if c = 41 ∨ p = 3 then some (c :: (b ++ restS lit t.k r)) else none) = _
      have : c = 41 ∨ p = 3 := by
        by_cases h4 : t.k = 4
        · exact .inl (h2.2 h4)
        · by_cases hp : p = 3
          · exact .inr hp
          · exact absurd ⟨h4, hp⟩ hs
      rw [if_neg h1, if_pos this]
      rfl
theorem rest_head (lit : Bool) (p : Nat) (l : List TokS) (h : ∀ t ∈ l, okTok lit t) (hp : p ≠ 3) : ∀ x, (restS lit p l).head? = some x → plainB x = false := by
  intro x hx
  cases l with
  | nil => cases hx
  | cons t r =>
    obtain ⟨c, b, hb, h1, h2⟩ := body_head lit t (h t List.mem_cons_self)
    unfold restS sepS at hx
    by_cases h4 : t.k = 4
    · rw [if_neg (fun e => e.1 h4), hb] at hx
      injection hx with hx
      rw [h2.2 h4] at hx
      rw [← hx]
      rfl
    · rw [if_pos ⟨h4, hp⟩] at hx
      injection hx with hx
      rw [← hx]
      rfl
theorem tok_rest (lit : Bool) : ∀ (l : List TokS) (f : Nat) (d : Int) (n : Nat), (∀ t ∈ l, okTok lit t) → deepOk d l → n + l.length ≤ 200 → l.length < f → tokS f d n (match l with | [] => [] | t :: r => bodyS lit t ++ restS lit t.k r) = some l
  | [], f, d, n, _, hd, _, hf => by
    cases f with
    | zero => omega
    | succ f =>
      have hd : d = 0 := hd
      show (if ([] : List UInt8) = [] then _ else _) = _
      rw [if_pos rfl, if_pos hd]
  | t :: r, f, d, n, h, hd, hn, hf => by
    cases f with
    | zero => omega
    | succ f =>
      obtain ⟨hd1, hd2⟩ := hd
      have ht := h t List.mem_cons_self
      have hr := fun x hx => h x (List.mem_cons_of_mem t hx)
      rw [List.length_cons] at hn hf
      obtain ⟨c, b, hb, h1, h2⟩ := body_head lit t ht
      show tokS (f + 1) d n (bodyS lit t ++ restS lit t.k r) = _
      unfold tokS
      rw [if_neg (by rw [hb]; simp), one_ok lit t _ ht (fun hk => rest_head lit t.k r hr (by omega))]
      simp only []
      rw [if_neg (by omega), apart_ok lit t.k r hr]
      simp only []
      have ih := tok_rest lit r f (deepS d t.k) (n + 1) hr hd2 (by omega) (by omega)
      cases r with
      | nil => rw [ih]; rfl
      | cons t2 r2 => rw [ih]; rfl
/-- what is written is read as it was -/
theorem tok_back (lit : Bool) (l : List TokS) (f : Nat) (h : ∀ t ∈ l, okTok lit t) (hd : deepOk 0 l) (hn : l.length ≤ 200) (hf : l.length < f) : tokS f 0 0 (writtenS lit l) = some l := by
  have := tok_rest lit l f 0 0 h hd (by omega) hf
  cases l with
  | nil => exact this
  | cons t r => exact this
-- what is read may be written
theorem quoted_len : ∀ (n : Nat) {s acc t r : List UInt8}, s.length ≤ n → quotedS acc s = some (t, r) → t.length ≤ acc.length + s.length ∧ r.length ≤ s.length
  | _, [], acc, t, r, _, h => by cases h
  | 0, c :: s, acc, t, r, hn, h => by simp at hn
  | n + 1, c :: s, acc, t, r, hn, h => by
    rw [List.length_cons] at hn ⊢
    rw [quoted_cons] at h
    split at h
    · injection h with h
      injection h with h1 h2
      subst h1 h2
      omega
    · split at h
      · cases s with
        | nil => cases h
        | cons y s =>
          simp only [] at h
          split at h
          · rw [List.length_cons] at hn ⊢
            have := quoted_len n (by omega) h
            rw [List.length_append, List.length_singleton] at this
            omega
          · cases h
      · split at h
        · cases h
        · have := quoted_len n (by omega) h
          rw [List.length_append, List.length_singleton] at this
          omega
theorem counted_len {s t r : List UInt8} (h : countedS s = some (t, r)) : t.length ≤ s.length ∧ r.length ≤ s.length := by
  unfold countedS at h
  cases hc : crlf s with
  | none => rw [hc] at h; cases h
  | some p =>
    obtain ⟨head, rest⟩ := p
    have hs := congrArg List.length (crlf_some hc)
    rw [List.length_append] at hs
    rw [hc] at h
    simp only [] at h
    cases hl : litP head with
    | none => rw [hl] at h; cases h
    | some n =>
      rw [hl] at h
      simp only [] at h
      split at h
      · injection h with h
        injection h with h1 h2
        subst h1 h2
        rw [List.length_take, List.length_drop]
        omega
      · cases h
theorem dropWhile_len {α : Type} (p : α → Bool) (l : List α) : (l.dropWhile p).length ≤ l.length ∧ (l.takeWhile p).length ≤ l.length := by
  have := congrArg List.length (List.takeWhile_append_dropWhile (p := p) (l := l))
  rw [List.length_append] at this
  omega
theorem takeWhile_all {α : Type} (p : α → Bool) : ∀ (l : List α), ∀ x ∈ l.takeWhile p, p x = true
  | [], x, h => by cases h
  | y :: l, x, h => by
    rw [List.takeWhile_cons] at h
    split at h
    · rename_i hy
      rcases List.mem_cons.1 h with e | h
      · rw [e]; exact hy
      · exact takeWhile_all p l x h
    · cases h
theorem one_len {s r : List UInt8} {t : TokS} (h : oneS s = some (t, r)) (hs : s.length < 1000000) : okTok true t ∧ r.length ≤ s.length := by
  cases s with
  | nil => cases h
  | cons c s =>
    rw [one_cons] at h
    split at h
    · injection h with h
      injection h with h1 h2
      subst h1 h2
      exact ⟨.inr (.inr ⟨.inl rfl, rfl⟩), by simp⟩
    · split at h
      · injection h with h
        injection h with h1 h2
        subst h1 h2
        exact ⟨.inr (.inr ⟨.inr rfl, rfl⟩), by simp⟩
      · split at h
        · cases hq : quotedS [] s with
          | none => rw [hq] at h; cases h
          | some p =>
            rw [hq] at h
            injection h with h
            injection h with h1 h2
            subst h1 h2
            have := quoted_len s.length (Nat.le_refl _) (t := p.1) (r := p.2) hq
            rw [List.length_cons] at hs ⊢
            rw [List.length_nil] at this
            exact ⟨.inr (.inl ⟨rfl, by show p.1.length < _; omega, .inl rfl⟩), by omega⟩
        · split at h
          · cases hq : countedS (c :: s) with
            | none => rw [hq] at h; cases h
            | some p =>
              rw [hq] at h
              injection h with h
              injection h with h1 h2
              subst h1 h2
              have := counted_len (t := p.1) (r := p.2) hq
              exact ⟨.inr (.inl ⟨rfl, by show p.1.length < _; omega, .inl rfl⟩), by omega⟩
          · split at h
            · rename_i hp
              injection h with h
              injection h with h1 h2
              subst h1 h2
              refine ⟨.inl ⟨rfl, ?_, takeWhile_all plainB _⟩, (dropWhile_len plainB _).1⟩
              show (c :: s).takeWhile plainB ≠ []
              rw [List.takeWhile_cons, if_pos hp]
              simp
            · cases h
theorem apart_len {s r : List UInt8} {k : Nat} (h : apartS s k = some r) : r.length ≤ s.length := by
  cases s with
  | nil => injection h with h; subst h; exact Nat.le_refl _
  | cons c s =>
    unfold apartS at h
    simp only [] at h
    split at h
    · cases s with
      | nil => cases h
      | cons d s =>
        simp only [] at h
        split at h
        · injection h with h; subst h; simp
        · cases h
    · split at h
      · injection h with h; subst h; exact Nat.le_refl _
      · cases h
theorem tok_ok : ∀ (f : Nat) (d : Int) (n : Nat) (s : List UInt8) (l : List TokS), s.length < 1000000 → n ≤ 200 → tokS f d n s = some l → (∀ t ∈ l, okTok true t) ∧ deepOk d l ∧ n + l.length ≤ 200
  | 0, d, n, s, l, _, _, h => by cases h
  | f + 1, d, n, s, l, hs, hn, h => by
    unfold tokS at h
    split at h
    · split at h
      · rename_i hd
        injection h with h
        subst h
        exact ⟨fun t h => (by cases h), hd, by simpa using hn⟩
      · cases h
    · cases ho : oneS s with
      | none => rw [ho] at h; cases h
      | some p =>
        obtain ⟨t, rest⟩ := p
        rw [ho] at h
        simp only [] at h
        split at h
        · cases h
        · rename_i hc
          obtain ⟨h1, h2⟩ := one_len ho hs
          cases ha : apartS rest t.k with
          | none => rw [ha] at h; cases h
          | some s' =>
            have h3 := apart_len ha
            rw [ha] at h
            simp only [] at h
            cases hr : tokS f (deepS d t.k) (n + 1) s' with
            | none => rw [hr] at h; cases h
            | some l' =>
              rw [hr] at h
              injection h with h
              subst h
              obtain ⟨h4, h5, h6⟩ := tok_ok f (deepS d t.k) (n + 1) s' l' (by omega) (by omega) hr
              refine ⟨fun x hx => ?_, ⟨by omega, h5⟩, by rw [List.length_cons]; omega⟩
              rcases List.mem_cons.1 hx with e | hx
              · rw [e]; exact h1
              · exact h4 x hx
end Go.Proofs.YtjhaccmcjlbllaaGreatDoor
/-
  What a line's end asks for, plainly: by its last brace, and by its digits from behind.
-/
namespace Go.Proofs.YtjhaccmcjlbllaaGreatDoor
theorem lit_end {line : List UInt8} (h : line.getLast? ≠ some 125) : litP line = none := by
  unfold litP
  rw [← List.head?_reverse] at h
  cases hr : line.reverse with
  | nil => rfl
  | cons c r =>
    rw [hr] at h
    have hc : c ≠ 125 := fun e => h (by rw [e]; rfl)
    split
    · rename_i e
      injection e with e1 _
      exact absurd e1 hc
    · rfl
theorem dropWhile_mem {α : Type} {p : α → Bool} : ∀ {l : List α} {x : α} {r : List α}, l.dropWhile p = x :: r → x ∈ l ∧ p x = false
  | [], x, r, h => by cases h
  | y :: l, x, r, h => by
    rw [List.dropWhile_cons] at h
    split at h
    · have := dropWhile_mem h
      exact ⟨List.mem_cons_of_mem _ this.1, this.2⟩
    · rename_i hy
      injection h with h1 h2
      subst h1
      exact ⟨List.mem_cons_self, by simpa using hy⟩
theorem litP_snoc (s : List UInt8) : litP (s ++ [125]) = match s.reverse.dropWhile digiB with
    | 123 :: _ => if 1 ≤ (s.reverse.takeWhile digiB).length ∧ (s.reverse.takeWhile digiB).length ≤ 6 then some (valB (s.reverse.takeWhile digiB).reverse) else none
    | _ => none := by
  unfold litP
  rw [List.reverse_append]
  rfl
theorem lit_none {s : List UInt8} (h : ∀ c ∈ s, c ≠ 123) : litP (s ++ [125]) = none := by
  rw [litP_snoc]
  cases hd : s.reverse.dropWhile digiB with
  | nil => rfl
  | cons c r =>
    have := (dropWhile_mem hd).1
    have hc := h c (List.mem_reverse.1 this)
    split
    · rename_i e
      injection e with e1 _
      exact absurd e1 hc
    · rfl
theorem lit_brace {a d : List UInt8} (h : ∀ c ∈ d, c ≠ 123) : litP (a ++ [123] ++ d ++ [125]) = if 1 ≤ d.length ∧ d.length ≤ 6 ∧ d.all digiB = true then some (valB d) else none := by
  rw [litP_snoc]
  have hr : (a ++ [123] ++ d).reverse = d.reverse ++ 123 :: a.reverse := by simp
  rw [hr]
  by_cases hall : d.all digiB = true
  · have hd : ∀ x ∈ d.reverse, digiB x = true := fun x hx => List.all_eq_true.1 hall x (List.mem_reverse.1 hx)
    obtain ⟨h1, h2⟩ := takeWhile_app (p := digiB) (a := d.reverse) (b := 123 :: a.reverse) hd (fun x hx => by injection hx with hx; subst hx; rfl)
    rw [h1, h2]
    simp only []
    rw [List.length_reverse, List.reverse_reverse]
    by_cases hl : 1 ≤ d.length ∧ d.length ≤ 6
    · rw [if_pos hl, if_pos ⟨hl.1, hl.2, hall⟩]
    · rw [if_neg hl, if_neg fun e => hl ⟨e.1, e.2.1⟩]
  · rw [show (if 1 ≤ d.length ∧ d.length ≤ 6 ∧ d.all digiB = true then some (valB d) else none) = none from if_neg fun e => hall e.2.2]
    have hex : ∃ x ∈ d.reverse, digiB x = false := by
      rw [List.all_eq_true] at hall
      simp only [Classical.not_forall] at hall
      obtain ⟨x, hx, hx2⟩ := hall
      exact ⟨x, List.mem_reverse.2 hx, by simpa using hx2⟩
    obtain ⟨x, hx, hx2⟩ := hex
    have hdw : ∀ {l : List UInt8} (r : List UInt8), x ∈ l → ∃ y m, (l ++ r).dropWhile digiB = y :: m ∧ y ∈ l := by
      intro l
      induction l with
      | nil => intro r h; cases h
      | cons z l ih =>
        intro r h
        rw [List.cons_append, List.dropWhile_cons]
        split
        · rename_i hz
          rcases List.mem_cons.1 h with e | h
          · rw [← e, hx2] at hz; cases hz
          · obtain ⟨y, m, h1, h2⟩ := ih r h
            exact ⟨y, m, h1, List.mem_cons_of_mem _ h2⟩
        · exact ⟨z, _, rfl, List.mem_cons_self⟩
    obtain ⟨y, m, h1, h2⟩ := hdw (123 :: a.reverse) hx
    rw [h1]
    have hy := h y (List.mem_reverse.1 h2)
    split
    · rename_i e
      injection e with e1 _
      exact absurd e1 hy
    · rfl
/-- digits from behind: k of them were looked at -/
theorem lit_digits {s : List UInt8} {k : Nat} (hk : k ≤ s.length) (hall : ∀ x ∈ s.reverse.take k, digiB x = true) (hstop : 6 < k ∨ ∀ x, s.reverse[k]? = some x → digiB x = false) :
    litP (s ++ [125]) = if s.reverse[k]? = some 123 ∧ 1 ≤ k ∧ k ≤ 6 then some (valB (s.drop (s.length - k))) else none := by
  rw [litP_snoc]
  have hsp : s.reverse = s.reverse.take k ++ s.reverse.drop k := (List.take_append_drop k _).symm
  have hlen : (s.reverse.take k).length = k := by rw [List.length_take, List.length_reverse]; omega
  rcases hstop with h6 | hst
  · rw [show (if s.reverse[k]? = some 123 ∧ 1 ≤ k ∧ k ≤ 6 then some (valB (s.drop (s.length - k))) else none) = none from if_neg (by omega)]
    have htw : 6 < (s.reverse.takeWhile digiB).length := by
      suffices H : ∀ (a b : List UInt8), (∀ x ∈ a, digiB x = true) → a.length ≤ ((a ++ b).takeWhile digiB).length by
        have := H (s.reverse.take k) (s.reverse.drop k) hall
        rw [List.take_append_drop, hlen] at this
        omega
      intro a b
      induction a with
      | nil => intro _; exact Nat.zero_le _
      | cons z a ih =>
        intro h
        rw [List.cons_append, List.takeWhile_cons, if_pos (h z List.mem_cons_self), List.length_cons, List.length_cons]
        have := ih fun x hx => h x (List.mem_cons_of_mem _ hx)
        omega
    split
    · rw [if_neg (by omega)]
    · rfl
  · have hb : ∀ x, (s.reverse.drop k).head? = some x → digiB x = false := fun x hx => hst x (by rw [List.head?_drop] at hx; exact hx)
    obtain ⟨h1, h2⟩ := takeWhile_app hall hb
    rw [← hsp] at h1 h2
    rw [h1, h2, hlen]
    have hv : (s.reverse.take k).reverse = s.drop (s.length - k) := by rw [List.take_reverse, List.reverse_reverse]
    rw [hv]
    have hg : (s.reverse.drop k).head? = s.reverse[k]? := List.head?_drop
    cases hd : s.reverse.drop k with
    | nil =>
      rw [hd] at hg
      rw [← hg]
      simp
    | cons c r =>
      rw [hd] at hg
      rw [← hg]
      by_cases hc : c = 123
      · subst hc
        simp
      · have : ¬ (some c = some (123 : UInt8)) := fun e => hc (Option.some.inj e)
        rw [show (c :: r).head? = some c from rfl, show (if some c = some (123 : UInt8) ∧ 1 ≤ k ∧ k ≤ 6 then some (valB (s.drop (s.length - k))) else none) = none from if_neg fun e => this e.1]
        split
        · rename_i e
          injection e with e1 _
          exact absurd e1 hc
        · rfl
end Go.Proofs.YtjhaccmcjlbllaaGreatDoor
/-
  Walks: the length that a line's end asks for (lex.literal).
-/
namespace Go.Proofs.YtjhaccmcjlbllaaGreatDoor
open Go.RowKit
set_option linter.unusedSimpArgs false
set_option linter.unusedVariables false
def litV (l : List UInt8) : Int := match litP l with
  | some n => (n : Int)
  | none => -1
def digs : List UInt8 := [48, 49, 50, 51, 52, 53, 54, 55, 56, 57]
theorem digs_has (c : UInt8) : digs.contains c = digiB c := by
  unfold digs digiB
  rw [Bool.eq_iff_iff]
  simp
  have h : c.toNat < 256 := c.toNat_lt
  constructor
  · rintro (rfl | rfl | rfl | rfl | rfl | rfl | rfl | rfl | rfl | rfl) <;> decide
  · intro h
    have : c = UInt8.ofNat c.toNat := by simp
    have hc : c.toNat = 48 ∨ c.toNat = 49 ∨ c.toNat = 50 ∨ c.toNat = 51 ∨ c.toNat = 52 ∨ c.toNat = 53 ∨ c.toNat = 54 ∨ c.toNat = 55 ∨ c.toNat = 56 ∨ c.toNat = 57 := by omega
    rcases hc with e | e | e | e | e | e | e | e | e | e <;> rw [e] at this <;> rw [this] <;> simp
theorem atoi_digits {d : List UInt8} (h : 1 ≤ d.length) (hd : d.all digiB = true) : Lib.atoi d = some ((valB d : Nat) : Int) := by
  cases d with
  | nil => simp at h
  | cons b r =>
    have hb := List.all_eq_true.1 hd b List.mem_cons_self
    have hb1 : (b == 45) = false := by
      rw [beq_eq_false_iff_ne]
      intro e; subst e; revert hb; decide
    have hb2 : (b == 43) = false := by
      rw [beq_eq_false_iff_ne]
      intro e; subst e; revert hb; decide
    have key : ∀ (l : List UInt8) (a : Nat), l.all digiB = true → Lib.decFrom a l = some (l.foldl (fun n b => n * 10 + (b.toNat - 48)) a) := by
      intro l
      induction l with
      | nil => intro a _; rfl
      | cons x l ih =>
        intro a hl
        rw [List.all_cons, Bool.and_eq_true] at hl
        have hx := hl.1
        unfold digiB at hx
        simp at hx
        have hv : Lib.digitVal x = some (x.toNat - 48) := by unfold Lib.digitVal; rw [if_pos hx]
        unfold Lib.decFrom
        rw [hv]
        exact ih _ hl.2
    show (if (b == 45) = true then _ else if (b == 43) = true then _ else (Lib.decNat (b :: r)).map fun (m : Nat) => (m : Int)) = _
    rw [hb1, hb2]
    simp only [Bool.false_eq_true, if_false]
    unfold Lib.decNat
    rw [if_neg (by simp), key _ 0 hd]
    rfl
theorem suffix_last {l : List UInt8} : Lib.hasSuffix l [125] = true ↔ l.getLast? = some 125 := by
  unfold Lib.hasSuffix
  rw [List.isSuffixOf_iff_suffix]
  constructor
  · rintro ⟨t, rfl⟩
    exact List.getLast?_concat
  · intro h
    rcases List.eq_nil_or_concat l with e | ⟨q, y, e⟩
    · rw [e] at h; cases h
    · rw [e, List.concat_eq_append, List.getLast?_concat] at h
      injection h with h
      exact ⟨q, by rw [e, h, List.concat_eq_append]⟩
theorem bang_eq {l : List UInt8} {j : Nat} (h : j < l.length) : (St l).data[j]! = l[j] := by
  show l.toArray[j]! = _
  rw [getElem!_pos l.toArray j (by simpa using h)]
  simp
set_option maxRecDepth 100000 in
theorem literal_any (A : Option Addr) (n c : Nat) (l : List UInt8) (hl : l.length = n) (hn : n ≤ 1000000) (w : World) (hr : Reads w w.heap.size 1 A n (u8s l)) :
    Calls Tryz.prog 141 #[.slice A n c] w fun ev w' => ev = .returned (.int .i64 (litV l)) ∧ Below w.heap.size w w' := by
  have hcv := conv_reads (c := c) hl hr
  have hsz : (St l).size = n := hl
  refine calls_at 46 Tryz.func141 rfl rfl (Nat.le_of_ble_eq_true rfl) ?_
  intro a hA; replace hA := hA.norm
  refine wS (wR ?_)
  revert a; refine wo rfl rfl (by decide) (fun ev e h => by simp [go_sem, h, hcv] <;> rfl) ?_; intro a hA
  replace hA := hA.keepN [0]
  refine wN (nT (wS (wR ?_)))
  revert a; refine wo rfl rfl (by decide) (fun ev e h => by simp [go_sem, h, hcv] <;> rfl) ?_; intro a hA
  refine wl_op hA rfl rfl (by decide) (fun ev h => by simp [go_sem, h.get 10 rfl, hcv]; try first | exact ⟨rfl, rfl⟩ | rfl) fun a hA => ?_
  refine wl_call hA rfl rfl (by decide) (fun ev h => exec_call Tryz.func158 (by kernel_rfl) rfl (h.f _) (by first | (simp only [mL, h.get 11 rfl, h.c] <;> rfl) | (simp [mL, h.get 11 rfl, h.c, hcv] <;> rfl))) (Tryz.strings_CutSuffix (St l) (St [125]) _ (by rw [hsz]; omega)) ?_
  rintro e w1 ⟨rfl, rfl⟩
  refine ⟨_, rfl, fun a hA => ?_⟩
  obtain ⟨ok, hok⟩ : ∃ q, Lib.hasSuffix l [125] = q := ⟨_, rfl⟩
  obtain ⟨s, hs⟩ : ∃ s, Lib.trimSuffix l [125] = s := ⟨_, rfl⟩
  have hsl : s.length ≤ n := by
    rw [← hs]
    unfold Lib.trimSuffix
    split
    · rw [List.length_take]; omega
    · omega
  rw [show Lib.hasSuffix (St l).data.toList (St [125]).data.toList = ok from hok, show (⟨(Lib.trimSuffix (St l).data.toList (St [125]).data.toList).toArray⟩ : ByteArray) = St s by rw [← hs]] at hA
  revert a; (iterate 5 refine wo rfl rfl (by decide) (fun ev e h => by simp [go_sem, h] <;> rfl) ?_); intro a hA
  replace hA := hA.keepN [3, 4]
  refine wN (nT (wS (wR ?_)))
  revert a; refine wo rfl rfl (by decide) (fun ev e h => by simp [go_sem, h] <;> rfl) ?_; intro a hA
  refine wl_call hA rfl rfl (by decide) (fun ev h => exec_call Tryz.func142 (by kernel_rfl) rfl (h.f _) (by first | (simp only [mL, h.get 15 rfl, h.c] <;> rfl) | (simp [mL, h.get 15 rfl, h.c] <;> rfl))) (Tryz.strings_LastIndexByte (St s) 123 (by show s.length < _; omega) _) ?_
  rintro e w2 ⟨rfl, rfl⟩
  refine ⟨_, rfl, fun a hA => ?_⟩
  obtain ⟨i, hi⟩ : ∃ i, Lib.lastIndexByte (St s) 123 = i := ⟨_, rfl⟩
  rw [hi] at hA
  have hsp := Lib.lastIdx_spec (St s) 123 s.length
  rw [show Lib.lastIdx (St s) 123 s.length = i from hi] at hsp
  revert a; refine wo rfl rfl (by decide) (fun ev e h => by simp [go_sem, h] <;> rfl) ?_; intro a hA
  replace hA := hA.keepN [3, 4, 5]
  refine wN (nT (wS (wS (wR ?_))))
  revert a; (iterate 3 refine wo rfl rfl (by decide) (fun ev e h => by simp [go_sem, h] <;> rfl) ?_); (iterate 2 refine wg _ rfl rfl rfl rfl (by decide) (fun hq ev e h => by simp [go_sem, h, ↓gw_t (beq_t hq)] <;> rfl) ?_); refine wko rfl rfl (by decide) rfl rfl rfl ?_; intro a hA
  replace hA := hA.keepN [3, 5, 22]
  refine wN (nT ?_)
  refine wp_if hA 22 _ rfl (fun hq => ?yQ) (fun hq => ?nQ)
  case yQ =>
    have hv : litV l = -1 := by
      unfold litV
      cases ok with
      | false =>
        rw [lit_end (fun e => by rw [suffix_last.2 e] at hok; cases hok)]
      | true =>
        have hlast := suffix_last.1 hok
        rcases List.eq_nil_or_concat l with e | ⟨q, y, e⟩
        · rw [e] at hlast; cases hlast
        · rw [e, List.concat_eq_append, List.getLast?_concat] at hlast
          injection hlast with hlast
          have hsq : s = q := by
            rw [← hs, e, List.concat_eq_append]
            unfold Lib.trimSuffix
            rw [if_pos (by rw [← hok, e, List.concat_eq_append])]
            simp
          rcases hsp with ⟨h1, h2⟩ | ⟨k, h1, h2, h3, h4⟩
          · rw [e, List.concat_eq_append, hlast, lit_none (fun x hx hx2 => by
              obtain ⟨j, hj, e2⟩ := List.getElem_of_mem hx
              rw [← hsq] at hj
              have := h2 j hj
              rw [bang_eq hj] at this
              subst hsq
              rw [e2, hx2] at this
              exact this rfl)]
          · simp at hq
            omega
    refine wS (wR ?_)
    revert a; refine wo rfl rfl (by decide) (fun ev e h => by simp [go_sem, h] <;> rfl) ?_; intro a hA
    replace hA := hA.keepN [2]
    refine wN (nT (wp_ret (rT ?_)))
    refine ret_1 hA 2 rfl rfl ?_
    exact ⟨by rw [hv], Below.refl _ _⟩
  case nQ =>
    have hokt : ok = true := by
      cases ok with
      | true => rfl
      | false => simp at hq
    subst hokt
    have hi0 : 0 ≤ i := by simp at hq; omega
    have hlast := suffix_last.1 hok
    obtain ⟨pa, d, hsd, hia, hd1⟩ : ∃ pa d, s = pa ++ [123] ++ d ∧ i = (pa.length : Nat) ∧ ∀ x ∈ d, x ≠ 123 := by
      rcases hsp with ⟨h1, h2⟩ | ⟨k, h1, h2, h3, h4⟩
      · omega
      · refine ⟨s.take k, s.drop (k + 1), ?_, by rw [List.length_take]; omega, fun x hx hx2 => ?_⟩
        · rw [bang_eq h1] at h3
          have h5 : s[k] = 123 := by
            apply UInt8.toNat.inj
            have : (s[k].toNat : Int) = 123 := h3
            have h6 : (123 : UInt8).toNat = 123 := rfl
            omega
          rw [← h5, List.append_assoc, List.singleton_append, ← List.drop_eq_getElem_cons h1, List.take_append_drop]
        · obtain ⟨j, hj, e2⟩ := List.getElem_of_mem hx
          rw [List.length_drop] at hj
          have hj2 : k + 1 + j < s.length := by omega
          have := h4 (k + 1 + j) (by omega) hj2
          rw [bang_eq hj2] at this
          rw [List.getElem_drop, hx2] at e2
          rw [e2] at this
          exact this rfl
    subst hia
    have hll : l = pa ++ [123] ++ d ++ [125] := by
      rcases List.eq_nil_or_concat l with e | ⟨q, y, e⟩
      · rw [e] at hlast; cases hlast
      · rw [e, List.concat_eq_append, List.getLast?_concat] at hlast
        injection hlast with hlast
        have hsq : s = q := by
          rw [← hs, e, List.concat_eq_append]
          unfold Lib.trimSuffix
          rw [if_pos (by rw [← hok, e, List.concat_eq_append])]
          simp
        rw [← hsd, hsq, e, List.concat_eq_append, hlast]
    have hdl : d.length ≤ 1000000 := by rw [hsd] at hsl; simp at hsl; omega
    have hal : pa.length ≤ 1000000 := by rw [hsd] at hsl; simp at hsl; omega
    have hw1 : IntKind.i64.wrap ((pa.length : Int) + 1) = (pa.length : Int) + 1 := IntWalk.i64_in _ (by omega)
    have hsl2 : s.length = pa.length + 1 + d.length := by rw [hsd]; simp; omega
    have i1 : (0 : Int) ≤ (pa.length : Int) + 1 := by omega
    have i2 : (pa.length : Int) + 1 ≤ (s.length : Int) := by omega
    have hex : (St s).extract (pa.length + 1) s.length = St d := by rw [extract_drop s _ _ rfl, hsd, List.drop_left' (by simp)]
    have i3 : ((pa.length : Int) + 1).toNat = pa.length + 1 := by omega
    have i4 : (St s).size = s.length := rfl
    refine wp_skip (nT (wS (wR ?_)))
    revert a; (iterate 5 refine wo rfl rfl (by decide) (fun ev e h => by simp [go_sem, h, hw1, i1, i2, i3, i4, hex] <;> rfl) ?_); intro a hA
    replace hA := hA.keepN [6]
    refine wN (nT (wS (wS (wR ?_))))
    revert a; (iterate 4 refine wo rfl rfl (by decide) (fun ev e h => by simp [go_sem, h, hw1, i1, i2, i3, i4, hex] <;> rfl) ?_); (iterate 3 refine wg _ rfl rfl rfl rfl (by decide) (fun hq ev e h => by simp [go_sem, h, ↓gw_t (beq_t hq), hw1, i1, i2, i3, i4, hex] <;> rfl) ?_); refine wko rfl rfl (by decide) rfl rfl rfl ?_; refine wo rfl rfl (by decide) (fun ev e h => by simp [go_sem, h, hw1, i1, i2, i3, i4, hex] <;> rfl) ?_; refine wg _ rfl rfl rfl rfl (by decide) (fun hq ev e h => by simp [go_sem, h, ↓gw_t (beq_t hq), hw1, i1, i2, i3, i4, hex] <;> rfl) ?_; intro a hA
    replace hA := hA.keepN [6, 35, 36]
    have hdv : litV l = if 1 ≤ d.length ∧ d.length ≤ 6 ∧ d.all digiB = true then ((valB d : Nat) : Int) else -1 := by
      unfold litV
      rw [hll, lit_brace hd1]
      by_cases hc : 1 ≤ d.length ∧ d.length ≤ 6 ∧ d.all digiB = true
      · rw [if_pos hc, if_pos hc]
      · rw [if_neg hc, if_neg hc]
    refine wl_gcallv _ hA rfl rfl rfl rfl (by decide) (fun hq ev h => exec_call Tryz.func95 (by kernel_rfl) rfl (h.f _) (by first | (simp only [mL, ((h.get 36 rfl).trans (gw_t (beq_t hq))), h.c] <;> rfl) | (simp [mL, ((h.get 36 rfl).trans (gw_t (beq_t hq))), h.c, hw1, i1, i2, i3, i4, hex] <;> rfl))) (fun hq => trim_any digs d _ (by omega) (by decide) (by decide) (by intro j b hj; have := List.mem_of_getElem? hj; revert this; unfold digs; simp; rintro (rfl | rfl | rfl | rfl | rfl | rfl | rfl | rfl | rfl | rfl) <;> decide)) fun a w3 hb3 hA => ?_
    revert a; refine wg _ rfl rfl rfl rfl (by decide) (fun hq ev e h => by simp [go_sem, h, ↓gw_t (beq_t hq), hw1, i1, i2, i3, i4, hex] <;> rfl) ?_; refine wko rfl rfl (by decide) rfl rfl rfl ?_; intro a hA
    replace hA := hA.keepN [6, 39]
    refine wN (nT ?_)
    have htr : (trimS digs d).isEmpty = d.all digiB := by
      have h1 := trimS_nil digs d
      have h2 : (trimS digs d == []) = (trimS digs d).isEmpty := by cases trimS digs d <;> rfl
      rw [← h2, h1]
      congr 1
      funext x
      exact digs_has x
    rw [htr] at hA
    refine wp_if hA 39 _ rfl (fun hq2 => ?yR) (fun hq2 => ?nR)
    case yR =>
      have hno : ¬ (1 ≤ d.length ∧ d.length ≤ 6 ∧ d.all digiB = true) := fun ⟨h1, h2, h3⟩ => by
        rw [h3] at hq2
        simp at hq2
        omega
      rw [if_neg hno] at hdv
      refine wS (wR ?_)
      revert a; refine wo rfl rfl (by decide) (fun ev e h => by simp [go_sem, h, hw1, i1, i2, i3, i4, hex] <;> rfl) ?_; intro a hA
      replace hA := hA.keepN [2]
      refine wN (nT (wp_ret (rT ?_)))
      refine ret_1 hA 2 rfl rfl ?_
      exact ⟨by rw [hdv], hb3⟩
    case nR =>
      have hyes : 1 ≤ d.length ∧ d.length ≤ 6 ∧ d.all digiB = true := by
        cases hall : d.all digiB with
        | false => rw [hall] at hq2; simp at hq2
        | true =>
          rw [hall] at hq2
          simp at hq2
          exact ⟨by omega, by omega, rfl⟩
      rw [if_pos hyes] at hdv
      have hdsz : (St d).size = d.length := rfl
      refine wp_skip (nT (wS (wR ?_)))
      revert a; refine wo rfl rfl (by decide) (fun ev e h => by simp [go_sem, h, hw1, i1, i2, i3, i4, hex] <;> rfl) ?_; intro a hA
      refine wl_call hA rfl rfl (by decide) (fun ev h => exec_call Tryz.func191 (by kernel_rfl) rfl (h.f _) (by first | (simp only [mL, h.get 41 rfl, h.c] <;> rfl) | (simp [mL, h.get 41 rfl, h.c, hw1, i1, i2, i3, i4, hex] <;> rfl))) (Tryz.strconv_Atoi (St d) ((valB d : Nat) : Int) (by rw [hdsz]; omega) (atoi_digits hyes.1 hyes.2.2) _) ?_
      rintro e w4 ⟨rfl, tb, rfl⟩
      refine ⟨_, rfl, fun a hA => ?_⟩
      revert a; (iterate 5 refine wo rfl rfl (by decide) (fun ev e h => by simp [go_sem, h, hw1, i1, i2, i3, i4, hex] <;> rfl) ?_); intro a hA
      replace hA := hA.keepN [7]
      refine wN (nT (wS (wR ?_)))
      revert a; (iterate 2 refine wo rfl rfl (by decide) (fun ev e h => by simp [go_sem, h, hw1, i1, i2, i3, i4, hex] <;> rfl) ?_); intro a hA
      replace hA := hA.keepN [2]
      refine wN (nT (wp_ret ?_))
      refine ret_1 hA 2 rfl rfl ?_
      exact ⟨by rw [hdv], hb3.trans (Go.Joins.below_bytesWorld _ _ _ _ hb3.size)⟩
end Go.Proofs.YtjhaccmcjlbllaaGreatDoor
/-
  strconv.FormatUint at base 10, for every number from 1 on.
-/
namespace Go.Proofs.YtjhaccmcjlbllaaGreatDoor
open Go.RowKit Go.Sort Go.Lib
set_option maxHeartbeats 1600000 in
set_option maxRecDepth 100000 in
theorem fmtIn_any (u : Nat) (hu1 : 1 ≤ u) (hu64 : u < 18446744073709551616) (w : World)
    (htab : Lib.TabIs Tryz.prog w "internal/strconv.uint64pow10" .u64 Lib.pow10Tab) :
    Calls Tryz.prog 81 #[.int .u64 u, .int .i64 10] w fun e w' => e = .returned (.string ⟨(Lib.decDigits u).toArray⟩) ∧ Below w.heap.size w w' := by
  by_cases hs : u < 100
  · go_enter Tryz.func81, Tryz.ntmps81
    go_wp2_with fail
    refine (Tryz.internal_strconv_small u hs _).mono ?_
    rintro e w' ⟨rfl, rfl⟩
    go_wp2
    go_ret
    exact ⟨rfl, Below.refl _ _⟩
  · have hnd20 : Lib.nDigits u ≤ 20 := by have := Lib.numDigits_eq u hu1 hu64; split at this <;> omega
    have hal : Tryz.prog.arrayLen 163 = 24 := by simp [Program.arrayLen, Tryz.underlying163]
    have hsl : ∀ W, (Instr.sliceAt 163 (.pointer (some ⟨w.heap.size, 0, none⟩)) none (some (.int .i64 (Lib.nDigits u : Int))) none).run Tryz.prog W = .ok (.slice (some ⟨w.heap.size, 0, none⟩) (Lib.nDigits u) 24) W := fun W => by
      rw [run_sliceAt_array_h W 163 ⟨w.heap.size, 0, none⟩ (by simp [Program.arrayLen, Program.elem, Tryz.underlying163]) .i64 (Lib.nDigits u : Int) (by omega) (by rw [hal]; omega)]
      go_simp
    have hH0 := Lib.holds_zero0 w 163 (Lib.nDigits u) (by omega)
    have hfmt := Tryz.internal_strconv_formatBase10 w.heap.size 0 24 u (Array.replicate (Lib.nDigits u) 0) (w.alloc (.cells Lib.zeros24 163)) hH0 (by rw [Array.size_replicate]; exact Lib.lt_pow_nDigits u) hu64 (by rw [Array.size_replicate]; omega)
    rw [Array.size_replicate] at hfmt
    have HH0 := Lib.hid hH0
    have Hfmt := Lib.hid hfmt
    clear hH0 hal hfmt
    go_enter Tryz.func81, Tryz.ntmps81
    go_wp2_with fail
    refine (Tryz.internal_strconv_numDigits u hu1 hu64 _ (Lib.tabIs_alloc htab _)).mono ?_
    rintro e w' ⟨rfl, rfl⟩
    go_wp2_with fail
    refine Hfmt.out.mono ?_
    rintro e w' ⟨rfl, k, v', dk, rfl, hF⟩
    have hcv : (convert 23 9 (.slice (some ⟨w.heap.size, 0, none⟩) (Lib.nDigits u) 24)).run Tryz.prog ((putRow (fun (b : UInt8) => Value.int .u8 (b.toNat : Int)) (w.alloc (.cells Lib.zeros24 163)) w.heap.size 0 dk).drewN k) = .ok (.string ⟨(Lib.decDigits u).toArray⟩) ((putRow (fun (b : UInt8) => Value.int .u8 (b.toNat : Int)) (w.alloc (.cells Lib.zeros24 163)) w.heap.size 0 dk).drewN k) := by
      have h := run_convert_bytes_back (P := Tryz.prog) ((putRow (fun (b : UInt8) => Value.int .u8 (b.toNat : Int)) (w.alloc (.cells Lib.zeros24 163)) w.heap.size 0 dk).drewN k) 23 9 5 ⟨w.heap.size, 0, none⟩ 24 (Lib.decDigits u) Tryz.underlying23 Tryz.underlying5 Tryz.underlying9 (fun j hj => by
        rw [Lib.row_is_numeral hF j hj, Lib.add_plain, World.cell?_drewN]
        exact cell?_putRow (fun (b : UInt8) => Value.int .u8 (b.toNat : Int)) _ w.heap.size 0 _ dk HH0.out (by rw [hF.size, Array.size_replicate]) j (by rw [hF.size]; rw [Lib.decDigits_length] at hj; exact hj))
      rw [Lib.decDigits_length] at h
      exact h
    obtain ⟨os, eo⟩ := Lib.fin_at w (.cells Lib.zeros24 163) dk k 0
    have Hb : Hid (Below w.heap.size w ((putRow (fun (b : UInt8) => Value.int .u8 (b.toNat : Int)) (w.alloc (.cells Lib.zeros24 163)) w.heap.size 0 dk).drewN k)) := by
      rw [eo]; exact Lib.below_grow _ w (Nat.le_refl _) k os
    clear eo hF Hfmt HH0
    go_wp2
    go_ret
    exact ⟨rfl, Hb.out⟩
set_option maxRecDepth 100000 in
theorem fmt_any (u : Nat) (hu1 : 1 ≤ u) (hu64 : u < 18446744073709551616) (w : World)
    (htab : Lib.TabIs Tryz.prog w "internal/strconv.uint64pow10" .u64 Lib.pow10Tab) :
    Calls Tryz.prog 58 #[.int .u64 u, .int .i64 10] w fun e w' => e = .returned (.string ⟨(Lib.decDigits u).toArray⟩) ∧ Below w.heap.size w w' := by
  go_enter Tryz.func58, Tryz.ntmps58
  go_wp2_with fail
  refine (fmtIn_any u hu1 hu64 _ htab).mono ?_
  rintro e w' ⟨rfl, hb⟩
  go_wp2
  go_ret
  exact ⟨rfl, hb⟩
end Go.Proofs.YtjhaccmcjlbllaaGreatDoor
/-
  Walk of seqset's number.
-/
namespace Go.Proofs.YtjhaccmcjlbllaaGreatDoor
open Go.RowKit
/-- what the walks of the program need of a world: the table of powers of ten, the errors of strconv, strings' own bound -/
structure Fine (w : World) : Prop where
  tab : Lib.TabIs Tryz.prog w "internal/strconv.uint64pow10" .u64 Lib.pow10Tab
  len : ∃ m, w.cell? ⟨0, 0, none⟩ = some (.int .i64 m)
  e5 : ∃ ev, w.cell? ⟨7, 0, none⟩ = some ev ∧ (ev = .nilIface ∨ ∃ te pe, ev = .iface te pe)
  e6 : ∃ ev, w.cell? ⟨8, 0, none⟩ = some ev ∧ (ev = .nilIface ∨ ∃ te pe, ev = .iface te pe)
  big : 8 < w.heap.size ∧ 7 < w.heap.size
theorem Fine.below {w w' : World} (h : Fine w) (hb : Below w.heap.size w w') : Fine w' := by
  have hbig := h.big
  exact ⟨Lib.tabBelow_of_tabIs h.tab _ hb, by rw [hb.cell (show 0 < w.heap.size by omega)]; exact h.len, by rw [hb.cell hbig.2]; exact h.e5, by rw [hb.cell hbig.1]; exact h.e6, Nat.lt_of_lt_of_le hbig.1 hb.size, Nat.lt_of_lt_of_le hbig.2 hb.size⟩
set_option maxHeartbeats 1600000 in
set_option maxRecDepth 100000 in
theorem num_any (s : ByteArray) (hs : s.size ≤ 4000000) (w : World) (hw : Fine w) :
    Calls Tryz.prog 154 #[.string s] w fun e w' => ∃ v : Nat, e = .returned (.tuple #[.int .u32 v, .bool (numOk s.data.toList)]) ∧ (numOk s.data.toList = true → v = numVal s.data.toList) ∧ Below w.heap.size w w' := by
  by_cases hst : s = ⟨#[42]⟩
  · subst hst
    go_enter Tryz.func154, Tryz.ntmps154
    go_wp2
    go_ret2
    exact ⟨0, rfl, fun _ => rfl, Below.refl _ _⟩
  have hsl : (s.toList == [42]) = false := by
    rw [beq_eq_false_iff_ne]; intro e
    apply hst
    rw [Lib.toList_data] at e
    exact ByteArray.ext (Array.ext' e)
  have h42 : (s.data.toList == [42]) = false := by rw [← Lib.toList_data]; exact hsl
  rcases parse32 s.data.toList with ⟨hp1, hp2⟩ | ⟨hp1, hp2⟩
  · have hle : decN s.data.toList ≤ 4294967295 := by
      unfold spellsB at hp1; simp only [Bool.and_eq_true, decide_eq_true_eq] at hp1; exact hp1.2
    have hv : numVal s.data.toList = decN s.data.toList := by
      unfold numVal; rw [if_neg]; intro e; rw [e] at h42; cases h42
    have hok : numOk s.data.toList = (decide (1 ≤ decN s.data.toList) && (Lib.decDigits (decN s.data.toList) == s.data.toList)) := by
      unfold numOk; rw [h42, hp1]; rfl
    have hc : ∀ (Q : Ending → World → Prop), (∀ w', Below w.heap.size w w' → Q (.returned (.tuple #[.int .u64 (decN s.data.toList), .nilIface])) w') → Calls Tryz.prog 202 #[.string s, .int .i64 10, .int .i64 32] w Q := fun Q hQ => by
      refine (Tryz.strconv_ParseUint_10_at32_ok s (by omega) _ hp2 w).mono ?_
      rintro e w' ⟨rfl, rfl | rfl⟩
      · exact hQ _ (Below.refl _ _)
      · exact hQ _ (Joins.below_bytesWorld _ _ _ _ (Nat.le_refl _))
    have HC := Lib.hid hc
    have HV := Lib.hid hv
    have HK := Lib.hid hok
    clear hc hv hok hp1 hp2 h42 hst
    obtain ⟨L, hL⟩ : ∃ L, L = s.data.toList := ⟨_, rfl⟩
    obtain ⟨n, hn⟩ : ∃ n, n = decN s.data.toList := ⟨_, rfl⟩
    rw [← hn] at hle HC HV HK
    clear hn
    by_cases h1 : n < 1
    · have HF : Hid (numOk s.data.toList = false) := by
        show _ = _
        rw [HK.out]; simp; omega
      clear HK HV
      go_enter Tryz.func154, Tryz.ntmps154
      go_wp2_with fail
      refine HC.out _ ?_
      intro w1 hb
      go_wp2
      go_ret2
      rw [HF.out]
      exact ⟨n, rfl, by simp, hb⟩
    · by_cases h2 : Lib.decDigits n = s.data.toList
      · have HF : Hid (numOk s.data.toList = true) := by
          show _ = _
          rw [HK.out, h2]; simp; omega
        have hfm : ∀ w, Fine w → Calls Tryz.prog 58 #[.int .u64 n, .int .i64 10] w fun e w' => e = .returned (.string s) ∧ Below w.heap.size w w' := fun w hw => by
          have := fmt_any n (by omega) (by omega) w hw.tab
          rw [h2] at this
          exact this
        have HM := Lib.hid hfm
        clear HK h2 hfm
        go_enter Tryz.func154, Tryz.ntmps154
        go_wp2_with fail
        refine HC.out _ ?_
        intro w1 hb
        go_wp2_with fail
        refine (HM.out _ (hw.below hb)).mono ?_
        rintro e w2 ⟨rfl, hb2⟩
        go_wp2
        go_ret2
        rw [HF.out]
        exact ⟨n, rfl, fun _ => HV.out.symm, hb.trans (hb2.mono hb.size)⟩
      · have HF : Hid (numOk s.data.toList = false) := by
          show _ = _
          rw [HK.out]; simp [h2]
        obtain ⟨T, hT, hT2⟩ : ∃ T : ByteArray, T = ⟨(Lib.decDigits n).toArray⟩ ∧ (T.toList == s.toList) = false := ⟨_, rfl, by
          rw [Lib.toList_data, Lib.toList_data]; simpa using h2⟩
        have hfm : ∀ w, Fine w → Calls Tryz.prog 58 #[.int .u64 n, .int .i64 10] w fun e w' => e = .returned (.string T) ∧ Below w.heap.size w w' := fun w hw => by
          rw [hT]
          exact fmt_any n (by omega) (by omega) w hw.tab
        have HM := Lib.hid hfm
        clear HK h2 hfm hT
        go_enter Tryz.func154, Tryz.ntmps154
        go_wp2_with fail
        refine HC.out _ ?_
        intro w1 hb
        go_wp2_with fail
        refine (HM.out _ (hw.below hb)).mono ?_
        rintro e w2 ⟨rfl, hb2⟩
        go_wp2
        go_ret2
        rw [HF.out]
        exact ⟨n, rfl, by simp, hb.trans (hb2.mono hb.size)⟩
  · have hnum : numOk s.data.toList = false := by unfold numOk; rw [h42, hp1]; rfl
    have HN := Lib.hid hnum
    clear hnum h42 hp1 hst
    obtain ⟨ev5, h5, h5'⟩ := hw.e5
    obtain ⟨ev6, h6, h6'⟩ := hw.e6
    rcases hr : Lib.parseUintB 32 s.data.toList with u | _ | _
    · exact absurd hr (hp2 u)
    · have Hc := Lib.hid (Any.strconv_ParseUint_10_at32_syntax Tryz.laysPu14 s (by omega) hr ev5 w h5 h5')
      clear hr hp2 h5 h5' h6 h6' hw
      go_enter Tryz.func154, Tryz.ntmps154
      go_wp2_with fail
      refine Hc.out.mono ?_
      rintro e w1 ⟨N, rfl, _, _, hb⟩
      go_wp2
      go_ret2
      rw [HN.out]
      exact ⟨0, rfl, by simp, hb⟩
    · have Hc := Lib.hid (Any.strconv_ParseUint_10_at32_range Tryz.laysPu14 s (by omega) hr ev6 w h6 h6')
      clear hr hp2 h5 h5' h6 h6' hw
      go_enter Tryz.func154, Tryz.ntmps154
      go_wp2_with fail
      refine Hc.out.mono ?_
      rintro e w1 ⟨N, rfl, _, _, hb⟩
      go_wp2
      go_ret2
      rw [HN.out]
      exact ⟨4294967295, rfl, by simp, hb⟩
end Go.Proofs.YtjhaccmcjlbllaaGreatDoor
/-
  Walks: the reader's word and number.
-/
namespace Go.Proofs.YtjhaccmcjlbllaaGreatDoor
open Go.RowKit
set_option linter.unusedSimpArgs false
set_option linter.unusedVariables false
/-- a token that is no word -/
def wbad (t : TokI) : Bool := (t.k != 1) && (t.k != 2)
set_option maxRecDepth 100000 in
set_option maxHeartbeats 4000000 in
theorem word_any (pr : Nat) (l : List TokI) (bad : Bool) (w : World) (h : RdAt w pr l bad) (hl : l.length ≤ 50000000) : Calls Tryz.prog 178 #[.pointer (some ⟨pr, 0, none⟩)] w fun ev w' => ev = .returned (.string (St (takeV l).t)) ∧ RdAt w' pr l.tail ((bad || l.isEmpty) || wbad (takeV l)) ∧ TurnR pr w w' := by
  have hpw := h.lt
  refine calls_at 25 Tryz.func178 rfl rfl (Nat.le_of_ble_eq_true rfl) ?_
  intro a hA; replace hA := hA.norm
  refine wS (wR ?_)
  revert a; refine wo rfl rfl (by decide) (fun ev e h => by simp [go_sem, h] <;> rfl) ?_; intro a hA
  replace hA := hA.keepN [0]
  refine wN (nT (wS (wR ?_)))
  revert a; refine wo rfl rfl (by decide) (fun ev e h => by simp [go_sem, h] <;> rfl) ?_; intro a hA
  refine wl_call hA rfl rfl (by decide) (fun ev h => exec_call Tryz.func133 (by kernel_rfl) rfl (h.f _) (by first | (simp only [mL, h.get 4 rfl, h.c] <;> rfl) | (simp [mL, h.get 4 rfl, h.c] <;> rfl))) (take_any pr l bad _ h hl) ?_
  rintro e w1 ⟨rfl, h1, T1⟩
  refine ⟨_, rfl, fun a hA => ?_⟩
  obtain ⟨k, t, hkt⟩ : ∃ k t, takeV l = ⟨k, t⟩ := ⟨_, _, rfl⟩
  rw [hkt] at hA
  rw [hkt]
  obtain ⟨b1, hb1⟩ : ∃ b1, (bad || l.isEmpty) = b1 := ⟨_, rfl⟩
  rw [hb1] at h1
  rw [hb1]
  refine wl_local [.int .i64 k, .string (St t)] hA rfl rfl (by decide) (fun ev h => by simp [go_sem]; try first | exact ⟨rfl, rfl⟩ | rfl) rfl rfl (by rfl) (fun w1 g ev hb h => by simp [go_sem, h.get 3 rfl, h.get 5 rfl, setAll, hb.cell, hb.frozen]) fun w2 a (K2 : Blk _ _ _ _) hz2 hb2 hA => ?_
  have h2 := h1.below hb2
  have T2 := T1.below hb2
  obtain ⟨A, c, K, hr, hc, ht⟩ := h2.ex
  have hpw2 := K.lt
  have K00 := K
  replace hA := hA.keepN [0, 3]
  refine wN (nT (wS (wR ?_)))
  revert a; (iterate 6 refine wo rfl rfl (by decide) (fun ev e h => by simp [go_sem, h, K.cell, K2.cell] <;> rfl) ?_); (iterate 4 refine wg _ rfl rfl rfl rfl (by decide) (fun hq ev e h => by simp [go_sem, h, ↓gw_t (beq_t hq), K.cell, K2.cell] <;> rfl) ?_); intro a hA
  replace hA := hA.keepN [3, 6, 11, 15]
  revert a; (iterate 3 refine wg2 _ _ rfl rfl rfl rfl (by decide) (fun hq hr ev e h => by simp [go_sem, h, ↓gw_t (and_beq hq hr), ↓gw_t hq, K.cell, K2.cell] <;> rfl) ?_); intro a hA
  refine wl_guard _ hA rfl rfl rfl rfl (by decide) (fun hq ev h => by exact pick_and rfl (((h.get 15 rfl).trans (gw_t (beq_t hq)))) (((h.get 18 rfl).trans (gw_a (beq_t hq)))) (h.c _)) fun a hA => ?_
  revert a; refine wko rfl rfl (by decide) rfl rfl rfl ?_; (iterate 2 refine wo rfl rfl (by decide) (fun ev e h => by simp [go_sem, h, K.cell, K2.cell] <;> rfl) ?_); intro a hA
  refine wl_setf ([.slice A l.tail.length c, .bool (b1 || k != 1 && k != 2)]) _ hA rfl rfl K (j := 1) (by rfl) (fun ev h => by simp [go_sem, h.get 22 rfl, h.get 20 rfl, K.cell, K2.cell, K.cell, K.frozen]; try first | exact ⟨rfl, rfl⟩ | rfl) fun w3 (K : Blk _ _ _ _) hs3 => ?_
  replace K2 := hs3.blk K2 (by have := T1.size; omega)
  have T3 := T2.only hs3
  replace hA := hA.keepN [3]
  refine wN (nT (wS (wR ?_)))
  revert a; (iterate 3 refine wo rfl rfl (by decide) (fun ev e h => by simp [go_sem, h, K2.cell] <;> rfl) ?_); intro a hA
  replace hA := hA.keepN [2]
  refine wN (nT (wp_ret ?_))
  refine ret_1 hA 2 rfl rfl ?_
  obtain ⟨hr3, ht3⟩ := rows_turn hr ht K00 (Apart.only (Apart.refl (fun i => i = pr) _) hs3 (.inr rfl))
  exact ⟨rfl, ⟨A, c, K, hr3, hc, ht3⟩, T3⟩
theorem atoi_full (s : List UInt8) (w : World) (hw : Fine w) (hs : s.length ≤ 1048576) : Calls Tryz.prog 191 #[.string (St s)] w fun ev w' => ∃ n e, ev = .returned (.tuple #[.int .i64 n, e]) ∧ ((e = .nilIface ∧ Lib.atoiAll s = .ok n) ∨ ((∃ p, e = .iface 235 p) ∧ ∀ n, Lib.atoiAll s ≠ .ok n)) ∧ Below w.heap.size w w' := by
  obtain ⟨v5, h5, i5⟩ := hw.e5
  obtain ⟨v6, h6, i6⟩ := hw.e6
  have hz : (St s).size ≤ 1048576 := hs
  rcases h : Lib.atoiAll s with v | _ | _
  · refine (Tryz.strconv_Atoi_ok (St s) (by omega) v h w).mono ?_
    rintro e w' ⟨rfl, rfl | ⟨t, rfl⟩⟩
    · exact ⟨v, _, rfl, .inl ⟨rfl, rfl⟩, Below.refl _ _⟩
    · exact ⟨v, _, rfl, .inl ⟨rfl, rfl⟩, Joins.below_bytesWorld _ _ _ _ (Nat.le_refl _)⟩
  · refine (Tryz.strconv_Atoi_syntax (St s) (by omega) (h.trans (by kernel_rfl)) v5 w h5 i5).mono ?_
    rintro e w' ⟨N, rfl, _, _, hb⟩
    exact ⟨_, _, rfl, .inr ⟨⟨_, rfl⟩, fun n e => by cases e⟩, hb⟩
  · refine (Tryz.strconv_Atoi_range (St s) (by omega) h v6 w h6 i6).mono ?_
    rintro e w' ⟨N, rfl, _, _, hb⟩
    exact ⟨_, _, rfl, .inr ⟨⟨_, rfl⟩, fun n e => by cases e⟩, hb⟩
/-- what was laid is still so -/
def FineG (G : Nat) (w : World) : Prop := ∃ w0, w0.heap.size = G ∧ Fine w0 ∧ Below G w0 w
theorem FineG.fine {G : Nat} {w : World} (h : FineG G w) : Fine w := by
  obtain ⟨w0, rfl, hf, hb⟩ := h
  exact hf.below hb
theorem FineG.size {G : Nat} {w : World} (h : FineG G w) : G ≤ w.heap.size := by
  obtain ⟨w0, rfl, hf, hb⟩ := h
  exact hb.size
theorem FineG.keep {G : Nat} {w w' : World} (h : FineG G w) (hb : Below G w w') : FineG G w' := by
  obtain ⟨w0, e, hf, hb0⟩ := h
  exact ⟨w0, e, hf, hb0.trans hb⟩
theorem FineG.turn {G pr : Nat} {w w' : World} (h : FineG G w) (hp : G ≤ pr) (T : TurnR pr w w') : FineG G w' := h.keep (T.toBelow G hp h.size)
theorem FineG.below {G : Nat} {w w' : World} (h : FineG G w) (hb : Below w.heap.size w w') : FineG G w' := h.keep (hb.mono h.size)
/-- a word that is no number -/
def numOk9 (s : List UInt8) : Bool := decide (1 ≤ s.length) && decide (s.length ≤ 9) && s.all dig8
theorem atoi_9 {s : List UInt8} (h : numOk9 s = true) : Lib.atoiAll s = .ok ((val8 s : Nat) : Int) := by
  unfold numOk9 at h
  simp only [Bool.and_eq_true, decide_eq_true_eq] at h
  rw [Lib.atoiAll_short s (by omega), atoi_digits h.1.1 h.2]
  rfl
theorem num_9 {s : List UInt8} (h : numOk9 s = true) : 1 ≤ s.length ∧ s.length ≤ 9 ∧ s.all dig8 = true := by
  unfold numOk9 at h
  simp only [Bool.and_eq_true, decide_eq_true_eq] at h
  exact ⟨h.1.1, h.1.2, h.2⟩
theorem num_tell {s : List UInt8} {n : Int} (h : Lib.atoiAll s = .ok n) : (decide ((9 : Int) < s.length) || !(trimS digs s).isEmpty) = !numOk9 s := by
  have h1 : (trimS digs s).isEmpty = s.all dig8 := by
    have h2 := trimS_nil digs s
    have h3 : (fun x => digs.contains x) = dig8 := by funext x; exact digs_has x
    rw [h3] at h2
    rw [← h2]
    cases trimS digs s <;> rfl
  have h0 : 1 ≤ s.length := by
    cases s with
    | nil => cases h
    | cons x r => simp
  unfold numOk9
  rw [h1, decide_eq_true h0, Bool.true_and]
  by_cases h9 : s.length ≤ 9
  · rw [decide_eq_true h9, decide_eq_false (by omega), Bool.false_or, Bool.true_and]
  · rw [decide_eq_false h9, decide_eq_true (by omega)]
    rfl
theorem num_bad {s : List UInt8} (h : ∀ n, Lib.atoiAll s ≠ .ok n) : numOk9 s = false := by
  cases hk : numOk9 s with
  | false => rfl
  | true => exact absurd (atoi_9 hk) (h _)
set_option maxRecDepth 100000 in
set_option maxHeartbeats 4000000 in
theorem number_any (pr : Nat) (l : List TokI) (bad : Bool) (w : World) (h : RdAt w pr l bad) {G : Nat} (hw : FineG G w) (hG : G ≤ pr) (hl : l.length ≤ 50000000) (ht : (takeV l).t.length ≤ 1048576) : Calls Tryz.prog 184 #[.pointer (some ⟨pr, 0, none⟩)] w fun ev w' => ∃ n, ev = .returned (.int .i64 n) ∧ (numOk9 (takeV l).t = true → n = ((val8 (takeV l).t : Nat) : Int)) ∧ RdAt w' pr l.tail (((bad || l.isEmpty) || wbad (takeV l)) || !numOk9 (takeV l).t) ∧ TurnR pr w w' := by
  have hpw := h.lt
  refine calls_at 29 Tryz.func184 rfl rfl (Nat.le_of_ble_eq_true rfl) ?_
  intro a hA; replace hA := hA.norm
  refine wS (wR ?_)
  revert a; refine wo rfl rfl (by decide) (fun ev e h => by simp [go_sem, h] <;> rfl) ?_; intro a hA
  replace hA := hA.keepN [0]
  refine wN (nT (wS (wR ?_)))
  revert a; refine wo rfl rfl (by decide) (fun ev e h => by simp [go_sem, h] <;> rfl) ?_; intro a hA
  refine wl_call hA rfl rfl (by decide) (fun ev h => exec_call Tryz.func178 (by kernel_rfl) rfl (h.f _) (by first | (simp only [mL, h.get 6 rfl, h.c] <;> rfl) | (simp [mL, h.get 6 rfl, h.c] <;> rfl))) (word_any pr l bad w h hl) ?_
  rintro e w1 ⟨rfl, h1, T1⟩
  refine ⟨_, rfl, fun a hA => ?_⟩
  obtain ⟨s, hs⟩ : ∃ s, (takeV l).t = s := ⟨_, rfl⟩
  rw [hs] at hA ht
  rw [hs]
  obtain ⟨b1, hb1⟩ : ∃ b1, ((bad || l.isEmpty) || wbad (takeV l)) = b1 := ⟨_, rfl⟩
  rw [hb1] at h1
  rw [hb1]
  have hw1 := hw.turn hG T1
  revert a; refine wo rfl rfl (by decide) (fun ev e h => by simp [go_sem, h] <;> rfl) ?_; intro a hA
  replace hA := hA.keepN [0, 3]
  refine wN (nT (wS (wR ?_)))
  revert a; refine wo rfl rfl (by decide) (fun ev e h => by simp [go_sem, h] <;> rfl) ?_; intro a hA
  refine wl_call hA rfl rfl (by decide) (fun ev h => exec_call Tryz.func191 (by kernel_rfl) rfl (h.f _) (by first | (simp only [mL, h.get 9 rfl, h.c] <;> rfl) | (simp [mL, h.get 9 rfl, h.c] <;> rfl))) (atoi_full s _ hw1.fine ht) ?_
  rintro e w2 ⟨n, e, rfl, he, hb2⟩
  refine ⟨_, rfl, fun a hA => ?_⟩
  have h2 := h1.below hb2
  have T2 := T1.below hb2
  rcases he with ⟨rfl, hn⟩ | ⟨⟨p, rfl⟩, hn⟩
  · skip
    revert a; (iterate 5 refine wo rfl rfl (by decide) (fun ev e h => by simp [go_sem, h] <;> rfl) ?_); intro a hA
    replace hA := hA.keepN [0, 3, 4, 5]
    refine wN (nT (wS (wS (wR ?_))))
    revert a; (iterate 3 refine wo rfl rfl (by decide) (fun ev e h => by simp [go_sem, h] <;> rfl) ?_); (iterate 3 refine wg _ rfl rfl rfl rfl (by decide) (fun hq ev e h => by simp [go_sem, h, ↓gw_t (beq_t hq)] <;> rfl) ?_); refine wko rfl rfl (by decide) rfl rfl rfl ?_; refine wo rfl rfl (by decide) (fun ev e h => by simp [go_sem, h] <;> rfl) ?_; refine wg _ rfl rfl rfl rfl (by decide) (fun hq ev e h => by simp [go_sem, h, ↓gw_t (beq_t hq)] <;> rfl) ?_; intro a hA
    refine wl_gcallv _ hA rfl rfl rfl rfl (by decide) (fun hq ev h => exec_call Tryz.func95 (by kernel_rfl) rfl (h.f _) (by first | (simp only [mL, ((h.get 21 rfl).trans (gw_t (beq_t hq))), h.c] <;> rfl) | (simp [mL, ((h.get 21 rfl).trans (gw_t (beq_t hq))), h.c] <;> rfl))) (fun hq => trim_any digs s _ (by omega) (by decide) (by decide) (by intro j b hj; have := List.mem_of_getElem? hj; revert this; unfold digs; simp; rintro (rfl | rfl | rfl | rfl | rfl | rfl | rfl | rfl | rfl | rfl) <;> decide)) fun a w3 hb3 hA => ?_
    replace h2 := h2.below hb3
    replace T2 := T2.below hb3
    revert a; refine wg _ rfl rfl rfl rfl (by decide) (fun hq ev e h => by simp [go_sem, h, ↓gw_t (beq_t hq)] <;> rfl) ?_; intro a hA
    replace hA := hA.keepN [0, 4, 20, 23]
    revert a; refine wko rfl rfl (by decide) rfl rfl rfl ?_; intro a hA
    replace hA := hA.keepN [0, 4, 24]
    refine wN (nT ?_)
    refine wp_if hA 24 _ rfl (fun hq => ?yA) (fun hq => ?nA)
    case nA =>
      refine wp_skip (nT (wS (wR ?_)))
      revert a; (iterate 2 refine wo rfl rfl (by decide) (fun ev e h => by simp [go_sem, h] <;> rfl) ?_); intro a hA
      replace hA := hA.keepN [2]
      refine wN (nT (wp_ret ?_))
      refine ret_1 hA 2 rfl rfl ?_
      rw [num_tell hn] at hq
      rw [hq, Bool.or_false]
      refine ⟨n, rfl, fun h9 => ?_, h2, T2⟩
      rw [atoi_9 h9] at hn
      injection hn with hn
      exact hn.symm
    case yA =>
      obtain ⟨A, c, K, hr, hc, htk⟩ := h2.ex
      have K00 := K
      refine wR ?_
      revert a; (iterate 3 refine wo rfl rfl (by decide) (fun ev e h => by simp [go_sem, h] <;> rfl) ?_); intro a hA
      refine wl_setf ([.slice A l.tail.length c, .bool true]) _ hA rfl rfl K (j := 1) (by rfl) (fun ev h => by simp [go_sem, h.c, h.get 27 rfl, K.cell, K.frozen]; try first | exact ⟨rfl, rfl⟩ | rfl) fun w4 (K : Blk _ _ _ _) hs4 => ?_
      obtain ⟨hr4, ht4⟩ := rows_turn hr htk K00 (Apart.only (Apart.refl (fun i => i = pr) _) hs4 (.inr rfl))
      replace hA := hA.keepN [4]
      refine wN (nT (wS (wR ?_)))
      revert a; (iterate 2 refine wo rfl rfl (by decide) (fun ev e h => by simp [go_sem, h] <;> rfl) ?_); intro a hA
      replace hA := hA.keepN [2]
      refine wN (nT (wp_ret ?_))
      refine ret_1 hA 2 rfl rfl ?_
      rw [num_tell hn] at hq
      rw [hq, Bool.or_true]
      refine ⟨n, rfl, fun h9 => ?_, ⟨A, c, K, hr4, hc, ht4⟩, T2.only hs4⟩
      rw [h9] at hq
      cases hq
  · skip
    revert a; (iterate 5 refine wo rfl rfl (by decide) (fun ev e h => by simp [go_sem, h] <;> rfl) ?_); intro a hA
    replace hA := hA.keepN [0, 3, 4, 5]
    refine wN (nT (wS (wS (wR ?_))))
    revert a; (iterate 3 refine wo rfl rfl (by decide) (fun ev e h => by simp [go_sem, h] <;> rfl) ?_); (iterate 3 refine wg _ rfl rfl rfl rfl (by decide) (fun hq ev e h => by simp [go_sem, h, ↓gw_t (beq_t hq)] <;> rfl) ?_); refine wko rfl rfl (by decide) rfl rfl rfl ?_; refine wo rfl rfl (by decide) (fun ev e h => by simp [go_sem, h] <;> rfl) ?_; refine wg _ rfl rfl rfl rfl (by decide) (fun hq ev e h => by simp [go_sem, h, ↓gw_t (beq_t hq)] <;> rfl) ?_; intro a hA
    refine wl_gcallv _ hA rfl rfl rfl rfl (by decide) (fun hq ev h => exec_call Tryz.func95 (by kernel_rfl) rfl (h.f _) (by first | (simp only [mL, ((h.get 21 rfl).trans (gw_t (beq_t hq))), h.c] <;> rfl) | (simp [mL, ((h.get 21 rfl).trans (gw_t (beq_t hq))), h.c] <;> rfl))) (fun hq => trim_any digs s _ (by omega) (by decide) (by decide) (by intro j b hj; have := List.mem_of_getElem? hj; revert this; unfold digs; simp; rintro (rfl | rfl | rfl | rfl | rfl | rfl | rfl | rfl | rfl | rfl) <;> decide)) fun a w3 hb3 hA => ?_
    replace h2 := h2.below hb3
    replace T2 := T2.below hb3
    revert a; refine wg _ rfl rfl rfl rfl (by decide) (fun hq ev e h => by simp [go_sem, h, ↓gw_t (beq_t hq)] <;> rfl) ?_; intro a hA
    replace hA := hA.keepN [0, 4, 20, 23]
    revert a; refine wko rfl rfl (by decide) rfl rfl rfl ?_; intro a hA
    replace hA := hA.keepN [0, 4, 24]
    refine wN (nT ?_)
    refine wp_if hA 24 _ rfl (fun hq => ?yB) (fun hq => ?nB)
    case nB =>
      refine wp_skip (nT (wS (wR ?_)))
      revert a; (iterate 2 refine wo rfl rfl (by decide) (fun ev e h => by simp [go_sem, h] <;> rfl) ?_); intro a hA
      replace hA := hA.keepN [2]
      refine wN (nT (wp_ret ?_))
      refine ret_1 hA 2 rfl rfl ?_
      cases hq
    case yB =>
      obtain ⟨A, c, K, hr, hc, htk⟩ := h2.ex
      have K00 := K
      refine wR ?_
      revert a; (iterate 3 refine wo rfl rfl (by decide) (fun ev e h => by simp [go_sem, h] <;> rfl) ?_); intro a hA
      refine wl_setf ([.slice A l.tail.length c, .bool true]) _ hA rfl rfl K (j := 1) (by rfl) (fun ev h => by simp [go_sem, h.c, h.get 27 rfl, K.cell, K.frozen]; try first | exact ⟨rfl, rfl⟩ | rfl) fun w4 (K : Blk _ _ _ _) hs4 => ?_
      obtain ⟨hr4, ht4⟩ := rows_turn hr htk K00 (Apart.only (Apart.refl (fun i => i = pr) _) hs4 (.inr rfl))
      replace hA := hA.keepN [4]
      refine wN (nT (wS (wR ?_)))
      revert a; (iterate 2 refine wo rfl rfl (by decide) (fun ev e h => by simp [go_sem, h] <;> rfl) ?_); intro a hA
      replace hA := hA.keepN [2]
      refine wN (nT (wp_ret ?_))
      refine ret_1 hA 2 rfl rfl ?_
      rw [num_bad hn]
      refine ⟨n, rfl, fun h9 => (by cases h9), ?_, T2.only hs4⟩
      rw [show (b1 || !false) = true by cases b1 <;> rfl]
      exact ⟨A, c, K, hr4, hc, ht4⟩
end Go.Proofs.YtjhaccmcjlbllaaGreatDoor
/-
  Rows of texts, and of spans: what both sides of a set's reading use.
-/
namespace Go.Proofs.YtjhaccmcjlbllaaGreatDoor
open Go.RowKit
/-- a row of texts -/
def sv (p : List UInt8) : Value := .string ⟨p.toArray⟩
def svs (L : List (List UInt8)) : List Value := L.map sv
theorem string_info : (Tryz.prog.info? 9).map (fun i => (i.zero, i.size, i.bytes)) = some (some (.string ByteArray.empty), 1, 16) := by kernel_rfl
theorem svs_one (L : List (List UInt8)) : ∀ u ∈ svs L, u.oneCell' = true := by
  intro u hu
  simp only [svs, List.mem_map] at hu
  obtain ⟨p, _, rfl⟩ := hu
  rfl
theorem spanCells_one (L : List (Nat × Nat)) : ∀ u ∈ spanCells L, u.oneCell' = true := by
  intro u hu
  simp only [spanCells, List.mem_flatMap] at hu
  obtain ⟨x, _, hx⟩ := hu
  simp at hx
  rcases hx with rfl | rfl <;> rfl
/-- what Parse and Set leave -/
def SetPost (t : TypeId) (ok : Bool) (vals : List (Nat × Nat)) (v : Value) (w w' : World) : Prop :=
  (ok = true → w'.ownsRow w.heap.size t 2 v vals.length (spanCells vals)) ∧ (ok = false → v = .slice none 0 0) ∧ Below w.heap.size w w'
theorem SetPost.bad {t : TypeId} {vals : List (Nat × Nat)} {w w' : World} (h : Below w.heap.size w w') : SetPost t false vals (.slice none 0 0) w w' := ⟨by simp, fun _ => rfl, h⟩
theorem SetPost.good {t : TypeId} {vals : List (Nat × Nat)} {v : Value} {w w' : World} (ho : w'.ownsRow w.heap.size t 2 v vals.length (spanCells vals)) (h : Below w.heap.size w w') : SetPost t true vals v w w' := ⟨fun _ => ho, by simp, h⟩
end Go.Proofs.YtjhaccmcjlbllaaGreatDoor
/-
  Walk of seqset's Parse.
-/
namespace Go.Proofs.YtjhaccmcjlbllaaGreatDoor
open Go.RowKit
theorem splitB_svs (s : ByteArray) : (Lib.splitB ⟨#[44]⟩ 0 (Lib.countB s ⟨#[44]⟩) s).map Value.string = svs (splitC 44 s.data.toList) := by
  have h := Lib.splitB_data ⟨#[44]⟩ 0 (Lib.countB s ⟨#[44]⟩) s
  rw [show (⟨#[44]⟩ : ByteArray).data.toList = [44] from rfl, show Lib.countB s ⟨#[44]⟩ = Lib.count s.data.toList [44] from rfl, splitC_eq] at h
  rw [← h]
  unfold svs
  rw [List.map_map]
  apply List.map_congr_left
  intro x _
  show _ = Value.string ⟨x.data.toList.toArray⟩
  rw [Array.toArray_toList]
theorem countB_lenS (s : ByteArray) : Lib.countB s ⟨#[44]⟩ + 1 = (splitC 44 s.data.toList).length := by
  have h := congrArg List.length (splitB_svs s)
  rw [List.length_map, Lib.splitB_all ⟨#[44]⟩ (by decide) 0 _ s rfl] at h
  rw [h]; simp [svs]
theorem splitP_any (s : ByteArray) (hs : s.size ≤ 1048576) (w : World) (hw : Fine w) :
    Calls Tryz.prog 145 #[.string s, .string ⟨#[44]⟩] w fun e w' => e = .returned (.slice (some ⟨w.heap.size, 0, none⟩) (splitC 44 s.data.toList).length (splitC 44 s.data.toList).length) ∧ w' = w.alloc (.cells (svs (splitC 44 s.data.toList)).toArray 9) := by
  obtain ⟨m, hm⟩ := hw.len
  have h := Tryz.strings_Split s ⟨#[44]⟩ m w (by omega) hm (by decide)
  rw [countB_lenS, splitB_svs] at h
  exact h
theorem cut_c (p a b : List UInt8) (f : Bool) (hp : p.length ≤ 1048576) (hc : Lib.cut p [58] = (a, b, f)) (w : World) (hw : Fine w) :
    Calls Tryz.prog 53 #[.string ⟨p.toArray⟩, .string ⟨#[58]⟩] w fun e w' => e = .returned (.tuple #[.string ⟨a.toArray⟩, .string ⟨b.toArray⟩, .bool f]) ∧ Below w.heap.size w w' := by
  obtain ⟨m, hm⟩ := hw.len
  have h := Tryz.strings_Cut ⟨p.toArray⟩ ⟨#[58]⟩ m w (by simp [ByteArray.size]; omega) hm
  rw [show (⟨p.toArray⟩ : ByteArray).data.toList = p from rfl, show (⟨#[58]⟩ : ByteArray).data.toList = [58] from rfl, hc] at h
  refine h.mono ?_
  rintro e w' ⟨rfl, n, rfl⟩
  exact ⟨rfl, below_drewN (Below.refl _ _) n⟩
theorem num_c (p : List UInt8) (b : Bool) (hp : p.length ≤ 1048576) (hb : numOk p = b) (w : World) (hw : Fine w) :
    Calls Tryz.prog 154 #[.string ⟨p.toArray⟩] w fun e w' => ∃ v : Nat, e = .returned (.tuple #[.int .u32 v, .bool b]) ∧ (b = true → v = numVal p) ∧ Below w.heap.size w w' := by
  subst hb
  exact num_any ⟨p.toArray⟩ (show p.length ≤ 4000000 by omega) w hw
theorem num_t (p : List UInt8) (hp : p.length ≤ 1048576) (hb : numOk p = true) (w : World) (hw : Fine w) :
    Calls Tryz.prog 154 #[.string ⟨p.toArray⟩] w fun e w' => e = .returned (.tuple #[.int .u32 (numVal p : Nat), .bool true]) ∧ Below w.heap.size w w' := by
  refine (num_c p true hp hb w hw).mono ?_
  rintro e w' ⟨v, rfl, hv, hb⟩
  rw [hv rfl]
  exact ⟨rfl, hb⟩
theorem cut_len (p a b : List UInt8) (f : Bool) (hc : Lib.cut p [58] = (a, b, f)) : a.length ≤ p.length ∧ b.length ≤ p.length := by
  rcases cut_spec 58 p with ⟨_, h, _⟩ | ⟨a', b', h0, _, h, _⟩
  · rw [h] at hc; simp only [Prod.mk.injEq] at hc; obtain ⟨rfl, rfl, rfl⟩ := hc; simp
  · rw [h] at hc; simp only [Prod.mk.injEq] at hc; obtain ⟨rfl, rfl, rfl⟩ := hc; rw [h0]; simp; omega
theorem span_info : (Tryz.prog.info? 193).map (fun i => (i.zero, i.size, i.bytes)) = some (some (.agg #[.int .u32 0, .int .u32 0]), 2, 8) := by kernel_rfl
set_option maxHeartbeats 3200000 in
set_option maxRecDepth 100000 in
theorem parse_any (s : ByteArray) (hs : s.size ≤ 1048576) (w : World) (hw : Fine w) :
    Calls Tryz.prog 109 #[.string s] w fun e w' =>
      ∃ v, e = .returned (.tuple #[v, .bool (setOk s.data.toList)]) ∧ SetPost 193 (setOk s.data.toList) (setVals s.data.toList) v w w' := by
  obtain ⟨i0, hi0, hz0, hz1, hz2⟩ := info_parts span_info
  have Hsp := Lib.hid (splitP_any s hs w hw)
  have hmem := splitC_mem_le 44 s.data.toList
  have hpos := splitC_length_pos 44 s.data.toList
  have hle := splitC_length_le 44 s.data.toList
  have hsl : s.data.toList.length ≤ 1048576 := hs
  have HV : Hid (setOk s.data.toList = (decide ((splitC 44 s.data.toList).length ≤ 100) && (splitC 44 s.data.toList).all partOk) ∧ setVals s.data.toList = (splitC 44 s.data.toList).map partVal) := ⟨rfl, rfl⟩
  generalize setOk s.data.toList = ok at *
  generalize setVals s.data.toList = vals at *
  generalize splitC 44 s.data.toList = L at *
  have hmem' : ∀ p ∈ L, p.length ≤ 1048576 := fun p hp => by have := hmem p hp; omega
  have HM := Lib.hid hmem'
  have HW := Lib.hid hw
  have hL : L.length ≤ 1048577 := by omega
  clear hmem hmem' hle hsl hw
  go_enter Tryz.func109, Tryz.ntmps109
  go_wp2_with fail
  refine Hsp.out.mono ?_
  rintro e w1' ⟨rfl, hw1⟩
  obtain ⟨w1, hw1e⟩ : ∃ w1, w1 = w1' := ⟨_, rfl⟩
  subst hw1e
  have hb1 : Below w.heap.size w w1 := by rw [hw1]; exact (Below.refl _ _).alloc (Nat.le_refl _) _
  have hs1 : w1.heap.size = w.heap.size + 1 := by rw [hw1]; simp
  have hblk : Blk w1 w.heap.size 9 (svs L).toArray := by rw [hw1]; exact Blk.new _ _ _
  have HB := Lib.hid hb1
  have HK := Lib.hid hblk
  have HS1 := Lib.hid hs1
  clear hw1 hb1 hblk Hsp hs1
  by_cases h100 : 100 < L.length
  · have hok : ok = false := by rw [HV.out.1]; simp; omega
    subst hok
    clear HV HM
    go_wp2
    go_ret2
    exact ⟨_, rfl, SetPost.bad HB.out⟩
  go_wp2
  go_loopw [5, 22] (fun v i wr => ∃ k : Nat, i = .int .i64 k ∧ k ≤ L.length ∧ Hid ((L.take k).all partOk = true) ∧ Hid (wr.ownsRow w1.heap.size 193 2 v k (spanCells ((L.take k).map partVal))) ∧ Hid (Below w1.heap.size w1 wr)) (fun _ i _ => L.length - (intOf i).toNat)
  case atStart => exact ⟨0, rfl, by omega, rfl, World.ownsRow_nil _ _ _ _, Below.refl _ _⟩
  case round =>
    obtain ⟨k, rfl, hk, hall, hout, hbr⟩ := hrel
    by_cases hlt : k < L.length
    · obtain ⟨p, hp⟩ : ∃ p, L[k]? = some p := ⟨_, List.getElem?_eq_getElem hlt⟩
      have hpm : p ∈ L := List.mem_of_getElem? hp
      have hpl := HM.out p hpm
      have hcell : wr.cell? ⟨w.heap.size, k, none⟩ = some (sv p) := by
        rw [hbr.out.cell (p := ⟨w.heap.size, k, none⟩) (by show w.heap.size < _; have := HS1.out; omega), HK.out.cell, List.getElem?_toArray, svs, List.getElem?_map, hp]; rfl
      have htk : L.take (k + 1) = L.take k ++ [p] := by rw [List.take_add_one, hp]; rfl
      have Htk := Lib.hid htk
      have Hp := Lib.hid hp
      clear htk hp hpm
      unfold sv at hcell
      obtain ⟨a, b0, f, hcut⟩ : ∃ a b0 f, Lib.cut p [58] = (a, b0, f) := ⟨_, _, _, rfl⟩
      obtain ⟨hal, hbl⟩ := cut_len p a b0 f hcut
      have HC := Lib.hid (cut_c p a b0 f hpl hcut)
      have HPV : Hid (partVal p = (numVal a, numVal (if f = true then b0 else a)) ∧ partOk p = (numOk a && numOk (if f = true then b0 else a))) := by
        refine ⟨?_, ?_⟩
        · unfold partVal partA partB; rw [hcut]
        · unfold partOk partA partB; rw [hcut]
      have hwr : Fine wr := (HW.out.below HB.out).below hbr.out
      have HWR := Lib.hid hwr
      have hw1r : w1.heap.size ≤ wr.heap.size := hbr.out.size
      have hbw : Below w.heap.size w wr := HB.out.trans (hbr.out.mono HB.out.size)
      have HBW := Lib.hid hbw
      clear hcut hwr hbw
      by_cases hpok : partOk p = true
      · have Hpok := Lib.hid hpok
        have hpo := HPV.out.2
        rw [hpok] at hpo
        have hpo' := hpo.symm
        rw [Bool.and_eq_true] at hpo'
        obtain ⟨h1, h2⟩ := hpo'
        clear hpo hpok
        have H1 := Lib.hid (num_t a (by omega) h1)
        have H2 := Lib.hid (num_t _ (by split <;> omega) h2)
        have Hv := Lib.hid HPV.out.1
        clear h1 h2 HPV
        generalize numVal (if f = true then b0 else a) = v2 at *
        generalize numVal a = v1 at *
        cases f
        all_goals
          simp only [Bool.false_eq_true, if_false, if_true] at H2
          go_wp2_with fail
          refine (HC.out _ HWR.out).mono ?_
          rintro e w2 ⟨rfl, hb2⟩
          have HB2 := Lib.hid hb2
          have hW2 := HWR.out.below hb2
          clear hb2
          go_wp2_with fail
          refine (H1.out _ hW2).mono ?_
          rintro e w3 ⟨rfl, hb3⟩
          have HB3 := Lib.hid (HB2.out.trans (hb3.mono HB2.out.size))
          have hW3 := hW2.below hb3
          clear hb3 hW2
          go_wp2_with fail
          refine (H2.out _ hW3).mono ?_
          rintro e w4 ⟨rfl, hb4⟩
          have HB4 := Lib.hid (HB3.out.trans (hb4.mono HB3.out.size))
          clear hb4 hW3 HB2 HB3 H1 H2
          have hout2 := own_below hout.out HB4.out
          have Hout2 := Lib.hid hout2
          have hw2 : w1.heap.size ≤ w4.heap.size := by have := HB4.out.size; omega
          clear hout2
          go_wp2_with (first
            | (at_builtin; refine wpList_append_own _ rfl (.tmp 51) (.tmp 55) _ rfl w1.heap.size 193 i0 _ 2 8 Tryz.underlying64 hi0 hz0 hz1 hz2 rfl (by omega) _ _ _ rfl (Hout2.out.alloc _) ⟨w4.heap.size, 0, none⟩ 1 1 [.int .u32 (v1 : Nat), .int .u32 (v2 : Nat)] rfl rfl ?c1 ?c2 ?c3 ?c4 ?c5 ?_))
          case c1 =>
            intro j u hj
            match j, hj with
            | 0, hj => simp at hj; subst hj; simp [Addr.add]
            | 1, hj => simp at hj; subst hj; simp [Addr.add]
          case c2 => intro u hu; simp at hu; rcases hu with rfl | rfl <;> rfl
          case c3 => unfold maxLen; omega
          case c4 => omega
          case c5 => simp; omega
          intro v' w3 hown' hgrow _
          have hb' : Below w1.heap.size w1 w3 := (((hbr.out.trans (HB4.out.mono hbr.out.size))).alloc hw2 _).grown hgrow (by simp; omega) (fun g' hg' => (Hout2.out.lt g' hg').1)
          have Hown' := Lib.hid hown'
          have Hb' := Lib.hid hb'
          clear hown' hgrow hb'
          go_wp2
          go_roundw
          case rel =>
            refine ⟨k + 1, by go_num, by omega, ?_, ?_, Hb'.out⟩
            · show List.all (L.take (k + 1)) partOk = true
              rw [Htk.out, List.all_append, hall.out]; simp [Hpok.out]
            · rw [Htk.out, List.map_append, spanCells_append, List.map_take]
              rw [show List.map partVal [p] = [partVal p] from rfl, Hv.out]
              exact Hown'.out
          case measure => simp [intOf]; omega
      · have hokf : ok = false := by
          rw [HV.out.1]
          have : L.all partOk = false := by
            rw [List.all_eq_false]; exact ⟨p, List.mem_of_getElem? Hp.out, hpok⟩
          rw [this]; simp
        subst hokf
        have hpo := HPV.out.2
        have hpf : partOk p = false := by simpa using hpok
        rw [hpf] at hpo
        clear HPV HV HM hpf hpok hout
        rcases Bool.eq_false_or_eq_true (numOk a) with h1 | h1
        · have h2 : numOk (if f = true then b0 else a) = false := by rw [h1] at hpo; simpa using hpo.symm
          have H1 := Lib.hid (num_c a true (by omega) h1)
          have H2 := Lib.hid (num_c _ false (by split <;> omega) h2)
          clear h1 h2 hpo
          cases f
          all_goals
            simp only [Bool.false_eq_true, if_false, if_true] at H2
            go_wp2_with fail
            refine (HC.out _ HWR.out).mono ?_
            rintro e w2 ⟨rfl, hb2⟩
            have HB2 := Lib.hid (HBW.out.trans (hb2.mono HBW.out.size))
            have hW2 := HWR.out.below hb2
            clear hb2
            go_wp2_with fail
            refine (H1.out _ hW2).mono ?_
            rintro e w3 ⟨v1, rfl, _, hb3⟩
            have HB3 := Lib.hid (HB2.out.trans (hb3.mono HB2.out.size))
            have hW3 := hW2.below hb3
            clear hb3 hW2
            go_wp2_with fail
            refine (H2.out _ hW3).mono ?_
            rintro e w4 ⟨v2, rfl, _, hb4⟩
            have HB4 := Lib.hid (HB3.out.trans (hb4.mono HB3.out.size))
            clear hb4 hW3 HB2 HB3
            go_wp2
            go_ret2
            exact ⟨_, rfl, SetPost.bad HB4.out⟩
        · have H1 := Lib.hid (num_c a false (by omega) h1)
          have H2 := Lib.hid (num_c (if f = true then b0 else a) _ (by split <;> omega) rfl)
          clear h1 hpo
          cases f
          all_goals
            simp only [Bool.false_eq_true, if_false, if_true] at H2
            go_wp2_with fail
            refine (HC.out _ HWR.out).mono ?_
            rintro e w2 ⟨rfl, hb2⟩
            have HB2 := Lib.hid (HBW.out.trans (hb2.mono HBW.out.size))
            have hW2 := HWR.out.below hb2
            clear hb2
            go_wp2_with fail
            refine (H1.out _ hW2).mono ?_
            rintro e w3 ⟨v1, rfl, _, hb3⟩
            have HB3 := Lib.hid (HB2.out.trans (hb3.mono HB2.out.size))
            have hW3 := hW2.below hb3
            clear hb3 hW2
            go_wp2_with fail
            refine (H2.out _ hW3).mono ?_
            rintro e w4 ⟨v2, rfl, _, hb4⟩
            have HB4 := Lib.hid (HB3.out.trans (hb4.mono HB3.out.size))
            clear hb4 hW3 HB2 HB3
            first | generalize numOk a = bb at * | generalize numOk b0 = bb at * | skip
            go_wp2
            go_ret2
            exact ⟨_, rfl, SetPost.bad HB4.out⟩
    · obtain rfl : k = L.length := by omega
      have e : L.take L.length = L := List.take_of_length_le (Nat.le_refl _)
      rw [e] at hout hall
      have hok : ok = true := by rw [HV.out.1, hall.out]; simp; omega
      subst hok
      have hvl : vals.length = L.length := by rw [HV.out.2]; simp
      go_wp2
      go_ret2
      refine ⟨_, rfl, SetPost.good ?_ (HB.out.trans (hbr.out.mono HB.out.size))⟩
      rw [hvl, HV.out.2]
      exact own_mono hout.out HB.out.size
end Go.Proofs.YtjhaccmcjlbllaaGreatDoor
