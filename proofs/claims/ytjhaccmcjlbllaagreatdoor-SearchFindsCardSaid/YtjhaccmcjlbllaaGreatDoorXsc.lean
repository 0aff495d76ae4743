/-
  Walks: the reader's set; a flag's key.
-/
import Derived.Test.YtjhaccmcjlbllaaGreatDoorXsb
import Derived.Laws.EntriesVeiled
import Derived.Test.YtjhaccmcjlbllaaGreatDoorChecked
import Derived.OwnWalk
namespace Go.Proofs.YtjhaccmcjlbllaaGreatDoor
open Go.RowKit
set_option linter.unusedSimpArgs false
set_option linter.unusedVariables false
/-- a function, not nil -/
def IsFn (v : Value) : Prop := ∃ f a b, v = .func f a b
theorem vals_le {s : List UInt8} (h : setOk s = true) : (∀ x ∈ setVals s, x.1 ≤ 4294967295 ∧ x.2 ≤ 4294967295) ∧ (setVals s).length ≤ 100 := by
  unfold setOk at h
  simp only [Bool.and_eq_true, decide_eq_true_eq] at h
  refine ⟨fun x hx => ?_, by unfold setVals; rw [List.length_map]; exact h.1⟩
  unfold setVals at hx
  obtain ⟨p, hp, rfl⟩ := List.mem_map.1 hx
  have := List.all_eq_true.1 h.2 p hp
  unfold partOk at this
  rw [Bool.and_eq_true] at this
  exact ⟨numVal_le this.1, numVal_le this.2⟩
set_option maxRecDepth 100000 in
set_option maxHeartbeats 4000000 in
theorem set_any (pr : Nat) (l : List TokI) (bad u : Bool) (s : List UInt8) (w : World) (h : RdAt w pr l bad) {G : Nat} (hw : FineG G w) (hG : G ≤ pr) (hs : s.length ≤ 1048576) : Calls Tryz.prog 139 #[.pointer (some ⟨pr, 0, none⟩), .string (St s), .bool u] w fun ev w' => ∃ v, ev = .returned v ∧ IsFn v ∧ RdAt w' pr l (bad || !setOk s) ∧ TurnR pr w w' ∧ (setOk s = true → IsKey w.heap.size w'.heap.size w' (.set (setVals s) u) v) := by
  have hpw := h.lt
  refine calls_at 20 Tryz.func139 rfl rfl (Nat.le_of_ble_eq_true rfl) ?_
  intro a hA; replace hA := hA.norm
  refine wS (wR ?_)
  refine wl_new hA rfl rfl (by decide) (fun ev h => by simp [go_sem, h.get 2 rfl]; try first | exact ⟨rfl, rfl⟩ | rfl) fun w1 a (K1 : Blk _ _ _ _) hz1 hb1 hA => ?_
  have h1 := h.below hb1
  have T1 := TurnR.of (pr := pr) hb1
  have hw1 := hw.below hb1
  revert a; refine wo rfl rfl (by decide) (fun ev e h => by simp [go_sem, h] <;> rfl) ?_; intro a hA
  replace hA := hA.keepN [0, 1, 5]
  refine wN (nT (wS (wR ?_)))
  revert a; refine wo rfl rfl (by decide) (fun ev e h => by simp [go_sem, h] <;> rfl) ?_; intro a hA
  refine wl_call hA rfl rfl (by decide) (fun ev h => exec_call Tryz.func109 (by kernel_rfl) rfl (h.f _) (by first | (simp only [mL, h.get 10 rfl, h.c] <;> rfl) | (simp [mL, h.get 10 rfl, h.c] <;> rfl))) (parse_any (St s) hs _ hw1.fine) ?_
  rintro e w2 ⟨v, rfl, hP, hPn, hb2⟩
  refine ⟨_, rfl, fun a hA => ?_⟩
  have h2 := h1.below hb2
  have T2 := T1.below hb2
  replace K1 := K1.below hb2 K1.lt
  obtain ⟨ok, hok⟩ : ∃ ok, setOk (St s).data.toList = ok := ⟨_, rfl⟩
  rw [hok] at hA hP hPn
  rw [show setOk s = ok from hok]
  obtain ⟨A0, n0, c0, rfl⟩ : ∃ A n c, v = .slice A n c := by
    cases ok with
    | false => exact ⟨_, _, _, hPn rfl⟩
    | true =>
      rcases (hP rfl).2 with ⟨e, _⟩ | ⟨g, cap, cur, e, _⟩
      · exact ⟨_, _, _, e⟩
      · exact ⟨_, _, _, e⟩
  revert a; (iterate 3 refine wo rfl rfl (by decide) (fun ev e h => by simp [go_sem, h] <;> rfl) ?_); intro a hA
  refine wl_local [.slice A0 n0 c0] hA rfl rfl (by decide) (fun ev h => by simp [go_sem]; try first | exact ⟨rfl, rfl⟩ | rfl) rfl rfl (by rfl) (fun w1 g ev hb h => by simp [go_sem, h.get 7 rfl, h.get 12 rfl, setAll, hb.cell, hb.frozen]) fun w3 a (K3 : Blk _ _ _ _) hz3 hb3 hA => ?_
  have h3 := h2.below hb3
  have T3 := T2.below hb3
  replace K1 := K1.below hb3 K1.lt
  revert a; refine wo rfl rfl (by decide) (fun ev e h => by simp [go_sem, h] <;> rfl) ?_; intro a hA
  replace hA := hA.keepN [0, 5, 7, 8]
  refine wN (nT (wS (wS (wR ?_))))
  revert a; (iterate 2 refine wo rfl rfl (by decide) (fun ev e h => by simp [go_sem, h] <;> rfl) ?_); intro a hA
  replace hA := hA.keepN [0, 5, 7, 15]
  refine wN (nT ?_)
  refine wp_if hA 15 _ rfl (fun hq => ?yA) (fun hq => ?nA)
  case nA =>
    have hk : ok = true := by simpa using hq
    subst hk
    refine wp_skip (nT (wS (wR ?_)))
    revert a; (iterate 2 refine wo rfl rfl (by decide) (fun ev e h => by simp [go_sem, h] <;> rfl) ?_); intro a hA
    replace hA := hA.keepN [6]
    refine wN (nT (wp_ret ?_))
    refine ret_1 hA 6 rfl rfl ?_
    refine ⟨_, rfl, ⟨_, _, _, rfl⟩, by rw [show (bad || !true) = bad by simp]; exact h3, T3, fun _ => ?_⟩
    have hv := hP rfl
    obtain ⟨v1, v2⟩ := vals_le (show setOk s = true from hok)
    have z2 := hb2.size
    exact .set K1 K3 (own_below (own_mono hv (by omega)) hb3) (fun g e => by have := (hv.lt g e).2; omega) (by omega) (by omega) v1 (by omega)
  case yA =>
    have hk : ok = false := by simpa using hq
    subst hk
    obtain ⟨A, c, K, hr, hc, htk⟩ := h3.ex
    have K00 := K
    refine wS (wR ?_)
    revert a; (iterate 3 refine wo rfl rfl (by decide) (fun ev e h => by simp [go_sem, h] <;> rfl) ?_); intro a hA
    refine wl_setf ([.slice A l.length c, .bool true]) _ hA rfl rfl K (j := 1) (by rfl) (fun ev h => by simp [go_sem, h.c, h.get 18 rfl, K.cell, K.frozen]; try first | exact ⟨rfl, rfl⟩ | rfl) fun w4 (K : Blk _ _ _ _) hs4 => ?_
    obtain ⟨hr4, ht4⟩ := rows_turn hr htk K00 (Apart.only (Apart.refl (fun i => i = pr) _) hs4 (.inr rfl))
    replace hA := hA.keepN []
    refine wN (nT (wS (wR ?_)))
    revert a; refine wo rfl rfl (by decide) (fun ev e h => by simp [go_sem, h] <;> rfl) ?_; intro a hA
    replace hA := hA.keepN [6]
    refine wN (nT (wp_ret (rT ?_)))
    refine ret_1 hA 6 rfl rfl ?_
    refine ⟨_, rfl, ⟨_, _, _, rfl⟩, ?_, T3.only hs4, fun e => by cases e⟩
    rw [show (bad || !false) = true by cases bad <;> rfl]
    exact ⟨A, c, K, hr4, hc, ht4⟩
/-- the place of a text in a row -/
def idxV (L : List (List UInt8)) (s : List UInt8) : Int := match L.findIdx? (· == s) with
  | some i => (i : Int)
  | none => -1
theorem idxV_at {L : List (List UInt8)} {s : List UInt8} {j : Nat} (hj : L[j]? = some s) (h : ∀ i, i < j → L[i]? ≠ some s) : idxV L s = (j : Int) := by
  unfold idxV
  obtain ⟨hlt, he⟩ := List.getElem?_eq_some_iff.1 hj
  rw [show L.findIdx? (· == s) = some j from List.findIdx?_eq_some_iff_getElem.2 ⟨hlt, by simp [he], fun i hi => by
    have := h i hi
    have hl : i < L.length := by omega
    rw [List.getElem?_eq_getElem hl] at this
    simpa using this⟩]
theorem idxV_none {L : List (List UInt8)} {s : List UInt8} (h : ∀ i, i < L.length → L[i]? ≠ some s) : idxV L s = -1 := by
  unfold idxV
  rw [show L.findIdx? (· == s) = none from List.findIdx?_eq_none_iff.2 fun x hx => by
    obtain ⟨i, hi, rfl⟩ := List.getElem_of_mem hx
    have := h i hi
    rw [List.getElem?_eq_getElem hi] at this
    simpa using this]
set_option maxRecDepth 100000 in
set_option maxHeartbeats 4000000 in
theorem indexS_any (L : List (List UInt8)) (s : List UInt8) (g c : Nat) (w : World) (K : Blk w g 9 (L.map fun t => Value.string (St t)).toArray) (hl : L.length ≤ 1000000) : Calls Tryz.prog 159 #[.slice (some ⟨g, 0, none⟩) L.length c, .string (St s)] w fun ev w' => ev = .returned (.int .i64 (idxV L s)) ∧ w' = w := by
  refine calls_at 19 Tryz.func159 rfl rfl (Nat.le_of_ble_eq_true rfl) ?_
  intro a hA; replace hA := hA.norm
  refine wS (wR ?_)
  revert a; refine wo rfl rfl (by decide) (fun ev e h => by simp [go_sem, h] <;> rfl) ?_; intro a hA
  replace hA := hA.keepN [0, 1]
  refine wN (nT (wS (wS (wR ?_))))
  revert a; (iterate 3 refine wo rfl rfl (by decide) (fun ev e h => by simp [go_sem, h] <;> rfl) ?_); intro a hA
  replace hA := hA.keepN [0, 1, 7, 8]
  refine wN (nT (wB ?_))
  refine wp_loop_at (fun k a wx => ∃ j : Nat, j + k = L.length ∧ (∀ i, i < j → L[i]? ≠ some s) ∧ wx = w ∧ At 19 [(0, .slice (some ⟨g, 0, none⟩) L.length c), (1, .string (St s)), (7, .int .i64 (L.length : Nat)), (8, .int .i64 (j : Nat))] a) (L.length) ?_ ?_
  · exact ⟨0, by omega, fun i hi => absurd hi (Nat.not_lt_zero _), rfl, hA⟩
  clear hA
  rintro k a wx ⟨j, hjk, hno, rfl, hA⟩
  refine wS (wR ?_)
  revert a; refine wo rfl rfl (by decide) (fun ev e h => by simp [go_sem, h] <;> rfl) ?_; intro a hA
  replace hA := hA.keepN [0, 1, 7, 8, 9]
  refine wN (nT (wS ?_))
  refine wp_if hA 9 _ rfl (fun hq => ?yA) (fun hq => ?nA)
  case nA =>
    have hjn : L.length ≤ j := by simp at hq; omega
    replace hA := hA.keepN []
    refine wp_exit (xT (xT (xB (nT (wS (wR ?_))))))
    revert a; refine wo rfl rfl (by decide) (fun ev e h => by simp [go_sem, h] <;> rfl) ?_; intro a hA
    replace hA := hA.keepN [4]
    refine wN (nT (wp_ret ?_))
    refine ret_1 hA 4 rfl rfl ?_
    exact ⟨by rw [idxV_none fun i hi => hno i (by omega)], rfl⟩
  case yA =>
    have hjn : j < L.length := by simp at hq; omega
    obtain ⟨x, hx⟩ : ∃ x, L[j]? = some x := ⟨_, List.getElem?_eq_getElem hjn⟩
    have hcell : wx.cell? ⟨g, j, none⟩ = some (.string (St x)) := (K.cell j).trans (by simp [hx])
    have jj0 : (0 : Int) ≤ (j : Int) := by omega
    have jj1 : (j : Int) < (L.length : Int) := by omega
    have i3 : IntKind.i64.wrap (((j : Nat) : Int) + 1) = ((j + 1 : Nat) : Int) := by rw [IntWalk.i64_in _ (by omega)]; omega
    refine wp_skip (nT (wS (wB (wS (wR ?_)))))
    revert a; (iterate 2 refine wo rfl rfl (by decide) (fun ev e h => by simp [go_sem, h, add0, hcell, jj0, jj1] <;> rfl) ?_); intro a hA
    replace hA := hA.keepN [0, 1, 5, 7, 8]
    refine wN (nT (wS (wR ?_)))
    revert a; (iterate 6 refine wo rfl rfl (by decide) (fun ev e h => by simp [go_sem, h, add0, hcell, jj0, jj1] <;> rfl) ?_); intro a hA
    replace hA := hA.keepN [0, 1, 5, 7, 8, 16]
    refine wN (nT ?_)
    refine wp_if hA 16 _ rfl (fun hq2 => ?yB) (fun hq2 => ?nB)
    case nB =>
      have hn : x ≠ s := by rintro rfl; simp at hq2
      refine wp_skip (nB (nT (wR ?_)))
      revert a; (iterate 2 refine wo rfl rfl (by decide) (fun ev e h => by simp [go_sem, h, i3] <;> rfl) ?_); intro a hA
      replace hA := hA.keepN [0, 1, 7, 8]
      refine wN (nT ?_)
      refine ⟨k - 1, by omega, j + 1, by omega, fun i hi => ?_, rfl, hA⟩
      by_cases e : i = j
      · subst e
        rw [hx]
        intro e
        injection e with e
        exact hn e
      · exact hno i (by omega)
    case yB =>
      have hn : x = s := (by simpa using hq2 : s = x).symm
      subst hn
      refine wS (wR ?_)
      revert a; (iterate 2 refine wo rfl rfl (by decide) (fun ev e h => by simp [go_sem, h, add0, hcell, jj0, jj1] <;> rfl) ?_); intro a hA
      replace hA := hA.keepN [4]
      refine wN (nT (wp_ret (rB (rT (rT (rB (rT ?_)))))))
      refine ret_1 hA 4 rfl rfl ?_
      exact ⟨by rw [idxV_at hx hno], rfl⟩
def FlagPost (o : Option KeyA) (lo hi : Nat) (w : World) (v : Value) : Prop := match o with
  | none => v = .nilFunc
  | some k => IsFn v ∧ IsKey lo hi w k v
set_option maxRecDepth 100000 in
set_option maxHeartbeats 4000000 in
theorem flagged_any (s : List UInt8) (w : World) (hs : s.length ≤ 1048576) : Calls Tryz.prog 187 #[.string (St s)] w fun ev w' => ∃ v, ev = .returned v ∧ Below w.heap.size w w' ∧ FlagPost (flagP s) w.heap.size w'.heap.size w' v := by
  have HB := Below.refl w.heap.size w
  refine calls_at 16 Tryz.func187 rfl rfl (Nat.le_of_ble_eq_true rfl) ?_
  intro a hA; replace hA := hA.norm
  refine wS (wR ?_)
  revert a; refine wo rfl rfl (by decide) (fun ev e h => by simp [go_sem, h] <;> rfl) ?_; intro a hA
  replace hA := hA.keepN [0]
  refine wN (nT (wS (wR ?_)))
  revert a; refine wo rfl rfl (by decide) (fun ev e h => by simp [go_sem, h] <;> rfl) ?_; intro a hA
  refine wl_call hA rfl rfl (by decide) (fun ev h => exec_call Tryz.func103 (by kernel_rfl) rfl (h.f _) (by first | (simp only [mL, h.get 6 rfl, h.c] <;> rfl) | (simp [mL, h.get 6 rfl, h.c] <;> rfl))) (Tryz.strings_CutPrefix (St s) (St [85, 78]) _) ?_
  rintro e w1 ⟨rfl, rfl⟩
  refine ⟨_, rfl, fun a hA => ?_⟩
  obtain ⟨no, hno⟩ : ∃ no, Lib.hasPrefix s [85, 78] = no := ⟨_, rfl⟩
  obtain ⟨t, ht⟩ : ∃ t, Lib.trimPrefix s [85, 78] = t := ⟨_, rfl⟩
  rw [show Lib.hasPrefix (St s).data.toList (St [85, 78]).data.toList = no from hno, show (⟨(Lib.trimPrefix (St s).data.toList (St [85, 78]).data.toList).toArray⟩ : ByteArray) = St t by rw [← ht]] at hA
  revert a; (iterate 3 refine wo rfl rfl (by decide) (fun ev e h => by simp [go_sem, h] <;> rfl) ?_); intro a hA
  refine wl_new hA rfl rfl (by decide) (fun ev h => by simp [go_sem]; try first | exact ⟨rfl, rfl⟩ | rfl) fun w2 a (K2 : Blk _ _ _ _) hz2 hb2 hA => ?_
  replace HB := HB.trans (hb2.mono HB.size)
  revert a; refine wo rfl rfl (by decide) (fun ev e h => by simp [go_sem, h] <;> rfl) ?_; intro a hA
  refine wl_set [.bool no] hA rfl rfl K2 (by rfl) (fun ev h => by simp [go_sem, h.get 3 rfl, h.get 9 rfl, setAll, K2.cell, K2.frozen]) fun w2b (K2 : Blk _ _ _ _) hs2 => ?_
  replace HB := hs2.below HB (Nat.le_refl _)
  replace hA := hA.keepN [0, 3]
  refine wN (nT (wS (wR ?_)))
  refine wl_new hA rfl rfl (by decide) (fun ev h => by simp [go_sem, h.c]; try first | exact ⟨rfl, rfl⟩ | rfl) fun w3 a (K3 : Blk _ _ _ _) hz3 hb3 hA => ?_
  replace HB := HB.trans (hb3.mono HB.size)
  replace K2 := K2.below hb3 K2.lt
  revert a; refine wo rfl rfl (by decide) (fun ev e h => by simp [go_sem, h] <;> rfl) ?_; intro a hA
  refine wl_call hA rfl rfl (by decide) (fun ev h => exec_call Tryz.func159 (by kernel_rfl) rfl (h.f _) (by first | (simp only [mL, h.get 10 rfl, h.get 11 rfl, h.c] <;> rfl) | (simp [mL, h.get 10 rfl, h.get 11 rfl, h.c] <;> rfl))) (indexS_any flagNames t _ 5 _ K3 (by decide)) ?_
  rintro e w4 ⟨rfl, rfl⟩
  refine ⟨_, rfl, fun a hA => ?_⟩
  obtain ⟨i, hi⟩ : ∃ i, idxV flagNames t = i := ⟨_, rfl⟩
  rw [hi] at hA
  have hfl : flagP s = (if i < 0 then none else some (.flag i.toNat no)) := by
    unfold flagP
    rw [ht, hno]
    unfold idxV at hi
    cases hf : flagNames.findIdx? (· == t) with
    | none => rw [hf] at hi; subst hi; rfl
    | some j => rw [hf] at hi; subst hi; simp
  have hir : -1 ≤ i ∧ i < 5 := by
    unfold idxV at hi
    cases hf : flagNames.findIdx? (· == t) with
    | none => rw [hf] at hi; simp at hi; omega
    | some j =>
      rw [hf] at hi
      have := (List.findIdx?_eq_some_iff_getElem.1 hf).1
      have h5 : flagNames.length = 5 := rfl
      simp at hi
      omega
  have hz4 := hs2.size
  refine wl_local [.int .i64 i] hA rfl rfl (by decide) (fun ev h => by simp [go_sem]; try first | exact ⟨rfl, rfl⟩ | rfl) rfl rfl (by rfl) (fun w1 g ev hb h => by simp [go_sem, h.get 4 rfl, h.get 12 rfl, setAll, hb.cell, hb.frozen]) fun w5 a (K5 : Blk _ _ _ _) hz5 hb5 hA => ?_
  replace HB := HB.trans (hb5.mono HB.size)
  replace K2 := K2.below hb5 K2.lt
  replace hA := hA.keepN [3, 4]
  refine wN (nT (wS (wS (wR ?_))))
  revert a; (iterate 2 refine wo rfl rfl (by decide) (fun ev e h => by simp [go_sem, h, K5.cell] <;> rfl) ?_); intro a hA
  replace hA := hA.keepN [3, 4, 14]
  refine wN (nT ?_)
  refine wp_if hA 14 _ rfl (fun hq => ?yA) (fun hq => ?nA)
  case yA =>
    refine wS (wR ?_)
    revert a; refine wo rfl rfl (by decide) (fun ev e h => by simp [go_sem, h, K5.cell] <;> rfl) ?_; intro a hA
    replace hA := hA.keepN [2]
    refine wN (nT (wp_ret (rT ?_)))
    refine ret_1 hA 2 rfl rfl ?_
    refine ⟨_, rfl, HB, ?_⟩
    rw [hfl, if_pos (by simpa using hq)]
    rfl
  case nA =>
    refine wp_skip (nT (wS (wR ?_)))
    revert a; (iterate 2 refine wo rfl rfl (by decide) (fun ev e h => by simp [go_sem, h, K5.cell] <;> rfl) ?_); intro a hA
    replace hA := hA.keepN [2]
    refine wN (nT (wp_ret ?_))
    refine ret_1 hA 2 rfl rfl ?_
    refine ⟨_, rfl, HB, ?_⟩
    have hi0 : 0 ≤ i := by simp at hq; omega
    rw [hfl, if_neg (by omega)]
    obtain ⟨n, rfl⟩ := Int.eq_ofNat_of_zero_le hi0
    exact ⟨⟨_, _, _, rfl⟩, .flag K5 K2 (by omega) (by omega) (by omega)⟩
end Go.Proofs.YtjhaccmcjlbllaaGreatDoor
/-
  Walk: the reader's named.
-/
namespace Go.Proofs.YtjhaccmcjlbllaaGreatDoor
open Go.RowKit
set_option linter.unusedSimpArgs false
set_option linter.unusedVariables false
/-- what a reading of a key leaves -/
def KeyR (o : Option (KeyA × List TokI)) (lo : Nat) (w : World) (v : Value) (l' : List TokI) (b' : Bool) : Prop := match o with
  | none => b' = true
  | some p => b' = false ∧ l' = p.2 ∧ IsKey lo w.heap.size w p.1 v
def KeyPost (bad : Bool) (o : Option (KeyA × List TokI)) (l : List TokI) (lo pr : Nat) (w : World) (v : Value) : Prop :=
  ∃ l' b', RdAt w pr l' b' ∧ l' <:+ l ∧ IsFn v ∧ (bad = true → b' = true) ∧ (bad = false → KeyR o lo w v l' b')
theorem word_rel (l : List TokI) : (wordP l = none ∧ ((false || l.isEmpty) || wbad (takeV l)) = true) ∨ (wordP l = some ((takeV l).t, l.tail) ∧ ((false || l.isEmpty) || wbad (takeV l)) = false) := by
  cases l with
  | nil => exact .inl ⟨rfl, rfl⟩
  | cons t r =>
    show ((if t.k = 1 ∨ t.k = 2 then some (t.t, r) else none) = none ∧ ((t.k != 1) && (t.k != 2)) = true) ∨ ((if t.k = 1 ∨ t.k = 2 then some (t.t, r) else none) = some (t.t, r) ∧ ((t.k != 1) && (t.k != 2)) = false)
    by_cases h : t.k = 1 ∨ t.k = 2
    · rw [if_pos h]
      refine .inr ⟨rfl, ?_⟩
      rcases h with e | e <;> rw [e] <;> rfl
    · rw [if_neg h]
      refine .inl ⟨rfl, ?_⟩
      simp only [not_or] at h
      simp [h.1, h.2]
theorem num_rel (l : List TokI) : (numP l = none ∧ (((false || l.isEmpty) || wbad (takeV l)) || !numOk9 (takeV l).t) = true) ∨ (numP l = some (((val8 (takeV l).t : Nat) : Int), l.tail) ∧ (((false || l.isEmpty) || wbad (takeV l)) || !numOk9 (takeV l).t) = false ∧ numOk9 (takeV l).t = true) := by
  unfold numP
  rcases word_rel l with ⟨h1, h2⟩ | ⟨h1, h2⟩
  · rw [h1, h2]
    exact .inl ⟨rfl, rfl⟩
  · rw [h1, h2]
    simp only
    cases h9 : numOk9 (takeV l).t with
    | true => rw [if_pos (num_9 h9)]; exact .inr ⟨rfl, rfl, rfl⟩
    | false =>
      rw [if_neg]
      · exact .inl ⟨rfl, rfl⟩
      · rintro ⟨a, b, c⟩
        unfold numOk9 at h9
        rw [decide_eq_true a, decide_eq_true b, c] at h9
        cases h9
theorem take_len {l : List TokI} (h : ∀ t ∈ l, t.t.length ≤ 1048576) : (takeV l).t.length ≤ 1048576 := by
  cases l with
  | nil => exact Nat.zero_le _
  | cons t r => exact h t List.mem_cons_self
theorem yes_eq {a b : List UInt8} (h : (a == b) = true) : a = b := eq_of_beq h
theorem no_eq {a b : List UInt8} (h : (a == b) = false) : ¬ a = b := beq_eq_false_iff_ne.1 h
set_option maxRecDepth 100000 in
set_option maxHeartbeats 16000000 in
theorem namedK_any (pr : Nat) (l : List TokI) (s : List UInt8) (w : World) (h : RdAt w pr l false) {G : Nat} (hw : FineG G w) (hG : G ≤ pr) (hs : s.length ≤ 1048576) (hl : l.length ≤ 50000000) (ht : ∀ t ∈ l, t.t.length ≤ 1048576) : Calls Tryz.prog 138 #[.pointer (some ⟨pr, 0, none⟩), .string (St s)] w fun ev w' => ∃ v, ev = .returned v ∧ TurnR pr w w' ∧ (match namedP s l with
    | none => v = .nilFunc ∧ RdAt w' pr l false
    | some o => KeyPost false o l w.heap.size pr w' v) := by
  have hpw := h.lt
  have htl := take_len ht
  refine calls_at 63 Tryz.func138 rfl rfl (Nat.le_of_ble_eq_true rfl) ?_
  intro a hA; replace hA := hA.norm
  refine wS (wR ?_)
  refine wl_new hA rfl rfl (by decide) (fun ev h => by simp [go_sem, h.get 1 rfl]; try first | exact ⟨rfl, rfl⟩ | rfl) fun w1 a (K1 : Blk _ _ _ _) hz1 hb1 hA => ?_
  have h1 := h.below hb1
  have T1 := TurnR.of (pr := pr) hb1
  have hw1 := hw.below hb1
  have hb1p : w.heap.size ≠ pr := by omega
  revert a; refine wo rfl rfl (by decide) (fun ev e h => by simp [go_sem, h, K1.cell] <;> rfl) ?_; intro a hA
  replace hA := hA.keepN [0, 3]
  refine wN (nT (wS (wS (wR ?_))))
  revert a; refine wo rfl rfl (by decide) (fun ev e h => by simp [go_sem, h, K1.cell] <;> rfl) ?_; intro a hA
  replace hA := hA.keepN [0, 3, 11]
  refine wN (nT (wB (wS (wR ?_))))
  revert a; (iterate 2 refine wo rfl rfl (by decide) (fun ev e h => by simp [go_sem, h, K1.cell] <;> rfl) ?_); intro a hA
  replace hA := hA.keepN [0, 3, 11, 12]
  refine wN (nT ?_)
  refine wp_if hA 12 _ rfl (fun hq1 => ?yA1) (fun hq1 => ?nA1)
  case yA1 =>
    have e1 : s = sALL := yes_eq hq1
    refine wS (wR ?_)
    revert a; refine wo rfl rfl (by decide) (fun ev e h => by simp [go_sem, h, K1.cell] <;> rfl) ?_; intro a hA
    replace hA := hA.keepN [4]
    refine wN (nT (wp_ret (rB (rT ?_))))
    refine ret_1 hA 4 rfl rfl ?_
    refine ⟨_, rfl, T1, ?_⟩
    unfold namedP
    rw [if_pos e1]
    exact ⟨l, false, h1, List.suffix_refl _, ⟨_, _, _, rfl⟩, (fun e => by cases e), fun _ => ⟨rfl, rfl, .all⟩⟩
  case nA1 =>
    have e1 : ¬ s = sALL := no_eq hq1
    refine wS (wS (wR ?_))
    revert a; (iterate 2 refine wo rfl rfl (by decide) (fun ev e h => by simp [go_sem, h, K1.cell] <;> rfl) ?_); intro a hA
    replace hA := hA.keepN [0, 3, 11, 14]
    refine wN (nT ?_)
    refine wp_join (fun a w2 => ∃ q : Bool, (q = true ↔ s = sSUBJECT ∨ s = sFROM ∨ s = sTO) ∧ w2 = w1 ∧ At 63 [(0, .pointer (some ⟨pr, 0, none⟩)), (3, .pointer (some ⟨w.heap.size, 0, none⟩)), (11, .string (St s)), (14, .bool q)] a) ?jfJ ?jrJ
    case jfJ =>
      refine wp_if hA 14 _ rfl (fun hq2 => ?yB1) (fun hq2 => ?nB1)
      case yB1 =>
        have e2 : s = sSUBJECT := yes_eq hq2
        replace hA := hA.keepN [0, 3, 11, 14]
        refine wp_skip (nT ?_)
        exact ⟨_, ⟨fun _ => .inl e2, fun _ => hq2⟩, rfl, hA⟩
      case nB1 =>
        have e2 : ¬ s = sSUBJECT := no_eq hq2
        refine wS (wR ?_)
        revert a; (iterate 2 refine wo rfl rfl (by decide) (fun ev e h => by simp [go_sem, h, K1.cell] <;> rfl) ?_); intro a hA
        replace hA := hA.keepN [0, 3, 11, 14]
        refine wN (nT ?_)
        refine wp_if hA 14 _ rfl (fun hq3 => ?yB2) (fun hq3 => ?nB2)
        case yB2 =>
          have e3 : s = sFROM := yes_eq hq3
          replace hA := hA.keepN [0, 3, 11, 14]
          refine wp_skip (nT ?_)
          exact ⟨_, ⟨fun _ => .inr (.inl e3), fun _ => hq3⟩, rfl, hA⟩
        case nB2 =>
          have e3 : ¬ s = sFROM := no_eq hq3
          refine wR ?_
          revert a; (iterate 2 refine wo rfl rfl (by decide) (fun ev e h => by simp [go_sem, h, K1.cell] <;> rfl) ?_); intro a hA
          replace hA := hA.keepN [0, 3, 11, 14]
          refine wN (nT ?_)
          exact ⟨_, ⟨fun e => .inr (.inr (yes_eq e)), fun e => by rcases e with e | e | e <;> first | exact absurd e e2 | exact absurd e e3 | (rw [e]; rfl)⟩, rfl, hA⟩
    case jrJ =>
      clear hA
      rintro a w2 ⟨q, hqs, rfl, hA⟩
      refine wp_if hA 14 _ rfl (fun hq4 => ?yC) (fun hq4 => ?nC)
      case yC =>
        have e2 := hqs.1 hq4
        refine wS (wR ?_)
        revert a; refine wo rfl rfl (by decide) (fun ev e h => by simp [go_sem, h, K1.cell] <;> rfl) ?_; intro a hA
        refine wl_call hA rfl rfl (by decide) (fun ev h => exec_call Tryz.func178 (by kernel_rfl) rfl (h.f _) (by first | (simp only [mL, h.get 18 rfl, h.c] <;> rfl) | (simp [mL, h.get 18 rfl, h.c, K1.cell] <;> rfl))) (word_any pr l false _ h1 hl) ?_
        rintro e w3 ⟨rfl, h3, T3⟩
        refine ⟨_, rfl, fun a hA => ?_⟩
        replace K1 := Apart.blk T3 K1 hb1p
        replace T3 := T1.trans T3
        have hz3 := T3.size
        refine wl_local [.string (St (takeV l).t)] hA rfl rfl (by decide) (fun ev h => by simp [go_sem, K1.cell]; try first | exact ⟨rfl, rfl⟩ | rfl) rfl rfl (by rfl) (fun w1 g ev hb h => by simp [go_sem, h.get 5 rfl, h.get 19 rfl, K1.cell, setAll, hb.cell, hb.frozen]) fun w4 a (K4 : Blk _ _ _ _) hz4 hb4 hA => ?_
        replace K1 := K1.below hb4 K1.lt
        replace hA := hA.keepN [3, 5]
        refine wN (nT (wS (wR ?_)))
        revert a; (iterate 2 refine wo rfl rfl (by decide) (fun ev e h => by simp [go_sem, h, K1.cell] <;> rfl) ?_); intro a hA
        replace hA := hA.keepN [4]
        refine wN (nT (wp_ret (rB (rT ?_))))
        refine ret_1 hA 4 rfl rfl ?_
        refine ⟨_, rfl, T3.below hb4, ?_⟩
        unfold namedP
        rw [if_neg e1, if_pos e2]
        refine ⟨_, _, h3.below hb4, List.tail_suffix _, ⟨_, _, _, rfl⟩, (fun e => by cases e), fun _ => ?_⟩
        rcases word_rel l with ⟨g1, g2⟩ | ⟨g1, g2⟩
        · rw [g1]; exact g2
        · rw [g1]; exact ⟨g2, rfl, .field K1 K4 (by have := K1.lt; omega) (by omega) hs htl⟩
      case nC =>
        have e2 : ¬ (s = sSUBJECT ∨ s = sFROM ∨ s = sTO) := fun e => by rw [hqs.2 e] at hq4; cases hq4
        refine wS (wR ?_)
        revert a; (iterate 2 refine wo rfl rfl (by decide) (fun ev e h => by simp [go_sem, h, K1.cell] <;> rfl) ?_); intro a hA
        replace hA := hA.keepN [0, 3, 11, 21]
        refine wN (nT ?_)
        refine wp_if hA 21 _ rfl (fun hqD => ?yD) (fun hqD => ?nD)
        case yD =>
          have fD : s = sBODY := yes_eq hqD
          refine wS (wR ?_)
          revert a; refine wo rfl rfl (by decide) (fun ev e h => by simp [go_sem, h, K1.cell] <;> rfl) ?_; intro a hA
          refine wl_call hA rfl rfl (by decide) (fun ev h => exec_call Tryz.func178 (by kernel_rfl) rfl (h.f _) (by first | (simp only [mL, h.get 23 rfl, h.c] <;> rfl) | (simp [mL, h.get 23 rfl, h.c, K1.cell] <;> rfl))) (word_any pr l false _ h1 hl) ?_
          rintro e w3 ⟨rfl, h3, T3⟩
          refine ⟨_, rfl, fun a hA => ?_⟩
          replace T3 := T1.trans T3
          have hz3 := T3.size
          refine wl_local [.string (St (takeV l).t)] hA rfl rfl (by decide) (fun ev h => by simp [go_sem, K1.cell]; try first | exact ⟨rfl, rfl⟩ | rfl) rfl rfl (by rfl) (fun w1 g ev hb h => by simp [go_sem, h.get 6 rfl, h.get 24 rfl, K1.cell, setAll, hb.cell, hb.frozen]) fun w4 a (K4 : Blk _ _ _ _) hz4 hb4 hA => ?_
          replace hA := hA.keepN [6]
          refine wN (nT (wS (wR ?_)))
          revert a; (iterate 2 refine wo rfl rfl (by decide) (fun ev e h => by simp [go_sem, h, K1.cell] <;> rfl) ?_); intro a hA
          replace hA := hA.keepN [4]
          refine wN (nT (wp_ret (rB (rT ?_))))
          refine ret_1 hA 4 rfl rfl ?_
          refine ⟨_, rfl, T3.below hb4, ?_⟩
          unfold namedP
          rw [if_neg e1, if_neg e2, if_pos fD]
          refine ⟨_, _, h3.below hb4, List.tail_suffix _, ⟨_, _, _, rfl⟩, (fun e => by cases e), fun _ => ?_⟩
          rcases word_rel l with ⟨g1, g2⟩ | ⟨g1, g2⟩
          · rw [g1]; exact g2
          · rw [g1]; exact ⟨g2, rfl, .body K4 (by omega) htl⟩
        case nD =>
          have fD : ¬ s = sBODY := no_eq hqD
          refine wS (wR ?_)
          revert a; (iterate 2 refine wo rfl rfl (by decide) (fun ev e h => by simp [go_sem, h, K1.cell] <;> rfl) ?_); intro a hA
          replace hA := hA.keepN [0, 3, 11, 26]
          refine wN (nT ?_)
          refine wp_if hA 26 _ rfl (fun hqE => ?yE) (fun hqE => ?nE)
          case yE =>
            have fE : s = sTEXT := yes_eq hqE
            refine wS (wR ?_)
            revert a; refine wo rfl rfl (by decide) (fun ev e h => by simp [go_sem, h, K1.cell] <;> rfl) ?_; intro a hA
            refine wl_call hA rfl rfl (by decide) (fun ev h => exec_call Tryz.func178 (by kernel_rfl) rfl (h.f _) (by first | (simp only [mL, h.get 28 rfl, h.c] <;> rfl) | (simp [mL, h.get 28 rfl, h.c, K1.cell] <;> rfl))) (word_any pr l false _ h1 hl) ?_
            rintro e w3 ⟨rfl, h3, T3⟩
            refine ⟨_, rfl, fun a hA => ?_⟩
            replace T3 := T1.trans T3
            have hz3 := T3.size
            refine wl_local [.string (St (takeV l).t)] hA rfl rfl (by decide) (fun ev h => by simp [go_sem, K1.cell]; try first | exact ⟨rfl, rfl⟩ | rfl) rfl rfl (by rfl) (fun w1 g ev hb h => by simp [go_sem, h.get 7 rfl, h.get 29 rfl, K1.cell, setAll, hb.cell, hb.frozen]) fun w4 a (K4 : Blk _ _ _ _) hz4 hb4 hA => ?_
            replace hA := hA.keepN [7]
            refine wN (nT (wS (wR ?_)))
            revert a; (iterate 2 refine wo rfl rfl (by decide) (fun ev e h => by simp [go_sem, h, K1.cell] <;> rfl) ?_); intro a hA
            replace hA := hA.keepN [4]
            refine wN (nT (wp_ret (rB (rT ?_))))
            refine ret_1 hA 4 rfl rfl ?_
            refine ⟨_, rfl, T3.below hb4, ?_⟩
            unfold namedP
            rw [if_neg e1, if_neg e2, if_neg fD, if_pos fE]
            refine ⟨_, _, h3.below hb4, List.tail_suffix _, ⟨_, _, _, rfl⟩, (fun e => by cases e), fun _ => ?_⟩
            rcases word_rel l with ⟨g1, g2⟩ | ⟨g1, g2⟩
            · rw [g1]; exact g2
            · rw [g1]; exact ⟨g2, rfl, .text K4 (by omega) htl⟩
          case nE =>
            have fE : ¬ s = sTEXT := no_eq hqE
            refine wS (wR ?_)
            revert a; (iterate 2 refine wo rfl rfl (by decide) (fun ev e h => by simp [go_sem, h, K1.cell] <;> rfl) ?_); intro a hA
            replace hA := hA.keepN [0, 3, 11, 31]
            refine wN (nT ?_)
            refine wp_if hA 31 _ rfl (fun hqF => ?yF) (fun hqF => ?nF)
            case yF =>
              have fF : s = sLARGER := yes_eq hqF
              refine wS (wR ?_)
              revert a; refine wo rfl rfl (by decide) (fun ev e h => by simp [go_sem, h, K1.cell] <;> rfl) ?_; intro a hA
              refine wl_call hA rfl rfl (by decide) (fun ev h => exec_call Tryz.func184 (by kernel_rfl) rfl (h.f _) (by first | (simp only [mL, h.get 33 rfl, h.c] <;> rfl) | (simp [mL, h.get 33 rfl, h.c, K1.cell] <;> rfl))) (number_any pr l false _ h1 hw1 hG hl htl) ?_
              rintro e w3 ⟨n, rfl, hn, h3, T3⟩
              refine ⟨_, rfl, fun a hA => ?_⟩
              replace T3 := T1.trans T3
              have hz3 := T3.size
              refine wl_local [.int .i64 n] hA rfl rfl (by decide) (fun ev h => by simp [go_sem, K1.cell]; try first | exact ⟨rfl, rfl⟩ | rfl) rfl rfl (by rfl) (fun w1 g ev hb h => by simp [go_sem, h.get 8 rfl, h.get 34 rfl, K1.cell, setAll, hb.cell, hb.frozen]) fun w4 a (K4 : Blk _ _ _ _) hz4 hb4 hA => ?_
              replace hA := hA.keepN [8]
              refine wN (nT (wS (wR ?_)))
              revert a; (iterate 2 refine wo rfl rfl (by decide) (fun ev e h => by simp [go_sem, h, K1.cell] <;> rfl) ?_); intro a hA
              replace hA := hA.keepN [4]
              refine wN (nT (wp_ret (rB (rT ?_))))
              refine ret_1 hA 4 rfl rfl ?_
              refine ⟨_, rfl, T3.below hb4, ?_⟩
              unfold namedP
              rw [if_neg e1, if_neg e2, if_neg fD, if_neg fE, if_pos fF]
              refine ⟨_, _, h3.below hb4, List.tail_suffix _, ⟨_, _, _, rfl⟩, (fun e => by cases e), fun _ => ?_⟩
              rcases num_rel l with ⟨g1, g2⟩ | ⟨g1, g2, g3⟩
              · rw [g1]; exact g2
              · rw [g1]; rw [hn g3] at K4; exact ⟨g2, rfl, .larger K4 (by omega)⟩
            case nF =>
              have fF : ¬ s = sLARGER := no_eq hqF
              refine wS (wR ?_)
              revert a; (iterate 2 refine wo rfl rfl (by decide) (fun ev e h => by simp [go_sem, h, K1.cell] <;> rfl) ?_); intro a hA
              replace hA := hA.keepN [0, 3, 11, 36]
              refine wN (nT ?_)
              refine wp_if hA 36 _ rfl (fun hqH => ?yH) (fun hqH => ?nH)
              case yH =>
                have fH : s = sSMALLER := yes_eq hqH
                refine wS (wR ?_)
                revert a; refine wo rfl rfl (by decide) (fun ev e h => by simp [go_sem, h, K1.cell] <;> rfl) ?_; intro a hA
                refine wl_call hA rfl rfl (by decide) (fun ev h => exec_call Tryz.func184 (by kernel_rfl) rfl (h.f _) (by first | (simp only [mL, h.get 38 rfl, h.c] <;> rfl) | (simp [mL, h.get 38 rfl, h.c, K1.cell] <;> rfl))) (number_any pr l false _ h1 hw1 hG hl htl) ?_
                rintro e w3 ⟨n, rfl, hn, h3, T3⟩
                refine ⟨_, rfl, fun a hA => ?_⟩
                replace T3 := T1.trans T3
                have hz3 := T3.size
                refine wl_local [.int .i64 n] hA rfl rfl (by decide) (fun ev h => by simp [go_sem, K1.cell]; try first | exact ⟨rfl, rfl⟩ | rfl) rfl rfl (by rfl) (fun w1 g ev hb h => by simp [go_sem, h.get 9 rfl, h.get 39 rfl, K1.cell, setAll, hb.cell, hb.frozen]) fun w4 a (K4 : Blk _ _ _ _) hz4 hb4 hA => ?_
                replace hA := hA.keepN [9]
                refine wN (nT (wS (wR ?_)))
                revert a; (iterate 2 refine wo rfl rfl (by decide) (fun ev e h => by simp [go_sem, h, K1.cell] <;> rfl) ?_); intro a hA
                replace hA := hA.keepN [4]
                refine wN (nT (wp_ret (rB (rT ?_))))
                refine ret_1 hA 4 rfl rfl ?_
                refine ⟨_, rfl, T3.below hb4, ?_⟩
                unfold namedP
                rw [if_neg e1, if_neg e2, if_neg fD, if_neg fE, if_neg fF, if_pos fH]
                refine ⟨_, _, h3.below hb4, List.tail_suffix _, ⟨_, _, _, rfl⟩, (fun e => by cases e), fun _ => ?_⟩
                rcases num_rel l with ⟨g1, g2⟩ | ⟨g1, g2, g3⟩
                · rw [g1]; exact g2
                · rw [g1]; rw [hn g3] at K4; exact ⟨g2, rfl, .smaller K4 (by omega)⟩
              case nH =>
                have fH : ¬ s = sSMALLER := no_eq hqH
                refine wS (wR ?_)
                revert a; (iterate 2 refine wo rfl rfl (by decide) (fun ev e h => by simp [go_sem, h, K1.cell] <;> rfl) ?_); intro a hA
                replace hA := hA.keepN [0, 3, 41]
                refine wN (nT ?_)
                refine wp_if hA 41 _ rfl (fun hqU => ?yU) (fun hqU => ?nU)
                case yU =>
                  have fU : s = sUID := yes_eq hqU
                  refine wS (wR ?_)
                  revert a; refine wo rfl rfl (by decide) (fun ev e h => by simp [go_sem, h, K1.cell] <;> rfl) ?_; intro a hA
                  refine wl_call hA rfl rfl (by decide) (fun ev h => exec_call Tryz.func133 (by kernel_rfl) rfl (h.f _) (by first | (simp only [mL, h.get 43 rfl, h.c] <;> rfl) | (simp [mL, h.get 43 rfl, h.c, K1.cell] <;> rfl))) (take_any pr l false _ h1 hl) ?_
                  rintro e w3 ⟨rfl, h3, T3⟩
                  refine ⟨_, rfl, fun a hA => ?_⟩
                  obtain ⟨k, t, hkt⟩ : ∃ k t, takeV l = ⟨k, t⟩ := ⟨_, _, rfl⟩
                  rw [hkt] at hA htl
                  replace hw1 := hw1.turn hG T3
                  replace T3 := T1.trans T3
                  have hz3 := T3.size
                  obtain ⟨b1, hb1e⟩ : ∃ b1, (false || l.isEmpty) = b1 := ⟨_, rfl⟩
                  rw [hb1e] at h3
                  refine wl_local [.int .i64 k, .string (St t)] hA rfl rfl (by decide) (fun ev h => by simp [go_sem, K1.cell]; try first | exact ⟨rfl, rfl⟩ | rfl) rfl rfl (by rfl) (fun w1 g ev hb h => by simp [go_sem, h.get 10 rfl, h.get 44 rfl, K1.cell, setAll, hb.cell, hb.frozen]) fun w4 a (K4 : Blk _ _ _ _) hz4 hb4 hA => ?_
                  replace h3 := h3.below hb4
                  replace hw1 := hw1.below hb4
                  replace T3 := T3.below hb4
                  obtain ⟨A, c, K, hr, hc, htk⟩ := h3.ex
                  have K00 := K
                  replace hA := hA.keepN [0, 10]
                  refine wN (nT (wS (wR ?_)))
                  revert a; (iterate 6 refine wo rfl rfl (by decide) (fun ev e h => by simp [go_sem, h, K.cell, K4.cell] <;> rfl) ?_); (iterate 3 refine wg _ rfl rfl rfl rfl (by decide) (fun hq ev e h => by simp [go_sem, h, ↓gw_t (beq_t hq), K.cell, K4.cell] <;> rfl) ?_); refine wko rfl rfl (by decide) rfl rfl rfl ?_; intro a hA
                  replace hA := hA.keepN [0, 10, 45, 54]
                  revert a; (iterate 2 refine wo rfl rfl (by decide) (fun ev e h => by simp [go_sem, h, K.cell, K4.cell] <;> rfl) ?_); intro a hA
                  refine wl_setf ([.slice A l.tail.length c, .bool (b1 || k != 1)]) _ hA rfl rfl K (j := 1) (by rfl) (fun ev h => by simp [go_sem, h.get 56 rfl, h.get 54 rfl, K.cell, K4.cell, K.cell, K.frozen]; try first | exact ⟨rfl, rfl⟩ | rfl) fun w5 (K : Blk _ _ _ _) hs5 => ?_
                  replace K4 := hs5.blk K4 (by omega)
                  obtain ⟨hr5, ht5⟩ := rows_turn hr htk K00 (Apart.only (Apart.refl (fun i => i = pr) _) hs5 (.inr rfl))
                  have h5 : RdAt w5 pr l.tail (b1 || k != 1) := ⟨A, c, K, hr5, hc, ht5⟩
                  replace hw1 := hw1.turn hG (Apart.only (Apart.refl (fun i => i = pr) _) hs5 (.inr rfl))
                  replace T3 := T3.only hs5
                  replace hA := hA.keepN [0, 10]
                  refine wN (nT (wS (wR ?_)))
                  revert a; (iterate 3 refine wo rfl rfl (by decide) (fun ev e h => by simp [go_sem, h, K4.cell] <;> rfl) ?_); intro a hA
                  refine wl_call hA rfl rfl (by decide) (fun ev h => exec_call Tryz.func139 (by kernel_rfl) rfl (h.f _) (by first | (simp only [mL, h.get 57 rfl, h.get 59 rfl, h.c] <;> rfl) | (simp [mL, h.get 57 rfl, h.get 59 rfl, h.c, K4.cell] <;> rfl))) (set_any pr l.tail _ true t _ h5 hw1 hG htl) ?_
                  rintro e w6 ⟨v, rfl, hf, h6, T6, hk6⟩
                  refine ⟨_, rfl, fun a hA => ?_⟩
                  revert a; refine wo rfl rfl (by decide) (fun ev e h => by simp [go_sem, h, K4.cell] <;> rfl) ?_; intro a hA
                  replace hA := hA.keepN [4]
                  refine wN (nT (wp_ret (rB (rT ?_))))
                  refine ret_1 hA 4 rfl rfl ?_
                  refine ⟨v, rfl, T3.trans T6, ?_⟩
                  unfold namedP
                  rw [if_neg e1, if_neg e2, if_neg fD, if_neg fE, if_neg fF, if_neg fH, if_pos fU]
                  refine ⟨_, _, h6, List.tail_suffix _, hf, (fun e => by cases e), fun _ => ?_⟩
                  have hz6 := T3.size
                  cases l with
                  | nil =>
                    subst hb1e
                    show (_ || _ : Bool) = true
                    simp
                  | cons x r =>
                    have hx0 : x = ⟨k, t⟩ := hkt
                    subst hx0
                    subst hb1e
                    simp only
                    by_cases hx : k = 1
                    · rw [if_pos hx]
                      subst hx
                      unfold setP
                      cases hok : setOk t with
                      | true => exact ⟨rfl, rfl, (hk6 hok).wide (by omega) (Nat.le_refl _)⟩
                      | false => show (_ || _ : Bool) = true; simp
                    · rw [if_neg hx]
                      show (_ || _ : Bool) = true
                      simp [hx]
                case nU =>
                  have fU : ¬ s = sUID := no_eq hqU
                  refine wp_skip (nB (nT (wS (wR ?_))))
                  revert a; refine wo rfl rfl (by decide) (fun ev e h => by simp [go_sem, h, K1.cell] <;> rfl) ?_; intro a hA
                  refine wl_call hA rfl rfl (by decide) (fun ev h => exec_call Tryz.func187 (by kernel_rfl) rfl (h.f _) (by first | (simp only [mL, h.get 61 rfl, h.c] <;> rfl) | (simp [mL, h.get 61 rfl, h.c, K1.cell] <;> rfl))) (flagged_any s _ hs) ?_
                  rintro e w3 ⟨v, rfl, hb3, hF⟩
                  refine ⟨_, rfl, fun a hA => ?_⟩
                  revert a; refine wo rfl rfl (by decide) (fun ev e h => by simp [go_sem, h, K1.cell] <;> rfl) ?_; intro a hA
                  replace hA := hA.keepN [4]
                  refine wN (nT (wp_ret ?_))
                  refine ret_1 hA 4 rfl rfl ?_
                  refine ⟨v, rfl, T1.below hb3, ?_⟩
                  unfold namedP
                  rw [if_neg e1, if_neg e2, if_neg fD, if_neg fE, if_neg fF, if_neg fH, if_neg fU]
                  cases hfl : flagP s with
                  | none => rw [hfl] at hF; exact ⟨hF, h1.below hb3⟩
                  | some k =>
                    rw [hfl] at hF
                    exact ⟨l, false, h1.below hb3, List.suffix_refl _, hF.1, (fun e => by cases e), fun _ => ⟨rfl, rfl, hF.2.wide (by omega) (Nat.le_refl _)⟩⟩
end Go.Proofs.YtjhaccmcjlbllaaGreatDoor
/-
  A region that draws its order, whose last operations wait, each, for all that stand ahead: these come in the text's order.
-/
namespace Go.Proofs.YtjhaccmcjlbllaaGreatDoor
open Go Go.RowKit
/-- an operation waits for j, or for one of the tail behind j, or for one that waits for j -/
def waitsB (L : List Oper) (m : Nat) (o : Oper) (i j : Nat) : Bool := onB o j || ((List.range i).any fun k => Nat.ble m k && Nat.blt j k && onB o k) || o.after.any fun e => Region.binds .any e && blk L j L.length e.on
/-- from place k on each operation waits for all ahead -/
def seqFrom (L : List Oper) (m : Nat) : Nat → List Oper → Bool
  | _, [] => true
  | k, o :: r => (List.range k).all (fun j => waitsB L m o k j) && seqFrom L m (k + 1) r
theorem seqFrom_at {L : List Oper} {m : Nat} : ∀ {r : List Oper} {k : Nat}, seqFrom L m k r = true → ∀ i o, r[i]? = some o → ∀ j, j < k + i → onB o j = true ∨ (∃ k', m ≤ k' ∧ j < k' ∧ onB o k' = true) ∨ ∃ e ∈ o.after, Region.binds .any e = true ∧ blk L j L.length e.on = true := by
  intro r
  induction r with
  | nil => intro k _ i o ho; simp at ho
  | cons x r ih =>
    intro k h i o ho j hj
    unfold seqFrom at h
    rw [Bool.and_eq_true] at h
    cases i with
    | zero =>
      have e : x = o := by simpa using ho
      subst e
      have h2 := List.all_eq_true.1 h.1 j (List.mem_range.2 hj)
      unfold waitsB at h2
      rw [Bool.or_eq_true, Bool.or_eq_true] at h2
      rcases h2 with (h2 | h2) | h2
      · exact .inl h2
      · obtain ⟨k', _, hk⟩ := List.any_eq_true.1 h2
        simp only [Bool.and_eq_true] at hk
        exact .inr (.inl ⟨k', Nat.le_of_ble_eq_true hk.1.1, by simpa [Nat.blt_eq] using hk.1.2, hk.2⟩)
      · obtain ⟨e, he, hb⟩ := Array.any_eq_true'.1 h2
        simp only [Bool.and_eq_true] at hb
        exact .inr (.inr ⟨e, he, hb.1, hb.2⟩)
    | succ i => exact ih h.2 i o (by simpa using ho) j (by omega)
/-- each operation waits for those ahead alone -/
def backFrom : Nat → List Oper → Bool
  | _, [] => true
  | k, o :: r => (o.after.all fun e => !Region.binds .any e || decide (e.on < k)) && backFrom (k + 1) r
theorem backFrom_at : ∀ {r : List Oper} {k : Nat}, backFrom k r = true → ∀ i o, r[i]? = some o → ∀ e ∈ o.after, Region.binds .any e = true → e.on < k + i := by
  intro r
  induction r with
  | nil => intro k _ i o ho; simp at ho
  | cons x r ih =>
    intro k h i o ho e he hb
    unfold backFrom at h
    rw [Bool.and_eq_true] at h
    cases i with
    | zero =>
      have e2 : x = o := by simpa using ho
      subst e2
      have := Array.all_eq_true'.1 h.1 e he
      rw [hb] at this
      simpa using this
    | succ i =>
      have := ih h.2 i o (by simpa using ho) e he hb
      omega
section
variable {P : Program} {Q : Exit → Act → World → Prop} {l1 l2 : List Oper}
theorem wpOp_get {ops : Array Oper} {K : Act → World → Prop} {i : Nat} {o : Oper} {a : Act} {w : World} (h : ops[i]? = some o) : wpOp P ops Q i K a w = (if Region.wanted o (yielded ops a.tmps) then o.wp P a w K Q ∨ (o.asks P a w ∧ LetsOut Q) else K (a.put o.dst undef) w) := by
  unfold wpOp; rw [h]
/-- the tail -/
theorem wpAny_tail (hseq : seqFrom (l1 ++ l2) l1.length l1.length l2 = true) (hback : backFrom l1.length l2 = true) (hback1 : backFrom 0 l1 = true) : ∀ (r : List Oper) (k : Nat) (fuel : Nat) (listed : Array Bool) (a : Act) (w : World), l2.drop k = r → k ≤ l2.length → r.length ≤ fuel → listed.size = (l1 ++ l2).length →
    (∀ i, i < l1.length + k → listed.getD i false = true) → (∀ i, l1.length + k ≤ i → listed.getD i false = false) → wpList P (l1 ++ l2).toArray Q r a w → wpAny P .any (l1 ++ l2).toArray Q fuel listed a w := by
  intro r
  induction r with
  | nil =>
    intro k fuel listed a w hr hk hf hs h1 h2 hwp
    have hkl : l2.length ≤ k := List.drop_eq_nil_iff.1 hr
    have hready : Region.ready .any (l1 ++ l2).toArray listed = [] := by
      rw [List.eq_nil_iff_forall_not_mem]
      intro i hi
      obtain ⟨hun, o, ho, _⟩ := mem_ready.1 hi
      rw [List.getElem?_toArray] at ho
      have hlt := (List.getElem?_eq_some_iff.1 ho).1
      rw [List.length_append] at hlt
      have := h1 i (by omega)
      rw [getD_two hun] at this
      cases this
    cases fuel with
    | zero => exact ⟨hready, hwp⟩
    | succ f => exact ⟨fun _ => hwp, fun i hi => by rw [hready] at hi; cases hi⟩
  | cons o r ih =>
    intro k fuel listed a w hr hk hf hs h1 h2 hwp
    cases fuel with
    | zero => simp at hf
    | succ f =>
      have hkl : k < l2.length := by
        rcases Nat.lt_or_ge k l2.length with h | h
        · exact h
        · rw [List.drop_eq_nil_of_le h] at hr; cases hr
      have ho2 : l2[k]? = some o := by
        have := congrArg List.head? hr
        rwa [List.head?_drop] at this
      have hr2 : l2.drop (k + 1) = r := by
        rw [← List.tail_drop, hr]; rfl
      have hget : (l1 ++ l2).toArray[l1.length + k]? = some o := by
        rw [List.getElem?_toArray, List.getElem?_append_right (by omega), Nat.add_sub_cancel_left, ho2]
      have hmem : l1.length + k ∈ Region.ready .any (l1 ++ l2).toArray listed := by
        refine mem_ready.2 ⟨getD_inn (by rw [hs, List.length_append]; omega) (h2 _ (Nat.le_refl _)), o, hget, fun e he hb => h1 _ ?_⟩
        exact backFrom_at hback k o ho2 e he hb
      refine ⟨fun hn => ?_, fun i hi => ?_⟩
      · rw [hn] at hmem; cases hmem
      · obtain ⟨hun, oi, hoi, hall⟩ := mem_ready.1 hi
        have hgi : l1.length + k ≤ i := by
          rcases Nat.lt_or_ge i (l1.length + k) with h | h
          · have := h1 i h
            rw [getD_two hun] at this
            cases this
          · exact h
        have hik : i = l1.length + k := by
          rcases Nat.eq_or_lt_of_le hgi with h | h
          · exact h.symm
          · exfalso
            rw [List.getElem?_toArray, List.getElem?_append_right (by omega)] at hoi
            rcases seqFrom_at hseq (i - l1.length) oi hoi (l1.length + k) (by omega) with hon | ⟨k', _, hk', hon⟩ | ⟨e, he, hb, hbl⟩
            · obtain ⟨e, he, hb, heq⟩ := onB_spec hon
              have := hall e he hb
              rw [heq, h2 _ (Nat.le_refl _)] at this
              cases this
            · obtain ⟨e, he, hb, heq⟩ := onB_spec hon
              have := hall e he hb
              rw [heq, h2 _ (by omega)] at this
              cases this
            · have hcl : ∀ j oj, (l1 ++ l2)[j]? = some oj → listed.getD j false = true → ∀ e ∈ oj.after, Region.binds .any e = true → listed.getD e.on false = true := fun j oj hj hlj e he hb => by
                have hjk : j < l1.length + k := by
                  rcases Nat.lt_or_ge j (l1.length + k) with h | h
                  · exact h
                  · rw [h2 j h] at hlj; cases hlj
                refine h1 _ ?_
                rcases Nat.lt_or_ge j l1.length with h | h
                · rw [List.getElem?_append_left h] at hj
                  have := backFrom_at hback1 j oj hj e he hb
                  omega
                · rw [List.getElem?_append_right h] at hj
                  have := backFrom_at hback (j - l1.length) oj hj e he hb
                  omega
              have := blk_listed hcl (l1.length + k) _ e.on hbl (hall e he hb)
              rw [h2 _ (Nat.le_refl _)] at this
              cases this
        subst hik
        rw [hget] at hoi
        injection hoi with hoi
        subst hoi
        rw [wpOp_get hget]
        have hset : ∀ i, i < l1.length + (k + 1) → (listed.setIfInBounds (l1.length + k) true).getD i false = true := fun i hi => by
          by_cases e : l1.length + k = i
          · subst e
            have : l1.length + k < listed.size := by rw [hs, List.length_append]; omega
            simp [this]
          · rw [getD_set_ne false e]; exact h1 i (by omega)
        have hset2 : ∀ i, l1.length + (k + 1) ≤ i → (listed.setIfInBounds (l1.length + k) true).getD i false = false := fun i hi => by
          rw [getD_set_ne false (by omega)]; exact h2 i (by omega)
        unfold wpList at hwp
        have next : ∀ a w, wpList P (l1 ++ l2).toArray Q r a w → wpAny P .any (l1 ++ l2).toArray Q f (listed.setIfInBounds (l1.length + k) true) a w := fun a w h =>
          ih (k + 1) f _ a w hr2 (by omega) (by simp at hf; omega) (by simpa using hs) hset hset2 h
        by_cases hw : Region.wanted o (yielded (l1 ++ l2).toArray a.tmps) = true
        · rw [if_pos hw] at hwp ⊢
          exact hwp.imp (Oper.wp_mono next) id
        · rw [if_neg hw] at hwp ⊢
          exact next _ _ hwp
theorem then_wp {next : Act → World → Prop} {o : Oper} {a : Act} {w : World} {K : Act → World → Prop} (h : o.wp P a w K (Exit.then next Q)) : o.wp P a w K Q := by
  unfold Oper.wp at *
  generalize (execOp a.eval o).run P w = r at *
  cases r with
  | ok n w' => cases n <;> exact h
  | halt x w' => cases x <;> exact h
theorem then_lets {next : Act → World → Prop} (h : LetsOut (Exit.then next Q)) : LetsOut Q := h
/-- the part ahead -/
theorem wpAny_split (hseq : seqFrom (l1 ++ l2) l1.length l1.length l2 = true) (hback : backFrom l1.length l2 = true) (hback1 : backFrom 0 l1 = true) (hg : (l1.all fun o => match o.guard with | some (g, _) => decide (g < l1.length) | none => true) = true) :
    ∀ (fuel1 fuel : Nat) (listed1 listed : Array Bool) (a : Act) (w : World), fuel1 + l2.length ≤ fuel → listed1.size = l1.length → listed.size = (l1 ++ l2).length → (∀ i, i < l1.length → listed.getD i false = listed1.getD i false) → (∀ i, l1.length ≤ i → listed.getD i false = false) → (∀ j oj, l1[j]? = some oj → listed1.getD j false = true → ∀ e ∈ oj.after, Region.binds .any e = true → listed1.getD e.on false = true) →
      wpAny P .any l1.toArray (Exit.then (wpList P (l1 ++ l2).toArray Q l2) Q) fuel1 listed1 a w → wpAny P .any (l1 ++ l2).toArray Q fuel listed a w := by
  have allOf : ∀ (listed1 : Array Bool), listed1.size = l1.length → Region.ready .any l1.toArray listed1 = [] → ∀ j, j < l1.length → listed1.getD j false = true := by
    intro listed1 hs hr j
    induction j using Nat.strongRecOn with
    | _ j jh =>
      intro hj
      cases hl : listed1.getD j false with
      | true => rfl
      | false =>
        exfalso
        have hnr : j ∉ Region.ready .any l1.toArray listed1 := by rw [hr]; simp
        refine hnr (mem_ready.2 ⟨getD_inn (by rw [hs]; exact hj) hl, l1[j], by rw [List.getElem?_toArray, List.getElem?_eq_getElem hj], fun e he hb => ?_⟩)
        have hlt := backFrom_at hback1 j l1[j] (List.getElem?_eq_getElem hj) e he hb
        exact jh e.on (by omega) (by omega)
  have fin : ∀ (fuel : Nat) (listed1 listed : Array Bool) (a : Act) (w : World), l2.length ≤ fuel → listed1.size = l1.length → listed.size = (l1 ++ l2).length → (∀ i, i < l1.length → listed.getD i false = listed1.getD i false) → (∀ i, l1.length ≤ i → listed.getD i false = false) →
      Region.ready .any l1.toArray listed1 = [] → wpList P (l1 ++ l2).toArray Q l2 a w → wpAny P .any (l1 ++ l2).toArray Q fuel listed a w := fun fuel listed1 listed a w hf h1 h2 h3 h4 hr hwp =>
    wpAny_tail hseq hback hback1 l2 0 fuel listed a w rfl (Nat.zero_le _) hf h2 (fun i hi => by rw [h3 i hi]; exact allOf listed1 h1 hr i hi) h4 hwp
  intro fuel1
  induction fuel1 with
  | zero =>
    intro fuel listed1 listed a w hf h1 h2 h3 h4 _ hwp
    exact fin fuel listed1 listed a w (by omega) h1 h2 h3 h4 hwp.1 hwp.2
  | succ fuel1 ih =>
    intro fuel listed1 listed a w hf h1 h2 h3 h4 hcl hwp
    by_cases hr : Region.ready .any l1.toArray listed1 = []
    · exact fin fuel listed1 listed a w (by omega) h1 h2 h3 h4 hr (hwp.1 hr)
    · obtain ⟨fuel, rfl⟩ : ∃ f, fuel = f + 1 := ⟨fuel - 1, by omega⟩
      have hto : ∀ i, i ∈ Region.ready .any l1.toArray listed1 → i ∈ Region.ready .any (l1 ++ l2).toArray listed := fun i hi => by
        obtain ⟨hun, o, ho, hall⟩ := mem_ready.1 hi
        rw [List.getElem?_toArray] at ho
        have hlt := (List.getElem?_eq_some_iff.1 ho).1
        refine mem_ready.2 ⟨getD_inn (by rw [h2, List.length_append]; omega) (by rw [h3 i hlt]; exact getD_two hun), o, by rw [List.getElem?_toArray, List.getElem?_append_left hlt]; exact ho, fun e he hb => ?_⟩
        have hlt2 := backFrom_at hback1 i o ho e he hb
        rw [h3 _ (by omega)]
        exact hall e he hb
      refine ⟨fun hn => ?_, fun i hi => ?_⟩
      · obtain ⟨i, hi⟩ := List.exists_mem_of_ne_nil _ hr
        have := hto i hi
        rw [hn] at this
        cases this
      · obtain ⟨hun, o, ho, hall⟩ := mem_ready.1 hi
        have hget := ho
        rw [List.getElem?_toArray] at ho
        have hlt : i < l1.length := by
          rcases Nat.lt_or_ge i l1.length with h | h
          · exact h
          · exfalso
            rw [List.getElem?_append_right h] at ho
            obtain ⟨j, hj⟩ := List.exists_mem_of_ne_nil _ hr
            obtain ⟨hun2, oj, hoj, _⟩ := mem_ready.1 hj
            rw [List.getElem?_toArray] at hoj
            have hjl := (List.getElem?_eq_some_iff.1 hoj).1
            rcases seqFrom_at hseq (i - l1.length) o ho j (by omega) with hon | ⟨k', hk', _, hon⟩ | ⟨e, he, hb, hbl⟩
            · obtain ⟨e, he, hb, heq⟩ := onB_spec hon
              have := hall e he hb
              rw [heq, h3 j hjl, getD_two hun2] at this
              cases this
            · obtain ⟨e, he, hb, heq⟩ := onB_spec hon
              have := hall e he hb
              rw [heq, h4 _ hk'] at this
              cases this
            · have hcl2 : ∀ j oj, (l1 ++ l2)[j]? = some oj → listed.getD j false = true → ∀ e ∈ oj.after, Region.binds .any e = true → listed.getD e.on false = true := fun j oj hj hlj e he hb => by
                rcases Nat.lt_or_ge j l1.length with h | h
                · rw [List.getElem?_append_left h] at hj
                  have hlt := backFrom_at hback1 j oj hj e he hb
                  rw [h3 _ (by omega)]
                  exact hcl j oj hj (by rw [← h3 j h]; exact hlj) e he hb
                · rw [h4 j h] at hlj; cases hlj
              have := blk_listed hcl2 j _ e.on hbl (hall e he hb)
              rw [h3 j hjl, getD_two hun2] at this
              cases this
        rw [List.getElem?_append_left hlt] at ho
        have hi1 : i ∈ Region.ready .any l1.toArray listed1 := by
          refine mem_ready.2 ⟨getD_inn (by rw [h1]; exact hlt) (by rw [← h3 i hlt]; exact getD_two hun), o, by rw [List.getElem?_toArray]; exact ho, fun e he hb => ?_⟩
          have hlt2 := backFrom_at hback1 i o ho e he hb
          rw [← h3 _ (by omega)]
          exact hall e he hb
        have hst := hwp.2 i hi1
        have hget1 : l1.toArray[i]? = some o := by rw [List.getElem?_toArray]; exact ho
        rw [wpOp_get hget1] at hst
        rw [wpOp_get hget]
        have next : ∀ a w, wpAny P .any l1.toArray (Exit.then (wpList P (l1 ++ l2).toArray Q l2) Q) fuel1 (listed1.setIfInBounds i true) a w → wpAny P .any (l1 ++ l2).toArray Q fuel (listed.setIfInBounds i true) a w := fun a w h => by
          refine ih fuel _ _ a w (by omega) (by simpa using h1) (by simpa using h2) (fun j hj => ?_) (fun j hj => ?_) ?_ h
          · by_cases e : i = j
            · subst e
              have q1 : i < listed.size := by rw [h2, List.length_append]; omega
              have q2 : i < listed1.size := by omega
              simp [q1, q2]
            · rw [getD_set_ne false e, getD_set_ne false e]; exact h3 j hj
          · rw [getD_set_ne false (by omega)]; exact h4 j hj
          · intro j oj hj hlj e he hb
            by_cases hij : i = j
            · subst hij
              have : oj = o := Option.some.inj (hj.symm.trans ho)
              subst this
              have hlt2 := backFrom_at hback1 i oj ho e he hb
              have h5 := hall e he hb
              rw [h3 _ (by omega)] at h5
              exact getD_set_true h5
            · rw [getD_set_ne false hij] at hlj
              exact getD_set_true (hcl j oj hj hlj e he hb)
        have hwt : Region.wanted o (yielded (l1 ++ l2).toArray a.tmps) = Region.wanted o (yielded l1.toArray a.tmps) := by
          rw [wanted_eq, wanted_eq]
          unfold wantedBy
          have hgo := List.all_eq_true.1 hg o (List.mem_of_getElem? ho)
          cases hgd : o.guard with
          | none => rfl
          | some gb =>
            obtain ⟨g, b⟩ := gb
            rw [hgd] at hgo
            simp only [decide_eq_true_eq] at hgo
            simp only [List.getElem?_append_left hgo]
        rw [hwt]
        by_cases hw : Region.wanted o (yielded l1.toArray a.tmps) = true
        · rw [if_pos hw] at hst ⊢
          exact hst.imp (fun h => Oper.wp_mono next (then_wp h)) fun h => ⟨h.1, then_lets h.2⟩
        · rw [if_neg hw] at hst ⊢
          exact next _ _ hst
theorem wp_region_split {id : Nat} {d : Bool} {l : List Oper} {a : Act} {w : World} (m : Nat) (h : (Code.region id (l.take m ++ l.drop m).toArray d).wp P Q a w) : (Code.region id l.toArray d).wp P Q a w := by
  rwa [List.take_append_drop] at h
theorem wp_any_split_at {id : Nat} {d : Bool} {a : Act} {w : World} {n : Nat} {Γ : Env} (hA : At n Γ a) (F : List Fact) (Ph : List Phase) (C : World → Prop) (T : Nat → World → World → Prop) (hm : P.follows .mixedOrders = true) (hdr : d = true) (hB : checkB l1 n = true) (hdB : dstsB l1 n = true) (hFl : F.length = l1.length)
    (hseq : seqFrom (l1 ++ l2) l1.length l1.length l2 = true) (hback : backFrom l1.length l2 = true) (hback1 : backFrom 0 l1 = true) (hg : (l1.all fun o => match o.guard with | some (g, _) => decide (g < l1.length) | none => true) = true) (hC : C { w with drawn := w.drawn + 1 })
    (hstab : ∀ i j x w w', needB l1 F i j = true → i ≠ j → C w → (F.getD j (.det undef)).says x w → T i w w' → (F.getD j (.det undef)).says x w')
    (hph0 : ∀ ph ∈ Ph, ph.start = none → ph.p (sig a.eval) { w with drawn := w.drawn + 1 })
    (hph : ∀ i (ph : Phase) σ w w', ph ∈ Ph → ph.start ≠ some i → ph.upto ≠ some i → liveB l1 i ph.start ph.upto = true → C w → ph.p σ w → T i w w' → ph.p σ w')
    (hpl : ∀ ph ∈ Ph, ∀ a, ph.start = some a → a < l1.length)
    (hob : ObAll P l1 F Ph C T a.tmps 0 l1)
    (hlk : lkB l1 (Ph.map fun ph => (ph.start, ph.looks)) = true)
    (hfin : ∀ σ w', C w' → (∀ ph ∈ Ph, ph.upto = none → ph.p σ w') → FinE σ (fun Γ => ∀ a', At n Γ a' → wpList P (l1 ++ l2).toArray Q l2 a' w') w' (l1.zip F) Γ) : (Code.region id (l1 ++ l2).toArray d).wp P Q a w := by
  subst hdr
  have h1 := wpAny_facts (P := P) (l := l1) (Q := Exit.then (wpList P (l1 ++ l2).toArray Q l2) Q) (a := a) (w := w) n F Ph C T hA.size hB hFl hC hstab hph0 hph hpl (ob_all hob) hlk fun σ w' hC' hp' => by
    refine fin_env (Q := Exit.then (wpList P (l1 ++ l2).toArray Q l2) Q) hA.defers _ _ Γ (fun p hp t ht => ?_) hA (hfin σ w' hC' hp')
    have hpl := (List.of_mem_zip (a := p.1) (b := p.2) hp).1
    unfold dstsB at hdB
    have := List.all_eq_true.1 hdB p.1 hpl
    rw [ht] at this
    simpa using this
  refine wp_region_any hm (wpAny_split hseq hback hback1 hg _ _ _ _ a _ ?_ ?_ ?_ (fun i hi => ?_) (fun i hi => ?_) (fun j oj _ hl => ?_) h1)
  · simp
  · simp
  · simp
  · rw [Array.getD_eq_getD_getElem?, Array.getD_eq_getD_getElem?, Array.getElem?_replicate, Array.getElem?_replicate]
    split <;> split <;> rfl
  · rw [Array.getD_eq_getD_getElem?, Array.getElem?_replicate]
    split <;> rfl
  · exfalso
    rw [Array.getD_eq_getD_getElem?, Array.getElem?_replicate] at hl
    split at hl <;> cases hl
end
end Go.Proofs.YtjhaccmcjlbllaaGreatDoor
/-
  Walk: the reader's both (given its key).
-/
namespace Go.Proofs.YtjhaccmcjlbllaaGreatDoor
open Go.RowKit
set_option linter.unusedSimpArgs false
set_option linter.unusedVariables false
/-- a function value -/
structure FnV where
  v : Value
  fn : IsFn v
def fnSh : Sh FnV := ⟨87, 146, 1, 8, .nilFunc, fun x => [x.v], fun _ => [], fun _ => rfl, fun x u hu => by
  rw [List.mem_singleton.1 hu]
  obtain ⟨f, a, b, e⟩ := x.fn
  rw [e]
  rfl, Tryz.underlying146, by kernel_rfl, rfl, by decide, by decide⟩
theorem fn_blk {B g : Nat} {w : World} {x : FnV} (K : Blk w g 87 #[x.v]) (hB : B ≤ g) : OwnR fnSh B w (.slice (some ⟨g, 0, none⟩) 1 1) [x] :=
  ⟨⟨rfl, .inr ⟨g, 1, #[x.v], rfl, hB, K, Nat.le_refl _, by unfold maxLen; omega, rfl, rfl⟩⟩, fun _ _ p hp => (by cases hp), fun _ _ _ _ p hp => (by cases hp)⟩
/-- a key in a row: its blocks are neither the row's nor the variable's -/
def ElemAt (B pq : Nat) (V : Value) (w : World) (k : KeyA) (x : FnV) : Prop := ∃ lo hi, B ≤ lo ∧ hi ≤ w.heap.size ∧ (pq < lo ∨ hi ≤ pq) ∧ (∀ g, V.ownBlock = some g → g < lo ∨ hi ≤ g) ∧ IsKey lo hi w k x.v
def KeySpec (d : Nat) : Prop := ∀ (pr : Nat) (l : List TokI) (bad : Bool) (w : World) (G : Nat), RdAt w pr l bad → FineG G w → G ≤ pr → l.length ≤ 50000000 → (∀ t ∈ l, t.t.length ≤ 1048576) → Calls Tryz.prog 96 #[.pointer (some ⟨pr, 0, none⟩), .int .i64 (d : Nat)] w fun ev w' => ∃ v, ev = .returned v ∧ TurnR pr w w' ∧ KeyPost bad (keyP d l) l.tail w.heap.size pr w' v
def BothSpec (d : Nat) : Prop := ∀ (pr : Nat) (l : List TokI) (w : World) (G : Nat), RdAt w pr l false → FineG G w → G ≤ pr → l.length ≤ 50000000 → (∀ t ∈ l, t.t.length ≤ 1048576) → Calls Tryz.prog 70 #[.pointer (some ⟨pr, 0, none⟩), .int .i64 (d : Nat)] w fun ev w' => ∃ v, ev = .returned v ∧ TurnR pr w w' ∧ KeyPost false ((bothP (keyP d) l).map fun p => (.both p.1, p.2)) l w.heap.size pr w' v
/-- what both knows at the head of its loop -/
structure BothI (d B pr pq : Nat) (R : Option (List KeyA × List TokI)) (l : List TokI) (w : World) (fs : List FnV) (l' : List TokI) (b : Bool) (V : Value) : Prop where
  rd : RdAt w pr l' b
  suf : l' <:+ l
  blk : Blk w pq 146 #[V]
  row : OwnR fnSh B w V fs
  len : fs.length + l'.length ≤ l.length + 1
  bad : b = true → R = none
  good : b = false → ∃ acc n, l'.length ≤ n ∧ moreP (keyP d) n acc l' = R ∧ acc.length = fs.length ∧ ∀ (i : Nat) (k : KeyA) (x : FnV), acc[i]? = some k → fs[i]? = some x → ElemAt B pq V w k x
theorem flat_fn (fs : List FnV) : fs.flatMap fnSh.f = fs.map (·.v) := by
  induction fs with
  | nil => rfl
  | cons x r ih => rw [List.flatMap_cons, ih]; rfl
theorem both_bad {d B pr pq : Nat} {R : Option (List KeyA × List TokI)} {l : List TokI} {w : World} {fs : List FnV} {l' : List TokI} {V v : Value} (h : BothI d B pr pq R l w fs l' true V) (hf : IsFn v) : KeyPost false (R.map fun p => (.both p.1, p.2)) l B pr w v :=
  ⟨l', true, h.rd, h.suf, hf, fun _ => rfl, fun _ => by rw [h.bad rfl]; rfl⟩
theorem more_end {f : List TokI → Option (KeyA × List TokI)} {n : Nat} {acc : List KeyA} {l : List TokI} (h : ∀ t r, l = t :: r → t.k = 4) : moreP f n acc l = some (acc, l) := by
  cases n with
  | zero => rfl
  | succ n =>
    cases l with
    | nil => rfl
    | cons t r =>
      show (if t.k = 4 then some (acc, t :: r) else _) = _
      rw [if_pos (h t r rfl)]
theorem both_good {d B pr pq : Nat} {R : Option (List KeyA × List TokI)} {l : List TokI} {w : World} {fs : List FnV} {l' : List TokI} {V : Value} (h : BothI d B pr pq R l w fs l' false V) (hx : ∀ t r, l' = t :: r → t.k = 4) (hB : B ≤ pq) : KeyPost false (R.map fun p => (.both p.1, p.2)) l B pr w (.func (.func 97) #[] #[.pointer (some ⟨pq, 0, none⟩)]) := by
  obtain ⟨acc, n, hn, hm, hal, hel⟩ := h.good rfl
  rw [more_end hx] at hm
  refine ⟨l', false, h.rd, h.suf, ⟨_, _, _, rfl⟩, (fun e => by cases e), fun _ => ?_⟩
  rw [← hm]
  refine ⟨rfl, rfl, .both (vs := fs.map (·.v)) h.blk ⟨hB, h.blk.lt⟩ (by rw [hal, ← flat_fn]; exact h.row.row) (fun g e => (h.row.row.lt g e).2) fun i k x e1 e2 => ?_⟩
  rw [List.getElem?_map] at e2
  cases hfx : fs[i]? with
  | none => rw [hfx] at e2; cases e2
  | some fx =>
    rw [hfx] at e2
    injection e2 with e2
    subst e2
    obtain ⟨lo, hi, g1, g2, _, _, g3⟩ := hel i k fx e1 hfx
    exact g3.wide g1 g2
/-- what a key's reading left some time ago -/
def KeyAt (o : Option (KeyA × List TokI)) (l : List TokI) (lo pr : Nat) (w : World) (v : Value) : Prop :=
  ∃ l' b' hi, RdAt w pr l' b' ∧ l' <:+ l ∧ IsFn v ∧ hi ≤ w.heap.size ∧ (match o with
    | none => b' = true
    | some p => b' = false ∧ l' = p.2 ∧ IsKey lo hi w p.1 v)
theorem KeyAt.below {o : Option (KeyA × List TokI)} {l : List TokI} {lo pr : Nat} {w w' : World} {v : Value} (h : KeyAt o l lo pr w v) (hb : Below w.heap.size w w') : KeyAt o l lo pr w' v := by
  obtain ⟨l', b', hi, h1, h2, h3, h4, h5⟩ := h
  refine ⟨l', b', hi, h1.below hb, h2, h3, Nat.le_trans h4 hb.size, ?_⟩
  cases o with
  | none => exact h5
  | some p => exact ⟨h5.1, h5.2.1, h5.2.2.later hb h4⟩
theorem KeyAt.of {o : Option (KeyA × List TokI)} {l : List TokI} {lo lo' pr : Nat} {w : World} {v : Value} (h : KeyPost false o l lo pr w v) (hl : lo' ≤ lo) : KeyAt o l lo' pr w v := by
  obtain ⟨l', b', h1, h2, h3, _, h5⟩ := h
  refine ⟨l', b', w.heap.size, h1, h2, h3, Nat.le_refl _, ?_⟩
  have h5 := h5 rfl
  cases o with
  | none => exact h5
  | some p => exact ⟨h5.1, h5.2.1, h5.2.2.wide hl (Nat.le_refl _)⟩
theorem RdAt.apart {S : Nat → Prop} {w w' : World} {pr : Nat} {l : List TokI} {b : Bool} (h : RdAt w pr l b) (T : Apart S w w') (hp : ¬ S pr) (hA : ∀ i cs, Blk w i 60 cs → ¬ S i) : RdAt w' pr l b := by
  obtain ⟨A, c, K, hr, hc, ht⟩ := h.ex
  refine ⟨A, c, Apart.blk T K hp, ⟨⟨hr.row.1, fun h0 => ?_⟩, fun m _ p hp => by cases hp⟩, hc, fun ad e => ?_⟩
  · obtain ⟨ad, e, hlt, hcell⟩ := hr.row.2 h0
    obtain ⟨cs, k⟩ := ht ad e
    refine ⟨ad, e, Nat.lt_of_lt_of_le hlt T.size, fun j u hu => ?_⟩
    rw [World.cell?_of_block (T.block _ (by rw [block_of_add]; exact hlt) (by rw [block_of_add]; exact hA _ _ k))]
    exact hcell j u hu
  · obtain ⟨cs, k⟩ := ht ad e
    exact ⟨cs, Apart.blk T k (hA _ _ k)⟩
theorem blk_same {w : World} {i : Nat} {t t' : TypeId} {cs cs' : Array Value} (h : Blk w i t cs) (h' : Blk w i t' cs') : t = t' := by
  unfold Blk at h h'
  rw [h] at h'
  injection h' with h'
  injection h' with _ h'
set_option maxRecDepth 100000 in
set_option maxHeartbeats 16000000 in
theorem both_any (d : Nat) (hkey : KeySpec d) : BothSpec d := by
  intro pr l w G h hw hG hl ht
  have hpw := h.lt
  refine calls_at 40 Tryz.func70 rfl rfl (Nat.le_of_ble_eq_true rfl) ?_
  intro a hA; replace hA := hA.norm
  refine wS (wR ?_)
  revert a; refine wo rfl rfl (by decide) (fun ev e h => by simp [go_sem, h] <;> rfl) ?_; intro a hA
  replace hA := hA.keepN [0, 1]
  refine wN (nT (wS (wR ?_)))
  revert a; (iterate 2 refine wo rfl rfl (by decide) (fun ev e h => by simp [go_sem, h] <;> rfl) ?_); intro a hA
  refine wl_call hA rfl rfl (by decide) (fun ev h => exec_call Tryz.func96 (by kernel_rfl) rfl (h.f _) (by first | (simp only [mL, h.get 6 rfl, h.get 7 rfl, h.c] <;> rfl) | (simp [mL, h.get 6 rfl, h.get 7 rfl, h.c] <;> rfl))) (hkey pr l false w G h hw hG hl ht) ?_
  rintro e w1 ⟨v1, rfl, T1, l1, b1, h1, hsf, hf1, -, hR⟩
  refine ⟨_, rfl, fun a hA => ?_⟩
  replace hR := hR rfl
  obtain ⟨f0, a0, c0, rfl⟩ := id hf1
  refine wl_new hA rfl rfl (by decide) (fun ev h => by simp [go_sem, h.get 8 rfl]; try first | exact ⟨rfl, rfl⟩ | rfl) fun w2 a (K2 : Blk _ _ _ _) hz2 hb2 hA => ?_
  refine wl_local [.slice (some ⟨w1.heap.size, 0, none⟩) 1 1] hA rfl rfl (by decide) (fun ev h => by simp [go_sem]; try first | exact ⟨rfl, rfl⟩ | rfl) rfl rfl (by rfl) (fun w1 g ev hb h => by simp [go_sem, h.get 5 rfl, h.get 9 rfl, setAll, hb.cell, hb.frozen]) fun w3 a (K3 : Blk _ _ _ _) hz3 hb3 hA => ?_
  have z1 := T1.size
  have h3 := (h1.below hb2).below hb3
  have T3 := (T1.below hb2).below hb3
  replace K2 := K2.below hb3 K2.lt
  have ho := fn_blk (B := w.heap.size) (x := ⟨.func f0 a0 c0, hf1⟩) K2 z1
  obtain ⟨R, hRR⟩ : ∃ R, bothP (keyP d) l = R := ⟨_, rfl⟩
  obtain ⟨pq, hpq⟩ : ∃ pq, w2.heap.size = pq := ⟨_, rfl⟩
  rw [hpq] at hA K3
  have hsl := hsf.length_le
  rw [List.length_tail] at hsl
  rw [hRR]
  have hBq : w.heap.size ≤ pq := by omega
  have hI : BothI d w.heap.size pr pq R l w3 [⟨.func f0 a0 c0, hf1⟩] l1 b1 (.slice (some ⟨w1.heap.size, 0, none⟩) 1 1) := by
    refine ⟨h3, hsf.trans (List.tail_suffix _), K3, ho, by simp; omega, fun hb => ?_, fun hb => ?_⟩
    · subst hb
      rw [← hRR]
      unfold bothP
      cases hk : keyP d l with
      | none => rfl
      | some p => rw [hk] at hR; cases hR.1
    · cases hk : keyP d l with
      | none => rw [hk] at hR; rw [hb] at hR; cases hR
      | some p =>
        rw [hk] at hR
        refine ⟨[p.1], l1.length, Nat.le_refl _, ?_, rfl, fun i k x e1 e2 => ?_⟩
        · rw [← hRR]
          unfold bothP
          rw [hk, hR.2.1]
        · cases i with
          | succ i => cases e1
          | zero =>
            injection e1 with e1
            injection e2 with e2
            rw [← e1, ← e2]
            exact ⟨w.heap.size, w1.heap.size, Nat.le_refl _, by omega, .inr (by omega), fun g e => by have e : some w1.heap.size = some g := e; injection e with e; omega, (hR.2.2.later (hb2.trans (hb3.mono hb2.size)) (Nat.le_refl _))⟩
  replace hA := hA.keepN [0, 1, 5]
  refine wN (nT (wS (wB ?_)))
  refine wp_loop_at (fun k a wx => ∃ (fs : List FnV) (l' : List TokI) (b : Bool) (V : Value), l'.length = k ∧ TurnR pr w wx ∧ BothI d w.heap.size pr pq R l wx fs l' b V ∧ At 40 [(0, .pointer (some ⟨pr, 0, none⟩)), (1, .int .i64 (d : Nat)), (5, .pointer (some ⟨pq, 0, none⟩))] a) (l1.length) ?_ ?_
  · exact ⟨_, _, _, _, rfl, T3, hI, hA⟩
  clear hA hI
  rintro k a wx ⟨fs, l', b, V, rfl, T, hI, hA⟩
  obtain ⟨A, c, K, hr, hc, htk⟩ := hI.rd.ex
  have hr0 := hr
  cases b with
  | true =>
    refine wS (wS (wR ?_))
    revert a; (iterate 6 refine wo rfl rfl (by decide) (fun ev e h => by simp [go_sem, h, K.cell] <;> rfl) ?_); (iterate 4 refine wg _ rfl rfl rfl rfl (by decide) (fun hq ev e h => by simp [go_sem, h, ↓gw_t (beq_t hq), K.cell] <;> rfl) ?_); intro a hA
    replace hA := hA.keepN [0, 1, 5, 15, 19]
    revert a; (iterate 2 refine wg _ rfl rfl rfl rfl (by decide) (fun hq ev e h => by simp [go_sem, h, ↓gw_t (beq_t hq), K.cell] <;> rfl) ?_); (first | refine wka rfl rfl (by decide) rfl rfl rfl ?_ | refine wo rfl rfl (by decide) (fun ev e h => by simp [go_sem, h, gv_or, gv_and, K.cell] <;> rfl) ?_); refine wo rfl rfl (by decide) (fun ev e h => by simp [go_sem, h, K.cell] <;> rfl) ?_; intro a hA
    refine wl_guard _ (v := .bool false) hA rfl rfl rfl rfl (by decide) (fun hq ev h => by first | (cases hq; done) | (cases hr; done)) fun a hA => ?_
    refine wl_guard _ (v := .bool false) hA rfl rfl rfl rfl (by decide) (fun hq ev h => by first | (cases hq; done) | (cases hr; done)) fun a hA => ?_
    refine wl_guard _ (v := .bool false) hA rfl rfl rfl rfl (by decide) (fun hq ev h => by first | (cases hq; done) | (cases hr; done)) fun a hA => ?_
    refine wl_guard _ (v := .bool false) hA rfl rfl rfl rfl (by decide) (fun hq ev h => by first | (cases hq; done) | (cases hr; done)) fun a hA => ?_
    refine wl_guard _ (v := .bool false) hA rfl rfl rfl rfl (by decide) (fun hq ev h => by first | (cases hq; done) | (cases hr; done)) fun a hA => ?_
    refine wl_guard _ (v := .bool false) hA rfl rfl rfl rfl (by decide) (fun hq ev h => by first | (cases hq; done) | (cases hr; done)) fun a hA => ?_
    replace hA := hA.keepN [0, 1, 5, 23, 29]
    refine wl_guard _ (v := .bool false) hA rfl rfl rfl rfl (by decide) (fun hq ev h => by first | (cases hq; done) | (cases hr; done)) fun a hA => ?_
    refine wl_guard _ (v := .bool false) hA rfl rfl rfl rfl (by decide) (fun hq ev h => by first | (cases hq; done) | (cases hr; done)) fun a hA => ?_
    revert a; (first | refine wka rfl rfl (by decide) rfl rfl rfl ?_ | refine wo rfl rfl (by decide) (fun ev e h => by simp [go_sem, h, gv_or, gv_and, K.cell] <;> rfl) ?_); intro a hA
    replace hA := hA.keepN [0, 1, 5, 32]
    refine wN (nT ?_)
    refine wp_if hA 32 _ rfl (fun hq => ?yA) (fun hq => ?nA)
    case yA => cases hq
    case nA =>
      replace hA := hA.keepN [5]
      refine wp_exit (xT (xT (xB (nT (wS (wR ?_))))))
      revert a; (iterate 2 refine wo rfl rfl (by decide) (fun ev e h => by simp [go_sem, h, K.cell] <;> rfl) ?_); intro a hA
      replace hA := hA.keepN [4]
      refine wN (nT (wp_ret ?_))
      refine ret_1 hA 4 rfl rfl ?_
      exact ⟨_, rfl, T, both_bad hI ⟨_, _, _, rfl⟩⟩
  | false =>
    cases l' with
    | nil =>
      refine wS (wS (wR ?_))
      revert a; (iterate 6 refine wo rfl rfl (by decide) (fun ev e h => by simp [go_sem, h, K.cell] <;> rfl) ?_); (iterate 4 refine wg _ rfl rfl rfl rfl (by decide) (fun hq ev e h => by simp [go_sem, h, ↓gw_t (beq_t hq), K.cell] <;> rfl) ?_); intro a hA
      replace hA := hA.keepN [0, 1, 5, 15, 19]
      revert a; (iterate 2 refine wg _ rfl rfl rfl rfl (by decide) (fun hq ev e h => by simp [go_sem, h, ↓gw_t (beq_t hq), K.cell] <;> rfl) ?_); (first | refine wka rfl rfl (by decide) rfl rfl rfl ?_ | refine wo rfl rfl (by decide) (fun ev e h => by simp [go_sem, h, gv_or, gv_and, K.cell] <;> rfl) ?_); refine wo rfl rfl (by decide) (fun ev e h => by simp [go_sem, h, K.cell] <;> rfl) ?_; intro a hA
      refine wl_guard _ (v := .bool false) hA rfl rfl rfl rfl (by decide) (fun hq ev h => by first | (cases hq; done) | (cases hr; done)) fun a hA => ?_
      refine wl_guard _ (v := .bool false) hA rfl rfl rfl rfl (by decide) (fun hq ev h => by first | (cases hq; done) | (cases hr; done)) fun a hA => ?_
      refine wl_guard _ (v := .bool false) hA rfl rfl rfl rfl (by decide) (fun hq ev h => by first | (cases hq; done) | (cases hr; done)) fun a hA => ?_
      refine wl_guard _ (v := .bool false) hA rfl rfl rfl rfl (by decide) (fun hq ev h => by first | (cases hq; done) | (cases hr; done)) fun a hA => ?_
      refine wl_guard _ (v := .bool false) hA rfl rfl rfl rfl (by decide) (fun hq ev h => by first | (cases hq; done) | (cases hr; done)) fun a hA => ?_
      refine wl_guard _ (v := .bool false) hA rfl rfl rfl rfl (by decide) (fun hq ev h => by first | (cases hq; done) | (cases hr; done)) fun a hA => ?_
      replace hA := hA.keepN [0, 1, 5, 23, 29]
      refine wl_guard _ (v := .bool false) hA rfl rfl rfl rfl (by decide) (fun hq ev h => by first | (cases hq; done) | (cases hr; done)) fun a hA => ?_
      refine wl_guard _ (v := .bool false) hA rfl rfl rfl rfl (by decide) (fun hq ev h => by first | (cases hq; done) | (cases hr; done)) fun a hA => ?_
      revert a; (first | refine wka rfl rfl (by decide) rfl rfl rfl ?_ | refine wo rfl rfl (by decide) (fun ev e h => by simp [go_sem, h, gv_or, gv_and, K.cell] <;> rfl) ?_); intro a hA
      replace hA := hA.keepN [0, 1, 5, 32]
      refine wN (nT ?_)
      refine wp_if hA 32 _ rfl (fun hq => ?yB) (fun hq => ?nB)
      case yB => cases hq
      case nB =>
        replace hA := hA.keepN [5]
        refine wp_exit (xT (xT (xB (nT (wS (wR ?_))))))
        revert a; (iterate 2 refine wo rfl rfl (by decide) (fun ev e h => by simp [go_sem, h, K.cell] <;> rfl) ?_); intro a hA
        replace hA := hA.keepN [4]
        refine wN (nT (wp_ret ?_))
        refine ret_1 hA 4 rfl rfl ?_
        exact ⟨_, rfl, T, both_good hI (fun t r e => by cases e) hBq⟩
    | cons t r =>
      have hlen : (t :: r).length = r.length + 1 := rfl
      obtain ⟨ad, rfl, hadl, k0, k1⟩ := hr.cell (i := 0) (x := t) rfl
      have q0 : wx.cell? ad = some (.int .i64 t.k) := by
        have := k0 _ rfl
        rw [Nat.zero_mul] at this
        exact this
      rw [hlen] at K
      have jj1 : (0 : Int) < ((r.length + 1 : Nat) : Int) := by omega
      have jj2 : 0 < r.length + 1 := by omega
      refine wS (wS (wR ?_))
      revert a; (iterate 6 refine wo rfl rfl (by decide) (fun ev e h => by simp [go_sem, h, K.cell, q0, jj1, jj2] <;> rfl) ?_); (iterate 4 refine wg _ rfl rfl rfl rfl (by decide) (fun hq ev e h => by simp [go_sem, h, ↓gw_t (beq_t hq), K.cell, q0, jj1, jj2] <;> rfl) ?_); intro a hA
      replace hA := hA.keepN [0, 1, 5, 15, 19]
      revert a; (iterate 2 refine wg _ rfl rfl rfl rfl (by decide) (fun hq ev e h => by simp [go_sem, h, ↓gw_t (beq_t hq), K.cell, q0, jj1, jj2] <;> rfl) ?_); (first | refine wka rfl rfl (by decide) rfl rfl rfl ?_ | refine wo rfl rfl (by decide) (fun ev e h => by simp [go_sem, h, gv_or, gv_and, K.cell, q0, jj1, jj2] <;> rfl) ?_); refine wo rfl rfl (by decide) (fun ev e h => by simp [go_sem, h, K.cell, q0, jj1, jj2] <;> rfl) ?_; (iterate 6 refine wg _ rfl rfl rfl rfl (by decide) (fun hq ev e h => by simp [go_sem, h, ↓gw_t (beq_t hq), K.cell, q0, jj1, jj2] <;> rfl) ?_); intro a hA
      replace hA := hA.keepN [0, 1, 5, 23, 29]
      revert a; (iterate 2 refine wg _ rfl rfl rfl rfl (by decide) (fun hq ev e h => by simp [go_sem, h, ↓gw_t (beq_t hq), K.cell, q0, jj1, jj2] <;> rfl) ?_); (first | refine wka rfl rfl (by decide) rfl rfl rfl ?_ | refine wo rfl rfl (by decide) (fun ev e h => by simp [go_sem, h, gv_or, gv_and, K.cell, q0, jj1, jj2] <;> rfl) ?_); intro a hA
      replace hA := hA.keepN [0, 1, 5, 32]
      refine wN (nT ?_)
      refine wp_if hA 32 _ rfl (fun hq => ?yC) (fun hq => ?nC)
      case nC =>
        replace hA := hA.keepN [5]
        refine wp_exit (xT (xT (xB (nT (wS (wR ?_))))))
        revert a; (iterate 2 refine wo rfl rfl (by decide) (fun ev e h => by simp [go_sem, h, K.cell, q0, jj1, jj2] <;> rfl) ?_); intro a hA
        replace hA := hA.keepN [4]
        refine wN (nT (wp_ret ?_))
        refine ret_1 hA 4 rfl rfl ?_
        have h4 : t.k = 4 := by simpa using hq
        exact ⟨_, rfl, T, both_good hI (fun t' r' e => by injection e with e _; rw [← e]; exact h4) hBq⟩
      case yC =>
        have h4 : ¬ t.k = 4 := by simpa using hq
        have hww := hw.turn hG T
        have hsl2 := hI.suf.length_le
        have hmem : ∀ x ∈ t :: r, x.t.length ≤ 1048576 := fun x hx => ht x (hI.suf.subset hx)
        have hpqr : pq ≠ pr := by omega
        have hlr : (t :: r).length ≤ 50000000 := by omega
        have pQ := fun (wo : World) (hC : (fun wy => TurnR pr wx wy) wo) => have Kq := Apart.blk hC hI.blk hpqr; (Kq.cell)
        refine wp_skip (nT (wB ?_))
        refine wp_region_split 5 ?_
        simp only [List.take_succ_cons, List.take_zero, List.drop_succ_cons, List.drop_zero]
        refine wp_any_split_at hA [(.det ?dQ0), (.det ?dQ1), (.det ?dQ2), (.used (fun v wy => KeyAt (keyP d (t :: r)) r wx.heap.size pr wy v)), (.held (fun v wy => ∃ (x : FnV) (g : Nat), v = .slice (some ⟨g, 0, none⟩) 1 1 ∧ wx.heap.size ≤ g ∧ Blk wy g 87 #[x.v] ∧ KeyAt (keyP d (t :: r)) r wx.heap.size pr wy x.v))] [⟨none, (some 3), [], fun _ => (fun wy => RdAt wy pr (t :: r) false), fun _ _ _ _ h => h⟩] (fun wy => TurnR pr wx wy) (TSp [(3, (fun wy wz => TurnR pr wy wz))] Grows) (by kernel_rfl) rfl (by kernel_rfl) (by kernel_rfl) rfl (by kernel_rfl) (by kernel_rfl) (by kernel_rfl) (by kernel_rfl) (⟨rfl, rfl, rfl, Nat.le_refl _, fun _ _ _ => rfl⟩) (stab_sp [(3, (fun wy wz => TurnR pr wy wz))] [true, true, true, false, false] [true, true, true, false, true] [] rfl rfl rfl (by kernel_rfl) ⟨trivial, trivial, trivial, (fun _ _ _ _ hp hb => hp.below hb), (fun _ _ _ _ hp hb => by obtain ⟨x, g, e, h1, h2, h3⟩ := hp; exact ⟨x, g, e, h1, h2.below hb h2.lt, h3.below hb⟩), trivial⟩ trivial) (List.forall_mem_cons.2 ⟨(fun hn => hI.rd.below (Apart.toBelow (S := fun _ => False) ⟨rfl, rfl, rfl, Nat.le_refl _, fun _ _ _ => rfl⟩ (fun _ h => h.elim) (Nat.le_refl _))), (fun _ h => by cases h)⟩) (phase_sp [(3, (fun wy wz => TurnR pr wy wz))] [(none, (some 3))] [] rfl (by kernel_rfl) (List.forall_mem_cons.2 ⟨fun _ => fun _ _ _ hp hb => hp.below hb, (fun _ h => by cases h)⟩) trivial) (List.forall_mem_cons.2 ⟨(fun a h => by first | (exact (no_1 h).elim) | (injection h with h; subst h; exact Nat.le_of_ble_eq_true rfl)), (fun _ h => by cases h)⟩) ⟨?oQ0, ?oQ1, ?oQ2, ?oQ3, ?oQ4, trivial⟩ (by kernel_rfl) ?fQ
        case oQ0 => intro ev wo hev hC hs hph; have x0 := se hA hs 5; exact od rfl rfl (by kernel_rfl) hC (TSp.of rfl (Grows.refl _)) (by simp [go_sem, x0, pQ _ hC, K.cell, q0, jj1, jj2] <;> rfl)
        case oQ1 => intro ev wo hev hC hs hph; have x0 := se hA hs 0; exact od rfl rfl (by kernel_rfl) hC (TSp.of rfl (Grows.refl _)) (by simp [go_sem, x0] <;> rfl)
        case oQ2 => intro ev wo hev hC hs hph; have x0 := se hA hs 1; exact od rfl rfl (by kernel_rfl) hC (TSp.of rfl (Grows.refl _)) (by simp [go_sem, x0] <;> rfl)
        case oQ3 =>
          intro ev wo hev hC hs hph
          have e34 := sd hs 34 1
          have e35 := sd hs 35 2
          have Kq := Apart.blk hC hI.blk hpqr
          have h0 := (hph _ List.mem_cons_self (by kernel_rfl))
          exact ob_yes (wanted_none rfl) (does_enter (exec_call Tryz.func96 (by kernel_rfl) rfl (hev.func _) (by first | (simp only [mL, e34, e35, hev.const] <;> rfl) | (simp [mL, e34, e35, hev.const] <;> rfl))) (Calls.mono (hkey pr (t :: r) false wo G h0 (hww.turn hG hC) hG hlr hmem) (by
            rintro ev2 w9 ⟨v, rfl, T9, hK9⟩
            exact ⟨v, rfl, hC.trans T9, TSp.sp rfl T9, KeyAt.of hK9 hC.size, no_start (by kernel_rfl)⟩)))
        case oQ4 =>
          intro ev wo hev hC hs hph
          have u36 := su hs 36 3
          have Kq := Apart.blk hC hI.blk hpqr
          obtain ⟨f9, a9, c9, hx⟩ := (show IsFn (ev (.tmp 36)) from by obtain ⟨_, _, _, _, _, h, _⟩ := u36; exact h)
          have hb9 := (Below.refl wo.heap.size wo).alloc (Nat.le_refl _) (.cells #[ev (.tmp 36)] 87)
          exact ob_yes (wanted_none rfl) (does_value (v := .slice (some ⟨wo.heap.size, 0, none⟩) 1 1) (w' := wo.alloc (.cells #[ev (.tmp 36)] 87)) (by simp [go_sem, hx]) ⟨hC.below hb9, TSp.of rfl hb9, ⟨⟨ev (.tmp 36), ⟨f9, a9, c9, hx⟩⟩, wo.heap.size, rfl, hC.size, Blk.new wo _ _, u36.below hb9⟩, no_start (by kernel_rfl)⟩)
        intro sg wf hC hph
        intro x36 hx36
        intro x37 hx37 h37
        intro a hA
        replace hA := hA.keepN [0, 1, 5, 33, 37]
        obtain ⟨x, g, rfl, hgx, Kg, l9, b9, hi9, hr9, hs9, hf9, hh9, hR9⟩ := h37
        have hVlt := fun g e => hI.row.row.lt g e
        have hVpr : ∀ g, V.ownBlock = some g → g ≠ pr := fun g e => by have := (hVlt g e).1; omega
        have hVpq : ∀ g, V.ownBlock = some g → g ≠ pq := own_ne hI.row.row hI.blk (by decide)
        have orow : OwnR fnSh w.heap.size wf V fs := ⟨own_keep hI.row.row fun g e => hC.block g (hVlt g e).2 (hVpr g e), fun _ _ p hp => (by cases hp), fun _ _ _ _ p hp => (by cases hp)⟩
        have hrow : RowR fnSh wf (some ⟨g, 0, none⟩) [x] := rowR_blk (s := fnSh) (x := x) Kg (fun p hp => by cases hp)
        have hzf := hC.size
        have hzx := T.size
        have hll : (t :: r).length = r.length + 1 := rfl
        have hlen9 := hI.len
        obtain ⟨v9, w9, hrun, ho9, hg9, hfr⟩ := run_appR (c := 1) orow hrow (fun _ _ _ _ p hp => (by cases hp)) (by rw [List.length_singleton]; omega) (by omega)
        obtain ⟨A9, c9, rfl, -, -⟩ := ho9.reads
        have Kq := (Apart.blk hC hI.blk hpqr).grown hg9 (fun e => hVpq pq e.symm rfl)
        have hpqx := hI.blk.lt
        refine wl_op hA rfl rfl (by decide) (fun ev h => exec_append rfl (h.get 33 rfl) (h.get 37 rfl) hrun) fun a hA => ?_
        have Kq0 := Kq
        refine wl_set [.slice A9 (fs ++ [x]).length c9] hA rfl rfl Kq (by rfl) (fun ev h => by simp [go_sem, h.get 5 rfl, h.get 38 rfl, K.cell, q0, jj1, jj2, setAll, Kq.cell, Kq.frozen]) fun w10 (Kq : Blk _ _ _ _) hs10 => ?_
        have TS : Apart (fun i => V.ownBlock = some i ∨ i = pq) wf w10 := ((Apart.refl _ wf).grown hg9 (fun g e => .inr (.inl e))).only hs10 (.inr (.inr rfl))
        have hz9 := hg9.size
        have hz10 := TS.size
        have T10 : TurnR pr w w10 := ((T.trans hC).grown hg9 (fun g e => .inl (hVlt g e).1)).only hs10 (.inl hBq)
        have hs99 := hs9.length_le
        have hrd : RdAt w10 pr l9 b9 := hr9.apart TS (by rintro (e | e); exact hVpr pr e rfl; exact hpqr e.symm) (by
          rintro i cs k (e | e)
          · obtain ⟨-, hn | ⟨g', cap, cur, e', _, k', _⟩⟩ := orow.row
            · rw [hn.1] at e; cases e
            · rw [e'] at e
              injection e with e
              subst e
              exact absurd (blk_same k k') (by decide)
          · subst e
            exact absurd (blk_same k (Apart.blk hC hI.blk hpqr)) (by decide))
        have hold : ∀ k y, ElemAt w.heap.size pq V wx k y → ElemAt w.heap.size pq (.slice A9 (fs ++ [x]).length c9) w10 k y := by
          rintro k y ⟨lo, hi, g1, g2, g3, g4, g5⟩
          refine ⟨lo, hi, g1, by omega, g3, fun g e => ?_, g5.keep fun g h1 h2 => ?_⟩
          · rcases hfr with e2 | e2
            · exact g4 g (e2 ▸ e)
            · rw [e2] at e; injection e with e; omega
          · rw [TS.block g (by omega) (by
              rintro (e | e)
              · rcases g4 g e with q | q <;> omega
              · omega), hC.block g (by omega) (by omega)]
        have hnew : ∀ k, IsKey wx.heap.size hi9 wf k x.v → ElemAt w.heap.size pq (.slice A9 (fs ++ [x]).length c9) w10 k x := by
          intro k g5
          refine ⟨wx.heap.size, hi9, hzx, by omega, .inl hpqx, fun g e => ?_, g5.keep fun g h1 h2 => ?_⟩
          · rcases hfr with e2 | e2
            · rw [e2] at e; exact .inl (hVlt g e).2
            · rw [e2] at e; injection e with e; omega
          · exact TS.block g (by omega) (by
              rintro (e | e)
              · have := (hVlt g e).2; omega
              · omega)
        obtain ⟨acc, n, hn, hm, hal, hel⟩ := hI.good rfl
        obtain ⟨n, rfl⟩ : ∃ m, n = m + 1 := ⟨n - 1, by omega⟩
        have hm : (if t.k = 4 then some (acc, t :: r) else match keyP d (t :: r) with
          | none => none
          | some (k, l') => moreP (keyP d) n (acc ++ [k]) l') = R := hm
        rw [if_neg h4] at hm
        have hI2 : BothI d w.heap.size pr pq R l w10 (fs ++ [x]) l9 b9 (.slice A9 (fs ++ [x]).length c9) := by
          refine ⟨hrd, hs9.trans ((List.suffix_cons t r).trans hI.suf), Kq, ho9.only hs10 (fun g e => ?_) (fun _ _ p hp => (by cases hp)), by rw [List.length_append, List.length_singleton]; omega, fun hb => ?_, fun hb => ?_⟩
          · rcases hfr with e2 | e2
            · exact hVpq g (e2 ▸ e)
            · rw [e2] at e; injection e with e; omega
          · cases hk : keyP d (t :: r) with
            | none => rw [hk] at hm; exact hm.symm
            | some p => rw [hk] at hR9; rw [hR9.1] at hb; cases hb
          · cases hk : keyP d (t :: r) with
            | none => rw [hk] at hR9; rw [hR9] at hb; cases hb
            | some p =>
              rw [hk] at hR9 hm
              refine ⟨acc ++ [p.1], n, by omega, by rw [hR9.2.1]; exact hm, by simp [hal], fun i k y e1 e2 => ?_⟩
              by_cases hi : i < acc.length
              · rw [List.getElem?_append_left hi] at e1
                rw [List.getElem?_append_left (by omega)] at e2
                exact hold k y (hel i k y e1 e2)
              · have hia : i = acc.length := by
                  have := (List.getElem?_eq_some_iff.1 e1).1
                  rw [List.length_append, List.length_singleton] at this
                  omega
                subst hia
                rw [List.getElem?_append_right (Nat.le_refl _), Nat.sub_self] at e1
                rw [hal, List.getElem?_append_right (Nat.le_refl _), Nat.sub_self] at e2
                injection e1 with e1
                injection e2 with e2
                rw [← e1, ← e2]
                exact hnew _ hR9.2.2
        replace hA := hA.keepN [0, 1, 5]
        refine wN (nB (nT ?_))
        exact ⟨l9.length, by omega, fs ++ [x], l9, b9, _, rfl, T10, hI2, hA⟩
end Go.Proofs.YtjhaccmcjlbllaaGreatDoor
/-
  Walk: the reader's key.
-/
namespace Go.Proofs.YtjhaccmcjlbllaaGreatDoor
open Go.RowKit
set_option linter.unusedSimpArgs false
set_option linter.unusedVariables false
theorem keyP_nil (d : Nat) : keyP d [] = none := by cases d <;> rfl
theorem keyP_bad {d : Nat} {k : Int} {t : List UInt8} {r : List TokI} (h : d = 0 ∨ (¬ k = 1 ∧ ¬ k = 3)) : keyP d (⟨k, t⟩ :: r) = none := by
  cases d with
  | zero => rfl
  | succ d =>
    obtain ⟨h1, h3⟩ := h.resolve_left (by omega)
    unfold keyP
    rw [if_neg h3, if_neg h1]
theorem keyP_3 (d : Nat) (t : List UInt8) (r : List TokI) : keyP (d + 1) (⟨3, t⟩ :: r) = (match bothP (keyP d) r with
      | some (l, x :: r') => if x.k = 4 then some (.both l, r') else none
      | _ => none) := by
  unfold keyP
  rw [if_pos rfl]
  rfl
theorem keyP_1 (d : Nat) (t : List UInt8) (r : List TokI) : keyP (d + 1) (⟨1, t⟩ :: r) = (if lettS 97 t = sNOT then (keyP d r).map fun p => (.not p.1, p.2)
      else if lettS 97 t = sOR then (match keyP d r with
        | none => none
        | some (a, r1) => (keyP d r1).map fun p => (.or a p.1, p.2))
      else match namedP (lettS 97 t) r with
        | some x => x
        | none => (setP t false).map fun k => (k, r)) := by
  rw [keyP]
  rw [if_neg (show ¬ (1 : Int) = 3 by decide), if_pos (show (1 : Int) = 1 from rfl)]
  rfl
set_option maxRecDepth 100000 in
set_option maxHeartbeats 16000000 in
theorem key_step (d : Nat) (hd : d ≤ 100) (hkey : ∀ e, d = e + 1 → KeySpec e) : KeySpec d := by
  intro pr l bad w G h hw hG hl ht
  have hpw := h.lt
  have htl := take_len ht
  refine calls_at 88 Tryz.func96 rfl rfl (Nat.le_of_ble_eq_true rfl) ?_
  intro a hA; replace hA := hA.norm
  refine wS (wR ?_)
  revert a; refine wo rfl rfl (by decide) (fun ev e h => by simp [go_sem, h] <;> rfl) ?_; intro a hA
  replace hA := hA.keepN [0, 1]
  refine wN (nT (wS (wR ?_)))
  revert a; refine wo rfl rfl (by decide) (fun ev e h => by simp [go_sem, h] <;> rfl) ?_; intro a hA
  refine wl_call hA rfl rfl (by decide) (fun ev h => exec_call Tryz.func133 (by kernel_rfl) rfl (h.f _) (by first | (simp only [mL, h.get 12 rfl, h.c] <;> rfl) | (simp [mL, h.get 12 rfl, h.c] <;> rfl))) (take_any pr l bad _ h hl) ?_
  rintro e w1 ⟨rfl, h1, T1⟩
  refine ⟨_, rfl, fun a hA => ?_⟩
  obtain ⟨k, t, hkt⟩ : ∃ k t, takeV l = ⟨k, t⟩ := ⟨_, _, rfl⟩
  rw [hkt] at hA htl
  have htl : t.length ≤ 1048576 := htl
  obtain ⟨b1, hb1⟩ : ∃ b1, (bad || l.isEmpty) = b1 := ⟨_, rfl⟩
  rw [hb1] at h1
  refine wl_local [.int .i64 k, .string (St t)] hA rfl rfl (by decide) (fun ev h => by simp [go_sem]; try first | exact ⟨rfl, rfl⟩ | rfl) rfl rfl (by rfl) (fun w1 g ev hb h => by simp [go_sem, h.get 5 rfl, h.get 13 rfl, setAll, hb.cell, hb.frozen]) fun w2 a (K2 : Blk _ _ _ _) hz2 hb2 hA => ?_
  have h2 := h1.below hb2
  have T2 := T1.below hb2
  have hw2 := hw.turn hG T2
  obtain ⟨A, c, K, hr, hc, htk⟩ := h2.ex
  have K00 := K
  have hz1 := T1.size
  replace hA := hA.keepN [0, 1, 5]
  refine wN (nT (wS (wS (wR ?_))))
  revert a; (iterate 5 refine wo rfl rfl (by decide) (fun ev e h => by simp [go_sem, h, K.cell, K2.cell] <;> rfl) ?_); (iterate 2 refine wg _ rfl rfl rfl rfl (by decide) (fun hq ev e h => by simp [go_sem, h, ↓gw_t (beq_t hq), K.cell, K2.cell] <;> rfl) ?_); refine wko rfl rfl (by decide) rfl rfl rfl ?_; refine wo rfl rfl (by decide) (fun ev e h => by simp [go_sem, h, K.cell, K2.cell] <;> rfl) ?_; refine wg _ rfl rfl rfl rfl (by decide) (fun hq ev e h => by simp [go_sem, h, ↓gw_t (beq_t hq), K.cell, K2.cell] <;> rfl) ?_; intro a hA
  replace hA := hA.keepN [0, 1, 5, 22, 23]
  revert a; (iterate 3 refine wg _ rfl rfl rfl rfl (by decide) (fun hq ev e h => by simp [go_sem, h, ↓gw_t (beq_t hq), K.cell, K2.cell] <;> rfl) ?_); (iterate 3 refine wg2 _ _ rfl rfl rfl rfl (by decide) (fun hq hr ev e h => by simp [go_sem, h, ↓gw_t (and_beq hq hr), ↓gw_t hq, K.cell, K2.cell] <;> rfl) ?_); intro a hA
  refine wl_guard _ hA rfl rfl rfl rfl (by decide) (fun hq ev h => by exact pick_and rfl (((h.get 26 rfl).trans (gw_t (beq_t hq)))) (((h.get 29 rfl).trans (gw_a (beq_t hq)))) (h.c _)) fun a hA => ?_
  revert a; refine wko rfl rfl (by decide) rfl rfl rfl ?_; intro a hA
  replace hA := hA.keepN [0, 1, 5, 31]
  refine wN (nT ?_)
  refine wp_if hA 31 _ rfl (fun hq => ?yA) (fun hq => ?nA)
  case yA =>
    refine wS (wR ?_)
    revert a; (iterate 3 refine wo rfl rfl (by decide) (fun ev e h => by simp [go_sem, h, K.cell, K2.cell] <;> rfl) ?_); intro a hA
    refine wl_setf ([.slice A l.tail.length c, .bool true]) _ hA rfl rfl K (j := 1) (by rfl) (fun ev h => by simp [go_sem, h.c, h.get 34 rfl, K.cell, K2.cell, K.cell, K.frozen]; try first | exact ⟨rfl, rfl⟩ | rfl) fun w3 (K : Blk _ _ _ _) hs3 => ?_
    obtain ⟨hr3, ht3⟩ := rows_turn hr htk K00 (Apart.only (Apart.refl (fun i => i = pr) _) hs3 (.inr rfl))
    replace hA := hA.keepN []
    refine wN (nT (wS (wR ?_)))
    revert a; refine wo rfl rfl (by decide) (fun ev e h => by simp [go_sem, h, K.cell, K2.cell] <;> rfl) ?_; intro a hA
    replace hA := hA.keepN [4]
    refine wN (nT (wp_ret (rT ?_)))
    refine ret_1 hA 4 rfl rfl ?_
    refine ⟨_, rfl, T2.only hs3, l.tail, true, ⟨A, c, K, hr3, hc, ht3⟩, List.suffix_refl _, ⟨_, _, _, rfl⟩, fun _ => rfl, fun hb => ?_⟩
    have hn : keyP d l = none := by
      cases l with
      | nil => exact keyP_nil d
      | cons x r =>
        have hx : x = ⟨k, t⟩ := hkt
        subst hx
        subst hb
        subst hb1
        refine keyP_bad ?_
        simp at hq
        omega
    rw [hn]
    exact rfl
  case nA =>
    have hb10 : b1 = false := by cases b1 with | false => rfl | true => simp at hq
    subst hb10
    rw [Bool.or_eq_false_iff] at hb1
    obtain ⟨rfl, hl0⟩ := hb1
    obtain ⟨x, r, rfl⟩ : ∃ x r, l = x :: r := by
      cases l with
      | nil => cases hl0
      | cons x r => exact ⟨x, r, rfl⟩
    have hx : x = ⟨k, t⟩ := hkt
    subst hx
    have hcond : 1 ≤ d ∧ (k = 1 ∨ k = 3) := by
      simp at hq
      omega
    obtain ⟨e, rfl⟩ : ∃ e, d = e + 1 := ⟨d - 1, by omega⟩
    have hkey := hkey e rfl
    have hboth := both_any e hkey
    have hlr : r.length ≤ 50000000 := by rw [List.length_cons] at hl; omega
    have htr : ∀ y ∈ r, y.t.length ≤ 1048576 := fun y hy => ht y (List.mem_cons_of_mem _ hy)
    have i1 : IntKind.i64.wrap ((e : Nat) : Int) = ((e : Nat) : Int) := by rw [IntWalk.i64_in _ (by omega)]
    replace h2 : RdAt w2 pr r false := h2
    refine wp_skip (nT (wS (wS (wR ?_))))
    revert a; (iterate 3 refine wo rfl rfl (by decide) (fun ev e h => by simp [go_sem, h, K2.cell, i1] <;> rfl) ?_); intro a hA
    replace hA := hA.keepN [0, 1, 5, 37]
    refine wN (nT ?_)
    refine wp_if hA 37 _ rfl (fun hq3 => ?yB) (fun hq3 => ?nB)
    case yB =>
      have hk3 : k = 3 := by simpa using hq3
      subst hk3
      refine wS (wR ?_)
      revert a; (iterate 3 refine wo rfl rfl (by decide) (fun ev e h => by simp [go_sem, h, K2.cell, i1] <;> rfl) ?_); intro a hA
      refine wl_call hA rfl rfl (by decide) (fun ev h => exec_call Tryz.func70 (by kernel_rfl) rfl (h.f _) (by first | (simp only [mL, h.get 38 rfl, h.get 40 rfl, h.c] <;> rfl) | (simp [mL, h.get 38 rfl, h.get 40 rfl, h.c, K2.cell, i1] <;> rfl))) (hboth pr r _ G h2 hw2 hG hlr htr) ?_
      rintro e w3 ⟨v, rfl, T3, l1, b2, h3, hs3, hf3, -, hR3⟩
      refine ⟨_, rfl, fun a hA => ?_⟩
      replace hR3 := hR3 rfl
      have hs3l := hs3.length_le
      revert a; refine wo rfl rfl (by decide) (fun ev e h => by simp [go_sem, h, K2.cell, i1] <;> rfl) ?_; intro a hA
      replace hA := hA.keepN [0, 6]
      refine wN (nT (wS (wR ?_)))
      revert a; (iterate 2 refine wo rfl rfl (by decide) (fun ev e h => by simp [go_sem, h, K2.cell, i1] <;> rfl) ?_); intro a hA
      refine wl_call hA rfl rfl (by decide) (fun ev h => exec_call Tryz.func133 (by kernel_rfl) rfl (h.f _) (by first | (simp only [mL, h.get 43 rfl, h.c] <;> rfl) | (simp [mL, h.get 43 rfl, h.c, K2.cell, i1] <;> rfl))) (take_any pr l1 b2 _ h3 (by omega)) ?_
      rintro e w4 ⟨rfl, h4, T4⟩
      refine ⟨_, rfl, fun a hA => ?_⟩
      obtain ⟨k4, t4, hk4⟩ : ∃ k t, takeV l1 = ⟨k, t⟩ := ⟨_, _, rfl⟩
      rw [hk4] at hA
      obtain ⟨b3, hb3⟩ : ∃ b3, (b2 || l1.isEmpty) = b3 := ⟨_, rfl⟩
      rw [hb3] at h4
      obtain ⟨A4, c4, K4, hr4, hc4, htk4⟩ := h4.ex
      have K04 := K4
      revert a; (iterate 3 refine wo rfl rfl (by decide) (fun ev e h => by simp [go_sem, h, K4.cell] <;> rfl) ?_); (iterate 4 refine wg _ rfl rfl rfl rfl (by decide) (fun hq ev e h => by simp [go_sem, h, ↓gw_t (beq_t hq), K4.cell] <;> rfl) ?_); refine wko rfl rfl (by decide) rfl rfl rfl ?_; intro a hA
      replace hA := hA.keepN [6, 42, 52]
      revert a; (iterate 2 refine wo rfl rfl (by decide) (fun ev e h => by simp [go_sem, h, K4.cell] <;> rfl) ?_); intro a hA
      refine wl_setf ([.slice A4 l1.tail.length c4, .bool (k4 != 4 || b3)]) _ hA rfl rfl K4 (j := 1) (by rfl) (fun ev h => by simp [go_sem, h.get 54 rfl, h.get 52 rfl, K4.cell, K4.cell, K4.frozen]; try first | exact ⟨rfl, rfl⟩ | rfl) fun w5 (K4 : Blk _ _ _ _) hs5 => ?_
      obtain ⟨hr5, ht5⟩ := rows_turn hr4 htk4 K04 (Apart.only (Apart.refl (fun i => i = pr) _) hs5 (.inr rfl))
      have T5 := ((T2.trans T3).trans T4).only hs5
      replace hA := hA.keepN [6]
      refine wN (nT (wS (wR ?_)))
      revert a; (iterate 2 refine wo rfl rfl (by decide) (fun ev e h => by simp [go_sem, h, K4.cell] <;> rfl) ?_); intro a hA
      replace hA := hA.keepN [4]
      refine wN (nT (wp_ret (rT ?_)))
      refine ret_1 hA 4 rfl rfl ?_
      refine ⟨v, rfl, T5, l1.tail, (k4 != 4 || b3), ⟨A4, c4, K4, hr5, hc4, ht5⟩, (List.tail_suffix _).trans hs3, hf3, (fun e => by cases e), fun _ => ?_⟩
      rw [keyP_3]
      have hz2' := T2.size
      have TT : TurnR pr w3 w5 := T4.only hs5
      have hz5' := TT.size
      have hz3' := T3.size
      cases hb : bothP (keyP e) r with
      | none =>
        rw [hb] at hR3
        have hR3 : b2 = true := hR3
        subst hR3
        subst hb3
        show (k4 != 4 || (true || l1.isEmpty)) = true
        simp
      | some p =>
        obtain ⟨ks, l2⟩ := p
        rw [hb] at hR3
        obtain ⟨rfl, rfl, hIK⟩ : b2 = false ∧ l1 = l2 ∧ IsKey w2.heap.size w3.heap.size w3 (.both ks) v := hR3
        subst hb3
        cases l1 with
        | nil =>
          show (k4 != 4 || (false || true)) = true
          simp
        | cons x r' =>
          have hx : x = ⟨k4, t4⟩ := hk4
          subst hx
          show KeyR (if k4 = 4 then some (.both ks, r') else none) w.heap.size w5 v r' (k4 != 4 || (false || false))
          by_cases h44 : k4 = 4
          · rw [if_pos h44]
            subst h44
            refine ⟨rfl, rfl, (hIK.keep fun g g1 g2 => TT.block g (by omega) (by omega)).wide (by omega) (by omega)⟩
          · rw [if_neg h44]
            show (k4 != 4 || (false || false)) = true
            simp [h44]
    case nB =>
      have hk1 : k = 1 := hcond.2.resolve_right (by simpa using hq3)
      subst hk1
      refine wp_skip (nT (wS (wS (wR ?_))))
      revert a; (iterate 2 refine wo rfl rfl (by decide) (fun ev e h => by simp [go_sem, h, K2.cell, i1] <;> rfl) ?_); intro a hA
      refine wl_call hA rfl rfl (by decide) (fun ev h => exec_call Tryz.func135 (by kernel_rfl) rfl (h.f _) (by first | (simp only [mL, h.get 57 rfl, h.c] <;> rfl) | (simp [mL, h.get 57 rfl, h.c, K2.cell, i1] <;> rfl))) (letters_any t 97 _ (.inr rfl) (by omega)) ?_
      rintro e w3 ⟨rfl, hb3⟩
      refine ⟨_, rfl, fun a hA => ?_⟩
      have h3 := h2.below hb3
      have T3 := T2.below hb3
      have hw3 := hw2.below hb3
      replace K2 := K2.below hb3 K2.lt
      obtain ⟨s, hs⟩ : ∃ s, lettS 97 t = s := ⟨_, rfl⟩
      rw [hs] at hA
      have hsl : s.length ≤ 1048576 := by rw [← hs, lettS_eq, List.length_map]; exact htl
      have hz3 := T3.size
      rw [keyP_1, hs]
      revert a; refine wo rfl rfl (by decide) (fun ev e h => by simp [go_sem, h, K2.cell, i1] <;> rfl) ?_; intro a hA
      replace hA := hA.keepN [0, 1, 5, 7]
      refine wN (nT (wS (wR ?_)))
      revert a; refine wo rfl rfl (by decide) (fun ev e h => by simp [go_sem, h, K2.cell, i1] <;> rfl) ?_; intro a hA
      replace hA := hA.keepN [0, 1, 5, 7, 59]
      refine wN (nT (wB (wS (wR ?_))))
      revert a; (iterate 2 refine wo rfl rfl (by decide) (fun ev e h => by simp [go_sem, h, K2.cell, i1] <;> rfl) ?_); intro a hA
      replace hA := hA.keepN [0, 1, 5, 7, 59, 66]
      refine wN (nT ?_)
      refine wp_if hA 66 _ rfl (fun hqN => ?yN) (fun hqN => ?nN)
      case yN =>
        have eN : s = sNOT := yes_eq hqN
        refine wS (wR ?_)
        revert a; (iterate 3 refine wo rfl rfl (by decide) (fun ev e h => by simp [go_sem, h, K2.cell, i1] <;> rfl) ?_); intro a hA
        refine wl_call hA rfl rfl (by decide) (fun ev h => exec_call Tryz.func96 (by kernel_rfl) rfl (h.f _) (by first | (simp only [mL, h.get 68 rfl, h.get 70 rfl, h.c] <;> rfl) | (simp [mL, h.get 68 rfl, h.get 70 rfl, h.c, K2.cell, i1] <;> rfl))) (hkey pr r false _ G h3 hw3 hG hlr htr) ?_
        rintro e w4 ⟨v, rfl, T4, l1, b2, h4, hs4, hf4, -, hR4⟩
        refine ⟨_, rfl, fun a hA => ?_⟩
        replace hR4 := hR4 rfl
        obtain ⟨f0, a0, c0, rfl⟩ := id hf4
        have hz4 := T4.size
        refine wl_local [.func f0 a0 c0] hA rfl rfl (by decide) (fun ev h => by simp [go_sem, K2.cell, i1]; try first | exact ⟨rfl, rfl⟩ | rfl) rfl rfl (by rfl) (fun w1 g ev hb h => by simp [go_sem, h.get 8 rfl, h.get 71 rfl, K2.cell, i1, setAll, hb.cell, hb.frozen]) fun w5 a (K5 : Blk _ _ _ _) hz5 hb5 hA => ?_
        replace hA := hA.keepN [8]
        refine wN (nT (wS (wR ?_)))
        revert a; (iterate 2 refine wo rfl rfl (by decide) (fun ev e h => by simp [go_sem, h, K2.cell, i1] <;> rfl) ?_); intro a hA
        replace hA := hA.keepN [4]
        refine wN (nT (wp_ret (rB (rT ?_))))
        refine ret_1 hA 4 rfl rfl ?_
        refine ⟨_, rfl, (T3.trans T4).below hb5, l1, b2, h4.below hb5, hs4.trans (List.tail_suffix _), ⟨_, _, _, rfl⟩, (fun e => by cases e), fun _ => ?_⟩
        rw [if_pos eN]
        cases hk : keyP e r with
        | none => rw [hk] at hR4; exact hR4
        | some p => rw [hk] at hR4; exact ⟨hR4.1, hR4.2.1, .not K5 (by omega) ((hR4.2.2.later hb5 (Nat.le_refl _)).wide (by omega) (by omega))⟩
      case nN =>
        have eN : ¬ s = sNOT := no_eq hqN
        refine wS (wR ?_)
        revert a; (iterate 2 refine wo rfl rfl (by decide) (fun ev e h => by simp [go_sem, h, K2.cell, i1] <;> rfl) ?_); intro a hA
        replace hA := hA.keepN [0, 1, 5, 7, 73]
        refine wN (nT ?_)
        refine wp_if hA 73 _ rfl (fun hqO => ?yO) (fun hqO => ?nO)
        case yO =>
          have eO : s = sOR := yes_eq hqO
          refine wS (wR ?_)
          revert a; (iterate 3 refine wo rfl rfl (by decide) (fun ev e h => by simp [go_sem, h, K2.cell, i1] <;> rfl) ?_); intro a hA
          refine wl_call hA rfl rfl (by decide) (fun ev h => exec_call Tryz.func96 (by kernel_rfl) rfl (h.f _) (by first | (simp only [mL, h.get 75 rfl, h.get 77 rfl, h.c] <;> rfl) | (simp [mL, h.get 75 rfl, h.get 77 rfl, h.c, K2.cell, i1] <;> rfl))) (hkey pr r false _ G h3 hw3 hG hlr htr) ?_
          rintro e w4 ⟨v, rfl, T4, l1, b2, h4, hs4, hf4, -, hR4⟩
          refine ⟨_, rfl, fun a hA => ?_⟩
          replace hR4 := hR4 rfl
          obtain ⟨f0, a0, c0, rfl⟩ := id hf4
          have hz4 := T4.size
          have hs4l := (hs4.trans (List.tail_suffix _)).length_le
          refine wl_local [.func f0 a0 c0] hA rfl rfl (by decide) (fun ev h => by simp [go_sem, K2.cell, i1]; try first | exact ⟨rfl, rfl⟩ | rfl) rfl rfl (by rfl) (fun w1 g ev hb h => by simp [go_sem, h.get 9 rfl, h.get 78 rfl, K2.cell, i1, setAll, hb.cell, hb.frozen]) fun w5 a (K5 : Blk _ _ _ _) hz5 hb5 hA => ?_
          have T5 := (T3.trans T4).below hb5
          have hw5 := hw.turn hG T5
          replace hA := hA.keepN [0, 1, 9]
          refine wN (nT (wS (wR ?_)))
          revert a; (iterate 3 refine wo rfl rfl (by decide) (fun ev e h => by simp [go_sem, h, K2.cell, i1] <;> rfl) ?_); intro a hA
          refine wl_call hA rfl rfl (by decide) (fun ev h => exec_call Tryz.func96 (by kernel_rfl) rfl (h.f _) (by first | (simp only [mL, h.get 79 rfl, h.get 81 rfl, h.c] <;> rfl) | (simp [mL, h.get 79 rfl, h.get 81 rfl, h.c, K2.cell, i1] <;> rfl))) (hkey pr l1 b2 _ G (h4.below hb5) hw5 hG (by omega) (fun y hy => htr y ((hs4.trans (List.tail_suffix _)).subset hy))) ?_
          rintro e w6 ⟨v, rfl, T6, l3, b3, h6, hs6, hf6, hbt, hR6⟩
          refine ⟨_, rfl, fun a hA => ?_⟩
          obtain ⟨f1, a1, c1, rfl⟩ := id hf6
          have hz6 := T6.size
          have hqp : w4.heap.size ≠ pr := by have := T3.size; omega
          have K6 := Apart.blk T6 K5 hqp
          refine wl_local [.func f1 a1 c1] hA rfl rfl (by decide) (fun ev h => by simp [go_sem, K2.cell, i1]; try first | exact ⟨rfl, rfl⟩ | rfl) rfl rfl (by rfl) (fun w1 g ev hb h => by simp [go_sem, h.get 10 rfl, h.get 82 rfl, K2.cell, i1, setAll, hb.cell, hb.frozen]) fun w7 a (K7 : Blk _ _ _ _) hz7 hb7 hA => ?_
          replace hA := hA.keepN [9, 10]
          refine wN (nT (wS (wR ?_)))
          revert a; (iterate 2 refine wo rfl rfl (by decide) (fun ev e h => by simp [go_sem, h, K2.cell, i1] <;> rfl) ?_); intro a hA
          replace hA := hA.keepN [4]
          refine wN (nT (wp_ret (rB (rT ?_))))
          refine ret_1 hA 4 rfl rfl ?_
          refine ⟨_, rfl, (T5.trans T6).below hb7, l3, b3, h6.below hb7, hs6.trans ((List.tail_suffix _).trans (hs4.trans (List.tail_suffix _))), ⟨_, _, _, rfl⟩, (fun e => by cases e), fun _ => ?_⟩
          rw [if_neg eN, if_pos eO]
          have hzw3 := T3.size
          cases hk : keyP e r with
          | none =>
            rw [hk] at hR4
            exact hbt hR4
          | some p =>
            obtain ⟨ka, la⟩ := p
            rw [hk] at hR4
            obtain ⟨rfl, rfl, hIK⟩ : b2 = false ∧ l1 = la ∧ IsKey w3.heap.size w4.heap.size w4 ka (.func f0 a0 c0) := hR4
            replace hR6 := hR6 rfl
            show KeyR ((keyP e l1).map fun p => (.or ka p.1, p.2)) _ _ _ _ _
            cases hk2 : keyP e l1 with
            | none => rw [hk2] at hR6; exact hR6
            | some p2 =>
              rw [hk2] at hR6
              have T57 : Apart (fun i => i = pr) w4 w7 := ((Apart.refl (fun i => i = pr) w4).below hb5 |>.trans T6 fun _ _ h => h).below hb7
              exact ⟨hR6.1, hR6.2.1, .or (K6.below hb7 K6.lt) K7 (by omega) (by omega) ((hIK.keep fun g g1 g2 => T57.block g (by omega) (by omega)).wide (by omega) (by omega)) ((hR6.2.2.later hb7 (Nat.le_refl _)).wide (by omega) (by omega))⟩
        case nO =>
          have eO : ¬ s = sOR := no_eq hqO
          rw [if_neg eN, if_neg eO]
          refine wS (wR ?_)
          revert a; (iterate 2 refine wo rfl rfl (by decide) (fun ev e h => by simp [go_sem, h, K2.cell, i1] <;> rfl) ?_); intro a hA
          refine wl_call hA rfl rfl (by decide) (fun ev h => exec_call Tryz.func138 (by kernel_rfl) rfl (h.f _) (by first | (simp only [mL, h.get 60 rfl, h.get 61 rfl, h.c] <;> rfl) | (simp [mL, h.get 60 rfl, h.get 61 rfl, h.c, K2.cell, i1] <;> rfl))) (namedK_any pr r s _ h3 hw3 hG hsl hlr htr) ?_
          rintro e w4 ⟨v, rfl, T4, hN⟩
          refine ⟨_, rfl, fun a hA => ?_⟩
          have hz4 := T4.size
          cases hnm : namedP s r with
          | none =>
            rw [hnm] at hN
            obtain ⟨rfl, h4⟩ := hN
            revert a; refine wo rfl rfl (by decide) (fun ev e h => by simp [go_sem, h, K2.cell, i1] <;> rfl) ?_; intro a hA
            replace hA := hA.keepN [0, 5, 11]
            refine wN (nT (wS (wR ?_)))
            revert a; (iterate 2 refine wo rfl rfl (by decide) (fun ev e h => by simp [go_sem, h, K2.cell, i1] <;> rfl) ?_); intro a hA
            replace hA := hA.keepN [0, 5, 11, 64]
            refine wN (nT ?_)
            refine wp_if hA 64 _ rfl (fun hqZ => ?yZ1) (fun hqZ => ?nZ1)
            case yZ1 => cases hqZ
            case nZ1 =>
              have hp2 : w1.heap.size ≠ pr := by omega
              have K4 := Apart.blk T4 K2 hp2
              have T5 := T3.trans T4
              have hw5 := hw.turn hG T5
              refine wp_skip (nB (nT (wS (wR ?_))))
              revert a; (iterate 3 refine wo rfl rfl (by decide) (fun ev e h => by simp [go_sem, h, K4.cell] <;> rfl) ?_); intro a hA
              refine wl_call hA rfl rfl (by decide) (fun ev h => exec_call Tryz.func139 (by kernel_rfl) rfl (h.f _) (by first | (simp only [mL, h.get 84 rfl, h.get 86 rfl, h.c] <;> rfl) | (simp [mL, h.get 84 rfl, h.get 86 rfl, h.c, K4.cell] <;> rfl))) (set_any pr r false false t _ h4 hw5 hG htl) ?_
              rintro e w5 ⟨v, rfl, hf5, h5, T6, hk5⟩
              refine ⟨_, rfl, fun a hA => ?_⟩
              revert a; refine wo rfl rfl (by decide) (fun ev e h => by simp [go_sem, h, K4.cell] <;> rfl) ?_; intro a hA
              replace hA := hA.keepN [4]
              refine wN (nT (wp_ret ?_))
              refine ret_1 hA 4 rfl rfl ?_
              refine ⟨v, rfl, T5.trans T6, r, _, h5, List.suffix_refl _, hf5, (fun e => by cases e), fun _ => ?_⟩
              have hz5 := T5.size
              unfold setP
              cases hok : setOk t with
              | true => exact ⟨rfl, rfl, (hk5 hok).wide (by omega) (Nat.le_refl _)⟩
              | false => exact rfl
          | some o =>
            rw [hnm] at hN
            obtain ⟨l1, b2, h4, hs4, hf4, -, hR4⟩ := hN
            replace hR4 := hR4 rfl
            obtain ⟨f0, a0, c0, rfl⟩ := id hf4
            revert a; refine wo rfl rfl (by decide) (fun ev e h => by simp [go_sem, h] <;> rfl) ?_; intro a hA
            replace hA := hA.keepN [0, 5, 11]
            refine wN (nT (wS (wR ?_)))
            revert a; (iterate 2 refine wo rfl rfl (by decide) (fun ev e h => by simp [go_sem, h] <;> rfl) ?_); intro a hA
            replace hA := hA.keepN [0, 5, 11, 64]
            refine wN (nT ?_)
            refine wp_if hA 64 _ rfl (fun hqZ => ?yZ2) (fun hqZ => ?nZ2)
            case nZ2 => cases hqZ
            case yZ2 =>
              refine wS (wR ?_)
              revert a; (iterate 2 refine wo rfl rfl (by decide) (fun ev e h => by simp [go_sem, h] <;> rfl) ?_); intro a hA
              replace hA := hA.keepN [4]
              refine wN (nT (wp_ret (rB (rT ?_))))
              refine ret_1 hA 4 rfl rfl ?_
              refine ⟨_, rfl, T3.trans T4, l1, b2, h4, hs4, hf4, (fun e => by cases e), fun _ => ?_⟩
              cases o with
              | none => exact hR4
              | some p => exact ⟨hR4.1, hR4.2.1, hR4.2.2.wide (by omega) (Nat.le_refl _)⟩
theorem key_any : ∀ (d : Nat), d ≤ 100 → KeySpec d
  | 0, _ => key_step 0 (by omega) fun e h => by cases h
  | d + 1, h => key_step (d + 1) h fun e he => by
    injection he with he
    subst he
    exact key_any _ (by omega)
end Go.Proofs.YtjhaccmcjlbllaaGreatDoor
/-
  Walks: search.read and search.Right.
-/
namespace Go.Proofs.YtjhaccmcjlbllaaGreatDoor
open Go.RowKit
set_option linter.unusedSimpArgs false
set_option linter.unusedVariables false
theorem rowR_none {M : Type} {s : Sh M} {w : World} {l : List M} (h : RowR s w none l) : l = [] := by
  cases l with
  | nil => rfl
  | cons x r =>
    obtain ⟨ad, e, _⟩ := h.row.2 (by simp)
    cases e
set_option maxRecDepth 100000 in
set_option maxHeartbeats 4000000 in
theorem cloneT_any (A : Option Addr) (c : Nat) (l : List TokI) (w : World) (hr : RowR tokISh w A l) (hl : l.length ≤ 50000000) :
    Calls Tryz.prog 69 #[.slice A l.length c] w fun ev w' => ∃ v, ev = .returned v ∧ OwnR tokISh w.heap.size w' v l ∧ Below w.heap.size w w' := by
  refine calls_at 8 Tryz.func69 rfl rfl (Nat.le_of_ble_eq_true rfl) ?_
  intro a hA; replace hA := hA.norm
  refine wS (wR ?_)
  revert a; refine wo rfl rfl (by decide) (fun ev e h => by simp [go_sem, h, nil_eq Tryz.underlying47] <;> rfl) ?_; intro a hA
  replace hA := hA.keepN [0]
  refine wN (nT (wS (wS (wR ?_))))
  revert a; (iterate 2 refine wo rfl rfl (by decide) (fun ev e h => by simp [go_sem, h, nil_eq Tryz.underlying47] <;> rfl) ?_); intro a hA
  replace hA := hA.keepN [0, 4]
  refine wN (nT ?_)
  refine wp_if hA 4 _ rfl (fun hq => ?yN) (fun hq => ?nN)
  case yN =>
    refine wS (wR ?_)
    revert a; refine wo rfl rfl (by decide) (fun ev e h => by simp [go_sem, h, nil_eq Tryz.underlying47] <;> rfl) ?_; intro a hA
    replace hA := hA.keepN [2]
    refine wN (nT (wp_ret (rT ?_)))
    refine ret_1 hA 2 rfl rfl ?_
    cases A with
    | some a => cases hq
    | none =>
      have := rowR_none hr
      subst this
      exact ⟨_, rfl, OwnR.nil _ _, Below.refl _ _⟩
  case nN =>
    refine wp_skip (nT (wS (wR ?_)))
    refine wl_new hA rfl rfl (by decide) (fun ev h => by simp [go_sem, nil_eq Tryz.underlying47]; try first | exact ⟨rfl, rfl⟩ | rfl) fun w1 a (K : Blk _ _ _ _) hz0 hb0 hA => ?_
    revert a; refine wo rfl rfl (by decide) (fun ev e h => by simp [go_sem, h, nil_eq Tryz.underlying47] <;> rfl) ?_; intro a hA
    obtain ⟨r, w2, hrun, ho, hg, hwh⟩ := run_appR (c := c) (OwnR.empty (s := tokISh) (B := w.heap.size) K (Nat.le_refl _)) (hr.below hb0) (fun g hg m hm p hp => (by cases hp)) (by simp; omega) (by omega)
    refine wl_op hA rfl rfl (by decide) (fun ev h => exec_append rfl (h.get 5 rfl) (h.get 6 rfl) hrun) fun a hA => ?_
    revert a; refine wo rfl rfl (by decide) (fun ev e h => by simp [go_sem, h, nil_eq Tryz.underlying47] <;> rfl) ?_; intro a hA
    replace hA := hA.keepN [2]
    refine wN (nT (wp_ret ?_))
    refine ret_1 hA 2 rfl rfl ?_
    exact ⟨_, rfl, ho, hb0.grown hg (by omega) fun k hk => by rw [← Option.some.inj hk]; exact Nat.le_refl _⟩
/-- what read answers -/
def ReadPost (o : Option KeyA) (lo hi : Nat) (w : World) (v : Value) : Prop := match o with
  | none => v = .nilFunc
  | some k => IsFn v ∧ IsKey lo hi w k v
set_option maxRecDepth 100000 in
set_option maxHeartbeats 4000000 in
theorem read_any (A : Option Addr) (c : Nat) (l : List TokI) (w : World) (hr : RowR tokISh w A l) (hw : Fine w) (hl : l.length ≤ 50000000) (ht : ∀ t ∈ l, t.t.length ≤ 1048576) :
    Calls Tryz.prog 45 #[.slice A l.length c] w fun ev w' => ∃ v, ev = .returned v ∧ Below w.heap.size w w' ∧ ReadPost (readP l) w.heap.size w'.heap.size w' v := by
  refine calls_at 24 Tryz.func45 rfl rfl (Nat.le_of_ble_eq_true rfl) ?_
  intro a hA; replace hA := hA.norm
  refine wS (wR ?_)
  revert a; refine wo rfl rfl (by decide) (fun ev e h => by simp [go_sem, h] <;> rfl) ?_; intro a hA
  replace hA := hA.keepN [0]
  refine wN (nT (wS (wR ?_)))
  revert a; refine wo rfl rfl (by decide) (fun ev e h => by simp [go_sem, h] <;> rfl) ?_; intro a hA
  refine wl_call hA rfl rfl (by decide) (fun ev h => exec_call Tryz.func69 (by kernel_rfl) rfl (h.f _) (by first | (simp only [mL, h.get 5 rfl, h.c] <;> rfl) | (simp [mL, h.get 5 rfl, h.c] <;> rfl))) (cloneT_any A c l w hr hl) ?_
  rintro e w1 ⟨v, rfl, ho, hb1⟩
  refine ⟨_, rfl, fun a hA => ?_⟩
  obtain ⟨A1, c1, rfl, hr1, hc1⟩ := ho.reads
  revert a; refine wo rfl rfl (by decide) (fun ev e h => by simp [go_sem, h] <;> rfl) ?_; intro a hA
  refine wl_new hA rfl rfl (by decide) (fun ev h => by simp [go_sem, h.get 7 rfl]; try first | exact ⟨rfl, rfl⟩ | rfl) fun w2 a (K : Blk _ _ _ _) hz2 hb2 hA => ?_
  have hz1 := hb1.size
  have hrd : RdAt w2 w1.heap.size l false := by
    refine ⟨A1, c1, K, hr1.below hb2, hc1, fun ad e => ?_⟩
    subst e
    obtain ⟨-, hn | ⟨g', cap, cur, e', _, k', _⟩⟩ := ho.row
    · injection hn.1 with e; cases e
    · injection e' with e _ _
      injection e with e
      subst e
      exact ⟨_, Blk.below k' hb2 (Array.getElem?_eq_some_iff.1 k').1⟩
  have HB := hb1.trans (hb2.mono hz1)
  have hw2 : FineG w.heap.size w2 := ⟨w, rfl, hw, HB⟩
  revert a; refine wo rfl rfl (by decide) (fun ev e h => by simp [go_sem, h] <;> rfl) ?_; intro a hA
  replace hA := hA.keepN [3]
  refine wN (nT (wS (wR ?_)))
  revert a; refine wo rfl rfl (by decide) (fun ev e h => by simp [go_sem, h] <;> rfl) ?_; intro a hA
  refine wl_call hA rfl rfl (by decide) (fun ev h => exec_call Tryz.func70 (by kernel_rfl) rfl (h.f _) (by first | (simp only [mL, h.get 9 rfl, h.c] <;> rfl) | (simp [mL, h.get 9 rfl, h.c] <;> rfl))) (both_any 10 (key_any 10 (by decide)) w1.heap.size l _ w.heap.size hrd hw2 hz1 hl ht) ?_
  rintro e w3 ⟨v, rfl, T3, l3, b3, h3, hs3, hf3, -, hR3⟩
  refine ⟨_, rfl, fun a hA => ?_⟩
  replace hR3 := hR3 rfl
  obtain ⟨f0, a0, c0, rfl⟩ := id hf3
  have HB3 := HB.trans ((T3.toBelow w.heap.size hz1 (by omega)))
  obtain ⟨A3, c3, K3, hr3, hc3, htk3⟩ := h3.ex
  revert a; refine wo rfl rfl (by decide) (fun ev e h => by simp [go_sem, h, K3.cell] <;> rfl) ?_; intro a hA
  replace hA := hA.keepN [3, 4]
  refine wN (nT (wS (wS (wR ?_))))
  revert a; (iterate 5 refine wo rfl rfl (by decide) (fun ev e h => by simp [go_sem, h, K3.cell] <;> rfl) ?_); (iterate 5 refine wg _ rfl rfl rfl rfl (by decide) (fun hq ev e h => by simp [go_sem, h, ↓gw_t (beq_t hq), K3.cell] <;> rfl) ?_); intro a hA
  replace hA := hA.keepN [4, 15, 20]
  revert a; refine wg _ rfl rfl rfl rfl (by decide) (fun hq ev e h => by simp [go_sem, h, ↓gw_t (beq_t hq), K3.cell] <;> rfl) ?_; refine wko rfl rfl (by decide) rfl rfl rfl ?_; intro a hA
  replace hA := hA.keepN [4, 22]
  refine wN (nT ?_)
  refine wp_if hA 22 _ rfl (fun hq => ?yR) (fun hq => ?nR)
  case yR =>
    refine wS (wR ?_)
    revert a; refine wo rfl rfl (by decide) (fun ev e h => by simp [go_sem, h, K3.cell] <;> rfl) ?_; intro a hA
    replace hA := hA.keepN [2]
    refine wN (nT (wp_ret (rT ?_)))
    refine ret_1 hA 2 rfl rfl ?_
    have hn : readP l = none := by
      unfold readP
      cases hb : bothP (keyP 10) l with
      | none => rfl
      | some p =>
        obtain ⟨ks, l4⟩ := p
        rw [hb] at hR3
        obtain ⟨rfl, rfl, -⟩ : b3 = false ∧ l3 = l4 ∧ _ := hR3
        cases l3 with
        | nil => simp at hq
        | cons t r => rfl
    rw [hn]
    exact ⟨_, rfl, HB3, rfl⟩
  case nR =>
    refine wp_skip (nT (wS (wR ?_)))
    revert a; (iterate 2 refine wo rfl rfl (by decide) (fun ev e h => by simp [go_sem, h, K3.cell] <;> rfl) ?_); intro a hA
    replace hA := hA.keepN [2]
    refine wN (nT (wp_ret ?_))
    refine ret_1 hA 2 rfl rfl ?_
    have hb30 : b3 = false ∧ l3 = [] := by
      cases b3 with
      | true => simp at hq
      | false =>
        cases l3 with
        | nil => exact ⟨rfl, rfl⟩
        | cons t r => simp at hq
    obtain ⟨rfl, rfl⟩ := hb30
    refine ⟨_, rfl, HB3, ?_⟩
    unfold readP
    cases hb : bothP (keyP 10) l with
    | none => rw [hb] at hR3; cases hR3
    | some p =>
      obtain ⟨ks, l4⟩ := p
      rw [hb] at hR3
      obtain ⟨-, rfl, hk⟩ := hR3
      exact ⟨hf3, hk.wide (by omega) (Nat.le_refl _)⟩
set_option maxRecDepth 100000 in
set_option maxHeartbeats 4000000 in
theorem right_any (A : Option Addr) (c : Nat) (l : List TokI) (w : World) (hr : RowR tokISh w A l) (hw : Fine w) (hl : l.length ≤ 50000000) (ht : ∀ t ∈ l, t.t.length ≤ 1048576) :
    Calls Tryz.prog 25 #[.slice A l.length c] w fun ev w' => ev = .returned (.bool (readP l).isSome) ∧ Below w.heap.size w w' := by
  refine calls_at 6 Tryz.func25 rfl rfl (Nat.le_of_ble_eq_true rfl) ?_
  intro a hA; replace hA := hA.norm
  refine wS (wR ?_)
  revert a; refine wo rfl rfl (by decide) (fun ev e h => by simp [go_sem, h] <;> rfl) ?_; intro a hA
  replace hA := hA.keepN [0]
  refine wN (nT (wS (wR ?_)))
  revert a; refine wo rfl rfl (by decide) (fun ev e h => by simp [go_sem, h] <;> rfl) ?_; intro a hA
  refine wl_call hA rfl rfl (by decide) (fun ev h => exec_call Tryz.func45 (by kernel_rfl) rfl (h.f _) (by first | (simp only [mL, h.get 3 rfl, h.c] <;> rfl) | (simp [mL, h.get 3 rfl, h.c] <;> rfl))) (read_any A c l w hr hw hl ht) ?_
  rintro e w1 ⟨v, rfl, hb1, hP⟩
  refine ⟨_, rfl, fun a hA => ?_⟩
  cases hk : readP l with
  | none =>
    rw [hk] at hP
    have hP : v = .nilFunc := hP
    subst hP
    revert a; (iterate 2 refine wo rfl rfl (by decide) (fun ev e h => by simp [go_sem, h] <;> rfl) ?_); intro a hA
    replace hA := hA.keepN [2]
    refine wN (nT (wp_ret ?_))
    refine ret_1 hA 2 rfl rfl ?_
    exact ⟨rfl, hb1⟩
  | some k =>
    rw [hk] at hP
    obtain ⟨⟨f0, a0, c0, rfl⟩, -⟩ := hP
    revert a; (iterate 2 refine wo rfl rfl (by decide) (fun ev e h => by simp [go_sem, h] <;> rfl) ?_); intro a hA
    replace hA := hA.keepN [2]
    refine wN (nT (wp_ret ?_))
    refine ret_1 hA 2 rfl rfl ?_
    exact ⟨rfl, hb1⟩
end Go.Proofs.YtjhaccmcjlbllaaGreatDoor
/-
  Messages and mailboxes: what they are in memory.
-/
namespace Go.Proofs.YtjhaccmcjlbllaaGreatDoor
open Go.RowKit
set_option linter.unusedSimpArgs false
set_option linter.unusedVariables false
structure MsgV where
  uid : Nat
  date : Int
  flags : Int
  a : Option Addr
  c : Nat
  b : List UInt8
def msgC (m : MsgV) : List Value := [.int .u32 (m.uid : Nat), .int .i64 m.date, .int .i64 m.flags, .slice m.a m.b.length m.c]
theorem msgC_len (m : MsgV) : (msgC m).length = 4 := rfl
/-- messages whose octets read -/
structure Msgs (w : World) (A : Option Addr) (n : Nat) (l : List MsgV) : Prop where
  len : l.length = n
  row : Reads w w.heap.size 4 A n (l.flatMap msgC)
  octs : ∀ m ∈ l, Reads w w.heap.size 1 m.a m.b.length (u8s m.b)
  uids : ∀ m ∈ l, m.uid < 4294967296
  caps : ∀ m ∈ l, m.b.length ≤ m.c ∧ m.c ≤ 9223372036854775807
theorem Msgs.below {w w' : World} {A : Option Addr} {n : Nat} {l : List MsgV} (h : Msgs w A n l) (hb : Below w.heap.size w w') : Msgs w' A n l :=
  ⟨h.len, (h.row.below hb).more hb.size, fun m hm => ((h.octs m hm).below hb).more hb.size, h.uids, h.caps⟩
theorem Msgs.at_ {w : World} {A : Option Addr} {n i : Nat} {l : List MsgV} {m : MsgV} (h : Msgs w A n l) (hm : l[i]? = some m) : ∃ ad, A = some ad ∧ (ad.add (i * 4)).block < w.heap.size ∧
    w.cell? (ad.add (i * 4)) = some (.int .u32 (m.uid : Nat)) ∧ w.cell? ⟨(ad.add (i * 4)).block, (ad.add (i * 4)).off + 1, none⟩ = some (.int .i64 m.date) ∧ w.cell? ⟨(ad.add (i * 4)).block, (ad.add (i * 4)).off + 2, none⟩ = some (.int .i64 m.flags) ∧ w.cell? ⟨(ad.add (i * 4)).block, (ad.add (i * 4)).off + 3, none⟩ = some (.slice m.a m.b.length m.c) := by
  have hlt := (List.getElem?_eq_some_iff.1 hm).1
  have := h.len
  obtain ⟨ad, e, hb, h0, hj⟩ := rowK_at msgC_len h.row (by omega) hm
  exact ⟨ad, e, by rw [block_of_add]; exact hb, h0 _ rfl, hj 1 _ (by omega) rfl, hj 2 _ (by omega) rfl, hj 3 _ (by omega) rfl⟩
/-- a mailbox's cells -/
def boxC (nm : ByteArray) (e nx : Nat) (A : Option Addr) (n c : Nat) : Array Value := #[.string nm, .int .u32 (e : Nat), .int .u32 (nx : Nat), .slice A n c]
end Go.Proofs.YtjhaccmcjlbllaaGreatDoor
/-
  Rows of messages.
-/
namespace Go.Proofs.YtjhaccmcjlbllaaGreatDoor
open Go.RowKit
set_option linter.unusedSimpArgs false
set_option linter.unusedVariables false
theorem msgC_one (x : MsgV) : ∀ u ∈ msgC x, u.oneCell' = true := by
  intro u hu
  unfold msgC at hu
  simp only [List.mem_cons, List.not_mem_nil, or_false] at hu
  rcases hu with rfl | rfl | rfl | rfl <;> rfl
def msgSh : Sh MsgV := ⟨25, 42, 4, 48, .agg #[.int .u32 0, .int .i64 0, .int .i64 0, .slice none 0 0], msgC, fun x => [(x.a, x.b)], fun _ => rfl, msgC_one, Tryz.underlying42, by kernel_rfl, rfl, by decide, by decide⟩
/-- a message, without addresses -/
def msgB (x : MsgV) : Nat × Int × Int × List UInt8 := (x.uid, x.date, x.flags, x.b)
end Go.Proofs.YtjhaccmcjlbllaaGreatDoor
/-
  bytes.Clone.
-/
namespace Go.Proofs.YtjhaccmcjlbllaaGreatDoor
open Go.RowKit
theorem clone_any (A : Option Addr) (n c : Nat) (l : List UInt8) (w : World) (hl : l.length = n) (hn : n ≤ 1000000000) (hr : Reads w w.heap.size 1 A n (u8s l)) :
    Calls Tryz.prog 90 #[.slice A n c] w fun e w' => ∃ v, e = .returned v ∧ w'.ownsRow w.heap.size 5 1 v n (u8s l) ∧ Below w.heap.size w w' := by
  cases A with
  | none =>
    obtain ⟨rfl, rfl⟩ := hr.empty8
    refine (Tryz.bytes_Clone_nil 0 c w).mono ?_
    rintro e w' ⟨rfl, rfl⟩
    exact ⟨_, rfl, World.ownsRow_nil _ _ _ _, Below.refl _ _⟩
  | some a =>
    refine (Tryz.bytes_Clone_at a n c (ints8 l) w (by simpa [ints8] using hl) (by omega) (ints8_at hl hr)).mono ?_
    rintro e w' ⟨v', rfl, ho, _, hb⟩
    refine ⟨v', rfl, ?_, hb⟩
    unfold ints8 at ho
    rw [List.map_map] at ho
    exact ho
end Go.Proofs.YtjhaccmcjlbllaaGreatDoor
/-
  Walks: a message's head is cut off (head.line, empty, Cut, bare, named).
-/
namespace Go.Proofs.YtjhaccmcjlbllaaGreatDoor
open Go.RowKit
set_option linter.unusedSimpArgs false
set_option linter.unusedVariables false
theorem line_index : ∀ b : List UInt8, lineS b = if Lib.indexByte b 10 = -1 then (b, []) else (b.take ((Lib.indexByte b 10).toNat + 1), b.drop ((Lib.indexByte b 10).toNat + 1))
  | [] => rfl
  | x :: r => by
    have hge := Lib.indexByte_ge r 10
    conv => lhs; unfold lineS
    unfold Lib.indexByte
    by_cases h : x = 10
    · subst h
      rfl
    · have h2 : (x == 10) = false := by simpa using h
      rw [if_neg h, h2, line_index r]
      by_cases h3 : Lib.indexByte r 10 = -1
      · simp [h3]
      · obtain ⟨i, hi⟩ : ∃ i : Nat, Lib.indexByte r 10 = i := ⟨(Lib.indexByte r 10).toNat, by omega⟩
        rw [hi] at h3 ⊢
        have e1 : ¬ ((((i : Nat) : Int) == -1) = true) := by rw [beq_iff_eq]; omega
        have e2 : ¬ (((i : Nat) : Int) + 1 = -1) := by omega
        have e3 : (((i : Nat) : Int) + 1).toNat = i + 1 := by omega
        rw [if_neg h3]
        simp only [Bool.false_eq_true, if_false]
        rw [if_neg e1, if_neg e2, e3, Int.toNat_natCast]
        rfl
theorem indexByte_lt {c : UInt8} : ∀ {b : List UInt8} {i : Nat}, Lib.indexByte b c = i → i < b.length
  | [], i, h => by
    have h : (-1 : Int) = i := h
    omega
  | x :: r, i, h => by
    have hge := Lib.indexByte_ge r c
    have h : (if x == c then 0 else if Lib.indexByte r c == -1 then -1 else Lib.indexByte r c + 1) = (i : Int) := h
    rw [List.length_cons]
    split at h
    · omega
    · split at h
      · omega
      · rename_i h9
        have h8 : ¬ Lib.indexByte r c = -1 := fun e => h9 (by rw [e]; rfl)
        have e : Lib.indexByte r c = ((i - 1 : Nat) : Int) := by omega
        have := indexByte_lt e
        omega
set_option maxRecDepth 100000 in
set_option maxHeartbeats 4000000 in
theorem line_any (ad : Addr) (n c : Nat) (b : List UInt8) (w : World) (hl : b.length = n) (h0 : 0 < n) (hnc : n ≤ c) (hn : c ≤ maxLen) (hr : Reads w w.heap.size 1 (some ad) n (u8s b)) : Calls Tryz.prog 88 #[.slice (some ad) n c] w fun ev w' => ∃ A2 c2, ev = .returned (.tuple #[.slice (some ad) (lineS b).1.length c, .slice A2 (lineS b).2.length c2]) ∧ (lineS b).2.length ≤ c2 ∧ c2 ≤ maxLen ∧ Reads w' w'.heap.size 1 A2 (lineS b).2.length (u8s (lineS b).2) ∧ (∀ a2, A2 = some a2 → a2.block = ad.block) ∧ Below w.heap.size w w' := by
  unfold maxLen at hn
  have hL := line_index b
  have hx : Lib.bytesOf (ints8 b) = b := bytesOf_ints8 b
  have hge := Lib.indexByte_ge b 10
  have hC := Tryz.bytes_IndexByte_at ad n c (ints8 b) 10 w (by simpa [ints8] using hl) (ints8_at hl hr)
  rw [hx] at hC
  obtain ⟨I, hI⟩ : ∃ I, Lib.indexByte b 10 = I := ⟨_, rfl⟩
  rw [show ((10 : Int).toNat.toUInt8) = 10 from rfl, hI] at hC
  rw [hI] at hL hge
  refine calls_at 18 Tryz.func88 rfl rfl (Nat.le_of_ble_eq_true rfl) ?_
  intro a hA; replace hA := hA.norm
  refine wS (wR ?_)
  revert a; (iterate 2 refine wo rfl rfl (by decide) (fun ev e h => by simp [go_sem, h] <;> rfl) ?_); intro a hA
  replace hA := hA.keepN [0]
  refine wN (nT (wS (wR ?_)))
  revert a; refine wo rfl rfl (by decide) (fun ev e h => by simp [go_sem, h] <;> rfl) ?_; intro a hA
  refine wl_call hA rfl rfl (by decide) (fun ev h => exec_call Tryz.func122 (by kernel_rfl) rfl (h.f _) (by first | (simp only [mL, h.get 5 rfl, h.c] <;> rfl) | (simp [mL, h.get 5 rfl, h.c] <;> rfl))) (hC) ?_
  rintro e w1 ⟨rfl, rfl⟩
  refine ⟨_, rfl, fun a hA => ?_⟩
  revert a; refine wo rfl rfl (by decide) (fun ev e h => by simp [go_sem, h] <;> rfl) ?_; intro a hA
  replace hA := hA.keepN [0, 4]
  refine wN (nT (wS (wS (wR ?_))))
  revert a; (iterate 2 refine wo rfl rfl (by decide) (fun ev e h => by simp [go_sem, h] <;> rfl) ?_); intro a hA
  replace hA := hA.keepN [0, 4, 8]
  refine wN (nT ?_)
  refine wp_if hA 8 _ rfl (fun hq => ?yA) (fun hq => ?nA)
  case yA =>
    have h1 : I = -1 := by simp at hq; omega
    rw [if_pos h1] at hL
    rw [hL]
    refine wS (wR ?_)
    revert a; (iterate 3 refine wo rfl rfl (by decide) (fun ev e h => by simp [go_sem, h] <;> rfl) ?_); intro a hA
    replace hA := hA.keepN [2, 3]
    refine wN (nT (wp_ret (rT ?_)))
    refine ret_2 hA 2 3 rfl rfl rfl ?_
    exact ⟨none, 0, by rw [hl]; rfl, Nat.le_refl _, Nat.zero_le _, Reads.none8, fun _ h => (by cases h), Below.refl _ _⟩
  case nA =>
    have h1 : ¬ I = -1 := by simp at hq; omega
    obtain ⟨i, hi⟩ : ∃ i : Nat, I = i := ⟨I.toNat, by omega⟩
    subst hi
    have hlt := indexByte_lt hI
    rw [if_neg h1, Int.toNat_natCast] at hL
    obtain ⟨k, hk⟩ : ∃ k, i + 1 = k := ⟨_, rfl⟩
    have hkn : k ≤ n := by omega
    rw [hk] at hL
    have hl1 : (lineS b).1.length = k := by rw [hL]; show (b.take k).length = k; rw [List.length_take]; omega
    have hl2 : (lineS b).2.length = n - k := by rw [hL]; show (b.drop k).length = _; rw [List.length_drop]; omega
    have hr2 := hr.drop8 (k := k) hkn hnc
    have e1 : IntKind.i64.wrap (((i : Nat) : Int) + 1) = ((k : Nat) : Int) := by rw [IntWalk.i64_in _ (by omega)]; omega
    have k1 : ((k : Nat) : Int) ≤ ((c : Nat) : Int) := by omega
    have k2 : ((k : Nat) : Int) ≤ ((n : Nat) : Int) := by omega
    have k3 : k ≤ n := hkn
    have k4 : k ≤ c := by omega
    have k5 : ((n : Nat) : Int) ≤ ((c : Nat) : Int) := by omega
    refine wp_skip (nT (wS ?_))
    refine wp_any_at hA [(.det ?dS0), (.det ?dS1), (.det ?dS2), (.det ?dS3), (.det ?dS4), (.det ?dS5), (.det ?dS6), (.det ?dS7), (.det ?dS8), (.det ?dS9)] [] (fun wy => Below w1.heap.size w1 wy) (TSp [] Grows) (by kernel_rfl) rfl (by kernel_rfl) (by kernel_rfl) rfl ((Below.refl _ _).drew) (stab_sp [] [true, true, true, true, true, true, true, true, true, true] [true, true, true, true, true, true, true, true, true, true] [] rfl rfl rfl (by kernel_rfl) ⟨trivial, trivial, trivial, trivial, trivial, trivial, trivial, trivial, trivial, trivial, trivial⟩ trivial) (fun _ h => by cases h) (fun _ _ _ _ _ h => by cases h) (fun _ h => by cases h) ⟨?oS0, ?oS1, ?oS2, ?oS3, ?oS4, ?oS5, ?oS6, ?oS7, ?oS8, ?oS9, trivial⟩ (by kernel_rfl) ?fS
    case oS0 => intro ev wo hev hC hs hph; have x0 := se hA hs 0; exact od rfl rfl (by kernel_rfl) hC (TSp.of rfl (Grows.refl _)) (by simp [go_sem, x0] <;> rfl)
    case oS1 => intro ev wo hev hC hs hph; have x0 := se hA hs 4; exact od rfl rfl (by kernel_rfl) hC (TSp.of rfl (Grows.refl _)) (by simp [go_sem, x0] <;> rfl)
    case oS2 => intro ev wo hev hC hs hph; have x0 := sd hs 11 1; exact od rfl rfl (by kernel_rfl) hC (TSp.of rfl (Grows.refl _)) (by simp [go_sem, x0, hev.const, e1] <;> rfl)
    case oS3 => intro ev wo hev hC hs hph; have x0 := sd hs 10 0; have x1 := sd hs 12 2; exact od rfl rfl (by kernel_rfl) hC (TSp.of rfl (Grows.refl _)) (by simp [go_sem, x0, x1, k1, k4] <;> rfl)
    case oS4 => intro ev wo hev hC hs hph; have x0 := se hA hs 0; exact od rfl rfl (by kernel_rfl) hC (TSp.of rfl (Grows.refl _)) (by simp [go_sem, x0] <;> rfl)
    case oS5 => intro ev wo hev hC hs hph; have x0 := se hA hs 4; exact od rfl rfl (by kernel_rfl) hC (TSp.of rfl (Grows.refl _)) (by simp [go_sem, x0] <;> rfl)
    case oS6 => intro ev wo hev hC hs hph; have x0 := sd hs 15 5; exact od rfl rfl (by kernel_rfl) hC (TSp.of rfl (Grows.refl _)) (by simp [go_sem, x0, hev.const, e1] <;> rfl)
    case oS7 => intro ev wo hev hC hs hph; have x0 := sd hs 14 4; have x1 := sd hs 16 6; exact od rfl rfl (by kernel_rfl) hC (TSp.of rfl (Grows.refl _)) (by simp [go_sem, x0, x1, k1, k2, k3, k4, k5] <;> rfl)
    case oS8 => intro ev wo hev hC hs hph; have x0 := sd hs 13 3; exact od rfl rfl (by kernel_rfl) hC (TSp.of rfl (Grows.refl _)) (by simp [go_sem, x0] <;> rfl)
    case oS9 => intro ev wo hev hC hs hph; have x0 := sd hs 17 7; exact od rfl rfl (by kernel_rfl) hC (TSp.of rfl (Grows.refl _)) (by simp [go_sem, x0] <;> rfl)
    intro sg wf hC hph
    intro a hA
    replace hA := hA.keepN [2, 3]
    refine nT (wp_ret ?_)
    refine ret_2 hA 2 3 rfl rfl rfl ?_
    refine ⟨_, _, by rw [hl1, hl2], by rw [hl2]; omega, ?_, ?_, ?_, hC⟩
    · show c - k ≤ 9223372036854775807
      omega
    · rw [hl2, show (lineS b).2 = b.drop k by rw [hL]]
      exact (hr2.below hC).more hC.size
    · intro a2 h
      split at h
      · injection h with h; rw [← h]
      · injection h with h; rw [← h]; exact block_of_add _ _
theorem line_take (b : List UInt8) : (lineS b).1 = b.take (lineS b).1.length := by
  have h := line_app b
  conv => rhs; rw [← h]
  rw [List.take_left' (by rw [h])]
set_option maxRecDepth 100000 in
set_option maxHeartbeats 4000000 in
theorem empty_any (A : Option Addr) (n c : Nat) (l : List UInt8) (w : World) (hl : l.length = n) (hr : Reads w w.heap.size 1 A n (u8s l)) : Calls Tryz.prog 89 #[.slice A n c] w fun ev w' => ev = .returned (.bool (emptyS l)) ∧ w' = w := by
  have hcv := conv_reads (c := c) hl hr
  obtain ⟨S, hS⟩ : ∃ S, (⟨l.toArray⟩ : ByteArray) = S := ⟨_, rfl⟩
  rw [hS] at hcv
  refine calls_at 11 Tryz.func89 rfl rfl (Nat.le_of_ble_eq_true rfl) ?_
  intro a hA; replace hA := hA.norm
  refine wS (wR ?_)
  revert a; refine wo rfl rfl (by decide) (fun ev e h => by simp [go_sem, h, hcv] <;> rfl) ?_; intro a hA
  replace hA := hA.keepN [0]
  refine wN (nT (wS (wR ?_)))
  revert a; refine wo rfl rfl (by decide) (fun ev e h => by simp [go_sem, h, hcv] <;> rfl) ?_; intro a hA
  refine wl_op hA rfl rfl (by decide) (fun ev h => by simp [go_sem, h.get 3 rfl, hcv]; try first | exact ⟨rfl, rfl⟩ | rfl) fun a hA => ?_
  revert a; (iterate 2 refine wo rfl rfl (by decide) (fun ev e h => by simp [go_sem, h, hcv] <;> rfl) ?_); refine wg _ rfl rfl rfl rfl (by decide) (fun hq ev e h => by simp [go_sem, h, ↓gw_t (beq_t hq), hcv] <;> rfl) ?_; intro a hA
  refine wl_guard _ hA rfl rfl rfl rfl (by decide) (fun hq ev h => by simp [go_sem, ((h.get 7 rfl).trans (gw_t (beq_t hq))), hcv]; try first | exact ⟨rfl, rfl⟩ | rfl) fun a hA => ?_
  revert a; refine wg _ rfl rfl rfl rfl (by decide) (fun hq ev e h => by simp [go_sem, h, ↓gw_t (beq_t hq), hcv] <;> rfl) ?_; refine wko rfl rfl (by decide) rfl rfl rfl ?_; refine wo rfl rfl (by decide) (fun ev e h => by simp [go_sem, h, hcv] <;> rfl) ?_; intro a hA
  replace hA := hA.keepN [2]
  refine wN (nT (wp_ret ?_))
  refine ret_1 hA 2 rfl rfl ?_
  refine ⟨ret_bool ?_, rfl⟩
  rw [← hS, ByteArray.toList_eq]
  rfl
set_option maxRecDepth 100000 in
set_option maxHeartbeats 4000000 in
theorem bare_any (A : Option Addr) (n c : Nat) (l : List UInt8) (w : World) (hl : l.length = n) (hn : n ≤ maxLen) (hr : Reads w w.heap.size 1 A n (u8s l)) : Calls Tryz.prog 93 #[.slice A n c] w fun ev w' => ev = .returned (.string (St (bareS l))) ∧ w' = w := by
  unfold maxLen at hn
  have hcv := conv_reads (c := c) hl hr
  have hle : (Lib.trimSuffix l [10]).length ≤ n := by
    unfold Lib.trimSuffix
    split
    · rw [List.length_take]; omega
    · omega
  refine calls_at 7 Tryz.func93 rfl rfl (Nat.le_of_ble_eq_true rfl) ?_
  intro a hA; replace hA := hA.norm
  refine wS (wR ?_)
  revert a; refine wo rfl rfl (by decide) (fun ev e h => by simp [go_sem, h, hcv] <;> rfl) ?_; intro a hA
  replace hA := hA.keepN [0]
  refine wN (nT (wS (wR ?_)))
  revert a; refine wo rfl rfl (by decide) (fun ev e h => by simp [go_sem, h, hcv] <;> rfl) ?_; intro a hA
  refine wl_op hA rfl rfl (by decide) (fun ev h => by simp [go_sem, h.get 3 rfl, hcv]; try first | exact ⟨rfl, rfl⟩ | rfl) fun a hA => ?_
  refine wl_call hA rfl rfl (by decide) (fun ev h => exec_call Tryz.func125 (by kernel_rfl) rfl (h.f _) (by first | (simp only [mL, h.get 4 rfl, h.c] <;> rfl) | (simp [mL, h.get 4 rfl, h.c, hcv] <;> rfl))) (Tryz.strings_TrimSuffix (St l) (St [10]) w (by show l.length ≤ _; omega)) ?_
  rintro e w1 ⟨rfl, rfl⟩
  refine ⟨_, rfl, fun a hA => ?_⟩
  refine wl_call hA rfl rfl (by decide) (fun ev h => exec_call Tryz.func125 (by kernel_rfl) rfl (h.f _) (by first | (simp only [mL, h.get 5 rfl, h.c] <;> rfl) | (simp [mL, h.get 5 rfl, h.c, hcv] <;> rfl))) (Tryz.strings_TrimSuffix (St (Lib.trimSuffix l [10])) (St [13]) _ (by show (Lib.trimSuffix l [10]).length ≤ _; omega)) ?_
  rintro e w2 ⟨rfl, rfl⟩
  refine ⟨_, rfl, fun a hA => ?_⟩
  revert a; refine wo rfl rfl (by decide) (fun ev e h => by simp [go_sem, h, hcv] <;> rfl) ?_; intro a hA
  replace hA := hA.keepN [2]
  refine wN (nT (wp_ret ?_))
  refine ret_1 hA 2 rfl rfl ?_
  exact ⟨rfl, rfl⟩
theorem sign_int (x : UInt8) : (decide (((x.toNat : Nat) : Int) < 33) || decide ((126 : Int) < ((x.toNat : Nat) : Int))) = !signB x := by
  unfold signB
  rw [show decide (((x.toNat : Nat) : Int) < 33) = !decide (33 ≤ x.toNat) by rw [Bool.eq_iff_iff]; simp; omega, show decide ((126 : Int) < ((x.toNat : Nat) : Int)) = !decide (x.toNat ≤ 126) by rw [Bool.eq_iff_iff]; simp; omega]
  cases decide (33 ≤ x.toNat) <;> cases decide (x.toNat ≤ 126) <;> rfl
set_option maxRecDepth 100000 in
set_option maxHeartbeats 4000000 in
theorem named_any (s : List UInt8) (w : World) (hs : s.length ≤ maxLen) : Calls Tryz.prog 94 #[.string (St s)] w fun ev w' => ev = .returned (.bool (namedB s)) ∧ w' = w := by
  unfold maxLen at hs
  have hsz : (St s).size = s.length := rfl
  refine calls_at 22 Tryz.func94 rfl rfl (Nat.le_of_ble_eq_true rfl) ?_
  intro a hA; replace hA := hA.norm
  refine wS (wR ?_)
  revert a; refine wo rfl rfl (by decide) (fun ev e h => by simp [go_sem, h, hsz] <;> rfl) ?_; intro a hA
  replace hA := hA.keepN [0]
  refine wN (nT (wS (wS (wR ?_))))
  revert a; (iterate 3 refine wo rfl rfl (by decide) (fun ev e h => by simp [go_sem, h, hsz] <;> rfl) ?_); intro a hA
  replace hA := hA.keepN [0, 5, 6]
  refine wN (nT (wB ?_))
  refine wp_loop_at (fun f a wx => ∃ j : Nat, j + f = s.length ∧ (∀ x ∈ s.take j, signB x = true) ∧ wx = w ∧ At 22 [(0, .string (St s)), (5, .int .i64 (s.length : Nat)), (6, .int .i64 (j : Nat))] a) (s.length) ?_ ?_
  · exact ⟨0, by omega, fun _ h => (by cases h), rfl, hA⟩
  clear hA
  rintro f a wx ⟨j, hjf, hpl, rfl, hA⟩
  refine wS (wR ?_)
  revert a; refine wo rfl rfl (by decide) (fun ev e h => by simp [go_sem, h, hsz] <;> rfl) ?_; intro a hA
  replace hA := hA.keepN [0, 5, 6, 7]
  refine wN (nT (wS ?_))
  refine wp_if hA 7 _ rfl (fun hq => ?yA) (fun hq => ?nA)
  case yA =>
    have hjn : j < s.length := by simp at hq; omega
    obtain ⟨x, hx⟩ : ∃ x, s[j]? = some x := ⟨_, List.getElem?_eq_getElem hjn⟩
    have g1 : ∀ h : j < (St s).size, (St s)[j] = x := fun h => (List.getElem?_eq_some_iff.1 hx).2
    have i1 : IntKind.i64.wrap ((j : Nat) : Int) = ((j : Nat) : Int) := IntWalk.i64_in _ (by omega)
    have i3 : IntKind.i64.wrap (((j : Nat) : Int) + 1) = ((j + 1 : Nat) : Int) := by rw [IntWalk.i64_in _ (by omega)]; omega
    refine wp_skip (nT (wS (wB (wS (wR ?_)))))
    revert a; (iterate 2 refine wo rfl rfl (by decide) (fun ev e h => by simp [go_sem, h, hsz, g1, i1, hjn] <;> rfl) ?_); intro a hA
    replace hA := hA.keepN [0, 3, 5, 6]
    refine wN (nT (wS (wR ?_)))
    revert a; (iterate 5 refine wo rfl rfl (by decide) (fun ev e h => by simp [go_sem, h, hsz, g1, i1, hjn] <;> rfl) ?_); (iterate 4 refine wg _ rfl rfl rfl rfl (by decide) (fun hq ev e h => by simp [go_sem, h, ↓gw_t (beq_t hq), hsz, g1, i1, hjn] <;> rfl) ?_); refine wko rfl rfl (by decide) rfl rfl rfl ?_; intro a hA
    replace hA := hA.keepN [0, 5, 6, 18]
    refine wN (nT ?_)
    refine wp_if hA 18 _ rfl (fun hq2 => ?yB) (fun hq2 => ?nB)
    case yB =>
      rw [sign_int] at hq2
      have hp : signB x = false := by simpa using hq2
      have hn : namedB s = false := by
        unfold namedB
        rw [show s.all signB = false from Bool.eq_false_iff.2 fun ha => (by
          rw [List.all_eq_true.1 ha x (List.mem_of_getElem? hx)] at hp
          cases hp), Bool.and_false]
      refine wS (wR ?_)
      revert a; refine wo rfl rfl (by decide) (fun ev e h => by simp [go_sem, h, hsz, g1, i1, hjn] <;> rfl) ?_; intro a hA
      replace hA := hA.keepN [2]
      refine wN (nT (wp_ret (rB (rT (rT (rB (rT ?_)))))))
      refine ret_1 hA 2 rfl rfl ?_
      exact ⟨ret_bool hn.symm, rfl⟩
    case nB =>
      rw [sign_int] at hq2
      have hp : signB x = true := by simpa using hq2
      refine wp_skip (nB (nT (wR ?_)))
      revert a; (iterate 2 refine wo rfl rfl (by decide) (fun ev e h => by simp [go_sem, h, i3] <;> rfl) ?_); intro a hA
      replace hA := hA.keepN [0, 5, 6]
      refine wN (nT ?_)
      refine ⟨f - 1, by omega, j + 1, by omega, fun y hy => ?_, rfl, hA⟩
      rw [List.take_add_one, hx] at hy
      rcases List.mem_append.1 hy with h | h
      · exact hpl y h
      · rw [List.mem_singleton.1 h]; exact hp
  case nA =>
    have hjn : s.length ≤ j := by simp at hq; omega
    rw [List.take_of_length_le hjn] at hpl
    replace hA := hA.keepN [0]
    refine wp_exit (xT (xT (xB (nT (wS (wR ?_))))))
    revert a; (iterate 3 refine wo rfl rfl (by decide) (fun ev e h => by simp [go_sem, h, hsz] <;> rfl) ?_); intro a hA
    replace hA := hA.keepN [2]
    refine wN (nT (wp_ret ?_))
    refine ret_1 hA 2 rfl rfl ?_
    refine ⟨ret_bool ?_, rfl⟩
    unfold namedB
    rw [List.all_eq_true.2 hpl, Bool.and_true]
end Go.Proofs.YtjhaccmcjlbllaaGreatDoor
/-
  Walk: head.Cut.
-/
namespace Go.Proofs.YtjhaccmcjlbllaaGreatDoor
open Go.RowKit
set_option linter.unusedSimpArgs false
set_option linter.unusedVariables false
set_option maxRecDepth 100000 in
set_option maxHeartbeats 4000000 in
theorem cut_any (A : Option Addr) (n c : Nat) (b : List UInt8) (w : World) (hl : b.length = n) (hnc : n ≤ c) (hc : c ≤ maxLen) (hn : n ≤ 1000000000) (hr : Reads w w.heap.size 1 A n (u8s b)) : Calls Tryz.prog 62 #[.slice A n c] w fun ev w' => ∃ v1 v2, ev = .returned (.tuple #[v1, v2]) ∧ Own8 w.heap.size w' v1 (headS b) ∧ Own8 w.heap.size w' v2 (bodyH b) ∧ Below w.heap.size w w' := by
  refine calls_at 33 Tryz.func62 rfl rfl (Nat.le_of_ble_eq_true rfl) ?_
  intro a hA; replace hA := hA.norm
  refine wS (wR ?_)
  revert a; (iterate 2 refine wo rfl rfl (by decide) (fun ev e h => by simp [go_sem, h] <;> rfl) ?_); intro a hA
  replace hA := hA.keepN [0]
  refine wN (nT (wS (wR ?_)))
  revert a; (iterate 2 refine wo rfl rfl (by decide) (fun ev e h => by simp [go_sem, h] <;> rfl) ?_); intro a hA
  replace hA := hA.keepN [0, 4]
  refine wN (nT (wS (wB ?_)))
  refine wp_loop_at (fun f a wx => ∃ (l1 rest : List UInt8) (A2 : Option Addr) (c2 : Nat), b = l1 ++ rest ∧ rest.length ≤ f ∧ rest.length ≤ c2 ∧ c2 ≤ maxLen ∧ cutS b.length b = (l1 ++ (cutS rest.length rest).1, (cutS rest.length rest).2) ∧ Reads wx wx.heap.size 1 A2 rest.length (u8s rest) ∧ Below w.heap.size w wx ∧ At 33 [(0, .slice A n c), (4, .slice A2 rest.length c2)] a) (n) ?_ ?_
  · refine ⟨[], b, A, c, rfl, by omega, by omega, hc, rfl, by rw [hl]; exact hr, Below.refl _ _, ?_⟩
    rw [hl]
    exact hA
  clear hA
  rintro f a wx ⟨l1, rest, A2, c2, hb, hrf, hrc, hc2, hcut, hr2, HB, hA⟩
  have hbl := congrArg List.length hb
  rw [List.length_append] at hbl
  refine wS (wS (wR ?_))
  revert a; (iterate 3 refine wo rfl rfl (by decide) (fun ev e h => by simp [go_sem, h] <;> rfl) ?_); intro a hA
  replace hA := hA.keepN [0, 4, 10]
  refine wN (nT ?_)
  refine wp_if hA 10 _ rfl (fun hq => ?yA) (fun hq => ?nA)
  case nA =>
    have h0 : rest = [] := by simpa using hq
    subst h0
    have hH : headS b = b := by unfold headS; rw [hcut, hb]; rfl
    have hBd : bodyH b = [] := by unfold bodyH; rw [hcut]; rfl
    have hBx := HB.size
    replace hA := hA.keepN [0]
    refine wp_exit (xT (xT (xB (nT (wS (wR ?_))))))
    revert a; refine wo rfl rfl (by decide) (fun ev e h => by simp [go_sem, h] <;> rfl) ?_; intro a hA
    refine wl_call hA rfl rfl (by decide) (fun ev h => exec_call Tryz.func90 (by kernel_rfl) rfl (h.f _) (by first | (simp only [mL, h.get 31 rfl, h.c] <;> rfl) | (simp [mL, h.get 31 rfl, h.c] <;> rfl))) (clone_any A n c b _ hl hn ((hr.below HB).more HB.size)) ?_
    rintro e w1 ⟨v, rfl, ho, hb1⟩
    refine ⟨_, rfl, fun a hA => ?_⟩
    replace HB := HB.trans (hb1.mono HB.size)
    revert a; (iterate 2 refine wo rfl rfl (by decide) (fun ev e h => by simp [go_sem, h] <;> rfl) ?_); intro a hA
    replace hA := hA.keepN [2, 3]
    refine wN (nT (wp_ret ?_))
    refine ret_2 hA 2 3 rfl rfl rfl ?_
    rw [hH, hBd]
    exact ⟨_, _, rfl, Own8.mono (Own8.of ho) hBx, Own8.nil _, HB⟩
  case yA =>
    have h0 : 0 < rest.length := by simpa using hq
    have hne : rest ≠ [] := fun e => by rw [e] at h0; simp at h0
    obtain ⟨ad, rfl, hadl, _⟩ := hr2.2 h0
    have hll := line_len rest
    have hlp := line_pos hne
    refine wp_skip (nT (wB (wS (wR ?_))))
    revert a; refine wo rfl rfl (by decide) (fun ev e h => by simp [go_sem, h] <;> rfl) ?_; intro a hA
    replace hA := hA.keepN [0, 4]
    refine wN (nT (wS (wR ?_)))
    revert a; refine wo rfl rfl (by decide) (fun ev e h => by simp [go_sem, h] <;> rfl) ?_; intro a hA
    refine wl_call hA rfl rfl (by decide) (fun ev h => exec_call Tryz.func88 (by kernel_rfl) rfl (h.f _) (by first | (simp only [mL, h.get 12 rfl, h.c] <;> rfl) | (simp [mL, h.get 12 rfl, h.c] <;> rfl))) (line_any ad rest.length c2 rest _ rfl h0 hrc hc2 hr2) ?_
    rintro e w1 ⟨A3, c3, rfl, hrc3, hc3, hr3, -, hb1⟩
    refine ⟨_, rfl, fun a hA => ?_⟩
    replace HB := HB.trans (hb1.mono HB.size)
    replace hr2 := (hr2.below hb1).more hb1.size
    have hrl : Reads w1 w1.heap.size 1 (some ad) (lineS rest).1.length (u8s (lineS rest).1) := by
      have := hr2.take8 (k := (lineS rest).1.length) (by omega)
      rwa [← line_take] at this
    obtain ⟨ln, hln⟩ : ∃ ln, (lineS rest).1 = ln := ⟨_, rfl⟩
    obtain ⟨rs, hrs⟩ : ∃ rs, (lineS rest).2 = rs := ⟨_, rfl⟩
    have happ := line_app rest
    rw [hln, hrs] at happ hll
    rw [hln] at hlp hrl hA
    rw [hrs] at hrc3 hr3 hA
    obtain ⟨fr, hfr⟩ : ∃ fr, rest.length = fr + 1 := ⟨rest.length - 1, by omega⟩
    have hstep : cutS rest.length rest = if emptyS ln = true then (ln, rs) else (ln ++ (cutS rs.length rs).1, (cutS rs.length rs).2) := by
      rw [hfr]
      conv => lhs; unfold cutS
      rw [if_neg hne, hln, hrs, cut_fuel fr rs.length rs (by omega) (Nat.le_refl _)]
      by_cases he : emptyS ln = true
      · rw [if_pos he, if_pos he, ← hln, ← hrs]
      · rw [if_neg he, if_neg he]
    revert a; (iterate 5 refine wo rfl rfl (by decide) (fun ev e h => by simp [go_sem, h] <;> rfl) ?_); intro a hA
    replace hA := hA.keepN [0, 4, 5]
    refine wN (nT (wS (wR ?_)))
    revert a; refine wo rfl rfl (by decide) (fun ev e h => by simp [go_sem, h] <;> rfl) ?_; intro a hA
    refine wl_call hA rfl rfl (by decide) (fun ev h => exec_call Tryz.func89 (by kernel_rfl) rfl (h.f _) (by first | (simp only [mL, h.get 16 rfl, h.c] <;> rfl) | (simp [mL, h.get 16 rfl, h.c] <;> rfl))) (empty_any (some ad) ln.length c2 ln _ rfl hrl) ?_
    rintro e w2 ⟨rfl, rfl⟩
    refine ⟨_, rfl, fun a hA => ?_⟩
    replace hA := hA.keepN [0, 4, 17]
    refine wN (nT ?_)
    refine wp_if hA 17 _ rfl (fun hq2 => ?yB) (fun hq2 => ?nB)
    case yB =>
      rw [if_pos hq2] at hstep
      rw [hstep] at hcut
      have hH : headS b = l1 ++ ln := by unfold headS; rw [hcut]
      have hBd : bodyH b = rs := by unfold bodyH; rw [hcut]
      obtain ⟨k, hk⟩ : ∃ k, (l1 ++ ln).length = k := ⟨_, rfl⟩
      have hk2 : l1.length + ln.length = k := by rw [← hk, List.length_append]
      have i1 : IntKind.i64.wrap (((n : Nat) : Int) - ((rs.length : Nat) : Int)) = ((k : Nat) : Int) := by unfold maxLen at *; rw [IntWalk.i64_in _ (by omega)]; omega
      have hkn : k ≤ n := by omega
      have hkc : k ≤ c := by omega
      have k1 : ((k : Nat) : Int) ≤ ((c : Nat) : Int) := by omega
      have k2 : ((k : Nat) : Int) ≤ ((n : Nat) : Int) := by omega
      have k5 : ((n : Nat) : Int) ≤ ((c : Nat) : Int) := by omega
      have hbk : b.take k = l1 ++ ln := by rw [hb, ← happ, ← List.append_assoc, ← hk, List.take_left' rfl]
      have hbd : b.drop k = rs := by rw [hb, ← happ, ← List.append_assoc, ← hk, List.drop_left' rfl]
      have hR1 := ((hr.below HB).more HB.size).take8 (k := k) hkn
      have hR2 := ((hr.below HB).more HB.size).drop8 (k := k) hkn hnc
      rw [hbk] at hR1
      rw [hbd] at hR2
      obtain ⟨A5, hA5⟩ : ∃ A5, (if c = k then A else A.map (·.add k)) = A5 := ⟨_, rfl⟩
      have hrsl : rs.length = n - k := by omega
      rw [hA5] at hR2
      refine wS (wR ?_)
      revert a; (iterate 6 refine wo rfl rfl (by decide) (fun ev e h => by simp [go_sem, h, i1] <;> rfl) ?_); intro a hA
      replace hA := hA.keepN [0, 6]
      refine wN (nT (wS ?_))
      refine wp_any_at hA [(.det ?dS0), (.det ?dS1), (.det ?dS2), (.held (fun v wy => Own8 w2.heap.size wy v (l1 ++ ln))), (.det ?dS4), (.det ?dS5), (.det ?dS6), (.held (fun v wy => Own8 w2.heap.size wy v (rs))), (.held (fun v wy => Own8 w2.heap.size wy v (l1 ++ ln))), (.held (fun v wy => Own8 w2.heap.size wy v (rs)))] [] (fun wy => Below w2.heap.size w2 wy) (TSp [] Grows) (by kernel_rfl) rfl (by kernel_rfl) (by kernel_rfl) rfl ((Below.refl _ _).drew) (stab_sp [] [true, true, true, false, true, true, true, false, false, false] [true, true, true, true, true, true, true, true, true, true] [] rfl rfl rfl (by kernel_rfl) ⟨trivial, trivial, trivial, (fun _ _ _ _ hp hb => hp.below hb), trivial, trivial, trivial, (fun _ _ _ _ hp hb => hp.below hb), (fun _ _ _ _ hp hb => hp.below hb), (fun _ _ _ _ hp hb => hp.below hb), trivial⟩ trivial) (fun _ h => by cases h) (fun _ _ _ _ _ h => by cases h) (fun _ h => by cases h) ⟨?oS0, ?oS1, ?oS2, ?oS3, ?oS4, ?oS5, ?oS6, ?oS7, ?oS8, ?oS9, trivial⟩ (by kernel_rfl) ?fS
      case oS0 => intro ev wo hev hC hs hph; have x0 := se hA hs 0; exact od rfl rfl (by kernel_rfl) hC (TSp.of rfl (Grows.refl _)) (by simp [go_sem, x0] <;> rfl)
      case oS1 => intro ev wo hev hC hs hph; have x0 := se hA hs 6; exact od rfl rfl (by kernel_rfl) hC (TSp.of rfl (Grows.refl _)) (by simp [go_sem, x0] <;> rfl)
      case oS2 => intro ev wo hev hC hs hph; have x0 := sd hs 23 0; have x1 := sd hs 24 1; exact od rfl rfl (by kernel_rfl) hC (TSp.of rfl (Grows.refl _)) (by simp [go_sem, x0, x1, k1, hkc, hkn] <;> rfl)
      case oS3 =>
        intro ev wo hev hC hs hph
        have e25 := sd hs 25 2
        exact ob_yes (wanted_none rfl) (does_enter (exec_call Tryz.func90 (by kernel_rfl) rfl (hev.func _) (by first | (simp only [mL, e25, hev.const] <;> rfl) | (simp [mL, e25, hev.const] <;> rfl))) (Calls.mono (clone_any A k c (l1 ++ ln) _ hk (by omega) ((hR1.below hC).more hC.size)) (by
          rintro ev2 w3 ⟨r, rfl, ho, hb3⟩
          exact ⟨r, rfl, hC.trans (hb3.mono hC.size), TSp.of rfl hb3, (Own8.of ho).mono hC.size, no_start (by kernel_rfl)⟩)))
      case oS4 => intro ev wo hev hC hs hph; have x0 := se hA hs 0; exact od rfl rfl (by kernel_rfl) hC (TSp.of rfl (Grows.refl _)) (by simp [go_sem, x0] <;> rfl)
      case oS5 => intro ev wo hev hC hs hph; have x0 := se hA hs 6; exact od rfl rfl (by kernel_rfl) hC (TSp.of rfl (Grows.refl _)) (by simp [go_sem, x0] <;> rfl)
      case oS6 => intro ev wo hev hC hs hph; have x0 := sd hs 27 4; have x1 := sd hs 28 5; exact od rfl rfl (by kernel_rfl) hC (TSp.of rfl (Grows.refl _)) (by simp [go_sem, x0, x1, k1, k2, hkc, hkn, k5, hA5] <;> rfl)
      case oS7 =>
        intro ev wo hev hC hs hph
        have e29 := sd hs 29 6
        exact ob_yes (wanted_none rfl) (does_enter (exec_call Tryz.func90 (by kernel_rfl) rfl (hev.func _) (by first | (simp only [mL, e29, hev.const] <;> rfl) | (simp [mL, e29, hev.const] <;> rfl))) (Calls.mono (clone_any A5 (n - k) (c - k) rs _ hrsl (by omega) ((hR2.below hC).more hC.size)) (by
          rintro ev2 w3 ⟨r, rfl, ho, hb3⟩
          exact ⟨r, rfl, hC.trans (hb3.mono hC.size), TSp.of rfl hb3, (Own8.of ho).mono hC.size, no_start (by kernel_rfl)⟩)))
      case oS8 =>
        intro ev wo hev hC hs hph
        have u26 := sh hs 26 3
        exact ob_yes (wanted_none rfl) (does_value (v := ev (.tmp 26)) (by simp [go_sem]) ⟨hC, TSp.of rfl (Grows.refl _), u26, no_start (by kernel_rfl)⟩)
      case oS9 =>
        intro ev wo hev hC hs hph
        have u30 := sh hs 30 7
        exact ob_yes (wanted_none rfl) (does_value (v := ev (.tmp 30)) (by simp [go_sem]) ⟨hC, TSp.of rfl (Grows.refl _), u30, no_start (by kernel_rfl)⟩)
      intro sg wf hC hph
      intro x26 hx26 h26
      intro x30 hx30 h30
      intro x2 hx2 h2
      intro x3 hx3 h3
      intro a hA
      replace hA := hA.keepN [2, 3]
      refine nT (wp_ret (rB (rT (rB (rT ?_)))))
      refine ret_2 hA 2 3 rfl rfl rfl ?_
      rw [hH, hBd]
      exact ⟨_, _, rfl, h2.mono HB.size, h3.mono HB.size, HB.trans (hC.mono HB.size)⟩
    case nB =>
      rw [if_neg (by rw [hq2]; decide)] at hstep
      rw [hstep] at hcut
      replace hA := hA.keepN [0, 4]
      refine wp_skip (nB (nT ?_))
      exact ⟨f - 1, by omega, l1 ++ ln, rs, A3, c3, by rw [hb, ← happ, List.append_assoc], by omega, hrc3, hc3, by rw [hcut, List.append_assoc], hr3, HB, hA⟩
end Go.Proofs.YtjhaccmcjlbllaaGreatDoor
/-
  Walk: head.fields.
-/
namespace Go.Proofs.YtjhaccmcjlbllaaGreatDoor
open Go.RowKit
set_option linter.unusedSimpArgs false
set_option linter.unusedVariables false
def fieldSh : Sh FieldS := ⟨126, 123, 2, 32, .agg #[.string ⟨#[]⟩, .string ⟨#[]⟩], fun x => [.string (St x.n), .string (St x.v)], fun _ => [], fun _ => rfl, fun x u hu => by
  simp only [List.mem_cons, List.not_mem_nil, or_false] at hu
  rcases hu with rfl | rfl <;> rfl, Tryz.underlying123, by kernel_rfl, rfl, by decide, by decide⟩
theorem app_field {B g : Nat} {w : World} {v : Value} {us : List FieldS} {u : FieldS} (ho : OwnR fieldSh B w v us) (K : Blk w g 126 #[.string (St u.n), .string (St u.v)]) (hlen : us.length ≤ 10000000) (hB : B ≤ w.heap.size) :
    ∃ r w', (Builtin.append_ #[123, 123] 123 #[v, .slice (some ⟨g, 0, none⟩) 1 1]).run Tryz.prog w = .ok r w' ∧ OwnR fieldSh B w' r (us ++ [u]) ∧ w.grownBy w' v.ownBlock := by
  have hrow : RowR fieldSh w (some ⟨g, 0, none⟩) [u] := rowR_blk (s := fieldSh) (x := u) K fun p hp' => by cases hp'
  obtain ⟨r, w', hr, ho', hg, -⟩ := run_appR (c := 1) ho hrow (fun g' hg' m hm p hp' => by cases hp') (by simp; omega) hB
  exact ⟨r, w', hr, ho', hg⟩
theorem addLast_snoc (ys : List FieldS) (x : FieldS) (s : List UInt8) : addLast (ys ++ [x]) s = ys ++ [⟨x.n, x.v ++ s⟩] := by
  unfold addLast
  rw [List.getLast?_concat]
  show (ys ++ [x]).dropLast ++ [_] = _
  rw [List.dropLast_concat]
theorem addLast_nil (s : List UInt8) : addLast [] s = [] := rfl
theorem addLast_set {l : List FieldS} {x : FieldS} {k : Nat} (hx : l[k]? = some x) (hk : l.length = k + 1) (s : List UInt8) : addLast l s = l.set k ⟨x.n, x.v ++ s⟩ := by
  have hl : l.getLast? = some x := by rw [List.getLast?_eq_getElem?, hk]; exact hx
  obtain ⟨ys, rfl⟩ := List.getLast?_eq_some_iff.1 hl
  have hd : ys.length = k := by rw [List.length_append] at hk; simpa using hk
  rw [addLast_snoc, List.set_append_right _ _ (by omega), hd, Nat.sub_self]
  rfl
theorem addLast_len (l : List FieldS) (s : List UInt8) : (addLast l s).length = l.length := by
  rcases List.eq_nil_or_concat l with e | ⟨ys, x, e⟩
  · rw [e]; rfl
  · rw [e, List.concat_eq_append, addLast_snoc]
    simp
theorem bare_len (l : List UInt8) : (bareS l).length ≤ l.length := by
  have h1 : ∀ a b : List UInt8, (Lib.trimSuffix a b).length ≤ a.length := fun a b => by
    unfold Lib.trimSuffix
    split
    · rw [List.length_take]; omega
    · omega
  exact Nat.le_trans (h1 _ _) (h1 _ _)
/-- how long all values are -/
def sumV : List FieldS → Nat
  | [] => 0
  | x :: r => x.v.length + sumV r
theorem sumV_app (a b : List FieldS) : sumV (a ++ b) = sumV a + sumV b := by
  induction a with
  | nil => simp [sumV]
  | cons x a ih =>
    show x.v.length + sumV (a ++ b) = x.v.length + sumV a + sumV b
    rw [ih]; omega
theorem sumV_mem : ∀ {l : List FieldS} {x : FieldS}, x ∈ l → x.v.length ≤ sumV l
  | [], x, h => by cases h
  | y :: r, x, h => by
    unfold sumV
    rcases List.mem_cons.1 h with e | h
    · rw [e]; omega
    · have := sumV_mem h; omega
theorem sumV_add (l : List FieldS) (s : List UInt8) : sumV (addLast l s) ≤ sumV l + s.length := by
  rcases List.eq_nil_or_concat l with e | ⟨ys, x, e⟩
  · rw [e]; exact Nat.zero_le _
  · rw [e, List.concat_eq_append, addLast_snoc, sumV_app, sumV_app]
    show sumV ys + ((x.v ++ s).length + 0) ≤ sumV ys + (x.v.length + 0) + s.length
    rw [List.length_append]
    omega
theorem own_readsM {w : World} {base n size : Nat} {e : TypeId} {v : Value} {xs : List Value} (h : w.ownsRow base e size v n xs) : ∃ A c, v = .slice A n c ∧ Reads w w.heap.size size A n xs ∧ n ≤ c ∧ c ≤ maxLen := by
  obtain ⟨A, c, hv, hr, hc⟩ := own_reads h
  refine ⟨A, c, hv, hr, hc, ?_⟩
  rcases h.2 with ⟨e, _⟩ | ⟨g, cap, cur, e, _, _, _, h4, _⟩
  · rw [hv] at e
    injection e with _ _ e3
    subst e3
    exact Nat.zero_le _
  · rw [hv] at e
    injection e with _ _ e3
    rw [e3]
    exact h4
theorem cut_len58 (s : List UInt8) : (Lib.cut s [58]).1.length ≤ s.length ∧ (Lib.cut s [58]).2.1.length ≤ s.length := by
  unfold Lib.cut
  split
  · show (s.take _).length ≤ _ ∧ (s.drop _).length ≤ _
    rw [List.length_take, List.length_drop]
    omega
  · exact ⟨Nat.le_refl _, Nat.zero_le _⟩
theorem blank_eq {s : List UInt8} {x0 : UInt8} (h : s.headD 0 = x0) : blankB s = (!s.isEmpty && (((x0.toNat : Nat) : Int) == 32 || ((x0.toNat : Nat) : Int) == 9)) := by
  cases s with
  | nil => rfl
  | cons y t =>
    have h : y = x0 := h
    subst h
    rw [show (((y.toNat : Nat) : Int) == 32) = (y == 32) from u8_eq y 32 (by decide), show (((y.toNat : Nat) : Int) == 9) = (y == 9) from u8_eq y 9 (by decide)]
    unfold blankB
    simp
theorem step_blank {l : List FieldS} {q : Bool} {s : List UInt8} (h : blankB s = true) : stepF (l, q) s = (if q = true then (addLast l s, true) else (l, false)) := by unfold stepF; rw [if_pos h]
theorem step_named {l : List FieldS} {q : Bool} {s : List UInt8} (h : blankB s = false) : stepF (l, q) s = (if ((Lib.cut s [58]).2.2 && namedB (Lib.cut s [58]).1) = true then (l ++ [⟨(Lib.cut s [58]).1, (Lib.cut s [58]).2.1⟩], true) else (l, false)) := by unfold stepF; rw [if_neg (by rw [h]; decide)]
theorem row_ne8 {w : World} {B B2 : Nat} {v v2 : Value} {l : List FieldS} {m : List UInt8} {g : Nat} (ho : OwnR fieldSh B w v l) (ho2 : Own8 B2 w v2 m) (h : v.ownBlock = some g) (h2 : v2.ownBlock = some g) : False := by
  obtain ⟨c1, k1⟩ := own_kind ho.row h
  obtain ⟨c2, k2⟩ := own_kind ho2 h2
  rw [k1] at k2
  injection k2 with k2
  injection k2 with _ k2
  exact absurd k2 (by decide)
set_option maxRecDepth 100000 in
set_option maxHeartbeats 8000000 in
theorem fields_any (A : Option Addr) (n c : Nat) (b : List UInt8) (m : Int) (w : World) (hm : w.cell? ⟨0, 0, none⟩ = some (.int .i64 m)) (hl : b.length = n) (hnc : n ≤ c) (hc : c ≤ maxLen) (hn : n ≤ 1048576) (hr : Reads w w.heap.size 1 A n (u8s b)) : Calls Tryz.prog 66 #[.slice A n c] w fun ev w' => ∃ v, ev = .returned v ∧ OwnR fieldSh w.heap.size w' v (fieldsS b) ∧ Below w.heap.size w w' := by
  have hm0 : 0 < w.heap.size := block_lt_of_cell hm
  have HB := Below.refl w.heap.size w
  have hhb := congrArg List.length (head_body b)
  rw [List.length_append] at hhb
  refine calls_at 87 Tryz.func66 rfl rfl (Nat.le_of_ble_eq_true rfl) ?_
  intro a hA; replace hA := hA.norm
  refine wS (wR ?_)
  revert a; refine wo rfl rfl (by decide) (fun ev e h => by simp [go_sem, h] <;> rfl) ?_; intro a hA
  replace hA := hA.keepN [0]
  refine wN (nT (wS (wR ?_)))
  revert a; refine wo rfl rfl (by decide) (fun ev e h => by simp [go_sem, h] <;> rfl) ?_; intro a hA
  replace hA := hA.keepN [0, 3]
  refine wN (nT (wS (wR ?_)))
  revert a; refine wo rfl rfl (by decide) (fun ev e h => by simp [go_sem, h] <;> rfl) ?_; intro a hA
  refine wl_call hA rfl rfl (by decide) (fun ev h => exec_call Tryz.func62 (by kernel_rfl) rfl (h.f _) (by first | (simp only [mL, h.get 14 rfl, h.c] <;> rfl) | (simp [mL, h.get 14 rfl, h.c] <;> rfl))) (cut_any A n c b _ hl hnc hc (by omega) hr) ?_
  rintro e w1 ⟨v1, v2, rfl, ho1, ho2, hb1⟩
  refine ⟨_, rfl, fun a hA => ?_⟩
  replace HB := HB.trans (hb1.mono HB.size)
  obtain ⟨A1, c1, rfl, hr1, hc1, hM1⟩ := own_readsM ho1
  obtain ⟨H, hH⟩ : ∃ H, headS b = H := ⟨_, rfl⟩
  have hHl : H.length ≤ n := by rw [← hH]; omega
  rw [hH] at hA hr1 hc1
  have hF : fieldsS b = ((linesF b.length H ([], false)).1).map trimF := by unfold fieldsS; rw [hH]
  revert a; (iterate 5 refine wo rfl rfl (by decide) (fun ev e h => by simp [go_sem, h] <;> rfl) ?_); intro a hA
  replace hA := hA.keepN [3, 4]
  refine wN (nT (wS (wR ?_)))
  revert a; refine wo rfl rfl (by decide) (fun ev e h => by simp [go_sem, h] <;> rfl) ?_; intro a hA
  replace hA := hA.keepN [3, 4, 6]
  refine wN (nT (wS (wB ?_)))
  refine wp_loop_at (fun f a wx => ∃ (rest : List UInt8) (A2 : Option Addr) (c2 : Nat) (v : Value) (l : List FieldS) (q : Bool), rest.length ≤ f ∧ rest.length ≤ H.length ∧ rest.length ≤ c2 ∧ c2 ≤ maxLen ∧ linesF b.length H ([], false) = linesF rest.length rest (l, q) ∧ (q = true → l ≠ []) ∧ l.length + rest.length ≤ H.length ∧ sumV l + rest.length ≤ H.length ∧ Reads wx wx.heap.size 1 A2 rest.length (u8s rest) ∧ OwnR fieldSh w.heap.size wx v l ∧ Below w.heap.size w wx ∧ (∀ ad, A2 = some ad → ∃ a1, A1 = some a1 ∧ ad.block = a1.block) ∧ Own8 w.heap.size wx (.slice A1 H.length c1) H ∧ At 87 [(3, v), (4, .slice A2 rest.length c2), (6, .bool q)] a) (H.length) ?_ ?_
  · exact ⟨H, A1, c1, _, [], false, Nat.le_refl _, Nat.le_refl _, hc1, hM1, lines_fuel _ _ _ _ (by omega) (Nat.le_refl _), fun h => (by cases h), by simp, by simp [sumV], hr1, OwnR.nil _ _, HB, fun ad h => ⟨ad, h, rfl⟩, hH ▸ ho1, hA⟩
  · clear hA HB
    rintro f a wx ⟨rest, A2, c2, v, l, q, hrf, hrH, hrc, hc2, hL, hql, hlr, hsv, hr2, ho, HB, hsep, hoH, hA⟩
    refine wS (wS (wR ?_))
    revert a; (iterate 3 refine wo rfl rfl (by decide) (fun ev e h => by simp [go_sem, h] <;> rfl) ?_); intro a hA
    replace hA := hA.keepN [3, 4, 6, 20]
    refine wN (nT ?_)
    refine wp_if hA 20 _ rfl (fun hq => ?yA) (fun hq => ?nA)
    case nA =>
      have h0 : rest = [] := by simpa using hq
      subst h0
      have hF2 : fieldsS b = l.map trimF := by rw [hF, hL]; rfl
      rw [hF2]
      obtain ⟨Av, cv, rfl, _, hcv⟩ := ho.reads
      have hsv1 : sumV l ≤ 1048576 := by have : ([] : List UInt8).length = 0 := rfl; omega
      replace hA := hA.keepN [3]
      refine wp_exit (xT (xT (xB (nT (wS (wS (wR ?_)))))))
      revert a; (iterate 3 refine wo rfl rfl (by decide) (fun ev e h => by simp [go_sem, h] <;> rfl) ?_); intro a hA
      replace hA := hA.keepN [3, 71, 72]
      refine wN (nT (wB ?_))
      refine wp_loop_at (fun f a wy => ∃ j : Nat, j + f = l.length ∧ OwnR fieldSh w.heap.size wy (.slice Av l.length cv) ((l.take j).map trimF ++ l.drop j) ∧ Below w.heap.size w wy ∧ At 87 [(3, .slice Av l.length cv), (71, .int .i64 (l.length : Nat)), (72, .int .i64 (j : Nat))] a) (l.length) ?_ ?_
      · exact ⟨0, by omega, ho, HB, hA⟩
      clear hA ho HB hr2 hoH
      rintro f2 a wy ⟨j, hjf, ho, HB, hA⟩
      refine wS (wR ?_)
      revert a; refine wo rfl rfl (by decide) (fun ev e h => by simp [go_sem, h] <;> rfl) ?_; intro a hA
      replace hA := hA.keepN [3, 71, 72, 73]
      refine wN (nT (wS ?_))
      refine wp_if hA 73 _ rfl (fun hq3 => ?yD) (fun hq3 => ?nD)
      case nD =>
        have hjn : l.length ≤ j := by simp at hq3; omega
        rw [List.take_of_length_le hjn, List.drop_of_length_le hjn, List.append_nil] at ho
        replace hA := hA.keepN [3]
        refine wp_exit (xT (xT (xB (nT (wS (wR ?_))))))
        revert a; (iterate 2 refine wo rfl rfl (by decide) (fun ev e h => by simp [go_sem, h] <;> rfl) ?_); intro a hA
        replace hA := hA.keepN [2]
        refine wN (nT (wp_ret ?_))
        refine ret_1 hA 2 rfl rfl ?_
        exact ⟨_, rfl, ho, HB⟩
      case yD =>
        have hjn : j < l.length := by simp at hq3; omega
        obtain ⟨y, hy⟩ : ∃ y, l[j]? = some y := ⟨_, List.getElem?_eq_getElem hjn⟩
        have hml : ((l.take j).map trimF ++ l.drop j).length = l.length := by rw [List.length_append, List.length_map, List.length_take, List.length_drop]; omega
        have hym : ((l.take j).map trimF ++ l.drop j)[j]? = some y := by
          rw [List.getElem?_append_right (by rw [List.length_map, List.length_take]; omega), List.length_map, List.length_take, show j - min j l.length = 0 by omega, List.getElem?_drop, Nat.add_zero]
          exact hy
        have hset : ((l.take j).map trimF ++ l.drop j).set j (trimF y) = (l.take (j + 1)).map trimF ++ l.drop (j + 1) := by
          rw [List.set_append_right _ _ (by rw [List.length_map, List.length_take]; omega), List.length_map, List.length_take, show j - min j l.length = 0 by omega, List.take_add_one, hy, List.map_append, List.append_assoc]
          congr 1
          rw [show l.drop j = y :: l.drop (j + 1) by rw [← (List.getElem?_eq_some_iff.1 hy).2]; exact List.drop_eq_getElem_cons hjn]
          rfl
        have hyv := sumV_mem (List.mem_of_getElem? hy)
        obtain ⟨g, c', hv, hgB, hglt⟩ := ho.at_ (by omega)
        injection hv with hv1 _ hv3
        subst hv1
        have z1 : wy.cell? ⟨g, j * 2 + 1, none⟩ = some (.string (St y.v)) := ho.cellAt (j := 1) hym rfl
        have jj0 : (0 : Int) ≤ (j : Int) := by omega
        have jj1 : (j : Int) < ((l.length : Nat) : Int) := by omega
        have i3 : IntKind.i64.wrap (((j : Nat) : Int) + 1) = ((j + 1 : Nat) : Int) := by rw [IntWalk.i64_in _ (by omega)]; omega
        refine wp_skip (nT (wS (wB (wS (wR ?_)))))
        revert a; (iterate 2 refine wo rfl rfl (by decide) (fun ev e h => by simp [go_sem, h, jj0, jj1, z1, add0] <;> rfl) ?_); intro a hA
        replace hA := hA.keepN [3, 12, 71, 72]
        refine wN (nT (wR ?_))
        revert a; (iterate 7 refine wo rfl rfl (by decide) (fun ev e h => by simp [go_sem, h, jj0, jj1, z1, add0] <;> rfl) ?_); intro a hA
        refine wl_call hA rfl rfl (by decide) (fun ev h => exec_call Tryz.func95 (by kernel_rfl) rfl (h.f _) (by first | (simp only [mL, h.get 81 rfl, h.c] <;> rfl) | (simp [mL, h.get 81 rfl, h.c, jj0, jj1, z1, add0] <;> rfl))) (trim_any [32, 9] y.v _ (by omega) (by decide) (by decide) (fun j b h => by rcases j with _ | _ | j <;> simp at h <;> subst h <;> decide)) ?_
        rintro e w2 ⟨rfl, hb2⟩
        refine ⟨_, rfl, fun a hA => ?_⟩
        replace HB := HB.trans (hb2.mono HB.size)
        replace ho := ho.below hb2
        have z1 : w2.cell? ⟨g, j * 2 + 1, none⟩ = some (.string (St y.v)) := ho.cellAt (j := 1) hym rfl
        obtain ⟨h8, h9⟩ := ho.put1 (j := 1) (x := trimF y) (u := .string (St (trimS [32, 9] y.v))) hym (by decide) rfl rfl
        rw [hset] at h8
        revert a; (iterate 2 refine wo rfl rfl (by decide) (fun ev e h => by simp [go_sem, h, jj0, jj1, z1, add0, ho.frozenAt] <;> rfl) ?_); intro a hA
        refine wl_skip hA rfl rfl (fun ev h => by simp [go_sem, h.get 84 rfl, h.get 82 rfl, jj0, jj1, z1, add0, ho.frozenAt]; try first | exact ⟨rfl, rfl⟩ | rfl) ?_
        replace hA := hA.keepN [3, 71, 72]
        refine wN (nB (nT (wR ?_)))
        revert a; (iterate 2 refine wo rfl rfl (by decide) (fun ev e h => by simp [go_sem, h, i3] <;> rfl) ?_); intro a hA
        replace hA := hA.keepN [3, 71, 72]
        refine wN (nT ?_)
        exact ⟨f2 - 1, by omega, j + 1, by omega, h8, HB.grown h9 HB.size (fun k e => by injection e with e; omega), hA⟩
    case yA =>
      have h0 : 0 < rest.length := by simpa using hq
      have hne : rest ≠ [] := fun e => by rw [e] at h0; simp at h0
      obtain ⟨ad, rfl, hadl, _⟩ := hr2.2 h0
      have hll := line_len rest
      have hlp := line_pos hne
      have hlt2 := World.ownsRow.lt ho.row
      refine wp_skip (nT (wB (wS (wR ?_))))
      revert a; refine wo rfl rfl (by decide) (fun ev e h => by simp [go_sem, h] <;> rfl) ?_; intro a hA
      replace hA := hA.keepN [3, 4, 6]
      refine wN (nT (wS (wR ?_)))
      revert a; refine wo rfl rfl (by decide) (fun ev e h => by simp [go_sem, h] <;> rfl) ?_; intro a hA
      refine wl_call hA rfl rfl (by decide) (fun ev h => exec_call Tryz.func88 (by kernel_rfl) rfl (h.f _) (by first | (simp only [mL, h.get 22 rfl, h.c] <;> rfl) | (simp [mL, h.get 22 rfl, h.c] <;> rfl))) (line_any ad rest.length c2 rest _ rfl h0 hrc hc2 hr2) ?_
      rintro e w2 ⟨A3, c3, rfl, hrc3, hc3, hr3, hbk3, hb2⟩
      refine ⟨_, rfl, fun a hA => ?_⟩
      replace HB := HB.trans (hb2.mono HB.size)
      replace hr2 := (hr2.below hb2).more hb2.size
      replace ho := ho.below hb2
      replace hoH := hoH.below hb2
      have hrl : Reads w2 w2.heap.size 1 (some ad) (lineS rest).1.length (u8s (lineS rest).1) := by
        have := hr2.take8 (k := (lineS rest).1.length) (by omega)
        rwa [← line_take] at this
      obtain ⟨ln, hln⟩ : ∃ ln, (lineS rest).1 = ln := ⟨_, rfl⟩
      obtain ⟨rs, hrs⟩ : ∃ rs, (lineS rest).2 = rs := ⟨_, rfl⟩
      rw [hln, hrs] at hll
      rw [hln] at hlp hrl hA
      rw [hrs] at hrc3 hr3 hA
      obtain ⟨fr, hfr⟩ : ∃ fr, rest.length = fr + 1 := ⟨rest.length - 1, by omega⟩
      have hstep : linesF rest.length rest (l, q) = linesF rs.length rs (stepF (l, q) (bareS ln)) := by
        rw [hfr]
        conv => lhs; unfold linesF
        rw [if_neg hne, hln, hrs, lines_fuel fr rs.length rs _ (by omega) (Nat.le_refl _)]
      rw [hstep] at hL
      have hbl := bare_len ln
      revert a; (iterate 5 refine wo rfl rfl (by decide) (fun ev e h => by simp [go_sem, h] <;> rfl) ?_); intro a hA
      replace hA := hA.keepN [3, 4, 6, 7]
      refine wN (nT (wS (wR ?_)))
      revert a; refine wo rfl rfl (by decide) (fun ev e h => by simp [go_sem, h] <;> rfl) ?_; intro a hA
      refine wl_call hA rfl rfl (by decide) (fun ev h => exec_call Tryz.func93 (by kernel_rfl) rfl (h.f _) (by first | (simp only [mL, h.get 26 rfl, h.c] <;> rfl) | (simp [mL, h.get 26 rfl, h.c] <;> rfl))) (bare_any (some ad) ln.length c2 ln _ rfl (by unfold maxLen at *; omega) hrl) ?_
      rintro e w3 ⟨rfl, rfl⟩
      refine ⟨_, rfl, fun a hA => ?_⟩
      obtain ⟨s, hs⟩ : ∃ s, bareS ln = s := ⟨_, rfl⟩
      rw [hs] at hL hbl hA
      have hsep3 : ∀ a2, A3 = some a2 → ∃ a1, A1 = some a1 ∧ a2.block = a1.block := fun a2 h => by
        obtain ⟨a1, e1, e2⟩ := hsep ad rfl
        exact ⟨a1, e1, (hbk3 a2 h).trans e2⟩
      obtain ⟨Av, cv, rfl, _, hcv⟩ := ho.reads
      have hsz : (St s).size = s.length := rfl
      obtain ⟨x0, hx0⟩ : ∃ x0, s.headD 0 = x0 := ⟨_, rfl⟩
      have g1 : ∀ h : 0 < (St s).size, (St s)[0] = x0 := fun h => by
        cases s with
        | nil => exact absurd h (by decide)
        | cons y t => exact hx0
      revert a; refine wo rfl rfl (by decide) (fun ev e h => by simp [go_sem, h, hsz, g1] <;> rfl) ?_; intro a hA
      replace hA := hA.keepN [3, 4, 6, 8]
      refine wN (nT (wS (wS (wR ?_))))
      revert a; (iterate 3 refine wo rfl rfl (by decide) (fun ev e h => by simp [go_sem, h, hsz, g1] <;> rfl) ?_); refine wg _ rfl rfl rfl rfl (by decide) (fun hq ev e h => by simp [go_sem, h, ↓gw_t (beq_t hq), hsz, g1] <;> rfl) ?_; refine wg _ rfl rfl rfl rfl (by decide) (fun hq ev e h => by simp [go_sem, h, ↓gw_t (beq_t hq), hsz, g1, (List.length_pos_iff.2 (show s ≠ [] from by intro e; rw [e] at hq; simp at hq))] <;> rfl) ?_; (iterate 2 refine wg _ rfl rfl rfl rfl (by decide) (fun hq ev e h => by simp [go_sem, h, ↓gw_t (beq_t hq), hsz, g1] <;> rfl) ?_); refine wg2 _ _ rfl rfl rfl rfl (by decide) (fun hq hr ev e h => by simp [go_sem, h, ↓gw_t (and_beq hq hr), ↓gw_t hq, hsz, g1] <;> rfl) ?_; refine wg2 _ _ rfl rfl rfl rfl (by decide) (fun hq hr ev e h => by simp [go_sem, h, ↓gw_t (and_beq hq hr), ↓gw_t hq, hsz, g1, (List.length_pos_iff.2 (show s ≠ [] from by intro e; rw [e] at hq; simp at hq))] <;> rfl) ?_; refine wg2 _ _ rfl rfl rfl rfl (by decide) (fun hq hr ev e h => by simp [go_sem, h, ↓gw_t (and_beq hq hr), ↓gw_t hq, hsz, g1] <;> rfl) ?_; intro a hA
      refine wl_guard _ hA rfl rfl rfl rfl (by decide) (fun hq ev h => by exact pick_or rfl (((h.get 34 rfl).trans (gw_t (beq_t hq)))) (h.c _) (((h.get 37 rfl).trans (gw_a (beq_t hq))))) fun a hA => ?_
      revert a; refine wka rfl rfl (by decide) rfl rfl rfl ?_; intro a hA
      replace hA := hA.keepN [3, 4, 6, 8, 39]
      refine wN (nT ?_)
      refine wp_if hA 39 _ rfl (fun hq2 => ?yB) (fun hq2 => ?nB)
      case yB =>
        have hbl2 : blankB s = true := by rw [blank_eq hx0, ← hq2]
        rw [step_blank hbl2] at hL
        refine wS (wS (wR ?_))
        revert a; refine wo rfl rfl (by decide) (fun ev e h => by simp [go_sem, h] <;> rfl) ?_; intro a hA
        replace hA := hA.keepN [3, 4, 6, 8, 40]
        refine wN (nT ?_)
        refine wp_if hA 40 _ rfl (fun hq3 => ?yC) (fun hq3 => ?nC)
        case yC =>
          have hq3 : q = true := hq3
          subst hq3
          rw [if_pos rfl] at hL
          have hlne := List.length_pos_iff.2 (hql rfl)
          obtain ⟨k, hk⟩ : ∃ k, l.length = k + 1 := ⟨l.length - 1, by omega⟩
          obtain ⟨y, hy⟩ : ∃ y, l[k]? = some y := ⟨_, List.getElem?_eq_getElem (by omega)⟩
          obtain ⟨g, c', hv, hgB, hglt⟩ := ho.at_ (by omega)
          injection hv with hv1 _ hv3
          subst hv1
          have z1 : w3.cell? ⟨g, k * 2 + 1, none⟩ = some (.string (St y.v)) := ho.cellAt (j := 1) hy rfl
          have jj0 : (0 : Int) ≤ (k : Int) := by omega
          have jj1 : (k : Int) < ((l.length : Nat) : Int) := by omega
          have i1 : IntKind.i64.wrap (((l.length : Nat) : Int) - 1) = ((k : Nat) : Int) := by rw [IntWalk.i64_in _ (by omega)]; omega
          have hym := sumV_mem (List.mem_of_getElem? hy)
          have ka : St y.v ++ St s = St (y.v ++ s) := st_app _ _
          have kz : ¬ 9223372036854775807 < y.v.length + s.length := by omega
          obtain ⟨u, hu⟩ : ∃ u, y.v ++ s = u := ⟨_, rfl⟩
          obtain ⟨h8, h9⟩ := ho.put1 (j := 1) (x := (⟨y.n, u⟩ : FieldS)) (u := .string (St u)) hy (by decide) rfl rfl
          have hset : addLast l s = l.set k ⟨y.n, u⟩ := by rw [addLast_set hy hk, hu]
          rw [hu] at ka
          refine wR ?_
          revert a; (iterate 10 refine wo rfl rfl (by decide) (fun ev e h => by simp [go_sem, h, jj0, jj1, i1, z1, ka, kz, hsz, add0, ho.frozenAt] <;> rfl) ?_); intro a hA
          replace hA := hA.keepN [3, 4, 6, 49, 50]
          revert a; refine wo rfl rfl (by decide) (fun ev e h => by simp [go_sem, h, jj0, jj1, i1, z1, ka, kz, hsz, add0, ho.frozenAt] <;> rfl) ?_; intro a hA
          refine wl_skip hA rfl rfl (fun ev h => by simp [go_sem, h.get 51 rfl, h.get 49 rfl, jj0, jj1, i1, z1, ka, kz, hsz, add0, ho.frozenAt]; try first | exact ⟨rfl, rfl⟩ | rfl) ?_
          replace hA := hA.keepN [3, 4, 6]
          replace hA := hA.keepN [3, 4, 6]
          refine wN (nT (wp_exit (xT (xB (nT ?_)))))
          have hll2 := addLast_len l s
          have hsv2 := sumV_add l s
          rw [hset] at hL hll2 hsv2
          have h8' : OwnR fieldSh w.heap.size (w3.setCell ⟨g, k * 2 + 1, none⟩ (.string (St u))) (.slice (some ⟨g, 0, none⟩) l.length cv) (l.set k ⟨y.n, u⟩) := h8
          have h9' : w3.grownBy (w3.setCell ⟨g, k * 2 + 1, none⟩ (.string (St u))) (some g) := h9
          have hoff : ∀ a2, A3 = some a2 → a2.block ≠ g := fun a2 h e => by
            obtain ⟨a1, e1, e2⟩ := hsep3 a2 h
            subst e1
            exact row_ne8 ho hoH (g := g) rfl (by rw [← e, e2]; rfl)
          have hrs3 : Reads _ _ 1 A3 rs.length (u8s rs) := readsP_apart (p := (A3, rs)) (g := g) hr3 (fun _ a2 h => hoff a2 h) (fun k hk hne => h9'.block k hk (fun e => by injection e with e; exact hne e)) h9'.size
          have hoH2 := hoH.keep (fun g' e => h9'.block g' (World.ownsRow.lt hoH g' e).2 (fun e2 => by injection e2 with e2; subst e2; exact row_ne8 ho hoH (g := g') rfl e))
          have hk1 : (l.set k ⟨y.n, u⟩).length + rs.length ≤ H.length := by omega
          have hk2 : sumV (l.set k ⟨y.n, u⟩) + rs.length ≤ H.length := by omega
          have hk3 : l.set k ⟨y.n, u⟩ ≠ [] := fun e => by
            have := congrArg List.length e
            rw [List.length_set, hk] at this
            exact absurd this (by simp)
          exact ⟨f - 1, by omega, rs, A3, c3, _, l.set k ⟨y.n, u⟩, true, by omega, by omega, hrc3, hc3, hL, fun _ => hk3, hk1, hk2, hrs3, h8', HB.grown h9' HB.size (fun k e => by injection e with e; omega), hsep3, hoH2, hA⟩
        case nC =>
          have hq3 : q = false := hq3
          subst hq3
          rw [if_neg (by decide)] at hL
          replace hA := hA.keepN [3, 4, 6]
          refine wp_skip (nT (wp_exit (xT (xB (nT ?_)))))
          exact ⟨f - 1, by omega, rs, A3, c3, _, l, false, by omega, by omega, hrc3, hc3, hL, hql, by omega, by omega, hr3, ho, HB, hsep3, hoH, hA⟩
      case nB =>
        have hbl2 : blankB s = false := by rw [blank_eq hx0, ← hq2]
        rw [step_named hbl2] at hL
        obtain ⟨nm, vl, ok, hcut⟩ : ∃ nm vl ok, Lib.cut s [58] = (nm, vl, ok) := ⟨_, _, _, rfl⟩
        have hcl := cut_len58 s
        rw [hcut] at hL hcl
        refine wp_skip (nT (wS (wR ?_)))
        revert a; refine wo rfl rfl (by decide) (fun ev e h => by simp [go_sem, h, hsz, g1] <;> rfl) ?_; intro a hA
        refine wl_call hA rfl rfl (by decide) (fun ev h => exec_call Tryz.func53 (by kernel_rfl) rfl (h.f _) (by first | (simp only [mL, h.get 53 rfl, h.c] <;> rfl) | (simp [mL, h.get 53 rfl, h.c, hsz, g1] <;> rfl))) (Tryz.strings_Cut (St s) (St [58]) m w3 (by show s.length < _; omega) ((HB.cell hm0).trans hm)) ?_
        rintro e w4 ⟨rfl, n4, rfl⟩
        refine ⟨_, rfl, fun a hA => ?_⟩
        rw [show (St s).data.toList = s from rfl, show (St [58]).data.toList = [58] from rfl, hcut] at hA
        rw [show (⟨(nm, vl, ok).1.toArray⟩ : ByteArray) = St nm from rfl, show (⟨(nm, vl, ok).2.1.toArray⟩ : ByteArray) = St vl from rfl, show (nm, vl, ok).2.2 = ok from rfl] at hA
        have hcl1 : nm.length ≤ s.length := hcl.1
        replace HB := below_drewN HB n4
        have ho4 : OwnR fieldSh w.heap.size (w3.drewN n4) (.slice Av l.length cv) l := ho.below (below_drewN (Below.refl _ _) n4)
        have hoH4 : Own8 w.heap.size (w3.drewN n4) (.slice A1 H.length c1) H := hoH.below (below_drewN (Below.refl _ _) n4)
        have hr4 : Reads (w3.drewN n4) (w3.drewN n4).heap.size 1 A3 rs.length (u8s rs) := hr3.drewN n4
        revert a; (iterate 7 refine wo rfl rfl (by decide) (fun ev e h => by simp [go_sem, h] <;> rfl) ?_); intro a hA
        replace hA := hA.keepN [3, 4, 9, 10, 11]
        refine wN (nT (wS (wR ?_)))
        revert a; (iterate 2 refine wo rfl rfl (by decide) (fun ev e h => by simp [go_sem, h] <;> rfl) ?_); refine wg _ rfl rfl rfl rfl (by decide) (fun hq ev e h => by simp [go_sem, h, ↓gw_t (beq_t hq)] <;> rfl) ?_; intro a hA
        refine wl_gcallv _ hA rfl rfl rfl rfl (by decide) (fun hq ev h => exec_call Tryz.func94 (by kernel_rfl) rfl (h.f _) (by first | (simp only [mL, ((h.get 60 rfl).trans (gw_t (beq_t hq))), h.c] <;> rfl) | (simp [mL, ((h.get 60 rfl).trans (gw_t (beq_t hq))), h.c] <;> rfl))) (fun hq => (named_any nm _ (by unfold maxLen; omega)).mono fun e w' h => ⟨h.1, h.2 ▸ Below.refl _ _⟩) fun a w5 hb5 hA => ?_
        replace HB := HB.trans (hb5.mono HB.size)
        replace ho4 := ho4.below hb5
        replace hoH4 := hoH4.below hb5
        replace hr4 := (hr4.below hb5).more hb5.size
        have hqq : ((Lib.cut s [58]).2.2 && namedB (Lib.cut s [58]).1) = (ok && namedB nm) := by rw [hcut]
        rw [show ((nm, vl, ok) : List UInt8 × List UInt8 × Bool).2.2 = ok from rfl, show ((nm, vl, ok) : List UInt8 × List UInt8 × Bool).1 = nm from rfl, show ((nm, vl, ok) : List UInt8 × List UInt8 × Bool).2.1 = vl from rfl] at hL
        revert a; refine wka rfl rfl (by decide) rfl rfl rfl ?_; refine wo rfl rfl (by decide) (fun ev e h => by simp [go_sem, h] <;> rfl) ?_; intro a hA
        replace hA := hA.keepN [3, 4, 6, 9, 10]
        refine wN (nT (wS (wR ?_)))
        revert a; refine wo rfl rfl (by decide) (fun ev e h => by simp [go_sem, h] <;> rfl) ?_; intro a hA
        replace hA := hA.keepN [3, 4, 6, 9, 10, 63]
        refine wN (nT ?_)
        refine wp_if hA 63 _ rfl (fun hq3 => ?yC) (fun hq3 => ?nC)
        case nC =>
          rw [if_neg (by rw [hq3]; decide)] at hL
          rw [hq3] at hA
          replace hA := hA.keepN [3, 4, 6]
          refine wp_skip (nB (nT ?_))
          exact ⟨f - 1, by omega, rs, A3, c3, _, l, false, by omega, by omega, hrc3, hc3, hL, fun h => (by cases h), by omega, by omega, hr4, ho4, HB, hsep3, hoH4, hA⟩
        case yC =>
          rw [if_pos hq3] at hL
          rw [hq3] at hA
          have hcl2 : vl.length ≤ s.length := hcl.2
          refine wR ?_
          revert a; (iterate 4 refine wo rfl rfl (by decide) (fun ev e h => by simp [go_sem, h] <;> rfl) ?_); intro a hA
          refine wl_new hA rfl rfl (by decide) (fun ev h => by simp [go_sem, h.get 67 rfl]; try first | exact ⟨rfl, rfl⟩ | rfl) fun w6 a (K6 : Blk _ _ _ _) hz6 hb6 hA => ?_
          replace HB := HB.trans (hb6.mono HB.size)
          replace ho4 := ho4.below hb6
          replace hoH4 := hoH4.below hb6
          replace hr4 := (hr4.below hb6).more hb6.size
          obtain ⟨v7, w7, hr7, ho7, hg7⟩ := app_field (u := ⟨nm, vl⟩) ho4 K6 (by omega) HB.size
          refine wl_op hA rfl rfl (by decide) (fun ev h => exec_append rfl (h.get 64 rfl) (h.get 68 rfl) hr7) fun a hA => ?_
          have hrs7 : Reads w7 w7.heap.size 1 A3 rs.length (u8s rs) := by
            cases hov : (Value.slice Av l.length cv).ownBlock with
            | none => exact (hr4.grown hg7 (Nat.le_refl _) fun g hg => by rw [hov] at hg; cases hg).more hg7.size
            | some g =>
              refine readsP_apart (p := (A3, rs)) (g := g) hr4 (fun _ a2 h e => ?_) (fun k hk hne => hg7.block k hk (fun e => by rw [hov] at e; injection e with e; exact hne e)) hg7.size
              obtain ⟨a1, e1, e2⟩ := hsep3 a2 h
              subst e1
              exact row_ne8 ho4 hoH4 hov (by rw [← e, e2]; rfl)
          have hoH7 : Own8 w.heap.size w7 (.slice A1 H.length c1) H := hoH4.keep (fun g' e => hg7.block g' (World.ownsRow.lt hoH4 g' e).2 (fun e2 => row_ne8 ho4 hoH4 e2.symm e))
          have HB7 := below_appR HB ho4 hg7 (Nat.le_refl _) HB.size
          revert a; refine wo rfl rfl (by decide) (fun ev e h => by simp [go_sem, h] <;> rfl) ?_; intro a hA
          replace hA := hA.keepN [3, 4, 6]
          refine wN (nB (nT ?_))
          have hk1 : (l ++ [(⟨nm, vl⟩ : FieldS)]).length + rs.length ≤ H.length := by rw [List.length_append, List.length_singleton]; omega
          have hk2 : sumV (l ++ [(⟨nm, vl⟩ : FieldS)]) + rs.length ≤ H.length := by rw [sumV_app]; show sumV l + (vl.length + 0) + _ ≤ _; omega
          exact ⟨f - 1, by omega, rs, A3, c3, v7, l ++ [⟨nm, vl⟩], true, by omega, by omega, hrc3, hc3, hL, fun _ => by simp, hk1, hk2, hrs7, ho7, HB7, hsep3, hoH7, hA⟩
end Go.Proofs.YtjhaccmcjlbllaaGreatDoor
/-
  Walk: head.Field.
-/
namespace Go.Proofs.YtjhaccmcjlbllaaGreatDoor
open Go.RowKit
set_option linter.unusedSimpArgs false
set_option linter.unusedVariables false
theorem step_len (st : List FieldS × Bool) (s : List UInt8) : (stepF st s).1.length ≤ st.1.length + 1 := by
  unfold stepF
  split
  · split
    · rw [show (addLast st.1 s, true).1 = addLast st.1 s from rfl, addLast_len]; omega
    · exact Nat.le_succ _
  · split
    · simp
    · exact Nat.le_succ _
theorem addLast_nm {l : List FieldS} {s : List UInt8} {N : Nat} (h : ∀ x ∈ l, x.n.length ≤ N) : ∀ x ∈ addLast l s, x.n.length ≤ N := by
  rcases List.eq_nil_or_concat l with e | ⟨ys, y, e⟩
  · rw [e]
    intro x hx
    cases hx
  · rw [List.concat_eq_append] at e
    subst e
    rw [addLast_snoc]
    intro x hx
    rcases List.mem_append.1 hx with hx | hx
    · exact h x (List.mem_append_left _ hx)
    · rw [List.mem_singleton.1 hx]
      exact h y (by simp)
theorem step_nm {st : List FieldS × Bool} {s : List UInt8} {N : Nat} (hs : s.length ≤ N) (h : ∀ x ∈ st.1, x.n.length ≤ N) : ∀ x ∈ (stepF st s).1, x.n.length ≤ N := by
  unfold stepF
  split
  · split
    · exact addLast_nm h
    · exact h
  · split
    · intro x hx
      rcases List.mem_append.1 hx with hx | hx
      · exact h x hx
      · rw [List.mem_singleton.1 hx]
        exact Nat.le_trans (cut_len58 s).1 hs
    · exact h
theorem lines_bd : ∀ (f : Nat) (b : List UInt8) (st : List FieldS × Bool) (N : Nat), b.length ≤ N → (∀ x ∈ st.1, x.n.length ≤ N) → (linesF f b st).1.length ≤ st.1.length + b.length ∧ ∀ x ∈ (linesF f b st).1, x.n.length ≤ N
  | 0, b, st, N, _, h => ⟨Nat.le_add_right _ _, h⟩
  | f + 1, b, st, N, hN, h => by
    unfold linesF
    split
    · exact ⟨Nat.le_add_right _ _, h⟩
    · rename_i hb
      have h1 := line_len b
      have h2 := line_pos hb
      have h3 := bare_len (lineS b).1
      have h4 := step_len st (bareS (lineS b).1)
      obtain ⟨h5, h6⟩ := lines_bd f (lineS b).2 (stepF st (bareS (lineS b).1)) N (by omega) (step_nm (by omega) h)
      exact ⟨by omega, h6⟩
theorem fields_bd (b : List UInt8) : (fieldsS b).length ≤ b.length ∧ ∀ x ∈ fieldsS b, x.n.length ≤ b.length := by
  have hhb := congrArg List.length (head_body b)
  rw [List.length_append] at hhb
  obtain ⟨h1, h2⟩ := lines_bd b.length (headS b) ([], false) b.length (by omega) (fun _ h => by cases h)
  unfold fieldsS
  refine ⟨by rw [List.length_map]; simp only [List.length_nil] at h1; omega, fun x hx => ?_⟩
  obtain ⟨y, hy, rfl⟩ := List.mem_map.1 hx
  exact h2 y hy
def fieldR (o : Option (List UInt8)) : Ending := match o with
  | some v => .returned (.tuple #[.string (St v), .bool true])
  | none => .returned (.tuple #[.string ⟨#[]⟩, .bool false])
set_option maxRecDepth 100000 in
set_option maxHeartbeats 4000000 in
theorem field_any (A : Option Addr) (n c : Nat) (b nm : List UInt8) (m : Int) (w : World) (hm : w.cell? ⟨0, 0, none⟩ = some (.int .i64 m)) (hl : b.length = n) (hnc : n ≤ c) (hc : c ≤ maxLen) (hn : n ≤ 1048576) (hnm : nm.length ≤ 1048576) (hr : Reads w w.heap.size 1 A n (u8s b)) : Calls Tryz.prog 41 #[.slice A n c, .string (St nm)] w fun ev w' => ev = fieldR (fieldV b nm) ∧ Below w.heap.size w w' := by
  have HB := Below.refl w.heap.size w
  have hbd := fields_bd b
  obtain ⟨L, hL⟩ : ∃ L, fieldsS b = L := ⟨_, rfl⟩
  refine calls_at 24 Tryz.func41 rfl rfl (Nat.le_of_ble_eq_true rfl) ?_
  intro a hA; replace hA := hA.norm
  refine wS (wR ?_)
  revert a; (iterate 2 refine wo rfl rfl (by decide) (fun ev e h => by simp [go_sem, h] <;> rfl) ?_); intro a hA
  replace hA := hA.keepN [0, 1]
  refine wN (nT (wS (wS (wR ?_))))
  revert a; refine wo rfl rfl (by decide) (fun ev e h => by simp [go_sem, h] <;> rfl) ?_; intro a hA
  refine wl_call hA rfl rfl (by decide) (fun ev h => exec_call Tryz.func66 (by kernel_rfl) rfl (h.f _) (by first | (simp only [mL, h.get 8 rfl, h.c] <;> rfl) | (simp [mL, h.get 8 rfl, h.c] <;> rfl))) (fields_any A n c b m _ hm hl hnc hc hn hr) ?_
  rintro e w1 ⟨v, rfl, ho, hb1⟩
  refine ⟨_, rfl, fun a hA => ?_⟩
  replace HB := HB.trans (hb1.mono HB.size)
  rw [hL] at ho hbd
  obtain ⟨hLl, hfl⟩ := hbd
  obtain ⟨Av, cv, rfl, hrv, hcv⟩ := ho.reads
  have hV : fieldV b nm = ((L.find? fun f => lowerS f.n == lowerS nm).map (·.v)) := by unfold fieldV; rw [hL]
  rw [hV]
  revert a; (iterate 2 refine wo rfl rfl (by decide) (fun ev e h => by simp [go_sem, h] <;> rfl) ?_); intro a hA
  replace hA := hA.keepN [1, 9, 10, 11]
  refine wN (nT (wB ?_))
  refine wp_loop_at (fun f a wx => ∃ j : Nat, j + f = L.length ∧ (L.find? fun f => lowerS f.n == lowerS nm) = ((L.drop j).find? fun f => lowerS f.n == lowerS nm) ∧ OwnR fieldSh w.heap.size wx (.slice Av L.length cv) L ∧ Below w.heap.size w wx ∧ At 24 [(1, .string (St nm)), (9, .slice Av L.length cv), (10, .int .i64 (L.length : Nat)), (11, .int .i64 (j : Nat))] a) (L.length) ?_ ?_
  · exact ⟨0, by omega, by rw [List.drop_zero], ho, HB, hA⟩
  clear hA HB ho hrv
  rintro f a wx ⟨j, hjf, hF, ho, HB, hA⟩
  refine wS (wR ?_)
  revert a; refine wo rfl rfl (by decide) (fun ev e h => by simp [go_sem, h] <;> rfl) ?_; intro a hA
  replace hA := hA.keepN [1, 9, 10, 11, 12]
  refine wN (nT (wS ?_))
  refine wp_if hA 12 _ rfl (fun hq => ?yA) (fun hq => ?nA)
  case nA =>
    have hjn : L.length ≤ j := by simp at hq; omega
    rw [List.drop_of_length_le hjn] at hF
    replace hA := hA.keepN []
    refine wp_exit (xT (xT (xB (nT (wS (wR ?_))))))
    revert a; (iterate 2 refine wo rfl rfl (by decide) (fun ev e h => by simp [go_sem, h] <;> rfl) ?_); intro a hA
    replace hA := hA.keepN [4, 5]
    refine wN (nT (wp_ret ?_))
    refine ret_2 hA 4 5 rfl rfl rfl ?_
    exact ⟨by rw [hF]; rfl, HB⟩
  case yA =>
    have hjn : j < L.length := by simp at hq; omega
    obtain ⟨x, hx⟩ : ∃ x, L[j]? = some x := ⟨_, List.getElem?_eq_getElem hjn⟩
    have hd1 : L.drop j = x :: L.drop (j + 1) := by
      rw [← (List.getElem?_eq_some_iff.1 hx).2]
      exact List.drop_eq_getElem_cons hjn
    rw [hd1, List.find?_cons] at hF
    have hfx := hfl x (List.mem_of_getElem? hx)
    obtain ⟨g, c', hv, hgB, hglt⟩ := ho.at_ (by omega)
    injection hv with hv1 _ hv3
    subst hv1
    have z0 : wx.cell? ⟨g, j * 2, none⟩ = some (.string (St x.n)) := ho.cellAt (j := 0) hx rfl
    have z1 : wx.cell? ⟨g, j * 2 + 1, none⟩ = some (.string (St x.v)) := ho.cellAt (j := 1) hx rfl
    have jj0 : (0 : Int) ≤ (j : Int) := by omega
    have jj1 : (j : Int) < ((L.length : Nat) : Int) := by omega
    have i3 : IntKind.i64.wrap (((j : Nat) : Int) + 1) = ((j + 1 : Nat) : Int) := by rw [IntWalk.i64_in _ (by omega)]; omega
    refine wp_skip (nT (wS (wB (wS (wR ?_)))))
    revert a; (iterate 2 refine wo rfl rfl (by decide) (fun ev e h => by simp [go_sem, h, add0, jj0, jj1, z0, z1] <;> rfl) ?_); intro a hA
    refine wl_local [.string (St x.n), .string (St x.v)] hA rfl rfl (by decide) (fun ev h => by simp [go_sem, add0, jj0, jj1, z0, z1]; try first | exact ⟨rfl, rfl⟩ | rfl) rfl rfl (by rfl) (fun w1 g ev hb h => by simp [go_sem, h.get 7 rfl, h.get 14 rfl, add0, jj0, jj1, z0, z1, setAll, hb.cell, hb.frozen]) fun w2 a (K : Blk _ _ _ _) hz2 hb2 hA => ?_
    replace HB := HB.trans (hb2.mono HB.size)
    replace ho := ho.below hb2
    replace hA := hA.keepN [1, 7, 9, 10, 11]
    refine wN (nT (wS (wR ?_)))
    revert a; (iterate 2 refine wo rfl rfl (by decide) (fun ev e h => by simp [go_sem, h, K.cell] <;> rfl) ?_); intro a hA
    refine wl_call hA rfl rfl (by decide) (fun ev h => exec_call Tryz.func67 (by kernel_rfl) rfl (h.f _) (by first | (simp only [mL, h.get 16 rfl, h.c] <;> rfl) | (simp [mL, h.get 16 rfl, h.c, K.cell] <;> rfl))) (lower_any x.n _ (by omega)) ?_
    rintro e w3 ⟨rfl, hb3⟩
    refine ⟨_, rfl, fun a hA => ?_⟩
    replace HB := HB.trans (hb3.mono HB.size)
    replace ho := ho.below hb3
    replace K := K.below hb3 K.lt
    revert a; refine wo rfl rfl (by decide) (fun ev e h => by simp [go_sem, h, K.cell] <;> rfl) ?_; intro a hA
    refine wl_call hA rfl rfl (by decide) (fun ev h => exec_call Tryz.func67 (by kernel_rfl) rfl (h.f _) (by first | (simp only [mL, h.get 18 rfl, h.c] <;> rfl) | (simp [mL, h.get 18 rfl, h.c, K.cell] <;> rfl))) (lower_any nm _ (by omega)) ?_
    rintro e w4 ⟨rfl, hb4⟩
    refine ⟨_, rfl, fun a hA => ?_⟩
    replace HB := HB.trans (hb4.mono HB.size)
    replace ho := ho.below hb4
    replace K := K.below hb4 K.lt
    revert a; refine wo rfl rfl (by decide) (fun ev e h => by simp [go_sem, h, K.cell] <;> rfl) ?_; intro a hA
    replace hA := hA.keepN [1, 7, 9, 10, 11, 20]
    refine wN (nT ?_)
    obtain ⟨z, hz⟩ : ∃ z, (lowerS x.n == lowerS nm) = z := ⟨_, rfl⟩
    rw [hz] at hF
    refine wp_if hA 20 _ rfl (fun hq2 => ?yB) (fun hq2 => ?nB)
    case yB =>
      have hzt : z = true := by rw [← hz, ← hq2]
      rw [hzt] at hF
      refine wS (wR ?_)
      revert a; (iterate 4 refine wo rfl rfl (by decide) (fun ev e h => by simp [go_sem, h, K.cell] <;> rfl) ?_); intro a hA
      replace hA := hA.keepN [4, 5]
      refine wN (nT (wp_ret (rB (rT (rT (rB (rT ?_)))))))
      refine ret_2 hA 4 5 rfl rfl rfl ?_
      exact ⟨by rw [hF]; rfl, HB⟩
    case nB =>
      have hzt : z = false := by rw [← hz, ← hq2]
      rw [hzt] at hF
      refine wp_skip (nB (nT (wR ?_)))
      revert a; (iterate 2 refine wo rfl rfl (by decide) (fun ev e h => by simp [go_sem, h, i3] <;> rfl) ?_); intro a hA
      replace hA := hA.keepN [1, 9, 10, 11]
      refine wN (nT ?_)
      exact ⟨f - 1, by omega, j + 1, by omega, hF, ho, HB, hA⟩
end Go.Proofs.YtjhaccmcjlbllaaGreatDoor
/-
  Walks of seqset's has and Has, and of the document's answer.
-/
namespace Go.Proofs.YtjhaccmcjlbllaaGreatDoor
open Go.RowKit
theorem add_succ (ad : Addr) (j : Nat) : ad.add (j + 1) = ⟨(ad.add j).block, (ad.add j).off + 1, none⟩ := by
  unfold Addr.add
  by_cases h : j = 0
  · subst h; simp
  · simp [h]; omega
set_option maxHeartbeats 1600000 in
theorem has1_any (x y n g : Nat) (hx : x ≤ 4294967295) (hy : y ≤ 4294967295) (w : World) :
    Calls Tryz.prog 214 #[.agg #[.int .u32 (x : Nat), .int .u32 (y : Nat)], .int .u32 (n : Nat), .int .u32 (g : Nat)] w fun e w' => e = .returned (.bool (inSpan (x, y) n g)) ∧ Below w.heap.size w w' := by
  have hb : Below w.heap.size w w := Below.refl _ _
  by_cases h1 : x = 0 <;> by_cases h2 : y = 0
  all_goals
    try subst h1
    try subst h2
    go_enter Tryz.func214, Tryz.ntmps214
    go_wp2
    all_goals
      go_ret
      refine ⟨ret_bool ?_, ?_⟩
  all_goals first
    | exact hb.alloc (Nat.le_refl _) _
    | (rw [Bool.eq_iff_iff]; simp [inSpan, *] <;> omega)

theorem inSet_take (l : List (Nat × Nat)) (m n g : Nat) (h : inSet (l.take m) n g = true) : inSet l n g = true := by
  unfold inSet at h ⊢
  rw [Bool.and_eq_true] at h ⊢
  refine ⟨h.1, ?_⟩
  rw [List.any_eq_true] at h ⊢
  obtain ⟨x, hx, h2⟩ := h.2
  exact ⟨x, List.mem_of_mem_take hx, h2⟩
set_option maxHeartbeats 1600000 in
theorem has_any (A : Option Addr) (c : Nat) (l : List (Nat × Nat)) (n g : Nat) (hl : ∀ x ∈ l, x.1 ≤ 4294967295 ∧ x.2 ≤ 4294967295) (hlen : l.length ≤ 65536) (w : World)
    (hr : Reads w w.heap.size 2 A l.length (spanCells l)) :
    Calls Tryz.prog 189 #[.slice A l.length c, .int .u32 (n : Nat), .int .u32 (g : Nat)] w fun e w' => e = .returned (.bool (inSet l n g)) ∧ Below w.heap.size w w' := by
  have HR := Lib.hid hr
  have HL := Lib.hid hl
  clear hr hl
  go_enter Tryz.func189, Tryz.ntmps189
  go_wp2
  go_loopw [11] (fun i wr => ∃ k : Nat, i = .int .i64 k ∧ k ≤ l.length ∧ Hid (inSet (l.take k) n g = false) ∧ Hid (Below w.heap.size w wr)) (fun i _ => l.length - (intOf i).toNat)
  case atStart => exact ⟨0, rfl, by omega, by simp [inSet, Hid], Below.refl _ _⟩
  case round =>
    obtain ⟨k, rfl, hk, hall, hbr⟩ := hrel
    by_cases hlt : k < l.length
    · obtain ⟨x, hx⟩ : ∃ x, l[k]? = some x := ⟨_, List.getElem?_eq_getElem hlt⟩
      obtain ⟨hx1, hx2⟩ := HL.out x (List.mem_of_getElem? hx)
      obtain ⟨a, b⟩ := x
      obtain ⟨ad, rfl, hab, hcs⟩ := (HR.out.below hbr.out).2 (by omega)
      obtain ⟨e1, e2⟩ := spanCells_at l k _ hx
      have hc1 := hcs _ _ e1
      have hc2 := hcs _ _ e2
      rw [add_succ] at hc2
      have htk : l.take (k + 1) = l.take k ++ [(a, b)] := by rw [List.take_add_one, hx]; rfl
      have Htk := Lib.hid htk
      have Hx := Lib.hid hx
      clear hx htk hcs e1 e2
      have H1 := Lib.hid (has1_any a b n g hx1 hx2)
      have hin : inSet (l.take (k + 1)) n g = (decide (1 ≤ n) && inSpan (a, b) n g) := by
        have := hall.out
        rw [Htk.out]
        unfold inSet at this ⊢
        rw [List.any_append]
        rcases Nat.lt_or_ge n 1 with h | h
        · have : decide (1 ≤ n) = false := by simp; omega
          rw [this]; simp
        · have h' : decide (1 ≤ n) = true := by simp; omega
          rw [h'] at this ⊢
          rw [Bool.true_and] at this
          rw [this]; simp
      have Hin := Lib.hid hin
      clear hin
      generalize inSpan (a, b) n g = bb at *
      have hsz := hbr.out.size
      by_cases hn1 : n < 1
      · have HF : Hid (inSet (l.take (k + 1)) n g = false) := by
          show _ = _
          rw [Hin.out]; simp; intro h; omega
        have hb2 := hbr.out.alloc hsz (.cells #[.int .u32 (a : Nat), .int .u32 (b : Nat)] 193)
        have HB2 := Lib.hid hb2
        clear hb2
        go_wp2
        go_roundw
        case rel => exact ⟨k + 1, by go_num, by omega, HF, HB2⟩
        case measure => simp [intOf]; omega
      · cases bb
        · have HF : Hid (inSet (l.take (k + 1)) n g = false) := by
            show _ = _
            rw [Hin.out]; simp
          have hb2 := hbr.out.alloc hsz (.cells #[.int .u32 (a : Nat), .int .u32 (b : Nat)] 193)
          have HB2 := Lib.hid hb2
          clear hb2
          go_wp2_with fail
          refine (H1.out _).mono ?_
          rintro e w2 ⟨rfl, hb2⟩
          have HB3 := Lib.hid (HB2.out.trans (hb2.mono HB2.out.size))
          clear hb2
          go_wp2
          go_roundw
          case rel => exact ⟨k + 1, by go_num, by omega, HF, HB3⟩
          case measure => simp [intOf]; omega
        · have HF : Hid (inSet l n g = true) := by
            refine inSet_take l (k + 1) n g ?_
            rw [Hin.out]; simp; omega
          have hb2 := hbr.out.alloc hsz (.cells #[.int .u32 (a : Nat), .int .u32 (b : Nat)] 193)
          have HB2 := Lib.hid hb2
          clear hb2
          go_wp2_with fail
          refine (H1.out _).mono ?_
          rintro e w2 ⟨rfl, hb2⟩
          have HB3 := Lib.hid (HB2.out.trans (hb2.mono HB2.out.size))
          clear hb2
          go_wp2
          go_ret
          exact ⟨ret_bool HF.out.symm, HB3.out⟩
    · obtain rfl : k = l.length := by omega
      have hf := hall.out
      rw [List.take_of_length_le (Nat.le_refl _)] at hf
      have HF := Lib.hid hf
      clear hf hall
      go_wp2
      go_ret
      exact ⟨ret_bool HF.out.symm, hbr.out⟩
theorem inSet_step (l : List (Nat × Nat)) (k n g : Nat) (x : Nat × Nat) (hx : l[k]? = some x) (hall : inSet (l.take k) n g = false) : inSet (l.take (k + 1)) n g = (decide (1 ≤ n) && inSpan x n g) := by
  rw [List.take_add_one, hx]
  unfold inSet at hall ⊢
  rw [List.any_append]
  rcases Nat.lt_or_ge n 1 with h | h
  · have : decide (1 ≤ n) = false := by simp; omega
    rw [this]; simp
  · have h' : decide (1 ≤ n) = true := by simp; omega
    rw [h'] at hall ⊢
    rw [Bool.true_and] at hall
    rw [hall]; simp
set_option maxHeartbeats 3200000 in
theorem refHas_any (A : Option Addr) (c : Nat) (l : List (Nat × Nat)) (n g : Nat) (hl : ∀ x ∈ l, x.1 ≤ 4294967295 ∧ x.2 ≤ 4294967295) (hn : n ≤ 4294967295) (hg : g ≤ 4294967295) (hlen : l.length ≤ 65536) (w : World)
    (hr : Reads w w.heap.size 2 A l.length (spanCells l)) :
    Calls Tryz.prog 47 #[.slice A l.length c, .int .u32 (n : Nat), .int .u32 (g : Nat)] w fun e w' => e = .returned (.bool (inSet l n g)) ∧ Below w.heap.size w w' := by
  have HR := Lib.hid hr
  have HL := Lib.hid hl
  clear hr hl
  go_enter Tryz.func47, Tryz.ntmps47
  go_wp2
  go_loopw [12] (fun i wr => ∃ k : Nat, i = .int .i64 k ∧ k ≤ l.length ∧ Hid (inSet (l.take k) n g = false) ∧ Hid (Below w.heap.size w wr)) (fun i _ => l.length - (intOf i).toNat)
  case atStart => exact ⟨0, rfl, by omega, by simp [inSet, Hid], Below.refl _ _⟩
  case round =>
    obtain ⟨k, rfl, hk, hall, hbr⟩ := hrel
    by_cases hlt : k < l.length
    · obtain ⟨x, hx⟩ : ∃ x, l[k]? = some x := ⟨_, List.getElem?_eq_getElem hlt⟩
      obtain ⟨hx1, hx2⟩ := HL.out x (List.mem_of_getElem? hx)
      have hin := inSet_step l k n g x hx hall.out
      obtain ⟨a, b⟩ := x
      obtain ⟨ad, rfl, hab, hcs⟩ := (HR.out.below hbr.out).2 (by omega)
      obtain ⟨e1, e2⟩ := spanCells_at l k _ hx
      have hc1 := hcs _ _ e1
      have hc2 := hcs _ _ e2
      rw [add_succ] at hc2
      clear hx hcs e1 e2
      have hbd : Below w.heap.size w wr.drew := hbr.out.drew
      have HBD := Lib.hid hbd
      clear hbd
      have hspan : inSpan (a, b) n g = ((decide ((if a = 0 then g else a) ≤ n) && decide (n ≤ (if b = 0 then g else b))) || (decide ((if b = 0 then g else b) ≤ n) && decide (n ≤ (if a = 0 then g else a)))) := inSpan_ref (a, b) n g _ _ rfl rfl
      rw [hspan] at hin
      clear hspan
      obtain ⟨a', ha'⟩ : ∃ a', a' = if a = 0 then g else a := ⟨_, rfl⟩
      obtain ⟨b', hb'⟩ : ∃ b', b' = if b = 0 then g else b := ⟨_, rfl⟩
      rw [← ha', ← hb'] at hin
      have hx1 : a ≤ 4294967295 := hx1
      have hx2 : b ≤ 4294967295 := hx2
      have Hin := Lib.hid hin
      clear hin
      have hend : ∀ (wr' : World), (decide (1 ≤ n) && (decide (a' ≤ n) && decide (n ≤ b') || decide (b' ≤ n) && decide (n ≤ a'))) = true → inSet l n g = true := fun _ h => inSet_take l (k + 1) n g (by rw [Hin.out]; exact h)
      have Hend := Lib.hid hend
      clear hend
      by_cases ha : a = 0 <;> by_cases hb : b = 0
      all_goals
        simp only [ha, hb, if_true, if_false] at ha' hb'
        subst ha' hb'
        go_wp2
        go_region
        all_goals (try go_wp2)
      all_goals first
        | (go_roundw
           case rel =>
             refine ⟨k + 1, by go_num, by omega, ?_, HBD⟩
             show _ = _
             rw [Hin.out, Bool.eq_false_iff]; intro h; simp only [Bool.and_eq_true, Bool.or_eq_true, decide_eq_true_eq] at h; omega
           case measure => simp [intOf]; omega)
        | (go_ret
           refine ⟨ret_bool (Hend.out wr ?_).symm, HBD.out⟩
           simp only [Bool.and_eq_true, Bool.or_eq_true, decide_eq_true_eq]; omega)
    · obtain rfl : k = l.length := by omega
      have hf := hall.out
      rw [List.take_of_length_le (Nat.le_refl _)] at hf
      have HF := Lib.hid hf
      clear hf hall
      go_wp2
      go_ret
      exact ⟨ret_bool HF.out.symm, hbr.out⟩
end Go.Proofs.YtjhaccmcjlbllaaGreatDoor
