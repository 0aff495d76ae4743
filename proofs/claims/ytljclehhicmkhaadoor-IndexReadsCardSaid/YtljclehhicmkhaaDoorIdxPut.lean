/-
  Walk: the page of an index.
-/
import Derived.Test.YtljclehhicmkhaaDoorIdxRight
namespace Go.Proofs.YtljclehhicmkhaaDoor
open Go.RowKit
set_option linter.unusedSimpArgs false
set_option linter.unusedVariables false
def entB (q : MarkM) : List UInt8 := be 4 q.1 ++ be 4 q.2.toNat
def indexB (nm : ByteArray) (e nx : Nat) (u : Int) (l : List MarkM) : List UInt8 := textB nm ++ [e, nx, u.toNat].flatMap (be 4) ++ be 2 l.length ++ l.flatMap entB
def idxErr (nm : ByteArray) (e nx : Nat) (u : Int) (l : List MarkM) : Int := if rightIndexV nm e nx u l = true then 0 else 1
def idxPage (nm : ByteArray) (e nx : Nat) (u : Int) (l : List MarkM) : List UInt8 := if rightIndexV nm e nx u l = true then pageB 1 (indexB nm e nx u l) else []
theorem entFlat_len (l : List MarkM) : (l.flatMap entB).length = l.length * 8 := by
  induction l with
  | nil => simp
  | cons x r ih =>
    rw [List.flatMap_cons, List.length_append, List.length_cons, ih]
    have : (entB x).length = 8 := by unfold entB; simp [be_length]
    omega
theorem be4_len (xs : List Nat) : (xs.flatMap (be 4)).length = xs.length * 4 := by
  induction xs with
  | nil => simp
  | cons x r ih => rw [List.flatMap_cons, List.length_append, List.length_cons, ih, be_length]; omega
theorem textB_len (s : ByteArray) : (textB s).length = 2 + s.size := by unfold textB; simp [be_length]
theorem idx_parts {nm : ByteArray} {e nx : Nat} {u : Int} {l : List MarkM} (h : rightIndexV nm e nx u l = true) : nm.size ≤ 60 ∧ nameIs nm = true ∧ 1 ≤ e ∧ 1 ≤ nx ∧ 0 ≤ u ∧ u ≤ 4294967295 ∧ l.length ≤ 500 := by
  unfold rightIndexV at h
  simp only [Bool.and_eq_true, decide_eq_true_eq] at h
  exact ⟨nameIs_size h.1.1.1.1.1.2, h.1.1.1.1.1.2, h.1.1.1.1.2, h.1.1.1.2, h.1.1.2, h.1.2, h.2⟩
theorem idx_good {nm : ByteArray} {e nx : Nat} {u : Int} {l : List MarkM} (h : rightIndexV nm e nx u l = true) {j : Nat} {x : MarkM} (hx : l[j]? = some x) : 0 ≤ x.2 ∧ x.2 ≤ 4294967295 := by
  unfold rightIndexV at h
  simp only [Bool.and_eq_true] at h
  have := marks_at hx h.1.1.1.1.1.1
  unfold mstep goodE at this
  simp only [Bool.and_eq_true, decide_eq_true_eq] at this
  exact ⟨this.2.1.2, this.2.2⟩
theorem indexB_len {nm : ByteArray} {e nx : Nat} {u : Int} {l : List MarkM} (h : rightIndexV nm e nx u l = true) : (indexB nm e nx u l).length ≤ 5000 := by
  obtain ⟨h1, _, _, _, _, _, h2⟩ := idx_parts h
  unfold indexB
  rw [List.length_append, List.length_append, List.length_append, textB_len, be4_len, be_length, entFlat_len]
  simp
  omega
theorem flat_step {M : Type} {f : M → List UInt8} {l : List M} {j : Nat} {x : M} (hx : l[j]? = some x) : (l.take (j + 1)).flatMap f = (l.take j).flatMap f ++ f x := by
  rw [List.take_add_one, hx]
  simp [List.flatMap_append]
set_option maxRecDepth 100000 in
set_option maxHeartbeats 2000000 in
theorem putIndex_any (nm : ByteArray) (A : Option Addr) (c n e nx : Nat) (u : Int) (l : List MarkM) (w : World) (hm : MaxCell w) (hg : 1 < w.heap.size) (hs : nm.size ≤ 9223372036854775807) (hu : ∀ q ∈ l, q.1 < 4294967296) (he : e < 4294967296) (hnx : nx < 4294967296) (hl : l.length = n) (hn : n ≤ 9223372036854775807) (hr : Reads w w.heap.size 2 A n (mcells l)) :
    Calls Tryd.prog 17 #[.agg #[.string nm, .int .u32 (e : Nat), .int .u32 (nx : Nat), .int .i64 u, .slice A n c]] w fun ev w' => ∃ r, ev = .returned (.tuple #[r, .int .i64 (idxErr nm e nx u l)]) ∧ Own8 w.heap.size w' r (idxPage nm e nx u l) ∧ Below w.heap.size w w' := by
  refine calls_at 54 Tryd.func17 rfl rfl (Nat.le_of_ble_eq_true rfl) ?_
  intro a hA
  simp only [argsE, keepE, lookS, Nat.reduceBEq, cond_true, cond_false, Nat.reduceAdd, gv_tt, gv_ff, Bool.true_and, Bool.false_and, Bool.true_or, Bool.false_or] at hA
  refine wp_seq ?_
  refine wp_region_lit ?_
  -- stop box slot 1
  refine wl_new hA rfl rfl (by decide) (fun ev h => by simp [go_sem, h.get 0 rfl]; try first | exact ⟨rfl, rfl⟩ | rfl) fun w1 a1 (K : Blk _ _ _ _) hz hb0 hA1 => ?_
  replace hr := (hr.below hb0).more hb0.size
  replace hm := hm.below hg hb0; replace hg := Nat.lt_of_lt_of_le hg hb0.size
  have HB := Below.refl w1.heap.size w1
  refine wl_op hA1 rfl rfl (by decide) (fun ev h => by simp [go_sem, h.c, (K.below HB K.lt).cell]; try first | exact ⟨rfl, rfl⟩ | rfl) fun a2 hA2 => ?_
  refine wl_op hA2 rfl rfl (by decide) (fun ev h => by simp [go_sem, h.c, (K.below HB K.lt).cell]; try first | exact ⟨rfl, rfl⟩ | rfl) fun a3 hA3 => ?_
  refine wl_nil ?_
  refine n_then ?_
  have hA4 := hA3.keep [1]
  simp only [argsE, keepE, lookS, Nat.reduceBEq, cond_true, cond_false, Nat.reduceAdd, gv_tt, gv_ff, Bool.true_and, Bool.false_and, Bool.true_or, Bool.false_or] at hA4
  clear hA hA1 hA2 hA3 a1 a2
  refine wp_seq ?_
  refine wp_seq ?_
  refine wp_region_lit ?_
  refine wl_op hA4 rfl rfl (by decide) (fun ev h => by simp [go_sem, h.get 1 rfl, (K.below HB K.lt).cell]; try first | exact ⟨rfl, rfl⟩ | rfl) fun a5 hA5 => ?_
  -- stop call slot 10
  refine wl_call hA5 rfl rfl (by decide) (fun ev h => by simp [go_sem, h.get 9 rfl, (K.below HB K.lt).cell, h.f]; try first | exact ⟨rfl, rfl⟩ | rfl) (rightIndex_any nm A c n e nx u l _ (hm.below hg HB) (Nat.lt_of_lt_of_le hg HB.size) hs hu hnx hl hn ((hr.below HB).more HB.size)) ?_
  rintro e w2 ⟨rfl, hb⟩
  refine ⟨_, rfl, fun a6 hA6 => ?_⟩
  replace HB := HB.trans (hb.mono HB.size)
  refine wl_op hA6 rfl rfl (by decide) (fun ev h => by simp [go_sem, h.get 10 rfl, (K.below HB K.lt).cell]; try first | exact ⟨rfl, rfl⟩ | rfl) fun a7 hA7 => ?_
  refine wl_nil ?_
  refine n_then ?_
  have hA8 := hA7.keep [1, 11]
  simp only [argsE, keepE, lookS, Nat.reduceBEq, cond_true, cond_false, Nat.reduceAdd, gv_tt, gv_ff, Bool.true_and, Bool.false_and, Bool.true_or, Bool.false_or] at hA8
  clear hA4 hA5 hA6 hA7 a3 a5 a6
  -- cond
  unfold idxErr idxPage
  refine wp_if hA8 11 _ rfl (fun hv => ?yA) (fun hv => ?nA)
  case yA =>
    have hv : rightIndexV nm e nx u l = false := by simpa using hv
    rw [hv, if_neg (by simp), if_neg (by simp)]
    refine wp_seq ?_
    refine wp_region_lit ?_
    refine wl_op hA8 rfl rfl (by decide) (fun ev h => by simp [go_sem, h.c, (K.below HB K.lt).cell]; try first | exact ⟨rfl, rfl⟩ | rfl) fun a9 hA9 => ?_
    refine wl_op hA9 rfl rfl (by decide) (fun ev h => by simp [go_sem, h.c, (K.below HB K.lt).cell]; try first | exact ⟨rfl, rfl⟩ | rfl) fun a10 hA10 => ?_
    refine wl_nil ?_
    refine n_then ?_
    have hA11 := hA10.keep [2, 3]
    simp only [argsE, keepE, lookS, Nat.reduceBEq, cond_true, cond_false, Nat.reduceAdd, gv_tt, gv_ff, Bool.true_and, Bool.false_and, Bool.true_or, Bool.false_or] at hA11
    clear hA8 hA9 hA10 a9
    refine wp_ret ?_
    refine r_then ?_
    refine ret_2 hA11 2 3 rfl rfl rfl ?_
    exact ⟨_, rfl, Own8.nil _, hb0.trans (HB.mono hb0.size)⟩
  case nA =>
    have hv : rightIndexV nm e nx u l = true := by simpa using hv
    rw [hv, if_pos rfl, if_pos rfl]
    obtain ⟨h60, _, h1e, h1x, hu0, hu1, h500⟩ := idx_parts hv
    have hil := indexB_len hv
    obtain ⟨ut, rfl⟩ : ∃ ut : Nat, u = (ut : Nat) := ⟨u.toNat, by omega⟩
    refine wp_skip ?_
    refine n_then ?_
    refine wp_seq ?_
    refine wp_region_lit ?_
    -- stop alloc slot 4
    have hB2 := HB.size
    refine wl_new hA8 rfl rfl (by decide) (fun ev h => by simp [go_sem, (K.below HB K.lt).cell]; try first | exact ⟨rfl, rfl⟩ | rfl) fun w3 a12 (Ko : Blk _ _ _ _) hz hb hA12 => ?_
    replace HB := HB.trans (hb.mono HB.size)
    obtain ⟨o, hoe⟩ : ∃ o, w2.heap.size = o := ⟨_, rfl⟩
    rw [hoe] at Ko hA12 hB2
    have hO : OutAt w3 w1.heap.size o [] false (.slice none 0 0) := ⟨hB2, Ko, World.ownsRow_nil _ _ _ _⟩
    have K0 := K.below HB K.lt
    refine wl_nil ?_
    refine n_then ?_
    have hA13 := hA12.keep [1, 4]
    simp only [argsE, keepE, lookS, Nat.reduceBEq, cond_true, cond_false, Nat.reduceAdd, gv_tt, gv_ff, Bool.true_and, Bool.false_and, Bool.true_or, Bool.false_or] at hA13
    clear hA8 hA12
    refine wp_seq ?_
    refine wp_region_lit ?_
    refine wl_op hA13 rfl rfl (by decide) (fun ev h => by simp [go_sem, h.get 1 rfl, K0.cell]; try first | exact ⟨rfl, rfl⟩ | rfl) fun a14 hA14 => ?_
    refine wl_op hA14 rfl rfl (by decide) (fun ev h => by simp [go_sem, h.get 12 rfl, K0.cell]; try first | exact ⟨rfl, rfl⟩ | rfl) fun a15 hA15 => ?_
    -- stop call slot 14
    refine wl_call hA15 rfl rfl (by decide) (fun ev h => by simp [go_sem, h.get 4 rfl, h.get 13 rfl, K0.cell, h.f]; try first | exact ⟨rfl, rfl⟩ | rfl) (out_Text hO HB.size (by simp) nm (by omega)) ?_
    rintro e w4 ⟨rfl, ⟨v4, hO⟩, hob⟩
    refine ⟨_, rfl, fun a16 hA16 => ?_⟩
    replace HB := HB.trans (hob.toBelow HB.size (Nat.le_refl _) hB2)
    have K0 := K.below HB K.lt
    have hwe : IntKind.i64.wrap (e : Int) = (e : Int) := IntWalk.i64_in _ (by omega)
    have hwx : IntKind.i64.wrap (nx : Int) = (nx : Int) := IntWalk.i64_in _ (by omega)
    refine wl_nil ?_
    refine n_then ?_
    have hA17 := hA16.keep [1, 4]
    simp only [argsE, keepE, lookS, Nat.reduceBEq, cond_true, cond_false, Nat.reduceAdd, gv_tt, gv_ff, Bool.true_and, Bool.false_and, Bool.true_or, Bool.false_or] at hA17
    clear hA13 hA14 hA15 hA16 a12 a14 a15
    refine wp_seq ?_
    refine wp_seq ?_
    refine wp_region_lit ?_
    refine wl_op hA17 rfl rfl (by decide) (fun ev h => by simp [go_sem, h.get 1 rfl, K0.cell, hwe, hwx]; try first | exact ⟨rfl, rfl⟩ | rfl) fun a18 hA18 => ?_
    refine wl_op hA18 rfl rfl (by decide) (fun ev h => by simp [go_sem, h.get 15 rfl, K0.cell, hwe, hwx]; try first | exact ⟨rfl, rfl⟩ | rfl) fun a19 hA19 => ?_
    refine wl_op hA19 rfl rfl (by decide) (fun ev h => by simp [go_sem, h.get 16 rfl, K0.cell, hwe, hwx]; try first | exact ⟨rfl, rfl⟩ | rfl) fun a20 hA20 => ?_
    refine wl_op hA20 rfl rfl (by decide) (fun ev h => by simp [go_sem, h.get 1 rfl, K0.cell, hwe, hwx]; try first | exact ⟨rfl, rfl⟩ | rfl) fun a21 hA21 => ?_
    refine wl_op hA21 rfl rfl (by decide) (fun ev h => by simp [go_sem, h.get 18 rfl, K0.cell, hwe, hwx]; try first | exact ⟨rfl, rfl⟩ | rfl) fun a22 hA22 => ?_
    refine wl_op hA22 rfl rfl (by decide) (fun ev h => by simp [go_sem, h.get 19 rfl, K0.cell, hwe, hwx]; try first | exact ⟨rfl, rfl⟩ | rfl) fun a23 hA23 => ?_
    refine wl_op hA23 rfl rfl (by decide) (fun ev h => by simp [go_sem, h.get 1 rfl, K0.cell, hwe, hwx]; try first | exact ⟨rfl, rfl⟩ | rfl) fun a24 hA24 => ?_
    refine wl_op hA24 rfl rfl (by decide) (fun ev h => by simp [go_sem, h.get 21 rfl, K0.cell, hwe, hwx]; try first | exact ⟨rfl, rfl⟩ | rfl) fun a25 hA25 => ?_
    -- stop buildSlice slot 23
    obtain ⟨ga, hga⟩ : ∃ ga, w4.heap.size = ga := ⟨_, rfl⟩
    have hgo : ga ≠ o := by have := hO.cells.lt; omega
    have hgB := HB.size
    refine wl_new hA25 rfl rfl (by decide) (fun ev h => by simp [go_sem, h.get 17 rfl, h.get 20 rfl, h.get 22 rfl, K0.cell, hwe, hwx]; try first | exact ⟨rfl, rfl⟩ | rfl) fun w5 a26 (Ka : Blk _ _ _ _) hz hb hA26 => ?_
    replace HB := HB.trans (hb.mono HB.size)
    replace hO := hO.below hb
    rw [hga] at Ka hA26 hgB
    refine wl_op hA26 rfl rfl (by decide) (fun ev h => by simp [go_sem, h.get 23 rfl, K0.cell, hwe, hwx]; try first | exact ⟨rfl, rfl⟩ | rfl) fun a27 hA27 => ?_
    refine wl_op hA27 rfl rfl (by decide) (fun ev h => by simp [go_sem, h.c, K0.cell, hwe, hwx]; try first | exact ⟨rfl, rfl⟩ | rfl) fun a28 hA28 => ?_
    refine wl_nil ?_
    refine n_then ?_
    have hA29 := hA28.keep [1, 4, 23, 24, 25]
    simp only [argsE, keepE, lookS, Nat.reduceBEq, cond_true, cond_false, Nat.reduceAdd, gv_tt, gv_ff, Bool.true_and, Bool.false_and, Bool.true_or, Bool.false_or] at hA29
    clear hA17 hA18 hA19 hA20 hA21 hA22 hA23 hA24 hA25 hA26 hA27 hA28 a16 a18 a19 a20 a21 a22 a23 a24 a25 a26 a27
    refine wp_block ?_
    -- loop
    refine wp_loop_at (fun k a wx => ∃ (j : Nat) (v : Value), j + k = 3 ∧ At 54 [(1, .pointer (some ⟨w.heap.size, 0, none⟩)), (4, .pointer (some ⟨o, 0, none⟩)), (23, .slice (some ⟨ga, 0, none⟩) 3 3), (24, .int .i64 3), (25, .int .i64 (j : Nat))] a ∧ OutAt wx w1.heap.size o (textB nm ++ ([e, nx, ut].take j).flatMap (be 4)) false v ∧ Blk wx ga 2 #[.int .i64 (e : Nat), .int .i64 (nx : Nat), .int .i64 (ut : Nat)] ∧ Below w1.heap.size w1 wx) (3) ?_ ?_
    · exact ⟨0, v4, by omega, hA29, by simpa using hO, Ka, HB⟩
    rintro k a wx ⟨j, v, hjk, hA, hO, Ka, HB⟩
    refine wp_seq ?_
    refine wp_region_lit ?_
    refine wl_op hA rfl rfl (by decide) (fun ev h => by simp [go_sem, h.get 25 rfl, h.get 24 rfl, K0.cell, hwe, hwx]; try first | exact ⟨rfl, rfl⟩ | rfl) fun a30 hA30 => ?_
    refine wl_nil ?_
    refine n_then ?_
    have hA31 := hA30.keep [1, 4, 23, 24, 25, 26]
    simp only [argsE, keepE, lookS, Nat.reduceBEq, cond_true, cond_false, Nat.reduceAdd, gv_tt, gv_ff, Bool.true_and, Bool.false_and, Bool.true_or, Bool.false_or] at hA31
    clear hA hA30
    refine wp_seq ?_
    -- cond
    refine wp_if hA31 26 _ rfl (fun hq => ?yL) (fun hq => ?nL)
    case yL =>
      have hlt : j < 3 := by simp at hq; omega
      have jj0 : (0 : Int) ≤ (j : Int) := by omega
      have jj1 : (j : Int) < 3 := by omega
      obtain ⟨xj, hxj⟩ : ∃ xj, [e, nx, ut][j]? = some xj := ⟨_, List.getElem?_eq_getElem (by simpa using hlt)⟩
      have hcj : wx.cell? ⟨ga, j, none⟩ = some (.int .i64 (xj : Nat)) := by
        rw [Ka.cell]
        rcases j with _ | _ | _ | j <;> simp at hxj ⊢ <;> first | (subst hxj; rfl) | omega
      have hxl : xj < 4294967296 := by
        have := List.mem_of_getElem? hxj
        simp at this
        omega
      have hfl : (([e, nx, ut].take j).flatMap (be 4)).length ≤ 12 := by rw [be4_len, List.length_take]; simp; omega
      refine wp_skip ?_
      refine n_then ?_
      refine wp_seq ?_
      refine wp_block ?_
      refine wp_seq ?_
      refine wp_region_lit ?_
      refine wl_op hA31 rfl rfl (by decide) (fun ev h => by simp [go_sem, h.get 23 rfl, h.get 25 rfl, jj0, jj1, hcj]; try first | exact ⟨rfl, rfl⟩ | rfl) fun a32 hA32 => ?_
      refine wl_op hA32 rfl rfl (by decide) (fun ev h => by simp [go_sem, h.get 27 rfl, jj0, jj1, hcj]; try first | exact ⟨rfl, rfl⟩ | rfl) fun a33 hA33 => ?_
      refine wl_op hA33 rfl rfl (by decide) (fun ev h => by simp [go_sem, h.get 28 rfl, jj0, jj1, hcj]; try first | exact ⟨rfl, rfl⟩ | rfl) fun a34 hA34 => ?_
      refine wl_nil ?_
      refine n_then ?_
      have hA35 := hA34.keep [1, 4, 6, 23, 24, 25]
      simp only [argsE, keepE, lookS, Nat.reduceBEq, cond_true, cond_false, Nat.reduceAdd, gv_tt, gv_ff, Bool.true_and, Bool.false_and, Bool.true_or, Bool.false_or] at hA35
      clear hA31 hA32 hA33 hA34 a32 a33
      refine wp_region_lit ?_
      refine wl_op hA35 rfl rfl (by decide) (fun ev h => by simp [go_sem, h.get 6 rfl, jj0, jj1, hcj]; try first | exact ⟨rfl, rfl⟩ | rfl) fun a36 hA36 => ?_
      -- stop call slot 30
      refine wl_call hA36 rfl rfl (by decide) (fun ev h => by simp [go_sem, h.c, h.get 4 rfl, h.get 29 rfl, jj0, jj1, hcj, h.f]; try first | exact ⟨rfl, rfl⟩ | rfl) (out_N hO HB.size (by rw [List.length_append, textB_len]; omega) xj 4 (by omega) (by omega)) ?_
      rintro e w6 ⟨rfl, ⟨v6, hO⟩, hob⟩
      refine ⟨_, rfl, fun a37 hA37 => ?_⟩
      replace HB := HB.trans (hob.toBelow HB.size (Nat.le_refl _) hB2)
      have Ka := Ka.obut hob hgo (by decide)
      have hwj : IntKind.i64.wrap ((j : Int) + 1) = (j : Int) + 1 := IntWalk.i64_in _ (by omega)
      refine wl_nil ?_
      refine n_block ?_
      refine n_then ?_
      have hA38 := hA37.keep [1, 4, 23, 24, 25]
      simp only [argsE, keepE, lookS, Nat.reduceBEq, cond_true, cond_false, Nat.reduceAdd, gv_tt, gv_ff, Bool.true_and, Bool.false_and, Bool.true_or, Bool.false_or] at hA38
      clear hA35 hA36 hA37 a34 a36
      refine wp_region_lit ?_
      refine wl_op hA38 rfl rfl (by decide) (fun ev h => by simp [go_sem, h.c, h.get 25 rfl, hwj]; try first | exact ⟨rfl, rfl⟩ | rfl) fun a39 hA39 => ?_
      refine wl_op hA39 rfl rfl (by decide) (fun ev h => by simp [go_sem, h.get 31 rfl, hwj]; try first | exact ⟨rfl, rfl⟩ | rfl) fun a40 hA40 => ?_
      refine wl_nil ?_
      refine n_then ?_
      have hA41 := hA40.keep [1, 4, 23, 24, 25]
      simp only [argsE, keepE, lookS, Nat.reduceBEq, cond_true, cond_false, Nat.reduceAdd, gv_tt, gv_ff, Bool.true_and, Bool.false_and, Bool.true_or, Bool.false_or] at hA41
      clear hA38 hA39 hA40 a37 a39
      -- round
      have hj1 : ((j : Int) + 1) = ((j + 1 : Nat) : Int) := by omega
      rw [hj1] at hA41
      rw [List.append_assoc, ← flat_step hxj] at hO
      exact ⟨k - 1, by omega, j + 1, v6, by omega, hA41, hO, Ka, HB⟩
    case nL =>
      have hj3 : j = 3 := by simp at hq; omega
      subst hj3
      have hO : OutAt wx w1.heap.size o (textB nm ++ [e, nx, ut].flatMap (be 4)) false v := hO
      have hx3 : ([e, nx, ut].flatMap (be 4)).length = 12 := by rw [be4_len]; rfl
      have K0 := K.below HB K.lt
      refine wp_exit ?_
      refine x_then ?_
      refine x_then ?_
      refine x_block ?_
      refine n_then ?_
      have hA42 := hA31.keep [1, 4]
      simp only [argsE, keepE, lookS, Nat.reduceBEq, cond_true, cond_false, Nat.reduceAdd, gv_tt, gv_ff, Bool.true_and, Bool.false_and, Bool.true_or, Bool.false_or] at hA42
      clear hA31
      refine wp_seq ?_
      refine wp_region_lit ?_
      refine wl_op hA42 rfl rfl (by decide) (fun ev h => by simp [go_sem, h.get 1 rfl, K0.cell]; try first | exact ⟨rfl, rfl⟩ | rfl) fun a43 hA43 => ?_
      refine wl_op hA43 rfl rfl (by decide) (fun ev h => by simp [go_sem, h.get 32 rfl, K0.cell]; try first | exact ⟨rfl, rfl⟩ | rfl) fun a44 hA44 => ?_
      refine wl_op hA44 rfl rfl (by decide) (fun ev h => by simp [go_sem, h.get 33 rfl, K0.cell]; try first | exact ⟨rfl, rfl⟩ | rfl) fun a45 hA45 => ?_
      -- stop call slot 35
      refine wl_call hA45 rfl rfl (by decide) (fun ev h => by simp [go_sem, h.c, h.get 4 rfl, h.get 34 rfl, K0.cell, h.f]; try first | exact ⟨rfl, rfl⟩ | rfl) (out_N hO HB.size (by rw [List.length_append, textB_len]; omega) n 2 (by omega) (by omega)) ?_
      rintro e w7 ⟨rfl, ⟨v7, hO⟩, hob⟩
      refine ⟨_, rfl, fun a46 hA46 => ?_⟩
      replace HB := HB.trans (hob.toBelow HB.size (Nat.le_refl _) hB2)
      replace K0 := K.below HB K.lt
      refine wl_nil ?_
      refine n_then ?_
      have hA47 := hA46.keep [1, 4]
      simp only [argsE, keepE, lookS, Nat.reduceBEq, cond_true, cond_false, Nat.reduceAdd, gv_tt, gv_ff, Bool.true_and, Bool.false_and, Bool.true_or, Bool.false_or] at hA47
      clear hA42 hA43 hA44 hA45 hA46 a43 a44 a45
      refine wp_seq ?_
      refine wp_seq ?_
      refine wp_region_lit ?_
      refine wl_op hA47 rfl rfl (by decide) (fun ev h => by simp [go_sem, h.get 1 rfl, K0.cell]; try first | exact ⟨rfl, rfl⟩ | rfl) fun a48 hA48 => ?_
      refine wl_op hA48 rfl rfl (by decide) (fun ev h => by simp [go_sem, h.get 36 rfl, K0.cell]; try first | exact ⟨rfl, rfl⟩ | rfl) fun a49 hA49 => ?_
      refine wl_op hA49 rfl rfl (by decide) (fun ev h => by simp [go_sem, h.get 37 rfl, K0.cell]; try first | exact ⟨rfl, rfl⟩ | rfl) fun a50 hA50 => ?_
      refine wl_op hA50 rfl rfl (by decide) (fun ev h => by simp [go_sem, h.c, K0.cell]; try first | exact ⟨rfl, rfl⟩ | rfl) fun a51 hA51 => ?_
      refine wl_nil ?_
      refine n_then ?_
      have hA52 := hA51.keep [4, 37, 38, 39]
      simp only [argsE, keepE, lookS, Nat.reduceBEq, cond_true, cond_false, Nat.reduceAdd, gv_tt, gv_ff, Bool.true_and, Bool.false_and, Bool.true_or, Bool.false_or] at hA52
      clear hA47 hA48 hA49 hA50 hA51 a46 a48 a49 a50
      refine wp_block ?_
      -- loop
      refine wp_loop_at (fun k a wx => ∃ (j : Nat) (v : Value), j + k = n ∧ At 54 [(4, .pointer (some ⟨o, 0, none⟩)), (37, .slice A n c), (38, .int .i64 (n : Nat)), (39, .int .i64 (j : Nat))] a ∧ OutAt wx w1.heap.size o (textB nm ++ [e, nx, ut].flatMap (be 4) ++ be 2 n ++ (l.take j).flatMap entB) false v ∧ Below w1.heap.size w1 wx) (n) ?_ ?_
      · exact ⟨0, v7, by omega, hA52, by simpa using hO, HB⟩
      clear HB hO K0 Ka
      rintro k a wx ⟨j, v, hjk, hA, hO, HB⟩
      refine wp_seq ?_
      refine wp_region_lit ?_
      refine wl_op hA rfl rfl (by decide) (fun ev h => by simp [go_sem, h.get 39 rfl, h.get 38 rfl]; try first | exact ⟨rfl, rfl⟩ | rfl) fun a53 hA53 => ?_
      refine wl_nil ?_
      refine n_then ?_
      have hA54 := hA53.keep [4, 37, 38, 39, 40]
      simp only [argsE, keepE, lookS, Nat.reduceBEq, cond_true, cond_false, Nat.reduceAdd, gv_tt, gv_ff, Bool.true_and, Bool.false_and, Bool.true_or, Bool.false_or] at hA54
      clear hA hA53
      refine wp_seq ?_
      -- cond
      refine wp_if hA54 40 _ rfl (fun hq => ?yM) (fun hq => ?nM)
      case yM =>
        have hlt : j < n := by simp at hq; omega
        obtain ⟨x, hx⟩ : ∃ x, l[j]? = some x := ⟨_, List.getElem?_eq_getElem (by omega)⟩
        obtain ⟨ad, rfl, hadl, hc⟩ := hr.2 (by omega)
        obtain ⟨k0, k1⟩ := mark_at hc hx
        have hadl' : (ad.add (j * 2)).block < w1.heap.size := by rw [block_of_add]; exact hadl
        obtain ⟨xu, xf⟩ := x
        have hxu := hu _ (List.mem_of_getElem? hx)
        obtain ⟨hf0, hf1⟩ := idx_good hv hx
        simp only at k0 k1 hxu hf0 hf1
        obtain ⟨xn, rfl⟩ : ∃ xn : Nat, xf = (xn : Nat) := ⟨xf.toNat, by omega⟩
        have z0 := (HB.cell hadl').trans k0
        have z1 := (HB.cell (p := ⟨(ad.add (j * 2)).block, (ad.add (j * 2)).off + 1, none⟩) hadl').trans k1
        have jj0 : (0 : Int) ≤ (j : Int) := by omega
        have jj1 : (j : Int) < (n : Int) := by omega
        have hwu : IntKind.i64.wrap (xu : Int) = (xu : Int) := IntWalk.i64_in _ (by omega)
        have hfl : ((l.take j).flatMap entB).length ≤ 4000 := by rw [entFlat_len, List.length_take]; omega
        refine wp_skip ?_
        refine n_then ?_
        refine wp_seq ?_
        refine wp_block ?_
        refine wp_seq ?_
        refine wp_region_lit ?_
        refine wl_op hA54 rfl rfl (by decide) (fun ev h => by simp [go_sem, h.get 37 rfl, h.get 39 rfl, z0, z1, jj0, jj1, hwu]; try first | exact ⟨rfl, rfl⟩ | rfl) fun a55 hA55 => ?_
        refine wl_op hA55 rfl rfl (by decide) (fun ev h => by simp [go_sem, h.get 41 rfl, z0, z1, jj0, jj1, hwu]; try first | exact ⟨rfl, rfl⟩ | rfl) fun a56 hA56 => ?_
        -- stop alloc slot 8
        obtain ⟨g5, hg5⟩ : ∃ g5, wx.heap.size = g5 := ⟨_, rfl⟩
        have hgo5 : g5 ≠ o := by have := hO.cells.lt; omega
        refine wl_local [.int .u32 (xu : Nat), .int .i64 (xn : Nat)] hA56 rfl rfl (by decide) (fun ev h => by simp [go_sem, z0, z1, jj0, jj1, hwu]; try first | exact ⟨rfl, rfl⟩ | rfl) rfl rfl (by rfl) (fun w1 g ev hb h => by simp [go_sem, h.get 8 rfl, h.get 42 rfl, z0, z1, jj0, jj1, hwu, setAll, hb.cell, hb.frozen]) fun w8 a57 (Ke : Blk _ _ _ _) hz hb hA57 => ?_
        replace HB := HB.trans (hb.mono HB.size)
        replace hO := hO.below hb
        rw [hg5] at Ke hA57
        refine wl_nil ?_
        refine n_then ?_
        have hA58 := hA57.keep [4, 8, 37, 38, 39]
        simp only [argsE, keepE, lookS, Nat.reduceBEq, cond_true, cond_false, Nat.reduceAdd, gv_tt, gv_ff, Bool.true_and, Bool.false_and, Bool.true_or, Bool.false_or] at hA58
        clear hA54 hA55 hA56 hA57 a55 a56
        refine wp_seq ?_
        refine wp_region_lit ?_
        refine wl_op hA58 rfl rfl (by decide) (fun ev h => by simp [go_sem, h.get 8 rfl, Ke.cell, hwu]; try first | exact ⟨rfl, rfl⟩ | rfl) fun a59 hA59 => ?_
        refine wl_op hA59 rfl rfl (by decide) (fun ev h => by simp [go_sem, h.get 43 rfl, Ke.cell, hwu]; try first | exact ⟨rfl, rfl⟩ | rfl) fun a60 hA60 => ?_
        refine wl_op hA60 rfl rfl (by decide) (fun ev h => by simp [go_sem, h.get 44 rfl, Ke.cell, hwu]; try first | exact ⟨rfl, rfl⟩ | rfl) fun a61 hA61 => ?_
        -- stop call slot 46
        refine wl_call hA61 rfl rfl (by decide) (fun ev h => by simp [go_sem, h.c, h.get 4 rfl, h.get 45 rfl, Ke.cell, hwu, h.f]; try first | exact ⟨rfl, rfl⟩ | rfl) (out_N hO HB.size (by simp only [List.length_append, textB_len, be_length]; omega) xu 4 (by omega) (by omega)) ?_
        rintro e w9 ⟨rfl, ⟨v9, hO⟩, hob⟩
        refine ⟨_, rfl, fun a62 hA62 => ?_⟩
        replace HB := HB.trans (hob.toBelow HB.size (Nat.le_refl _) hB2)
        replace Ke := Ke.obut hob hgo5 (by decide)
        refine wl_nil ?_
        refine n_then ?_
        have hA63 := hA62.keep [4, 8, 37, 38, 39]
        simp only [argsE, keepE, lookS, Nat.reduceBEq, cond_true, cond_false, Nat.reduceAdd, gv_tt, gv_ff, Bool.true_and, Bool.false_and, Bool.true_or, Bool.false_or] at hA63
        clear hA58 hA59 hA60 hA61 hA62 a57 a59 a60 a61
        refine wp_region_lit ?_
        refine wl_op hA63 rfl rfl (by decide) (fun ev h => by simp [go_sem, h.get 8 rfl, Ke.cell, hwu]; try first | exact ⟨rfl, rfl⟩ | rfl) fun a64 hA64 => ?_
        refine wl_op hA64 rfl rfl (by decide) (fun ev h => by simp [go_sem, h.get 47 rfl, Ke.cell, hwu]; try first | exact ⟨rfl, rfl⟩ | rfl) fun a65 hA65 => ?_
        -- stop call slot 49
        refine wl_call hA65 rfl rfl (by decide) (fun ev h => by simp [go_sem, h.c, h.get 4 rfl, h.get 48 rfl, Ke.cell, hwu, h.f]; try first | exact ⟨rfl, rfl⟩ | rfl) (out_N hO HB.size (by simp only [List.length_append, textB_len, be_length]; omega) xn 4 (by omega) (by omega)) ?_
        rintro e w10 ⟨rfl, ⟨v10, hO⟩, hob⟩
        refine ⟨_, rfl, fun a66 hA66 => ?_⟩
        replace HB := HB.trans (hob.toBelow HB.size (Nat.le_refl _) hB2)
        have hwj : IntKind.i64.wrap ((j : Int) + 1) = (j : Int) + 1 := IntWalk.i64_in _ (by omega)
        refine wl_nil ?_
        refine n_block ?_
        refine n_then ?_
        have hA67 := hA66.keep [4, 37, 38, 39]
        simp only [argsE, keepE, lookS, Nat.reduceBEq, cond_true, cond_false, Nat.reduceAdd, gv_tt, gv_ff, Bool.true_and, Bool.false_and, Bool.true_or, Bool.false_or] at hA67
        clear hA63 hA64 hA65 hA66 a62 a64 a65
        refine wp_region_lit ?_
        refine wl_op hA67 rfl rfl (by decide) (fun ev h => by simp [go_sem, h.c, h.get 39 rfl, hwj]; try first | exact ⟨rfl, rfl⟩ | rfl) fun a68 hA68 => ?_
        refine wl_op hA68 rfl rfl (by decide) (fun ev h => by simp [go_sem, h.get 50 rfl, hwj]; try first | exact ⟨rfl, rfl⟩ | rfl) fun a69 hA69 => ?_
        refine wl_nil ?_
        refine n_then ?_
        have hA70 := hA69.keep [4, 37, 38, 39]
        simp only [argsE, keepE, lookS, Nat.reduceBEq, cond_true, cond_false, Nat.reduceAdd, gv_tt, gv_ff, Bool.true_and, Bool.false_and, Bool.true_or, Bool.false_or] at hA70
        clear hA67 hA68 hA69 a66 a68
        -- round
        have hj1 : ((j : Int) + 1) = ((j + 1 : Nat) : Int) := by omega
        rw [hj1] at hA70
        have hst : textB nm ++ [e, nx, ut].flatMap (be 4) ++ be 2 n ++ (l.take (j + 1)).flatMap entB = textB nm ++ [e, nx, ut].flatMap (be 4) ++ be 2 n ++ (l.take j).flatMap entB ++ be 4 xu ++ be 4 xn := by
          rw [flat_step hx]
          simp [entB]
        rw [← hst] at hO
        exact ⟨k - 1, by omega, j + 1, v10, by omega, hA70, hO, HB⟩
      case nM =>
        have hjn : j = n := by simp at hq; omega
        subst hjn
        have hfin : textB nm ++ [e, nx, ut].flatMap (be 4) ++ be 2 j ++ (l.take j).flatMap entB = indexB nm e nx (ut : Nat) l := by
          unfold indexB
          rw [List.take_of_length_le (by omega), hl, Int.toNat_natCast]
        rw [hfin] at hO
        refine wp_exit ?_
        refine x_then ?_
        refine x_then ?_
        refine x_block ?_
        refine n_then ?_
        have hA71 := hA54.keep [4]
        simp only [argsE, keepE, lookS, Nat.reduceBEq, cond_true, cond_false, Nat.reduceAdd, gv_tt, gv_ff, Bool.true_and, Bool.false_and, Bool.true_or, Bool.false_or] at hA71
        clear hA54
        refine wp_seq ?_
        refine wp_region_lit ?_
        -- stop call slot 51
        have hwx := Nat.le_trans hb0.size HB.size
        refine wl_call hA71 rfl rfl (by decide) (fun ev h => by simp [go_sem, h.c, h.get 4 rfl, h.f]; try first | exact ⟨rfl, rfl⟩ | rfl) (put_any hO (by omega) 1 (by omega)) ?_
        rintro e w11 ⟨r, rfl, ho, hb⟩
        refine ⟨_, rfl, fun a72 hA72 => ?_⟩
        replace HB := HB.trans (hb.mono HB.size)
        have he9 : errLong (indexB nm e nx (ut : Nat) l).length = 0 := by unfold errLong; rw [if_pos (by omega)]
        have hp9 : pageOr 1 (indexB nm e nx (ut : Nat) l) = pageB 1 (indexB nm e nx (ut : Nat) l) := by unfold pageOr; rw [if_pos (by omega)]
        rw [he9] at hA72
        rw [hp9] at ho
        refine wl_op hA72 rfl rfl (by decide) (fun ev h => by simp [go_sem, h.get 51 rfl]; try first | exact ⟨rfl, rfl⟩ | rfl) fun a73 hA73 => ?_
        refine wl_op hA73 rfl rfl (by decide) (fun ev h => by simp [go_sem, h.get 51 rfl]; try first | exact ⟨rfl, rfl⟩ | rfl) fun a74 hA74 => ?_
        refine wl_op hA74 rfl rfl (by decide) (fun ev h => by simp [go_sem, h.get 52 rfl]; try first | exact ⟨rfl, rfl⟩ | rfl) fun a75 hA75 => ?_
        refine wl_op hA75 rfl rfl (by decide) (fun ev h => by simp [go_sem, h.get 53 rfl]; try first | exact ⟨rfl, rfl⟩ | rfl) fun a76 hA76 => ?_
        refine wl_nil ?_
        refine n_then ?_
        have hA77 := hA76.keep [2, 3]
        simp only [argsE, keepE, lookS, Nat.reduceBEq, cond_true, cond_false, Nat.reduceAdd, gv_tt, gv_ff, Bool.true_and, Bool.false_and, Bool.true_or, Bool.false_or] at hA77
        clear hA71 hA72 hA73 hA74 hA75 hA76 a72 a73 a74 a75
        refine wp_ret ?_
        refine ret_2 hA77 2 3 rfl rfl rfl ?_
        exact ⟨r, rfl, (Own8.of ho).mono hwx, hb0.trans (HB.mono hb0.size)⟩
end Go.Proofs.YtljclehhicmkhaaDoor
