/-
  Walk: SHA-256 by the document (cubbyref01.Digest).
-/
import Derived.Test.YtmjikfeaopmejaaGreatDoorBwb
import Derived.BigRegion
import Derived.Deep.RegionLaw
import Derived.Lib.ConvBytes
import Derived.Laws.BitsAllLaws
import Derived.Lib.SlBytesConst
import Derived.Lib.SplitLaws
namespace Go.Proofs.YtmjikfeaopmejaaGreatDoor
open Go.RowKit
set_option linter.unusedSimpArgs false
set_option linter.unusedVariables false
def u64v (x : Nat) : Value := .int .u64 (x : Nat)
def shaC64 (l : List Nat) : List Value := (l ++ List.replicate (64 - l.length) 0).map u64v
theorem shaC64_len {l : List Nat} (h : l.length ≤ 64) : (shaC64 l).length = 64 := by unfold shaC64; simp; omega
theorem shaC64_set {l : List Nat} (h : l.length < 64) (x : Nat) : (shaC64 l).set l.length (u64v x) = shaC64 (l ++ [x]) := by
  unfold shaC64
  have e : List.replicate (64 - l.length) 0 = 0 :: List.replicate (64 - (l ++ [x]).length) 0 := by
    rw [List.length_append, show 64 - l.length = (64 - (l.length + [x].length)) + 1 by simp; omega, List.replicate_succ]
  rw [e, List.map_append, List.map_cons, List.set_append_right _ _ (by simp), List.length_map, Nat.sub_self, List.set_cons_zero, List.append_assoc, List.map_append]
  simp
theorem shaC64_at {l : List Nat} {j : Nat} (h : j < l.length) : (shaC64 l)[j]? = some (.int .u64 ((l.getD j 0 : Nat) : Int)) := by
  unfold shaC64
  rw [List.getElem?_map, List.getElem?_append_left h, List.getD_eq_getElem?_getD, List.getElem?_eq_getElem h]
  rfl
theorem shaC64_zero {l : List Nat} {j : Nat} (h : l.length ≤ j) (h2 : j < 64) : (shaC64 l)[j]? = some (.int .u64 0) := by
  unfold shaC64
  rw [List.getElem?_map, List.getElem?_append_right h, List.getElem?_replicate, if_pos (by omega)]
  rfl
theorem shaC64_full {l : List Nat} (h : l.length = 64) : shaC64 l = l.map u64v := by unfold shaC64; rw [h]; simp
theorem map64_one (l : List Nat) : (l.map u64v).all (·.oneCell') = true := by
  rw [List.all_map, List.all_eq_true]
  intro x _
  rfl
theorem map64_no (l : List Nat) : (shaC64 l).toArray.toList.all noB8 = true := by
  unfold shaC64
  rw [List.all_map, List.all_eq_true]
  intro x _
  rfl
theorem map64_no' (l : List Nat) : (l.map u64v).toArray.toList.all noB8 = true := by
  rw [List.all_map, List.all_eq_true]
  intro x _
  rfl
theorem map64_at {l : List Nat} {i : Nat} (h : i < l.length) : (l.map u64v)[i]? = some (.int .u64 ((l.getD i 0 : Nat) : Int)) := by
  rw [List.getElem?_map, List.getD_eq_getElem?_getD, List.getElem?_eq_getElem h]
  rfl
def mask (a : Nat) : Nat := a % 4294967296
theorem v_mask {a : Nat} (h : a < 18446744073709551616) : bits .and .u64 (a : Int) 4294967295 = ((mask a : Nat) : Int) := by
  have := u64_and_nat a 4294967295 h (by decide)
  rw [show (4294967295 : Nat) = 2 ^ 32 - 1 by decide, Nat.and_two_pow_sub_one_eq_mod] at this
  exact this
theorem mask_lt (a : Nat) : mask a < 4294967296 := Nat.mod_lt _ (by decide)
theorem v_ones {a : Nat} (h : a < 4294967296) : bits .xor .u64 4294967295 (a : Int) = ((xo 4294967295 a : Nat) : Int) := v_xo (a := 4294967295) (by decide) h
/-- a state's words, those behind a place moved on by one -/
def shiftN (s : ShaS) (j : Nat) : List Nat := (List.range 8).map fun p => if j < p then s.l.getD (p - 1) 0 else s.l.getD p 0
theorem shiftN_get {s : ShaS} {j : Nat} (h : j < 7) : ((shiftN s (j + 1)).map u64v)[j]? = some (.int .u64 ((s.l.getD j 0 : Nat) : Int)) ∧ ((shiftN s (j + 1)).map u64v)[j + 1]? = some (.int .u64 ((s.l.getD (j + 1) 0 : Nat) : Int)) := by
  have hc : j = 0 ∨ j = 1 ∨ j = 2 ∨ j = 3 ∨ j = 4 ∨ j = 5 ∨ j = 6 := by omega
  rcases hc with rfl | rfl | rfl | rfl | rfl | rfl | rfl <;> exact ⟨rfl, rfl⟩
theorem shiftN_set {s : ShaS} {j : Nat} (h : j < 7) : ((shiftN s (j + 1)).map u64v).set (j + 1) (.int .u64 ((s.l.getD j 0 : Nat) : Int)) = (shiftN s j).map u64v := by
  have hc : j = 0 ∨ j = 1 ∨ j = 2 ∨ j = 3 ∨ j = 4 ∨ j = 5 ∨ j = 6 := by omega
  rcases hc with rfl | rfl | rfl | rfl | rfl | rfl | rfl <;> rfl
theorem shiftN_7 (s : ShaS) : (shiftN s 7).map u64v = s.l.map u64v := rfl
theorem shiftN_0 (s : ShaS) : (shiftN s 0).map u64v = [u64v s.a, u64v s.a, u64v s.b, u64v s.c, u64v s.d, u64v s.e, u64v s.f, u64v s.g] := rfl
/-- words added, up to a place -/
def addN (s t : ShaS) (i : Nat) : List Nat := (List.range 8).map fun j => if j < i then mask (ad64 (s.l.getD j 0) (t.l.getD j 0)) else s.l.getD j 0
theorem addN_get {s t : ShaS} {i : Nat} (h : i < 8) : ((addN s t i).map u64v)[i]? = some (.int .u64 ((s.l.getD i 0 : Nat) : Int)) := by
  unfold addN
  rw [List.getElem?_map, List.getElem?_map, List.getElem?_range h]
  simp [u64v]
theorem addN_set {s t : ShaS} {i : Nat} (h : i < 8) : ((addN s t i).map u64v).set i (.int .u64 ((mask (ad64 (s.l.getD i 0) (t.l.getD i 0)) : Nat) : Int)) = (addN s t (i + 1)).map u64v := by
  have hc : i = 0 ∨ i = 1 ∨ i = 2 ∨ i = 3 ∨ i = 4 ∨ i = 5 ∨ i = 6 ∨ i = 7 := by omega
  rcases hc with rfl | rfl | rfl | rfl | rfl | rfl | rfl | rfl <;> rfl
theorem addN_0 (s t : ShaS) : (addN s t 0).map u64v = s.l.map u64v := rfl
theorem addN_8 {s t : ShaS} (hs : s.Ok) (ht : t.Ok) : (addN s t 8).map u64v = (shaAdd t s).l.map u64v := by
  have e : ∀ a b : Nat, a < 4294967296 → b < 4294967296 → mask (ad64 a b) = (b + a) % 4294967296 := fun a b ha hb => by unfold mask ad64; omega
  have h8 : addN s t 8 = [mask (ad64 s.a t.a), mask (ad64 s.b t.b), mask (ad64 s.c t.c), mask (ad64 s.d t.d), mask (ad64 s.e t.e), mask (ad64 s.f t.f), mask (ad64 s.g t.g), mask (ad64 s.h t.h)] := rfl
  rw [h8, e _ _ hs.a ht.a, e _ _ hs.b ht.b, e _ _ hs.c ht.c, e _ _ hs.d ht.d, e _ _ hs.e ht.e, e _ _ hs.f ht.f, e _ _ hs.g ht.g, e _ _ hs.h ht.h]
  rfl
theorem refNext_eq {x16 x15 x7 x2 : Nat} (l16 : x16 < 4294967296) (l7 : x7 < 4294967296) (lp : xo (xo (rotr x15 7) (rotr x15 18)) (sr x15 3) < 4294967296) (lq : xo (xo (rotr x2 17) (rotr x2 19)) (sr x2 10) < 4294967296) :
    mask (ad64 (ad64 (ad64 x16 (xo (xo (rotr x15 7) (rotr x15 18)) (sr x15 3))) x7) (xo (xo (rotr x2 17) (rotr x2 19)) (sr x2 10))) = shaNext4 x16 x15 x7 x2 := by
  unfold shaNext4 smallS smallT mask ad64
  unfold xo sr at *
  omega
theorem refStep_cells {va vb vc vd ve vf vg vh kk ww P C Q M : Nat} (he : ve < 4294967296) (hg : vg < 4294967296) (hd : vd < 4294967296) (hh : vh < 4294967296) (hk : kk < 4294967296) (hw : ww < 4294967296) (lP : P < 4294967296) (lC : C < 4294967296) (lQ : Q < 4294967296) (lM : M < 4294967296)
    (hP : xo (xo (rotr ve 6) (rotr ve 11)) (rotr ve 25) = P) (hC : orr (an ve vf) (an (xo 4294967295 ve) vg) = C) (hQ : xo (xo (rotr va 2) (rotr va 13)) (rotr va 22) = Q) (hM : orr (orr (an va vb) (an va vc)) (an vb vc) = M) :
    (shaStep kk ww ⟨va, vb, vc, vd, ve, vf, vg, vh⟩).l = [mask (ad64 (ad64 (ad64 (ad64 (ad64 (ad64 vh P) C) kk) ww) Q) M), va, vb, vc, mask (ad64 vd (ad64 (ad64 (ad64 (ad64 vh P) C) kk) ww)), ve, vf, vg] := by
  have e1 : bigS ve = P := hP
  have e2 : bigT va = Q := hQ
  have e3 : choose ve vf vg = C := by rw [← hC]; exact (choose_alt he hg).symm
  have e4 : most va vb vc = M := by rw [← hM]; exact (most_or va vb vc).symm
  have ea : (vh + bigS ve + choose ve vf vg + kk + ww + bigT va + most va vb vc) % 4294967296 = mask (ad64 (ad64 (ad64 (ad64 (ad64 (ad64 vh P) C) kk) ww) Q) M) := by
    rw [e1, e2, e3, e4]
    unfold mask ad64
    omega
  have eb : (vd + (vh + bigS ve + choose ve vf vg + kk + ww)) % 4294967296 = mask (ad64 vd (ad64 (ad64 (ad64 (ad64 vh P) C) kk) ww)) := by
    rw [e1, e3]
    unfold mask ad64
    omega
  unfold shaStep ShaS.l
  simp only
  rw [ea, eb]
theorem word_cut {L : List UInt8} {a j : Nat} (h : j < 16) : shaWord ((L.drop a).take 64) j = beVal ((L.drop (a + 4 * j)).take 4) := by
  unfold shaWord
  rw [List.drop_take, List.take_take, List.drop_drop, Nat.min_eq_left (by omega)]
theorem reads_sub8 {w : World} {B n lo hi cap : Nat} {A : Option Addr} {l : List UInt8} (h : Reads w B 1 A n (u8s l)) (h1 : lo ≤ hi) (h2 : hi ≤ n) (hc : n ≤ cap) : Reads w B 1 (if cap = lo then A else Option.map (fun x => x.add lo) A) (hi - lo) (u8s ((l.drop lo).take (hi - lo))) := by
  have := h.cut (k := lo) (by omega) hc
  rw [Nat.mul_one, show (u8s l).drop lo = u8s (l.drop lo) by rw [u8s_map, u8s_map, List.map_drop]] at this
  exact Reads.take8 this (by omega)
theorem be4_at {v j : Nat} (h : j < 4) : UInt8.ofNat (v / 256 ^ (3 - j)) = (be 4 v).getD j 0 := by
  have hc : j = 0 ∨ j = 1 ∨ j = 2 ∨ j = 3 := by omega
  rcases hc with rfl | rfl | rfl | rfl <;> rfl
theorem reads_onlyA {w w' : World} {gr n g : Nat} {l : List UInt8} (h : Reads w w.heap.size 1 (some ⟨gr, 0, none⟩) n (u8s l)) (hs : Only g w w') (hne : gr ≠ g) : Reads w' w'.heap.size 1 (some ⟨gr, 0, none⟩) n (u8s l) := by
  have hl : l.length = n := by have := h.1; rw [u8s_length] at this; omega
  subst hl
  exact readsP_apart (p := (some ⟨gr, 0, none⟩, l)) h (fun _ ad ha => by injection ha with ha; subst ha; exact hne) (fun j _ hj => hs.block j hj) (by rw [hs.size]; exact Nat.le_refl _)
theorem zeros_ref {n j : Nat} (h : j ≤ shaZeros n) : (n + 1 + j + 8) % 64 = 0 ↔ j = shaZeros n := by
  unfold shaZeros at *
  omega
set_option maxRecDepth 100000 in
set_option maxHeartbeats 2000000 in
theorem refDigest_any (A : Option Addr) (n c : Nat) (b : List UInt8) (hl : b.length = n) (hn : n ≤ 1000000) (w : World) (hr : Reads w w.heap.size 1 A n (u8s b)) :
    Calls Tryz.prog 49 #[.slice A n c] w fun ev w' => ev = .returned (.agg (u8s (digest b)).toArray) ∧ Below w.heap.size w w' := by
  refine calls_at 251 Tryz.func49 rfl rfl (Nat.le_of_ble_eq_true rfl) ?_
  intro a hA
  simp only [argsE, keepE, lookS, Nat.reduceBEq, cond_true, cond_false, Nat.reduceAdd, gv_tt, gv_ff, Bool.true_and, Bool.false_and, Bool.true_or, Bool.false_or] at hA
  refine wp_seq ?_
  refine wp_region_lit ?_
  -- stop alloc slot 2
  refine wl_new hA rfl rfl (by decide) (fun ev h => by simp [go_sem]; try first | exact ⟨rfl, rfl⟩ | rfl) fun w1 a1 (K2 : Blk _ _ _ _) hz1 hb1 hA1 => ?_
  obtain ⟨g2, hg2⟩ : ∃ g, w.heap.size = g := ⟨_, rfl⟩
  rw [hg2] at K2 hA1
  replace K2 : Blk w1 g2 91 (digCells []).toArray := K2
  have HB : Below w.heap.size w w1 := hb1
  refine wl_nil ?_
  refine n_then ?_
  have hA2 := hA1.keep [0, 2]
  simp only [argsE, keepE, lookS, Nat.reduceBEq, cond_true, cond_false, Nat.reduceAdd, gv_tt, gv_ff, Bool.true_and, Bool.false_and, Bool.true_or, Bool.false_or] at hA2
  clear hA hA1
  refine wp_seq ?_
  refine wp_region_lit ?_
  -- limit build slot 24
  refine wl_op hA2 rfl rfl (by decide) (fun ev h => exec_buildC (v := .agg (shaK.map u64v).toArray) h rfl (by kernel_rfl) (by kernel_rfl)) fun a3 hA3 => ?_
  -- stop alloc slot 3
  refine wl_new hA3 rfl rfl (by decide) (fun ev h => by simp [go_sem]; try first | exact ⟨rfl, rfl⟩ | rfl) fun w2 a4 (K3 : Blk _ _ _ _) hz2 hb2 hA4 => ?_
  replace HB := HB.trans (hb2.mono HB.size)
  replace K2 := K2.below hb2 K2.lt
  obtain ⟨g3, hg3⟩ : ∃ g, w1.heap.size = g := ⟨_, rfl⟩
  rw [hg3] at K3 hA4
  replace K3 : Blk w2 g3 121 (shaC64 []).toArray := K3
  have h23 : g2 < g3 := by omega
  have hB2 : w.heap.size ≤ g2 := by omega
  -- stop store slot None
  refine wl_setw (shaK.map u64v) hA4 rfl rfl K3 (shaC64_len (l := []) (by decide)) (rfl : (shaK.map u64v).length = 64) (by kernel_rfl) (map64_one _) rfl (fun ev h => ⟨h.get 3 rfl, h.get 24 rfl⟩) fun w3 (K3 : Blk _ _ _ _) hs3 => ?_
  replace K2 := hs3.blk K2 (by omega)
  replace HB := hs3.below HB (by omega)
  refine wl_nil ?_
  refine n_then ?_
  have hA5 := hA4.keep [0, 2, 3]
  simp only [argsE, keepE, lookS, Nat.reduceBEq, cond_true, cond_false, Nat.reduceAdd, gv_tt, gv_ff, Bool.true_and, Bool.false_and, Bool.true_or, Bool.false_or] at hA5
  clear hA2 hA3 hA4 a1 a3
  refine wp_seq ?_
  refine wp_region_lit ?_
  -- limit build slot 25
  refine wl_op hA5 rfl rfl (by decide) (fun ev h => exec_buildC (v := .agg (sha0.l.map u64v).toArray) h rfl (by kernel_rfl) (by kernel_rfl)) fun a6 hA6 => ?_
  -- stop alloc slot 4
  have l3 := K3.lt
  refine wl_new hA6 rfl rfl (by decide) (fun ev h => by simp [go_sem]; try first | exact ⟨rfl, rfl⟩ | rfl) fun w4 a7 (K4 : Blk _ _ _ _) hz4 hb4 hA7 => ?_
  replace HB := HB.trans (hb4.mono HB.size)
  replace K2 := K2.below hb4 K2.lt
  replace K3 := K3.below hb4 K3.lt
  obtain ⟨g4, hg4⟩ : ∃ g, w3.heap.size = g := ⟨_, rfl⟩
  rw [hg4] at K4 hA7 l3
  have h34 : g3 < g4 := by omega
  -- stop store slot None
  refine wl_setw (sha0.l.map u64v) hA7 rfl rfl K4 (by rfl) (by rfl) (by kernel_rfl) (map64_one _) rfl (fun ev h => ⟨h.get 4 rfl, h.get 25 rfl⟩) fun w5 (K4 : Blk _ _ _ _) hs4 => ?_
  replace K2 := hs4.blk K2 (by omega)
  replace K3 := hs4.blk K3 (by omega)
  replace HB := hs4.below HB (by omega)
  refine wl_nil ?_
  refine n_then ?_
  have hA8 := hA7.keep [0, 2, 3, 4]
  simp only [argsE, keepE, lookS, Nat.reduceBEq, cond_true, cond_false, Nat.reduceAdd, gv_tt, gv_ff, Bool.true_and, Bool.false_and, Bool.true_or, Bool.false_or] at hA8
  clear hA5 hA6 hA7 a4 a6
  refine wp_seq ?_
  refine wp_region_lit ?_
  -- stop buildSlice slot 26
  have l4 := K4.lt
  have hQw : w.heap.size ≤ w5.heap.size := HB.size
  refine wl_new hA8 rfl rfl (by decide) (fun ev h => by simp [go_sem]; try first | exact ⟨rfl, rfl⟩ | rfl) fun w6 a9 (K6 : Blk _ _ _ _) hz6 hb6 hA9 => ?_
  have ho6 : Own8 w5.heap.size w6 (.slice (some ⟨w5.heap.size, 0, none⟩) 0 0) [] := ownsRow_empty K6 (Nat.le_refl _)
  refine wl_op hA9 rfl rfl (by decide) (fun ev h => by simp [go_sem, h.get 0 rfl]; try first | exact ⟨rfl, rfl⟩ | rfl) fun a10 hA10 => ?_
  -- stop call slot 28
  have hr6 := (hr.below (HB.trans (hb6.mono hQw))).more (HB.trans (hb6.mono hQw)).size
  obtain ⟨r7, w7, hr7, ho7, hg7⟩ := run_app8 ho6 (u := .slice A n c) ⟨A, c, by rw [hl], by rw [hl]; exact hr6⟩ (by simp; omega) hb6.size
  have hb7 := below_app8 hb6 ho6 hg7 (Nat.le_refl _) hb6.size
  rw [List.nil_append] at ho7
  refine wl_op hA10 rfl rfl (by decide) (fun ev h => exec_append rfl (h.get 26 rfl) (h.get 27 rfl) hr7) fun a11 hA11 => ?_
  clear K6 hb6 ho6 hr6
  -- stop buildSlice slot 29
  refine wl_new hA11 rfl rfl (by decide) (fun ev h => by simp [go_sem, h.c]; try first | exact ⟨rfl, rfl⟩ | rfl) fun w8 a12 (K8 : Blk _ _ _ _) hz8 hb8 hA12 => ?_
  replace hb7 := hb7.trans (hb8.mono hb7.size)
  replace ho7 := ho7.below hb8
  obtain ⟨r9, w9, hr9, ho9, hg9⟩ := run_app8 ho7 (took_blk (c := 128) K8) (by simp; omega) hb7.size
  have hb9 := below_app8 hb7 ho7 hg9 (Nat.le_refl _) hb7.size
  refine wl_op hA12 rfl rfl (by decide) (fun ev h => exec_append rfl (h.get 28 rfl) (h.get 29 rfl) hr9) fun a13 hA13 => ?_
  clear K8 ho7 hb7
  refine wl_op hA13 rfl rfl (by decide) (fun ev h => by simp [go_sem, h.get 30 rfl]; try first | exact ⟨rfl, rfl⟩ | rfl) fun a14 hA14 => ?_
  refine wl_nil ?_
  refine n_then ?_
  have hA15 := hA14.keep [0, 2, 3, 4, 5]
  simp only [argsE, keepE, lookS, Nat.reduceBEq, cond_true, cond_false, Nat.reduceAdd, gv_tt, gv_ff, Bool.true_and, Bool.false_and, Bool.true_or, Bool.false_or] at hA15
  clear hA8 hA9 hA10 hA11 hA12 hA13 hA14 a7 a9 a10 a11 a12 a13
  refine wp_seq ?_
  refine wp_block ?_
  -- loop
  have hz64 : shaZeros n < 64 := Nat.mod_lt _ (by decide)
  refine wp_loop_at (fun k a wx => ∃ (j : Nat) (v : Value), j + k = shaZeros n ∧ At 251 [(0, .slice A n c), (2, .pointer (some ⟨g2, 0, none⟩)), (3, .pointer (some ⟨g3, 0, none⟩)), (4, .pointer (some ⟨g4, 0, none⟩)), (5, v)] a ∧ Own8 w5.heap.size wx v (b ++ [128] ++ List.replicate j 0) ∧ Below w5.heap.size w5 wx) (shaZeros n) ?_ ?_
  · exact ⟨0, _, by omega, hA15, by simpa using ho9, hb9⟩
  clear ho9 hb9
  rintro k a wx ⟨j, v, hjk, hA, ho, HX⟩
  obtain ⟨Av, cv, rfl, hrv⟩ := ho.took
  obtain ⟨L, hL⟩ : ∃ L, (b ++ [128] ++ List.replicate j 0).length = L := ⟨_, rfl⟩
  have hL2 : L = n + 1 + j := by rw [← hL]; simp; omega
  rw [hL] at hA
  have z1 : IntKind.i64.wrap ((L : Int) + 8) = ((L + 8 : Nat) : Int) := by rw [IntWalk.i64_in _ (by omega)]; omega
  obtain ⟨L8, hL8⟩ : ∃ L8, L + 8 = L8 := ⟨_, rfl⟩
  obtain ⟨m8, hm8⟩ : ∃ m8, L8 % 64 = m8 := ⟨_, rfl⟩
  rw [hL8] at z1
  have z2 : (L8 : Int).tmod 64 = (m8 : Int) := by rw [← hm8]; exact (Int.ofNat_tmod L8 64).symm
  have hz := zeros_ref (n := n) (j := j) (by omega)
  rw [show n + 1 + j + 8 = L8 by omega, hm8] at hz
  refine wp_seq ?_
  refine wp_seq ?_
  refine wp_region_lit ?_
  refine wl_op hA rfl rfl (by decide) (fun ev h => by simp [go_sem, h.get 5 rfl, z1, z2]; try first | exact ⟨rfl, rfl⟩ | rfl) fun a16 hA16 => ?_
  refine wl_op hA16 rfl rfl (by decide) (fun ev h => by simp [go_sem, h.get 31 rfl, z1, z2]; try first | exact ⟨rfl, rfl⟩ | rfl) fun a17 hA17 => ?_
  refine wl_op hA17 rfl rfl (by decide) (fun ev h => by simp [go_sem, h.c, h.get 32 rfl, z1, z2]; try first | exact ⟨rfl, rfl⟩ | rfl) fun a18 hA18 => ?_
  refine wl_op hA18 rfl rfl (by decide) (fun ev h => by simp [go_sem, h.c, h.get 33 rfl, z1, z2]; try first | exact ⟨rfl, rfl⟩ | rfl) fun a19 hA19 => ?_
  refine wl_op hA19 rfl rfl (by decide) (fun ev h => by simp [go_sem, h.c, h.get 34 rfl, z1, z2]; try first | exact ⟨rfl, rfl⟩ | rfl) fun a20 hA20 => ?_
  refine wl_nil ?_
  refine n_then ?_
  have hA21 := hA20.keep [0, 2, 3, 4, 5, 35]
  simp only [argsE, keepE, lookS, Nat.reduceBEq, cond_true, cond_false, Nat.reduceAdd, gv_tt, gv_ff, Bool.true_and, Bool.false_and, Bool.true_or, Bool.false_or] at hA21
  clear hA hA16 hA17 hA18 hA19 hA20 a16 a17 a18 a19
  -- cond
  refine wp_if hA21 35 _ rfl (fun hq => ?yP) (fun hq => ?nP)
  case yP =>
    have hne : j ≠ shaZeros n := fun e => by
      have := hz.2 e
      simp at hq
      omega
    refine wp_skip ?_
    refine n_then ?_
    refine wp_block ?_
    refine wp_region_lit ?_
    refine wl_op hA21 rfl rfl (by decide) (fun ev h => by simp [go_sem, h.get 5 rfl, z1, z2]; try first | exact ⟨rfl, rfl⟩ | rfl) fun a22 hA22 => ?_
    -- stop buildSlice slot 37
    refine wl_new hA22 rfl rfl (by decide) (fun ev h => by simp [go_sem, h.c, z1, z2]; try first | exact ⟨rfl, rfl⟩ | rfl) fun w10 a23 (K10 : Blk _ _ _ _) hz10 hb10 hA23 => ?_
    replace HX := HX.trans (hb10.mono HX.size)
    replace ho := ho.below hb10
    obtain ⟨r11, w11, hr11, ho11, hg11⟩ := run_app8 ho (took_blk (c := 0) K10) (by simp; omega) HX.size
    rw [← hL] at hA23
    refine wl_op hA23 rfl rfl (by decide) (fun ev h => exec_append rfl (h.get 36 rfl) (h.get 37 rfl) hr11) fun a24 hA24 => ?_
    refine wl_op hA24 rfl rfl (by decide) (fun ev h => by simp [go_sem, h.get 38 rfl, z1, z2]; try first | exact ⟨rfl, rfl⟩ | rfl) fun a25 hA25 => ?_
    refine wl_nil ?_
    refine n_block ?_
    refine n_then ?_
    have hA26 := hA25.keep [0, 2, 3, 4, 5]
    simp only [argsE, keepE, lookS, Nat.reduceBEq, cond_true, cond_false, Nat.reduceAdd, gv_tt, gv_ff, Bool.true_and, Bool.false_and, Bool.true_or, Bool.false_or] at hA26
    clear hA21 hA22 hA23 hA24 hA25 a22 a23 a24
    -- round
    exact ⟨k - 1, by omega, j + 1, _, by omega, hA26, by rw [padZ_succ]; exact ho11, below_app8 HX ho hg11 (Nat.le_refl _) HX.size⟩
  case nP =>
    have hje : j = shaZeros n := by
      refine hz.1 ?_
      simp at hq
      omega
    have hw8 : IntKind.u64.wrap (n : Int) = (n : Int) := IntWalk.u64_in _ (by omega)
    have hw9 : IntKind.u64.wrap ((n : Int) * 8) = ((n * 8 : Nat) : Int) := by rw [IntWalk.u64_in _ (by omega)]; omega
    refine wp_exit ?_
    refine x_then ?_
    refine x_then ?_
    refine x_block ?_
    refine n_then ?_
    have hA27 := hA21.keep [0, 2, 3, 4, 5]
    simp only [argsE, keepE, lookS, Nat.reduceBEq, cond_true, cond_false, Nat.reduceAdd, gv_tt, gv_ff, Bool.true_and, Bool.false_and, Bool.true_or, Bool.false_or] at hA27
    clear hA21
    refine wp_seq ?_
    refine wp_region_lit ?_
    refine wl_op hA27 rfl rfl (by decide) (fun ev h => by simp [go_sem, h.get 5 rfl, hw8, hw9]; try first | exact ⟨rfl, rfl⟩ | rfl) fun a28 hA28 => ?_
    refine wl_op hA28 rfl rfl (by decide) (fun ev h => by simp [go_sem, h.get 0 rfl, hw8, hw9]; try first | exact ⟨rfl, rfl⟩ | rfl) fun a29 hA29 => ?_
    refine wl_op hA29 rfl rfl (by decide) (fun ev h => by simp [go_sem, h.get 40 rfl, hw8, hw9]; try first | exact ⟨rfl, rfl⟩ | rfl) fun a30 hA30 => ?_
    refine wl_op hA30 rfl rfl (by decide) (fun ev h => by simp [go_sem, h.get 41 rfl, hw8, hw9]; try first | exact ⟨rfl, rfl⟩ | rfl) fun a31 hA31 => ?_
    refine wl_op hA31 rfl rfl (by decide) (fun ev h => by simp [go_sem, h.c, h.get 42 rfl, hw8, hw9]; try first | exact ⟨rfl, rfl⟩ | rfl) fun a32 hA32 => ?_
    -- stop call slot 44
    refine wl_call hA32 rfl rfl (by decide) (fun ev h => exec_call Tryz.func46 (by kernel_rfl) rfl (h.f _) (by first | (simp only [List.map_toArray, List.map_cons, List.map_nil, h.get 43 rfl, h.c]; done) | (simp only [List.map_toArray, List.map_cons, List.map_nil, h.get 43 rfl, h.c]; rfl) | (simp [List.map_toArray, List.map_cons, List.map_nil, h.get 43 rfl, h.c, hw8, hw9]; done) | (simp [List.map_toArray, List.map_cons, List.map_nil, h.get 43 rfl, h.c, hw8, hw9]; rfl) | rfl)) (refBytes_any (n * 8) 8 (by omega) (by decide) _) ?_
    rintro e w12 ⟨r12, rfl, ho12, hb12⟩
    refine ⟨_, rfl, fun a33 hA33 => ?_⟩
    replace HX := HX.trans (hb12.mono HX.size)
    replace ho := ho.below hb12
    -- stop call slot 45
    obtain ⟨r13, w13, hr13, ho13, hg13⟩ := run_app8 ho (Own8.of ho12).took (by simp [be_length]; omega) HX.size
    have hb13 := below_app8 HX ho hg13 (Nat.le_refl _) HX.size
    rw [← hL] at hA33
    refine wl_op hA33 rfl rfl (by decide) (fun ev h => exec_append rfl (h.get 39 rfl) (h.get 44 rfl) hr13) fun a34 hA34 => ?_
    obtain ⟨T, hT⟩ : ∃ T, shaPad b = T := ⟨_, rfl⟩
    have hT64 := shaPad_length b
    have hTe : b ++ [128] ++ List.replicate j 0 ++ be 8 (n * 8) = T := by rw [← hT, hje, ← hl]; rfl
    rw [hTe] at ho13
    rw [hT] at hT64
    have hTlen : T.length ≤ 2000000 := by rw [← hT]; unfold shaPad; simp [be_length, shaZeros]; omega
    obtain ⟨M, hM⟩ : ∃ M, T.length = 64 * M := ⟨T.length / 64, by omega⟩
    have hfin : digest b = (shaGo T M).l.flatMap (be 4) := by unfold digest; rw [hT, hM, Nat.mul_div_cancel_left _ (by decide)]
    clear hTe hrv ho ho12 hb12 HX
    obtain ⟨Ar, cr, e0, hR, hcr⟩ := own_reads ho13
    subst e0
    clear ho13
    replace K2 := K2.below hb13 K2.lt
    replace K3 := K3.below hb13 K3.lt
    replace K4 := K4.below hb13 K4.lt
    replace HB := HB.trans (hb13.mono hQw)
    have hN : T.length < 9223372036854775808 := by omega
    refine wl_op hA34 rfl rfl (by decide) (fun ev h => by simp [go_sem, h.get 45 rfl]; try first | exact ⟨rfl, rfl⟩ | rfl) fun a35 hA35 => ?_
    refine wl_nil ?_
    refine n_then ?_
    have hA36 := hA35.keep [2, 3, 4, 5]
    simp only [argsE, keepE, lookS, Nat.reduceBEq, cond_true, cond_false, Nat.reduceAdd, gv_tt, gv_ff, Bool.true_and, Bool.false_and, Bool.true_or, Bool.false_or] at hA36
    clear hA27 hA28 hA29 hA30 hA31 hA32 hA33 hA34 hA35 a28 a29 a30 a31 a32 a33 a34
    refine wp_seq ?_
    refine wp_seq ?_
    refine wp_region_lit ?_
    refine wl_op hA36 rfl rfl (by decide) (fun ev h => by simp [go_sem, h.c]; try first | exact ⟨rfl, rfl⟩ | rfl) fun a37 hA37 => ?_
    refine wl_nil ?_
    refine n_then ?_
    have hA38 := hA37.keep [2, 3, 4, 5, 6]
    simp only [argsE, keepE, lookS, Nat.reduceBEq, cond_true, cond_false, Nat.reduceAdd, gv_tt, gv_ff, Bool.true_and, Bool.false_and, Bool.true_or, Bool.false_or] at hA38
    clear hA36 hA37 a35
    refine wp_block ?_
    -- loop
    refine wp_loop_at (fun k a wx => ∃ (i : Nat), i + k = M ∧ At 251 [(2, .pointer (some ⟨g2, 0, none⟩)), (3, .pointer (some ⟨g3, 0, none⟩)), (4, .pointer (some ⟨g4, 0, none⟩)), (5, .slice Ar T.length cr), (6, .int .i64 ((64 * i : Nat) : Int))] a ∧ Reads wx wx.heap.size 1 Ar T.length (u8s T) ∧ Blk wx g2 91 (digCells []).toArray ∧ Blk wx g3 121 (shaK.map u64v).toArray ∧ Blk wx g4 122 ((shaGo T i).l.map u64v).toArray ∧ Below w.heap.size w wx) (M) ?_ ?_
    · exact ⟨0, by omega, hA38, hR, K2, K3, K4, HB⟩
    rw [← hT] at hcr
    rw [hT] at hcr
    clear hR K2 K3 K4 HB hb13 hr
    rintro k a wx ⟨i, hik, hA, hR, K2, K3, K4, HB⟩
    obtain ⟨N, hN2⟩ : ∃ N, T.length = N := ⟨_, rfl⟩
    obtain ⟨p, hp⟩ : ∃ p, 64 * i = p := ⟨_, rfl⟩
    rw [hN2, hp] at hA
    rw [hN2] at hM hR
    refine wp_seq ?_
    refine wp_seq ?_
    refine wp_region_lit ?_
    refine wl_op hA rfl rfl (by decide) (fun ev h => by simp [go_sem, h.get 6 rfl]; try first | exact ⟨rfl, rfl⟩ | rfl) fun a39 hA39 => ?_
    refine wl_op hA39 rfl rfl (by decide) (fun ev h => by simp [go_sem, h.get 5 rfl]; try first | exact ⟨rfl, rfl⟩ | rfl) fun a40 hA40 => ?_
    refine wl_op hA40 rfl rfl (by decide) (fun ev h => by simp [go_sem, h.get 47 rfl]; try first | exact ⟨rfl, rfl⟩ | rfl) fun a41 hA41 => ?_
    refine wl_op hA41 rfl rfl (by decide) (fun ev h => by simp [go_sem, h.get 46 rfl, h.get 48 rfl]; try first | exact ⟨rfl, rfl⟩ | rfl) fun a42 hA42 => ?_
    refine wl_nil ?_
    refine n_then ?_
    have hA43 := hA42.keep [2, 3, 4, 5, 6, 49]
    simp only [argsE, keepE, lookS, Nat.reduceBEq, cond_true, cond_false, Nat.reduceAdd, gv_tt, gv_ff, Bool.true_and, Bool.false_and, Bool.true_or, Bool.false_or] at hA43
    clear hA hA39 hA40 hA41 hA42 a39 a40 a41
    -- cond
    refine wp_if hA43 49 _ rfl (fun hq => ?yQ) (fun hq => ?nQ)
    case yQ =>
      have hpn : p + 64 ≤ N := by simp at hq; omega
      refine wp_skip ?_
      refine n_then ?_
      refine wp_seq ?_
      refine wp_block ?_
      refine wp_seq ?_
      refine wp_region_lit ?_
      -- stop alloc slot 7
      have l4 := K4.lt
      have hwl := HB.size
      refine wl_new hA43 rfl rfl (by decide) (fun ev h => by simp [go_sem]; try first | exact ⟨rfl, rfl⟩ | rfl) fun w14 a44 (K7 : Blk _ _ _ _) hz14 hb14 hA44 => ?_
      replace HB := HB.trans (hb14.mono HB.size)
      replace K2 := K2.below hb14 K2.lt
      replace K3 := K3.below hb14 K3.lt
      replace K4 := K4.below hb14 K4.lt
      replace hR := (hR.below hb14).more hb14.size
      obtain ⟨g7, hg7⟩ : ∃ g, wx.heap.size = g := ⟨_, rfl⟩
      rw [hg7] at K7 hA44 l4
      have h7w : w.heap.size ≤ g7 := by rw [← hg7]; exact hwl
      obtain ⟨k1, hk1⟩ : ∃ k1, (T.drop p).take 64 = k1 := ⟨_, rfl⟩
      have hT4 : T.length = N := hN2
      replace K7 : Blk w14 g7 121 (shaC64 (shaW k1 0)).toArray := K7
      refine wl_nil ?_
      refine n_then ?_
      have hA45 := hA44.keep [2, 3, 4, 5, 6, 7]
      simp only [argsE, keepE, lookS, Nat.reduceBEq, cond_true, cond_false, Nat.reduceAdd, gv_tt, gv_ff, Bool.true_and, Bool.false_and, Bool.true_or, Bool.false_or] at hA45
      clear hA43 hA44
      refine wp_seq ?_
      refine wp_seq ?_
      refine wp_region_lit ?_
      refine wl_op hA45 rfl rfl (by decide) (fun ev h => by simp [go_sem, h.c]; try first | exact ⟨rfl, rfl⟩ | rfl) fun a46 hA46 => ?_
      refine wl_nil ?_
      refine n_then ?_
      have hA47 := hA46.keep [2, 3, 4, 5, 6, 7, 52]
      simp only [argsE, keepE, lookS, Nat.reduceBEq, cond_true, cond_false, Nat.reduceAdd, gv_tt, gv_ff, Bool.true_and, Bool.false_and, Bool.true_or, Bool.false_or] at hA47
      clear hA45 hA46 a44
      refine wp_block ?_
      -- loop
      refine wp_loop_at (fun k a wx => ∃ (j : Nat), j + k = 64 ∧ At 251 [(2, .pointer (some ⟨g2, 0, none⟩)), (3, .pointer (some ⟨g3, 0, none⟩)), (4, .pointer (some ⟨g4, 0, none⟩)), (5, .slice Ar N cr), (6, .int .i64 (p : Nat)), (7, .pointer (some ⟨g7, 0, none⟩)), (52, .int .i64 (j : Nat))] a ∧ Reads wx wx.heap.size 1 Ar N (u8s T) ∧ Blk wx g2 91 (digCells []).toArray ∧ Blk wx g3 121 (shaK.map u64v).toArray ∧ Blk wx g4 122 ((shaGo T i).l.map u64v).toArray ∧ Blk wx g7 121 (shaC64 (shaW k1 j)).toArray ∧ Below w.heap.size w wx) (64) ?_ ?_
      · exact ⟨0, by omega, hA47, hR, K2, K3, K4, K7, HB⟩
      clear hR K2 K3 K4 K7 HB
      rintro k' a wx ⟨j, hjk2, hA, hR, K2, K3, K4, K7, HB⟩
      refine wp_seq ?_
      refine wp_region_lit ?_
      refine wl_op hA rfl rfl (by decide) (fun ev h => by simp [go_sem, h.c, h.get 52 rfl]; try first | exact ⟨rfl, rfl⟩ | rfl) fun a48 hA48 => ?_
      refine wl_nil ?_
      refine n_then ?_
      have hA49 := hA48.keep [2, 3, 4, 5, 6, 7, 52, 53]
      simp only [argsE, keepE, lookS, Nat.reduceBEq, cond_true, cond_false, Nat.reduceAdd, gv_tt, gv_ff, Bool.true_and, Bool.false_and, Bool.true_or, Bool.false_or] at hA49
      clear hA hA48
      refine wp_seq ?_
      -- cond
      refine wp_if hA49 53 _ rfl (fun hq2 => ?yU) (fun hq2 => ?nU)
      case yU =>
        have hj : j < 64 := by simp at hq2; omega
        have jj : ∀ j : Nat, (0 : Int) ≤ (j : Int) := fun j => by omega
        have hlen : (shaW k1 j).length = j := shaW_length k1 j
        have hwi : IntKind.i64.wrap ((j : Int) + 1) = ((j + 1 : Nat) : Int) := by rw [IntWalk.i64_in _ (by omega)]; omega
        have hci := shaC64_zero (l := shaW k1 j) (j := j) (by omega) (by omega)
        have ki : (j : Int) < 64 := by omega
        refine wp_skip ?_
        refine n_then ?_
        refine wp_seq ?_
        refine wp_block ?_
        refine wp_seq ?_
        refine wp_region_lit ?_
        refine wl_op hA49 rfl rfl (by decide) (fun ev h => by simp [go_sem, h.get 52 rfl]; try first | exact ⟨rfl, rfl⟩ | rfl) fun a50 hA50 => ?_
        refine wl_op hA50 rfl rfl (by decide) (fun ev h => by simp [go_sem, h.get 54 rfl]; try first | exact ⟨rfl, rfl⟩ | rfl) fun a51 hA51 => ?_
        refine wl_nil ?_
        refine n_then ?_
        have hA52 := hA51.keep [2, 3, 4, 5, 6, 7, 8, 52]
        simp only [argsE, keepE, lookS, Nat.reduceBEq, cond_true, cond_false, Nat.reduceAdd, gv_tt, gv_ff, Bool.true_and, Bool.false_and, Bool.true_or, Bool.false_or] at hA52
        clear hA49 hA50 hA51 a50
        refine wp_seq ?_
        refine wp_seq ?_
        refine wp_region_lit ?_
        refine wl_op hA52 rfl rfl (by decide) (fun ev h => by simp [go_sem, h.get 8 rfl]; try first | exact ⟨rfl, rfl⟩ | rfl) fun a53 hA53 => ?_
        refine wl_op hA53 rfl rfl (by decide) (fun ev h => by simp [go_sem, h.c, h.get 55 rfl]; try first | exact ⟨rfl, rfl⟩ | rfl) fun a54 hA54 => ?_
        refine wl_nil ?_
        refine n_then ?_
        have hA55 := hA54.keep [2, 3, 4, 5, 6, 7, 8, 52, 56]
        simp only [argsE, keepE, lookS, Nat.reduceBEq, cond_true, cond_false, Nat.reduceAdd, gv_tt, gv_ff, Bool.true_and, Bool.false_and, Bool.true_or, Bool.false_or] at hA55
        clear hA52 hA53 hA54 a51 a53
        -- cond
        refine wp_if hA55 56 _ rfl (fun hq3 => ?yV) (fun hq3 => ?nV)
        case yV =>
          have hj16 : j < 16 := by simp at hq3; omega
          obtain ⟨a1, ha1⟩ : ∃ a1, p + 4 * j = a1 := ⟨_, rfl⟩
          obtain ⟨a2, ha2⟩ : ∃ a2, p + 4 * j + 4 = a2 := ⟨_, rfl⟩
          have q1 : IntKind.i64.wrap (4 * (j : Int)) = 4 * (j : Int) := IntWalk.i64_in _ (by omega)
          have q2 : IntKind.i64.wrap ((p : Int) + 4 * (j : Int)) = (a1 : Int) := by rw [IntWalk.i64_in _ (by omega)]; omega
          have q3 : IntKind.i64.wrap ((a1 : Int) + 4) = (a2 : Int) := by rw [IntWalk.i64_in _ (by omega)]; omega
          have q4 : (a1 : Int) ≤ (a2 : Int) := by omega
          have q5 : (a2 : Int) ≤ (cr : Int) := by omega
          have q9 : a2 - a1 = 4 := by omega
          have q6 : (a2 : Int) ≤ (N : Int) := by omega
          have q7 := jj a1
          have q8 := jj a2
          refine wp_seq ?_
          refine wp_region_lit ?_
          refine wl_op hA55 rfl rfl (by decide) (fun ev h => by simp [go_sem, h.get 8 rfl, q1, q2, q3, q4, q5, q6, q7, q8, q9]; try first | exact ⟨rfl, rfl⟩ | rfl) fun a56 hA56 => ?_
          refine wl_op hA56 rfl rfl (by decide) (fun ev h => by simp [go_sem, h.get 5 rfl, q1, q2, q3, q4, q5, q6, q7, q8, q9]; try first | exact ⟨rfl, rfl⟩ | rfl) fun a57 hA57 => ?_
          refine wl_op hA57 rfl rfl (by decide) (fun ev h => by simp [go_sem, h.get 6 rfl, q1, q2, q3, q4, q5, q6, q7, q8, q9]; try first | exact ⟨rfl, rfl⟩ | rfl) fun a58 hA58 => ?_
          refine wl_op hA58 rfl rfl (by decide) (fun ev h => by simp [go_sem, h.get 8 rfl, q1, q2, q3, q4, q5, q6, q7, q8, q9]; try first | exact ⟨rfl, rfl⟩ | rfl) fun a59 hA59 => ?_
          refine wl_op hA59 rfl rfl (by decide) (fun ev h => by simp [go_sem, h.c, h.get 60 rfl, q1, q2, q3, q4, q5, q6, q7, q8, q9]; try first | exact ⟨rfl, rfl⟩ | rfl) fun a60 hA60 => ?_
          refine wl_op hA60 rfl rfl (by decide) (fun ev h => by simp [go_sem, h.get 59 rfl, h.get 61 rfl, q1, q2, q3, q4, q5, q6, q7, q8, q9]; try first | exact ⟨rfl, rfl⟩ | rfl) fun a61 hA61 => ?_
          refine wl_op hA61 rfl rfl (by decide) (fun ev h => by simp [go_sem, h.get 6 rfl, q1, q2, q3, q4, q5, q6, q7, q8, q9]; try first | exact ⟨rfl, rfl⟩ | rfl) fun a62 hA62 => ?_
          refine wl_op hA62 rfl rfl (by decide) (fun ev h => by simp [go_sem, h.get 8 rfl, q1, q2, q3, q4, q5, q6, q7, q8, q9]; try first | exact ⟨rfl, rfl⟩ | rfl) fun a63 hA63 => ?_
          refine wl_op hA63 rfl rfl (by decide) (fun ev h => by simp [go_sem, h.c, h.get 64 rfl, q1, q2, q3, q4, q5, q6, q7, q8, q9]; try first | exact ⟨rfl, rfl⟩ | rfl) fun a64 hA64 => ?_
          refine wl_op hA64 rfl rfl (by decide) (fun ev h => by simp [go_sem, h.get 63 rfl, h.get 65 rfl, q1, q2, q3, q4, q5, q6, q7, q8, q9]; try first | exact ⟨rfl, rfl⟩ | rfl) fun a65 hA65 => ?_
          refine wl_op hA65 rfl rfl (by decide) (fun ev h => by simp [go_sem, h.c, h.get 66 rfl, q1, q2, q3, q4, q5, q6, q7, q8, q9]; try first | exact ⟨rfl, rfl⟩ | rfl) fun a66 hA66 => ?_
          refine wl_op hA66 rfl rfl (by decide) (fun ev h => by simp [go_sem, h.get 58 rfl, h.get 62 rfl, h.get 67 rfl, q1, q2, q3, q4, q5, q6, q7, q8, q9]; try first | exact ⟨rfl, rfl⟩ | rfl) fun a67 hA67 => ?_
          -- stop call slot 69
          obtain ⟨V, hV⟩ : ∃ V, shaWord k1 j = V := ⟨_, rfl⟩
          have hVe : beVal ((T.drop a1).take 4) = V := by rw [← hV, ← hk1, word_cut hj16, ha1]
          have hR4 := reads_sub8 hR (lo := a1) (hi := a2) (cap := cr) (by omega) (by omega) (by omega)
          rw [q9] at hR4
          refine wl_call hA67 rfl rfl (by decide) (fun ev h => exec_call Tryz.func66 (by kernel_rfl) rfl (h.f _) (by first | (simp only [List.map_toArray, List.map_cons, List.map_nil, h.get 68 rfl, h.c]; done) | (simp only [List.map_toArray, List.map_cons, List.map_nil, h.get 68 rfl, h.c]; rfl) | (simp [List.map_toArray, List.map_cons, List.map_nil, h.get 68 rfl, h.c, q1, q2, q3, q4, q5, q6, q7, q8, q9]; done) | (simp [List.map_toArray, List.map_cons, List.map_nil, h.get 68 rfl, h.c, q1, q2, q3, q4, q5, q6, q7, q8, q9]; rfl) | rfl)) (refNumber_any _ 4 _ ((T.drop a1).take 4) (by rw [List.length_take, List.length_drop]; omega) (by decide) _ hR4) ?_
          rintro e w15 ⟨rfl, rfl⟩
          refine ⟨_, rfl, fun a68 hA68 => ?_⟩
          rw [hVe] at hA68
          refine wl_op hA68 rfl rfl (by decide) (fun ev h => by simp [go_sem, h.get 7 rfl, h.get 57 rfl, jj, ki, add0, hci]; try first | exact ⟨rfl, rfl⟩ | rfl) fun a69 hA69 => ?_
          -- stop store slot None
          have K7b := K7
          refine wl_setf ((shaC64 (shaW k1 j)).set j (.int .u64 (V : Nat))) _ hA69 rfl rfl K7 (j := j) (by rfl) (fun ev h => by simp [go_sem, h.get 70 rfl, h.get 69 rfl, jj, ki, add0, hci, K7.cell, K7.frozen]; try first | exact ⟨rfl, rfl⟩ | rfl) fun w16 (K7 : Blk _ _ _ _) hs => ?_
          refine wl_nil ?_
          refine n_then ?_
          have hA70 := hA69.keep [2, 3, 4, 5, 6, 7, 52]
          simp only [argsE, keepE, lookS, Nat.reduceBEq, cond_true, cond_false, Nat.reduceAdd, gv_tt, gv_ff, Bool.true_and, Bool.false_and, Bool.true_or, Bool.false_or] at hA70
          clear hA55 hA56 hA57 hA58 hA59 hA60 hA61 hA62 hA63 hA64 hA65 hA66 hA67 hA68 hA69 a56 a57 a58 a59 a60 a61 a62 a63 a64 a65 a66 a67 a68
          refine wp_exit ?_
          refine x_then ?_
          refine x_block ?_
          refine n_then ?_
          have hA71 := hA70.keep [2, 3, 4, 5, 6, 7, 52]
          simp only [argsE, keepE, lookS, Nat.reduceBEq, cond_true, cond_false, Nat.reduceAdd, gv_tt, gv_ff, Bool.true_and, Bool.false_and, Bool.true_or, Bool.false_or] at hA71
          clear hA70
          refine wp_region_lit ?_
          refine wl_op hA71 rfl rfl (by decide) (fun ev h => by simp [go_sem, h.c, h.get 52 rfl, hwi]; try first | exact ⟨rfl, rfl⟩ | rfl) fun a72 hA72 => ?_
          refine wl_op hA72 rfl rfl (by decide) (fun ev h => by simp [go_sem, h.get 121 rfl, hwi]; try first | exact ⟨rfl, rfl⟩ | rfl) fun a73 hA73 => ?_
          refine wl_nil ?_
          refine n_then ?_
          have hA74 := hA73.keep [2, 3, 4, 5, 6, 7, 52]
          simp only [argsE, keepE, lookS, Nat.reduceBEq, cond_true, cond_false, Nat.reduceAdd, gv_tt, gv_ff, Bool.true_and, Bool.false_and, Bool.true_or, Bool.false_or] at hA74
          clear hA71 hA72 hA73 a69 a72
          -- round
          refine ⟨k' - 1, by omega, j + 1, by omega, hA74, reads_only hR hs K7b (map64_no _), hs.blk K2 (by omega), hs.blk K3 (by omega), hs.blk K4 (by omega), ?_, hs.below HB h7w⟩
          have e := shaC64_set (l := shaW k1 j) (by omega) V
          rw [hlen] at e
          rw [show shaW k1 (j + 1) = shaW k1 j ++ [V] by rw [← hV]; show shaW k1 j ++ _ = _; rw [if_pos hj16], ← e]
          exact K7
        case nV =>
          have hj16 : 16 ≤ j := by simp at hq3; omega
          obtain ⟨j15, hj15⟩ : ∃ q, j - 15 = q := ⟨_, rfl⟩
          obtain ⟨j16, hj16e⟩ : ∃ q, j - 16 = q := ⟨_, rfl⟩
          obtain ⟨j7, hj7⟩ : ∃ q, j - 7 = q := ⟨_, rfl⟩
          obtain ⟨j2, hj2⟩ : ∃ q, j - 2 = q := ⟨_, rfl⟩
          have w15 : IntKind.i64.wrap ((j : Int) - 15) = (j15 : Int) := by rw [IntWalk.i64_in _ (by omega)]; omega
          have w16 : IntKind.i64.wrap ((j : Int) - 16) = (j16 : Int) := by rw [IntWalk.i64_in _ (by omega)]; omega
          have w7 : IntKind.i64.wrap ((j : Int) - 7) = (j7 : Int) := by rw [IntWalk.i64_in _ (by omega)]; omega
          have w2 : IntKind.i64.wrap ((j : Int) - 2) = (j2 : Int) := by rw [IntWalk.i64_in _ (by omega)]; omega
          have c15 := shaC64_at (l := shaW k1 j) (j := j15) (by omega)
          have c16 := shaC64_at (l := shaW k1 j) (j := j16) (by omega)
          have c7 := shaC64_at (l := shaW k1 j) (j := j7) (by omega)
          have c2 := shaC64_at (l := shaW k1 j) (j := j2) (by omega)
          have hnx : shaNext (shaW k1 j) j = shaNext4 ((shaW k1 j).getD j16 0) ((shaW k1 j).getD j15 0) ((shaW k1 j).getD j7 0) ((shaW k1 j).getD j2 0) := by unfold shaNext shaNext4; rw [hj15, hj16e, hj7, hj2]
          have l15 := shaW_getD_lt k1 j j15
          have l16 := shaW_getD_lt k1 j j16
          have l7 := shaW_getD_lt k1 j j7
          have l2 := shaW_getD_lt k1 j j2
          obtain ⟨x15, hx15⟩ : ∃ x, (shaW k1 j).getD j15 0 = x := ⟨_, rfl⟩
          obtain ⟨x16, hx16⟩ : ∃ x, (shaW k1 j).getD j16 0 = x := ⟨_, rfl⟩
          obtain ⟨x7, hx7⟩ : ∃ x, (shaW k1 j).getD j7 0 = x := ⟨_, rfl⟩
          obtain ⟨x2, hx2⟩ : ∃ x, (shaW k1 j).getD j2 0 = x := ⟨_, rfl⟩
          rw [hx15, hx16, hx7, hx2] at hnx
          rw [hx15] at c15 l15
          rw [hx16] at c16 l16
          rw [hx7] at c7 l7
          rw [hx2] at c2 l2
          clear hx15 hx16 hx7 hx2
          have k15 : (j15 : Int) < 64 := by omega
          have k16 : (j16 : Int) < 64 := by omega
          have k7 : (j7 : Int) < 64 := by omega
          have k2 : (j2 : Int) < 64 := by omega
          have r7 := rotr_lt x15 7
          have r18 := rotr_lt x15 18
          have r17 := rotr_lt x2 17
          have r19 := rotr_lt x2 19
          have s3 : (x15 : Int) / 8 = ((sr x15 3 : Nat) : Int) := shr_u32 x15 3
          have s10 : (x2 : Int) / 1024 = ((sr x2 10 : Nat) : Int) := shr_u32 x2 10
          have e1 := v_xo r7 r18
          have e2 := v_xo (xo_lt r7 r18) (sr_lt (n := 3) l15)
          have e3 := v_xo r17 r19
          have e4 := v_xo (xo_lt r17 r19) (sr_lt (n := 10) l2)
          refine wp_skip ?_
          refine n_then ?_
          refine wp_seq ?_
          -- any
          refine wp_any_at hA55 [(.det ?dA10), (.det ?dA11), (.det ?dA12), (.det ?dA13), (.det ?dA14), (.det ?dA15), (.det ?dA16), (.det ?dA17), (.det ?dA18), (.det ?dA19), (.det ?dA110), (.det ?dA111), (.det ?dA112), (.det ?dA113), (.det ?dA114), (.det ?dA115), (.det ?dA116), (.det ?dA117)] [] (fun wy => Below wx.heap.size wx wy) (TSp [] Grows) (by kernel_rfl) rfl (by kernel_rfl) (by kernel_rfl) rfl ((Below.refl _ _).drew) (stab_sp [] [true, true, true, true, true, true, true, true, true, true, true, true, true, true, true, true, true, true] [true, true, true, true, true, true, true, true, true, true, true, true, true, true, true, true, true, true] [] rfl rfl rfl (by kernel_rfl) ⟨trivial, trivial, trivial, trivial, trivial, trivial, trivial, trivial, trivial, trivial, trivial, trivial, trivial, trivial, trivial, trivial, trivial, trivial, trivial⟩ trivial) (fun _ h => by cases h) (fun _ _ _ _ _ h => by cases h) (fun _ h => by cases h) ⟨?oA10, ?oA11, ?oA12, ?oA13, ?oA14, ?oA15, ?oA16, ?oA17, ?oA18, ?oA19, ?oA110, ?oA111, ?oA112, ?oA113, ?oA114, ?oA115, ?oA116, ?oA117, trivial⟩ (by kernel_rfl) ?fA1
          case oA10 =>
            intro ev wo hev hC hs hph
            have e8 := see_env hA55 hs 8 (by kernel_rfl) (by kernel_rfl) rfl
            exact ob_det (wanted_none rfl) rfl (by kernel_rfl) hC (TSp.of rfl (Grows.refl _)) (by simp [go_sem, e8, w15, jj, k15, add0, s3, e1, e2]; try first | exact ⟨rfl, rfl⟩ | rfl)
          case oA11 =>
            intro ev wo hev hC hs hph
            have e71 := see_det hs 71 0 (by kernel_rfl) (by kernel_rfl) rfl
            exact ob_det (wanted_none rfl) rfl (by kernel_rfl) hC (TSp.of rfl (Grows.refl _)) (by simp [go_sem, e71, hev.const, w15, jj, k15, add0, s3, e1, e2]; try first | exact ⟨rfl, rfl⟩ | rfl)
          case oA12 =>
            intro ev wo hev hC hs hph
            have e7 := see_env hA55 hs 7 (by kernel_rfl) (by kernel_rfl) rfl
            have e72 := see_det hs 72 1 (by kernel_rfl) (by kernel_rfl) rfl
            exact ob_det (wanted_none rfl) rfl (by kernel_rfl) hC (TSp.of rfl (Grows.refl _)) (by simp [go_sem, e7, e72, w15, jj, k15, add0, s3, e1, e2]; try first | exact ⟨rfl, rfl⟩ | rfl)
          case oA13 =>
            intro ev wo hev hC hs hph
            have e73 := see_det hs 73 2 (by kernel_rfl) (by kernel_rfl) rfl
            have Kx := K7.below hC K7.lt
            exact ob_det (wanted_none rfl) rfl (by kernel_rfl) hC (TSp.of rfl (Grows.refl _)) (by simp [go_sem, e73, Kx.cell, c15, w15, jj, k15, add0, s3, e1, e2]; try first | exact ⟨rfl, rfl⟩ | rfl)
          case oA14 =>
            intro ev wo hev hC hs hph
            have e74 := see_det hs 74 3 (by kernel_rfl) (by kernel_rfl) rfl
            have Kx := K7.below hC K7.lt
            exact ob_dcall (wanted_none rfl) rfl (by kernel_rfl) (turned_any x15 7 7 rfl l15 (by decide) (by decide) wo) (exec_call Tryz.func67 (by kernel_rfl) rfl (hev.func _) (by first | (simp only [List.map_toArray, List.map_cons, List.map_nil, e74, hev.const]; done) | (simp only [List.map_toArray, List.map_cons, List.map_nil, e74, hev.const]; rfl) | (simp [List.map_toArray, List.map_cons, List.map_nil, e74, hev.const]; done) | (simp [List.map_toArray, List.map_cons, List.map_nil, e74, hev.const]; rfl) | rfl)) (by rfl) (fun w3 hb3 => ⟨hC.trans (hb3.mono hC.size), TSp.of rfl hb3⟩)
          case oA15 =>
            intro ev wo hev hC hs hph
            have e8 := see_env hA55 hs 8 (by kernel_rfl) (by kernel_rfl) rfl
            exact ob_det (wanted_none rfl) rfl (by kernel_rfl) hC (TSp.of rfl (Grows.refl _)) (by simp [go_sem, e8, w15, jj, k15, add0, s3, e1, e2]; try first | exact ⟨rfl, rfl⟩ | rfl)
          case oA16 =>
            intro ev wo hev hC hs hph
            have e76 := see_det hs 76 5 (by kernel_rfl) (by kernel_rfl) rfl
            exact ob_det (wanted_none rfl) rfl (by kernel_rfl) hC (TSp.of rfl (Grows.refl _)) (by simp [go_sem, e76, hev.const, w15, jj, k15, add0, s3, e1, e2]; try first | exact ⟨rfl, rfl⟩ | rfl)
          case oA17 =>
            intro ev wo hev hC hs hph
            have e7 := see_env hA55 hs 7 (by kernel_rfl) (by kernel_rfl) rfl
            have e77 := see_det hs 77 6 (by kernel_rfl) (by kernel_rfl) rfl
            exact ob_det (wanted_none rfl) rfl (by kernel_rfl) hC (TSp.of rfl (Grows.refl _)) (by simp [go_sem, e7, e77, w15, jj, k15, add0, s3, e1, e2]; try first | exact ⟨rfl, rfl⟩ | rfl)
          case oA18 =>
            intro ev wo hev hC hs hph
            have e78 := see_det hs 78 7 (by kernel_rfl) (by kernel_rfl) rfl
            have Kx := K7.below hC K7.lt
            exact ob_det (wanted_none rfl) rfl (by kernel_rfl) hC (TSp.of rfl (Grows.refl _)) (by simp [go_sem, e78, Kx.cell, c15, w15, jj, k15, add0, s3, e1, e2]; try first | exact ⟨rfl, rfl⟩ | rfl)
          case oA19 =>
            intro ev wo hev hC hs hph
            have e79 := see_det hs 79 8 (by kernel_rfl) (by kernel_rfl) rfl
            have Kx := K7.below hC K7.lt
            exact ob_dcall (wanted_none rfl) rfl (by kernel_rfl) (turned_any x15 18 18 rfl l15 (by decide) (by decide) wo) (exec_call Tryz.func67 (by kernel_rfl) rfl (hev.func _) (by first | (simp only [List.map_toArray, List.map_cons, List.map_nil, e79, hev.const]; done) | (simp only [List.map_toArray, List.map_cons, List.map_nil, e79, hev.const]; rfl) | (simp [List.map_toArray, List.map_cons, List.map_nil, e79, hev.const]; done) | (simp [List.map_toArray, List.map_cons, List.map_nil, e79, hev.const]; rfl) | rfl)) (by rfl) (fun w3 hb3 => ⟨hC.trans (hb3.mono hC.size), TSp.of rfl hb3⟩)
          case oA110 =>
            intro ev wo hev hC hs hph
            have e75 := see_det hs 75 4 (by kernel_rfl) (by kernel_rfl) rfl
            have e80 := see_det hs 80 9 (by kernel_rfl) (by kernel_rfl) rfl
            exact ob_det (wanted_none rfl) rfl (by kernel_rfl) hC (TSp.of rfl (Grows.refl _)) (by simp [go_sem, e75, e80, w15, jj, k15, add0, s3, e1, e2]; try first | exact ⟨rfl, rfl⟩ | rfl)
          case oA111 =>
            intro ev wo hev hC hs hph
            have e8 := see_env hA55 hs 8 (by kernel_rfl) (by kernel_rfl) rfl
            exact ob_det (wanted_none rfl) rfl (by kernel_rfl) hC (TSp.of rfl (Grows.refl _)) (by simp [go_sem, e8, w15, jj, k15, add0, s3, e1, e2]; try first | exact ⟨rfl, rfl⟩ | rfl)
          case oA112 =>
            intro ev wo hev hC hs hph
            have e82 := see_det hs 82 11 (by kernel_rfl) (by kernel_rfl) rfl
            exact ob_det (wanted_none rfl) rfl (by kernel_rfl) hC (TSp.of rfl (Grows.refl _)) (by simp [go_sem, e82, hev.const, w15, jj, k15, add0, s3, e1, e2]; try first | exact ⟨rfl, rfl⟩ | rfl)
          case oA113 =>
            intro ev wo hev hC hs hph
            have e7 := see_env hA55 hs 7 (by kernel_rfl) (by kernel_rfl) rfl
            have e83 := see_det hs 83 12 (by kernel_rfl) (by kernel_rfl) rfl
            exact ob_det (wanted_none rfl) rfl (by kernel_rfl) hC (TSp.of rfl (Grows.refl _)) (by simp [go_sem, e7, e83, w15, jj, k15, add0, s3, e1, e2]; try first | exact ⟨rfl, rfl⟩ | rfl)
          case oA114 =>
            intro ev wo hev hC hs hph
            have e84 := see_det hs 84 13 (by kernel_rfl) (by kernel_rfl) rfl
            have Kx := K7.below hC K7.lt
            exact ob_det (wanted_none rfl) rfl (by kernel_rfl) hC (TSp.of rfl (Grows.refl _)) (by simp [go_sem, e84, Kx.cell, c15, w15, jj, k15, add0, s3, e1, e2]; try first | exact ⟨rfl, rfl⟩ | rfl)
          case oA115 =>
            intro ev wo hev hC hs hph
            have e85 := see_det hs 85 14 (by kernel_rfl) (by kernel_rfl) rfl
            exact ob_det (wanted_none rfl) rfl (by kernel_rfl) hC (TSp.of rfl (Grows.refl _)) (by simp [go_sem, e85, hev.const, w15, jj, k15, add0, s3, e1, e2]; try first | exact ⟨rfl, rfl⟩ | rfl)
          case oA116 =>
            intro ev wo hev hC hs hph
            have e81 := see_det hs 81 10 (by kernel_rfl) (by kernel_rfl) rfl
            have e86 := see_det hs 86 15 (by kernel_rfl) (by kernel_rfl) rfl
            exact ob_det (wanted_none rfl) rfl (by kernel_rfl) hC (TSp.of rfl (Grows.refl _)) (by simp [go_sem, e81, e86, w15, jj, k15, add0, s3, e1, e2]; try first | exact ⟨rfl, rfl⟩ | rfl)
          case oA117 =>
            intro ev wo hev hC hs hph
            have e87 := see_det hs 87 16 (by kernel_rfl) (by kernel_rfl) rfl
            exact ob_det (wanted_none rfl) rfl (by kernel_rfl) hC (TSp.of rfl (Grows.refl _)) (by simp [go_sem, e87, w15, jj, k15, add0, s3, e1, e2]; try first | exact ⟨rfl, rfl⟩ | rfl)
          intro sg wf hC hph
          intro a75 hA75
          refine n_then ?_
          have hA76 := hA75.keep [2, 3, 4, 5, 6, 7, 8, 9, 52]
          simp only [argsE, keepE, lookS, Nat.reduceBEq, cond_true, cond_false, Nat.reduceAdd, gv_tt, gv_ff, Bool.true_and, Bool.false_and, Bool.true_or, Bool.false_or] at hA76
          clear hA55 hA75
          replace HB := HB.trans (hC.mono HB.size)
          replace hR := (hR.below hC).more hC.size
          replace K2 := K2.below hC K2.lt
          replace K3 := K3.below hC K3.lt
          replace K4 := K4.below hC K4.lt
          replace K7 := K7.below hC K7.lt
          clear hC hph
          refine wp_seq ?_
          -- any
          refine wp_any_at hA76 [(.det ?dA20), (.det ?dA21), (.det ?dA22), (.det ?dA23), (.det ?dA24), (.det ?dA25), (.det ?dA26), (.det ?dA27), (.det ?dA28), (.det ?dA29), (.det ?dA210), (.det ?dA211), (.det ?dA212), (.det ?dA213), (.det ?dA214), (.det ?dA215), (.det ?dA216), (.det ?dA217)] [] (fun wy => Below wf.heap.size wf wy) (TSp [] Grows) (by kernel_rfl) rfl (by kernel_rfl) (by kernel_rfl) rfl ((Below.refl _ _).drew) (stab_sp [] [true, true, true, true, true, true, true, true, true, true, true, true, true, true, true, true, true, true] [true, true, true, true, true, true, true, true, true, true, true, true, true, true, true, true, true, true] [] rfl rfl rfl (by kernel_rfl) ⟨trivial, trivial, trivial, trivial, trivial, trivial, trivial, trivial, trivial, trivial, trivial, trivial, trivial, trivial, trivial, trivial, trivial, trivial, trivial⟩ trivial) (fun _ h => by cases h) (fun _ _ _ _ _ h => by cases h) (fun _ h => by cases h) ⟨?oA20, ?oA21, ?oA22, ?oA23, ?oA24, ?oA25, ?oA26, ?oA27, ?oA28, ?oA29, ?oA210, ?oA211, ?oA212, ?oA213, ?oA214, ?oA215, ?oA216, ?oA217, trivial⟩ (by kernel_rfl) ?fA2
          case oA20 =>
            intro ev wo hev hC hs hph
            have e8 := see_env hA76 hs 8 (by kernel_rfl) (by kernel_rfl) rfl
            exact ob_det (wanted_none rfl) rfl (by kernel_rfl) hC (TSp.of rfl (Grows.refl _)) (by simp [go_sem, e8, w2, jj, k2, add0, s10, e3, e4]; try first | exact ⟨rfl, rfl⟩ | rfl)
          case oA21 =>
            intro ev wo hev hC hs hph
            have e88 := see_det hs 88 0 (by kernel_rfl) (by kernel_rfl) rfl
            exact ob_det (wanted_none rfl) rfl (by kernel_rfl) hC (TSp.of rfl (Grows.refl _)) (by simp [go_sem, e88, hev.const, w2, jj, k2, add0, s10, e3, e4]; try first | exact ⟨rfl, rfl⟩ | rfl)
          case oA22 =>
            intro ev wo hev hC hs hph
            have e7 := see_env hA76 hs 7 (by kernel_rfl) (by kernel_rfl) rfl
            have e89 := see_det hs 89 1 (by kernel_rfl) (by kernel_rfl) rfl
            exact ob_det (wanted_none rfl) rfl (by kernel_rfl) hC (TSp.of rfl (Grows.refl _)) (by simp [go_sem, e7, e89, w2, jj, k2, add0, s10, e3, e4]; try first | exact ⟨rfl, rfl⟩ | rfl)
          case oA23 =>
            intro ev wo hev hC hs hph
            have e90 := see_det hs 90 2 (by kernel_rfl) (by kernel_rfl) rfl
            have Kx := K7.below hC K7.lt
            exact ob_det (wanted_none rfl) rfl (by kernel_rfl) hC (TSp.of rfl (Grows.refl _)) (by simp [go_sem, e90, Kx.cell, c2, w2, jj, k2, add0, s10, e3, e4]; try first | exact ⟨rfl, rfl⟩ | rfl)
          case oA24 =>
            intro ev wo hev hC hs hph
            have e91 := see_det hs 91 3 (by kernel_rfl) (by kernel_rfl) rfl
            have Kx := K7.below hC K7.lt
            exact ob_dcall (wanted_none rfl) rfl (by kernel_rfl) (turned_any x2 17 17 rfl l2 (by decide) (by decide) wo) (exec_call Tryz.func67 (by kernel_rfl) rfl (hev.func _) (by first | (simp only [List.map_toArray, List.map_cons, List.map_nil, e91, hev.const]; done) | (simp only [List.map_toArray, List.map_cons, List.map_nil, e91, hev.const]; rfl) | (simp [List.map_toArray, List.map_cons, List.map_nil, e91, hev.const]; done) | (simp [List.map_toArray, List.map_cons, List.map_nil, e91, hev.const]; rfl) | rfl)) (by rfl) (fun w3 hb3 => ⟨hC.trans (hb3.mono hC.size), TSp.of rfl hb3⟩)
          case oA25 =>
            intro ev wo hev hC hs hph
            have e8 := see_env hA76 hs 8 (by kernel_rfl) (by kernel_rfl) rfl
            exact ob_det (wanted_none rfl) rfl (by kernel_rfl) hC (TSp.of rfl (Grows.refl _)) (by simp [go_sem, e8, w2, jj, k2, add0, s10, e3, e4]; try first | exact ⟨rfl, rfl⟩ | rfl)
          case oA26 =>
            intro ev wo hev hC hs hph
            have e93 := see_det hs 93 5 (by kernel_rfl) (by kernel_rfl) rfl
            exact ob_det (wanted_none rfl) rfl (by kernel_rfl) hC (TSp.of rfl (Grows.refl _)) (by simp [go_sem, e93, hev.const, w2, jj, k2, add0, s10, e3, e4]; try first | exact ⟨rfl, rfl⟩ | rfl)
          case oA27 =>
            intro ev wo hev hC hs hph
            have e7 := see_env hA76 hs 7 (by kernel_rfl) (by kernel_rfl) rfl
            have e94 := see_det hs 94 6 (by kernel_rfl) (by kernel_rfl) rfl
            exact ob_det (wanted_none rfl) rfl (by kernel_rfl) hC (TSp.of rfl (Grows.refl _)) (by simp [go_sem, e7, e94, w2, jj, k2, add0, s10, e3, e4]; try first | exact ⟨rfl, rfl⟩ | rfl)
          case oA28 =>
            intro ev wo hev hC hs hph
            have e95 := see_det hs 95 7 (by kernel_rfl) (by kernel_rfl) rfl
            have Kx := K7.below hC K7.lt
            exact ob_det (wanted_none rfl) rfl (by kernel_rfl) hC (TSp.of rfl (Grows.refl _)) (by simp [go_sem, e95, Kx.cell, c2, w2, jj, k2, add0, s10, e3, e4]; try first | exact ⟨rfl, rfl⟩ | rfl)
          case oA29 =>
            intro ev wo hev hC hs hph
            have e96 := see_det hs 96 8 (by kernel_rfl) (by kernel_rfl) rfl
            have Kx := K7.below hC K7.lt
            exact ob_dcall (wanted_none rfl) rfl (by kernel_rfl) (turned_any x2 19 19 rfl l2 (by decide) (by decide) wo) (exec_call Tryz.func67 (by kernel_rfl) rfl (hev.func _) (by first | (simp only [List.map_toArray, List.map_cons, List.map_nil, e96, hev.const]; done) | (simp only [List.map_toArray, List.map_cons, List.map_nil, e96, hev.const]; rfl) | (simp [List.map_toArray, List.map_cons, List.map_nil, e96, hev.const]; done) | (simp [List.map_toArray, List.map_cons, List.map_nil, e96, hev.const]; rfl) | rfl)) (by rfl) (fun w3 hb3 => ⟨hC.trans (hb3.mono hC.size), TSp.of rfl hb3⟩)
          case oA210 =>
            intro ev wo hev hC hs hph
            have e92 := see_det hs 92 4 (by kernel_rfl) (by kernel_rfl) rfl
            have e97 := see_det hs 97 9 (by kernel_rfl) (by kernel_rfl) rfl
            exact ob_det (wanted_none rfl) rfl (by kernel_rfl) hC (TSp.of rfl (Grows.refl _)) (by simp [go_sem, e92, e97, w2, jj, k2, add0, s10, e3, e4]; try first | exact ⟨rfl, rfl⟩ | rfl)
          case oA211 =>
            intro ev wo hev hC hs hph
            have e8 := see_env hA76 hs 8 (by kernel_rfl) (by kernel_rfl) rfl
            exact ob_det (wanted_none rfl) rfl (by kernel_rfl) hC (TSp.of rfl (Grows.refl _)) (by simp [go_sem, e8, w2, jj, k2, add0, s10, e3, e4]; try first | exact ⟨rfl, rfl⟩ | rfl)
          case oA212 =>
            intro ev wo hev hC hs hph
            have e99 := see_det hs 99 11 (by kernel_rfl) (by kernel_rfl) rfl
            exact ob_det (wanted_none rfl) rfl (by kernel_rfl) hC (TSp.of rfl (Grows.refl _)) (by simp [go_sem, e99, hev.const, w2, jj, k2, add0, s10, e3, e4]; try first | exact ⟨rfl, rfl⟩ | rfl)
          case oA213 =>
            intro ev wo hev hC hs hph
            have e7 := see_env hA76 hs 7 (by kernel_rfl) (by kernel_rfl) rfl
            have e100 := see_det hs 100 12 (by kernel_rfl) (by kernel_rfl) rfl
            exact ob_det (wanted_none rfl) rfl (by kernel_rfl) hC (TSp.of rfl (Grows.refl _)) (by simp [go_sem, e7, e100, w2, jj, k2, add0, s10, e3, e4]; try first | exact ⟨rfl, rfl⟩ | rfl)
          case oA214 =>
            intro ev wo hev hC hs hph
            have e101 := see_det hs 101 13 (by kernel_rfl) (by kernel_rfl) rfl
            have Kx := K7.below hC K7.lt
            exact ob_det (wanted_none rfl) rfl (by kernel_rfl) hC (TSp.of rfl (Grows.refl _)) (by simp [go_sem, e101, Kx.cell, c2, w2, jj, k2, add0, s10, e3, e4]; try first | exact ⟨rfl, rfl⟩ | rfl)
          case oA215 =>
            intro ev wo hev hC hs hph
            have e102 := see_det hs 102 14 (by kernel_rfl) (by kernel_rfl) rfl
            exact ob_det (wanted_none rfl) rfl (by kernel_rfl) hC (TSp.of rfl (Grows.refl _)) (by simp [go_sem, e102, hev.const, w2, jj, k2, add0, s10, e3, e4]; try first | exact ⟨rfl, rfl⟩ | rfl)
          case oA216 =>
            intro ev wo hev hC hs hph
            have e98 := see_det hs 98 10 (by kernel_rfl) (by kernel_rfl) rfl
            have e103 := see_det hs 103 15 (by kernel_rfl) (by kernel_rfl) rfl
            exact ob_det (wanted_none rfl) rfl (by kernel_rfl) hC (TSp.of rfl (Grows.refl _)) (by simp [go_sem, e98, e103, w2, jj, k2, add0, s10, e3, e4]; try first | exact ⟨rfl, rfl⟩ | rfl)
          case oA217 =>
            intro ev wo hev hC hs hph
            have e104 := see_det hs 104 16 (by kernel_rfl) (by kernel_rfl) rfl
            exact ob_det (wanted_none rfl) rfl (by kernel_rfl) hC (TSp.of rfl (Grows.refl _)) (by simp [go_sem, e104, w2, jj, k2, add0, s10, e3, e4]; try first | exact ⟨rfl, rfl⟩ | rfl)
          intro sg wf hC hph
          intro a77 hA77
          refine n_then ?_
          have hA78 := hA77.keep [2, 3, 4, 5, 6, 7, 8, 9, 10, 52]
          simp only [argsE, keepE, lookS, Nat.reduceBEq, cond_true, cond_false, Nat.reduceAdd, gv_tt, gv_ff, Bool.true_and, Bool.false_and, Bool.true_or, Bool.false_or] at hA78
          clear hA76 hA77 a75
          replace HB := HB.trans (hC.mono HB.size)
          replace hR := (hR.below hC).more hC.size
          replace K2 := K2.below hC K2.lt
          replace K3 := K3.below hC K3.lt
          replace K4 := K4.below hC K4.lt
          replace K7 := K7.below hC K7.lt
          clear hC hph
          have lp := xo_lt (xo_lt r7 r18) (sr_lt (n := 3) l15)
          have lq := xo_lt (xo_lt r17 r19) (sr_lt (n := 10) l2)
          have hVe := refNext_eq (x15 := x15) (x2 := x2) l16 l7 lp lq
          have hm := v_mask (ad64_lt (ad64 (ad64 x16 (xo (xo (rotr x15 7) (rotr x15 18)) (sr x15 3))) x7) (xo (xo (rotr x2 17) (rotr x2 19)) (sr x2 10)))
          rw [hVe, ← hnx] at hm
          obtain ⟨V, hV⟩ : ∃ V, shaNext (shaW k1 j) j = V := ⟨_, rfl⟩
          rw [hV] at hm
          -- any
          refine wp_region_split 15 ?_
          simp only [List.take_succ_cons, List.take_zero, List.drop_succ_cons, List.drop_zero]
          refine wp_any_split_at hA78 [(.det ?dA30), (.det ?dA31), (.det ?dA32), (.det ?dA33), (.det ?dA34), (.det ?dA35), (.det ?dA36), (.det ?dA37), (.det ?dA38), (.det ?dA39), (.det ?dA310), (.det ?dA311), (.det ?dA312), (.det ?dA313), (.det ?dA314)] [] (fun wy => Below wf.heap.size wf wy) (TSp [] Grows) (by kernel_rfl) rfl (by kernel_rfl) (by kernel_rfl) rfl (by kernel_rfl) (by kernel_rfl) (by kernel_rfl) (by kernel_rfl) ((Below.refl _ _).drew) (stab_sp [] [true, true, true, true, true, true, true, true, true, true, true, true, true, true, true] [true, true, true, true, true, true, true, true, true, true, true, true, true, true, true] [] rfl rfl rfl (by kernel_rfl) ⟨trivial, trivial, trivial, trivial, trivial, trivial, trivial, trivial, trivial, trivial, trivial, trivial, trivial, trivial, trivial, trivial⟩ trivial) (fun _ h => by cases h) (fun _ _ _ _ _ h => by cases h) (fun _ h => by cases h) ⟨?oA30, ?oA31, ?oA32, ?oA33, ?oA34, ?oA35, ?oA36, ?oA37, ?oA38, ?oA39, ?oA310, ?oA311, ?oA312, ?oA313, ?oA314, trivial⟩ (by kernel_rfl) ?fA3
          case oA30 =>
            intro ev wo hev hC hs hph
            have e8 := see_env hA78 hs 8 (by kernel_rfl) (by kernel_rfl) rfl
            exact ob_det (wanted_none rfl) rfl (by kernel_rfl) hC (TSp.of rfl (Grows.refl _)) (by simp [go_sem, e8, w16, w7, jj, k16, k7, add0, v_ad, hm]; try first | exact ⟨rfl, rfl⟩ | rfl)
          case oA31 =>
            intro ev wo hev hC hs hph
            have e8 := see_env hA78 hs 8 (by kernel_rfl) (by kernel_rfl) rfl
            exact ob_det (wanted_none rfl) rfl (by kernel_rfl) hC (TSp.of rfl (Grows.refl _)) (by simp [go_sem, e8, w16, w7, jj, k16, k7, add0, v_ad, hm]; try first | exact ⟨rfl, rfl⟩ | rfl)
          case oA32 =>
            intro ev wo hev hC hs hph
            have e106 := see_det hs 106 1 (by kernel_rfl) (by kernel_rfl) rfl
            exact ob_det (wanted_none rfl) rfl (by kernel_rfl) hC (TSp.of rfl (Grows.refl _)) (by simp [go_sem, e106, hev.const, w16, w7, jj, k16, k7, add0, v_ad, hm]; try first | exact ⟨rfl, rfl⟩ | rfl)
          case oA33 =>
            intro ev wo hev hC hs hph
            have e7 := see_env hA78 hs 7 (by kernel_rfl) (by kernel_rfl) rfl
            have e107 := see_det hs 107 2 (by kernel_rfl) (by kernel_rfl) rfl
            exact ob_det (wanted_none rfl) rfl (by kernel_rfl) hC (TSp.of rfl (Grows.refl _)) (by simp [go_sem, e7, e107, w16, w7, jj, k16, k7, add0, v_ad, hm]; try first | exact ⟨rfl, rfl⟩ | rfl)
          case oA34 =>
            intro ev wo hev hC hs hph
            have e108 := see_det hs 108 3 (by kernel_rfl) (by kernel_rfl) rfl
            have Kx := K7.below hC K7.lt
            exact ob_det (wanted_none rfl) rfl (by kernel_rfl) hC (TSp.of rfl (Grows.refl _)) (by simp [go_sem, e108, Kx.cell, c16, c7, w16, w7, jj, k16, k7, add0, v_ad, hm]; try first | exact ⟨rfl, rfl⟩ | rfl)
          case oA35 =>
            intro ev wo hev hC hs hph
            have e9 := see_env hA78 hs 9 (by kernel_rfl) (by kernel_rfl) rfl
            exact ob_det (wanted_none rfl) rfl (by kernel_rfl) hC (TSp.of rfl (Grows.refl _)) (by simp [go_sem, e9, w16, w7, jj, k16, k7, add0, v_ad, hm]; try first | exact ⟨rfl, rfl⟩ | rfl)
          case oA36 =>
            intro ev wo hev hC hs hph
            have e109 := see_det hs 109 4 (by kernel_rfl) (by kernel_rfl) rfl
            have e110 := see_det hs 110 5 (by kernel_rfl) (by kernel_rfl) rfl
            exact ob_det (wanted_none rfl) rfl (by kernel_rfl) hC (TSp.of rfl (Grows.refl _)) (by simp [go_sem, e109, e110, w16, w7, jj, k16, k7, add0, v_ad, hm]; try first | exact ⟨rfl, rfl⟩ | rfl)
          case oA37 =>
            intro ev wo hev hC hs hph
            have e8 := see_env hA78 hs 8 (by kernel_rfl) (by kernel_rfl) rfl
            exact ob_det (wanted_none rfl) rfl (by kernel_rfl) hC (TSp.of rfl (Grows.refl _)) (by simp [go_sem, e8, w16, w7, jj, k16, k7, add0, v_ad, hm]; try first | exact ⟨rfl, rfl⟩ | rfl)
          case oA38 =>
            intro ev wo hev hC hs hph
            have e112 := see_det hs 112 7 (by kernel_rfl) (by kernel_rfl) rfl
            exact ob_det (wanted_none rfl) rfl (by kernel_rfl) hC (TSp.of rfl (Grows.refl _)) (by simp [go_sem, e112, hev.const, w16, w7, jj, k16, k7, add0, v_ad, hm]; try first | exact ⟨rfl, rfl⟩ | rfl)
          case oA39 =>
            intro ev wo hev hC hs hph
            have e7 := see_env hA78 hs 7 (by kernel_rfl) (by kernel_rfl) rfl
            have e113 := see_det hs 113 8 (by kernel_rfl) (by kernel_rfl) rfl
            exact ob_det (wanted_none rfl) rfl (by kernel_rfl) hC (TSp.of rfl (Grows.refl _)) (by simp [go_sem, e7, e113, w16, w7, jj, k16, k7, add0, v_ad, hm]; try first | exact ⟨rfl, rfl⟩ | rfl)
          case oA310 =>
            intro ev wo hev hC hs hph
            have e114 := see_det hs 114 9 (by kernel_rfl) (by kernel_rfl) rfl
            have Kx := K7.below hC K7.lt
            exact ob_det (wanted_none rfl) rfl (by kernel_rfl) hC (TSp.of rfl (Grows.refl _)) (by simp [go_sem, e114, Kx.cell, c16, c7, w16, w7, jj, k16, k7, add0, v_ad, hm]; try first | exact ⟨rfl, rfl⟩ | rfl)
          case oA311 =>
            intro ev wo hev hC hs hph
            have e111 := see_det hs 111 6 (by kernel_rfl) (by kernel_rfl) rfl
            have e115 := see_det hs 115 10 (by kernel_rfl) (by kernel_rfl) rfl
            exact ob_det (wanted_none rfl) rfl (by kernel_rfl) hC (TSp.of rfl (Grows.refl _)) (by simp [go_sem, e111, e115, w16, w7, jj, k16, k7, add0, v_ad, hm]; try first | exact ⟨rfl, rfl⟩ | rfl)
          case oA312 =>
            intro ev wo hev hC hs hph
            have e10 := see_env hA78 hs 10 (by kernel_rfl) (by kernel_rfl) rfl
            exact ob_det (wanted_none rfl) rfl (by kernel_rfl) hC (TSp.of rfl (Grows.refl _)) (by simp [go_sem, e10, w16, w7, jj, k16, k7, add0, v_ad, hm]; try first | exact ⟨rfl, rfl⟩ | rfl)
          case oA313 =>
            intro ev wo hev hC hs hph
            have e116 := see_det hs 116 11 (by kernel_rfl) (by kernel_rfl) rfl
            have e117 := see_det hs 117 12 (by kernel_rfl) (by kernel_rfl) rfl
            exact ob_det (wanted_none rfl) rfl (by kernel_rfl) hC (TSp.of rfl (Grows.refl _)) (by simp [go_sem, e116, e117, w16, w7, jj, k16, k7, add0, v_ad, hm]; try first | exact ⟨rfl, rfl⟩ | rfl)
          case oA314 =>
            intro ev wo hev hC hs hph
            have e118 := see_det hs 118 13 (by kernel_rfl) (by kernel_rfl) rfl
            exact ob_det (wanted_none rfl) rfl (by kernel_rfl) hC (TSp.of rfl (Grows.refl _)) (by simp [go_sem, e118, hev.const, w16, w7, jj, k16, k7, add0, v_ad, hm]; try first | exact ⟨rfl, rfl⟩ | rfl)
          intro sg wf hC hph
          intro a79 hA79
          have hA80 := hA79.keep [2, 3, 4, 5, 6, 7, 52, 105, 119]
          simp only [argsE, keepE, lookS, Nat.reduceBEq, cond_true, cond_false, Nat.reduceAdd, gv_tt, gv_ff, Bool.true_and, Bool.false_and, Bool.true_or, Bool.false_or] at hA80
          clear hA78 hA79 a77
          replace HB := HB.trans (hC.mono HB.size)
          replace hR := (hR.below hC).more hC.size
          replace K2 := K2.below hC K2.lt
          replace K3 := K3.below hC K3.lt
          replace K4 := K4.below hC K4.lt
          replace K7 := K7.below hC K7.lt
          refine wl_op hA80 rfl rfl (by decide) (fun ev h => by simp [go_sem, h.get 7 rfl, h.get 105 rfl, jj, ki, add0, hci]; try first | exact ⟨rfl, rfl⟩ | rfl) fun a81 hA81 => ?_
          -- stop store slot None
          have K7b := K7
          refine wl_setf ((shaC64 (shaW k1 j)).set j (.int .u64 (V : Nat))) _ hA81 rfl rfl K7 (j := j) (by rfl) (fun ev h => by simp [go_sem, h.get 120 rfl, h.get 119 rfl, jj, ki, add0, hci, K7.cell, K7.frozen]; try first | exact ⟨rfl, rfl⟩ | rfl) fun w16 (K7 : Blk _ _ _ _) hs => ?_
          refine wl_nil ?_
          refine n_block ?_
          refine n_then ?_
          have hA82 := hA81.keep [2, 3, 4, 5, 6, 7, 52]
          simp only [argsE, keepE, lookS, Nat.reduceBEq, cond_true, cond_false, Nat.reduceAdd, gv_tt, gv_ff, Bool.true_and, Bool.false_and, Bool.true_or, Bool.false_or] at hA82
          clear hA80 hA81 a79
          refine wp_region_lit ?_
          refine wl_op hA82 rfl rfl (by decide) (fun ev h => by simp [go_sem, h.c, h.get 52 rfl, hwi]; try first | exact ⟨rfl, rfl⟩ | rfl) fun a83 hA83 => ?_
          refine wl_op hA83 rfl rfl (by decide) (fun ev h => by simp [go_sem, h.get 121 rfl, hwi]; try first | exact ⟨rfl, rfl⟩ | rfl) fun a84 hA84 => ?_
          refine wl_nil ?_
          refine n_then ?_
          have hA85 := hA84.keep [2, 3, 4, 5, 6, 7, 52]
          simp only [argsE, keepE, lookS, Nat.reduceBEq, cond_true, cond_false, Nat.reduceAdd, gv_tt, gv_ff, Bool.true_and, Bool.false_and, Bool.true_or, Bool.false_or] at hA85
          clear hA82 hA83 hA84 a81 a83
          -- round
          refine ⟨k' - 1, by omega, j + 1, by omega, hA85, reads_only hR hs K7b (map64_no _), hs.blk K2 (by omega), hs.blk K3 (by omega), hs.blk K4 (by omega), ?_, hs.below HB h7w⟩
          have e := shaC64_set (l := shaW k1 j) (by omega) V
          rw [hlen] at e
          rw [show shaW k1 (j + 1) = shaW k1 j ++ [V] by rw [← hV]; show shaW k1 j ++ _ = _; rw [if_neg (by omega)], ← e]
          exact K7
      case nU =>
        have hj : j = 64 := by simp at hq2; omega
        subst hj
        have hk64 : (shaW k1 64).length = 64 := shaW_length k1 64
        have hWlt : ∀ q, (shaW k1 64).getD q 0 < 4294967296 := fun q => shaW_getD_lt k1 64 q
        have hmix : shaGo T (i + 1) = shaAdd (shaSteps (shaW k1 64) (shaGo T i) 64) (shaGo T i) := by
          rw [← hk1, ← hp]
          rfl
        have hok := shaGo_ok T i
        rw [shaC64_full hk64] at K7
        generalize shaW k1 64 = W at *
        generalize hSi : shaGo T i = S at *
        refine wp_exit ?_
        refine x_then ?_
        refine x_then ?_
        refine x_block ?_
        refine n_then ?_
        have hA86 := hA49.keep [2, 3, 4, 5, 6, 7]
        simp only [argsE, keepE, lookS, Nat.reduceBEq, cond_true, cond_false, Nat.reduceAdd, gv_tt, gv_ff, Bool.true_and, Bool.false_and, Bool.true_or, Bool.false_or] at hA86
        clear hA49
        refine wp_seq ?_
        refine wp_region_lit ?_
        -- limit load slot 122
        refine wl_op hA86 rfl rfl (by decide) (fun ev h => exec_loadA K4 Tryz.underlying122 rfl (by kernel_rfl) (rfl : (S.l.map u64v).length = 8) rfl (h.get 4 rfl)) fun a87 hA87 => ?_
        -- stop alloc slot 11
        have l4 := K4.lt
        have l7 := K7.lt
        have hwl2 := HB.size
        refine wl_new hA87 rfl rfl (by decide) (fun ev h => by simp [go_sem]; try first | exact ⟨rfl, rfl⟩ | rfl) fun w17 a88 (K11 : Blk _ _ _ _) hz17 hb17 hA88 => ?_
        replace HB := HB.trans (hb17.mono HB.size)
        replace K2 := K2.below hb17 K2.lt
        replace K3 := K3.below hb17 K3.lt
        replace K4 := K4.below hb17 K4.lt
        replace K7 := K7.below hb17 K7.lt
        replace hR := (hR.below hb17).more hb17.size
        obtain ⟨g11, hg11⟩ : ∃ g, wx.heap.size = g := ⟨_, rfl⟩
        rw [hg11] at K11 hA88 l7 l4 hwl2
        -- stop store slot None
        have K11b := K11
        refine wl_setw (S.l.map u64v) hA88 rfl rfl K11 (by rfl) (by rfl) (by kernel_rfl) (map64_one _) rfl (fun ev h => ⟨h.get 11 rfl, h.get 122 rfl⟩) fun w18 (K11 : Blk _ _ _ _) hs11 => ?_
        replace hR := reads_only hR hs11 K11b (by rfl)
        replace K2 := hs11.blk K2 (by omega)
        replace K3 := hs11.blk K3 (by omega)
        replace K4 := hs11.blk K4 (by omega)
        replace K7 := hs11.blk K7 (by omega)
        replace HB := hs11.below HB hwl2
        refine wl_nil ?_
        refine n_then ?_
        have hA89 := hA88.keep [2, 3, 4, 5, 6, 7, 11]
        simp only [argsE, keepE, lookS, Nat.reduceBEq, cond_true, cond_false, Nat.reduceAdd, gv_tt, gv_ff, Bool.true_and, Bool.false_and, Bool.true_or, Bool.false_or] at hA89
        clear hA86 hA87 hA88 a87
        refine wp_seq ?_
        refine wp_seq ?_
        refine wp_region_lit ?_
        refine wl_op hA89 rfl rfl (by decide) (fun ev h => by simp [go_sem, h.c]; try first | exact ⟨rfl, rfl⟩ | rfl) fun a90 hA90 => ?_
        refine wl_nil ?_
        refine n_then ?_
        have hA91 := hA90.keep [2, 3, 4, 5, 6, 7, 11, 123]
        simp only [argsE, keepE, lookS, Nat.reduceBEq, cond_true, cond_false, Nat.reduceAdd, gv_tt, gv_ff, Bool.true_and, Bool.false_and, Bool.true_or, Bool.false_or] at hA91
        clear hA89 hA90 a88
        refine wp_block ?_
        -- loop
        refine wp_loop_at (fun k a wx => ∃ (q : Nat), q + k = 64 ∧ At 251 [(2, .pointer (some ⟨g2, 0, none⟩)), (3, .pointer (some ⟨g3, 0, none⟩)), (4, .pointer (some ⟨g4, 0, none⟩)), (5, .slice Ar N cr), (6, .int .i64 (p : Nat)), (7, .pointer (some ⟨g7, 0, none⟩)), (11, .pointer (some ⟨g11, 0, none⟩)), (123, .int .i64 (q : Nat))] a ∧ Reads wx wx.heap.size 1 Ar N (u8s T) ∧ Blk wx g2 91 (digCells []).toArray ∧ Blk wx g3 121 (shaK.map u64v).toArray ∧ Blk wx g4 122 (S.l.map u64v).toArray ∧ Blk wx g7 121 (W.map u64v).toArray ∧ Blk wx g11 122 ((shaSteps W S q).l.map u64v).toArray ∧ Below w.heap.size w wx) (64) ?_ ?_
        · exact ⟨0, by omega, hA91, hR, K2, K3, K4, K7, K11, HB⟩
        clear hR K2 K3 K4 K7 K11 HB
        rintro k' a wx ⟨q, hqk, hA, hR, K2, K3, K4, K7, K11, HB⟩
        refine wp_seq ?_
        refine wp_region_lit ?_
        refine wl_op hA rfl rfl (by decide) (fun ev h => by simp [go_sem, h.c, h.get 123 rfl]; try first | exact ⟨rfl, rfl⟩ | rfl) fun a92 hA92 => ?_
        refine wl_nil ?_
        refine n_then ?_
        have hA93 := hA92.keep [2, 3, 4, 5, 6, 7, 11, 123, 124]
        simp only [argsE, keepE, lookS, Nat.reduceBEq, cond_true, cond_false, Nat.reduceAdd, gv_tt, gv_ff, Bool.true_and, Bool.false_and, Bool.true_or, Bool.false_or] at hA93
        clear hA hA92
        refine wp_seq ?_
        -- cond
        refine wp_if hA93 124 _ rfl (fun hq2 => ?yY) (fun hq2 => ?nY)
        case yY =>
          have hj : q < 64 := by simp at hq2; omega
          have hst := shaSteps_ok W hok q
          have hnext : shaSteps W S (q + 1) = shaStep (shaK.getD q 0) (W.getD q 0) (shaSteps W S q) := rfl
          have ck := map64_at (l := shaK) (i := q) hj
          have cw := map64_at (l := W) (i := q) (by omega)
          have lk : shaK.getD q 0 < 4294967296 := by
            rw [List.getD_eq_getElem?_getD, List.getElem?_eq_getElem (show q < shaK.length from hj)]
            exact shaK_lt _ (List.getElem_mem _)
          have lw := hWlt q
          obtain ⟨kk, hkk⟩ : ∃ x, shaK.getD q 0 = x := ⟨_, rfl⟩
          obtain ⟨ww, hww⟩ : ∃ x, W.getD q 0 = x := ⟨_, rfl⟩
          rw [hkk] at ck lk hnext
          rw [hww] at cw lw hnext
          generalize shaSteps W S q = st at *
          obtain ⟨va, vb, vc, vd, ve, vf, vg, vh⟩ := st
          have la : va < 4294967296 := hst.a
          have lb : vb < 4294967296 := hst.b
          have lc : vc < 4294967296 := hst.c
          have ld : vd < 4294967296 := hst.d
          have le : ve < 4294967296 := hst.e
          have lf : vf < 4294967296 := hst.f
          have lg : vg < 4294967296 := hst.g
          have lh : vh < 4294967296 := hst.h
          clear hst
          replace K11 : Blk wx g11 122 #[.int .u64 (va : Nat), .int .u64 (vb : Nat), .int .u64 (vc : Nat), .int .u64 (vd : Nat), .int .u64 (ve : Nat), .int .u64 (vf : Nat), .int .u64 (vg : Nat), .int .u64 (vh : Nat)] := K11
          have r6 := rotr_lt ve 6
          have r11 := rotr_lt ve 11
          have r25 := rotr_lt ve 25
          have r2 := rotr_lt va 2
          have r13 := rotr_lt va 13
          have r22 := rotr_lt va 22
          have x1 := v_xo r6 r11
          have x2 := v_xo (xo_lt r6 r11) r25
          refine wp_skip ?_
          refine n_then ?_
          refine wp_seq ?_
          refine wp_block ?_
          refine wp_seq ?_
          refine wp_region_lit ?_
          refine wl_op hA93 rfl rfl (by decide) (fun ev h => by simp [go_sem, h.get 123 rfl]; try first | exact ⟨rfl, rfl⟩ | rfl) fun a94 hA94 => ?_
          refine wl_op hA94 rfl rfl (by decide) (fun ev h => by simp [go_sem, h.get 125 rfl]; try first | exact ⟨rfl, rfl⟩ | rfl) fun a95 hA95 => ?_
          refine wl_nil ?_
          refine n_then ?_
          have hA96 := hA95.keep [2, 3, 4, 5, 6, 7, 11, 12, 123]
          simp only [argsE, keepE, lookS, Nat.reduceBEq, cond_true, cond_false, Nat.reduceAdd, gv_tt, gv_ff, Bool.true_and, Bool.false_and, Bool.true_or, Bool.false_or] at hA96
          clear hA93 hA94 hA95 a94
          refine wp_seq ?_
          -- any
          refine wp_any_at hA96 [(.det ?dB10), (.det ?dB11), (.det ?dB12), (.det ?dB13), (.det ?dB14), (.det ?dB15), (.det ?dB16), (.det ?dB17), (.det ?dB18), (.det ?dB19), (.det ?dB110), (.det ?dB111)] [] (fun wy => Below wx.heap.size wx wy) (TSp [] Grows) (by kernel_rfl) rfl (by kernel_rfl) (by kernel_rfl) rfl ((Below.refl _ _).drew) (stab_sp [] [true, true, true, true, true, true, true, true, true, true, true, true] [true, true, true, true, true, true, true, true, true, true, true, true] [] rfl rfl rfl (by kernel_rfl) ⟨trivial, trivial, trivial, trivial, trivial, trivial, trivial, trivial, trivial, trivial, trivial, trivial, trivial⟩ trivial) (fun _ h => by cases h) (fun _ _ _ _ _ h => by cases h) (fun _ h => by cases h) ⟨?oB10, ?oB11, ?oB12, ?oB13, ?oB14, ?oB15, ?oB16, ?oB17, ?oB18, ?oB19, ?oB110, ?oB111, trivial⟩ (by kernel_rfl) ?fB1
          case oB10 =>
            intro ev wo hev hC hs hph
            have e11 := see_env hA96 hs 11 (by kernel_rfl) (by kernel_rfl) rfl
            exact ob_det (wanted_none rfl) rfl (by kernel_rfl) hC (TSp.of rfl (Grows.refl _)) (by simp [go_sem, e11, hev.const, x1, x2]; try first | exact ⟨rfl, rfl⟩ | rfl)
          case oB11 =>
            intro ev wo hev hC hs hph
            have e126 := see_det hs 126 0 (by kernel_rfl) (by kernel_rfl) rfl
            have Kx := K11.below hC K11.lt
            exact ob_det (wanted_none rfl) rfl (by kernel_rfl) hC (TSp.of rfl (Grows.refl _)) (by simp [go_sem, e126, Kx.cell, x1, x2]; try first | exact ⟨rfl, rfl⟩ | rfl)
          case oB12 =>
            intro ev wo hev hC hs hph
            have e127 := see_det hs 127 1 (by kernel_rfl) (by kernel_rfl) rfl
            have Kx := K11.below hC K11.lt
            exact ob_dcall (wanted_none rfl) rfl (by kernel_rfl) (turned_any ve 6 6 rfl le (by decide) (by decide) wo) (exec_call Tryz.func67 (by kernel_rfl) rfl (hev.func _) (by first | (simp only [List.map_toArray, List.map_cons, List.map_nil, e127, hev.const]; done) | (simp only [List.map_toArray, List.map_cons, List.map_nil, e127, hev.const]; rfl) | (simp [List.map_toArray, List.map_cons, List.map_nil, e127, hev.const]; done) | (simp [List.map_toArray, List.map_cons, List.map_nil, e127, hev.const]; rfl) | rfl)) (by rfl) (fun w3 hb3 => ⟨hC.trans (hb3.mono hC.size), TSp.of rfl hb3⟩)
          case oB13 =>
            intro ev wo hev hC hs hph
            have e11 := see_env hA96 hs 11 (by kernel_rfl) (by kernel_rfl) rfl
            exact ob_det (wanted_none rfl) rfl (by kernel_rfl) hC (TSp.of rfl (Grows.refl _)) (by simp [go_sem, e11, hev.const, x1, x2]; try first | exact ⟨rfl, rfl⟩ | rfl)
          case oB14 =>
            intro ev wo hev hC hs hph
            have e129 := see_det hs 129 3 (by kernel_rfl) (by kernel_rfl) rfl
            have Kx := K11.below hC K11.lt
            exact ob_det (wanted_none rfl) rfl (by kernel_rfl) hC (TSp.of rfl (Grows.refl _)) (by simp [go_sem, e129, Kx.cell, x1, x2]; try first | exact ⟨rfl, rfl⟩ | rfl)
          case oB15 =>
            intro ev wo hev hC hs hph
            have e130 := see_det hs 130 4 (by kernel_rfl) (by kernel_rfl) rfl
            have Kx := K11.below hC K11.lt
            exact ob_dcall (wanted_none rfl) rfl (by kernel_rfl) (turned_any ve 11 11 rfl le (by decide) (by decide) wo) (exec_call Tryz.func67 (by kernel_rfl) rfl (hev.func _) (by first | (simp only [List.map_toArray, List.map_cons, List.map_nil, e130, hev.const]; done) | (simp only [List.map_toArray, List.map_cons, List.map_nil, e130, hev.const]; rfl) | (simp [List.map_toArray, List.map_cons, List.map_nil, e130, hev.const]; done) | (simp [List.map_toArray, List.map_cons, List.map_nil, e130, hev.const]; rfl) | rfl)) (by rfl) (fun w3 hb3 => ⟨hC.trans (hb3.mono hC.size), TSp.of rfl hb3⟩)
          case oB16 =>
            intro ev wo hev hC hs hph
            have e128 := see_det hs 128 2 (by kernel_rfl) (by kernel_rfl) rfl
            have e131 := see_det hs 131 5 (by kernel_rfl) (by kernel_rfl) rfl
            exact ob_det (wanted_none rfl) rfl (by kernel_rfl) hC (TSp.of rfl (Grows.refl _)) (by simp [go_sem, e128, e131, x1, x2]; try first | exact ⟨rfl, rfl⟩ | rfl)
          case oB17 =>
            intro ev wo hev hC hs hph
            have e11 := see_env hA96 hs 11 (by kernel_rfl) (by kernel_rfl) rfl
            exact ob_det (wanted_none rfl) rfl (by kernel_rfl) hC (TSp.of rfl (Grows.refl _)) (by simp [go_sem, e11, hev.const, x1, x2]; try first | exact ⟨rfl, rfl⟩ | rfl)
          case oB18 =>
            intro ev wo hev hC hs hph
            have e133 := see_det hs 133 7 (by kernel_rfl) (by kernel_rfl) rfl
            have Kx := K11.below hC K11.lt
            exact ob_det (wanted_none rfl) rfl (by kernel_rfl) hC (TSp.of rfl (Grows.refl _)) (by simp [go_sem, e133, Kx.cell, x1, x2]; try first | exact ⟨rfl, rfl⟩ | rfl)
          case oB19 =>
            intro ev wo hev hC hs hph
            have e134 := see_det hs 134 8 (by kernel_rfl) (by kernel_rfl) rfl
            have Kx := K11.below hC K11.lt
            exact ob_dcall (wanted_none rfl) rfl (by kernel_rfl) (turned_any ve 25 25 rfl le (by decide) (by decide) wo) (exec_call Tryz.func67 (by kernel_rfl) rfl (hev.func _) (by first | (simp only [List.map_toArray, List.map_cons, List.map_nil, e134, hev.const]; done) | (simp only [List.map_toArray, List.map_cons, List.map_nil, e134, hev.const]; rfl) | (simp [List.map_toArray, List.map_cons, List.map_nil, e134, hev.const]; done) | (simp [List.map_toArray, List.map_cons, List.map_nil, e134, hev.const]; rfl) | rfl)) (by rfl) (fun w3 hb3 => ⟨hC.trans (hb3.mono hC.size), TSp.of rfl hb3⟩)
          case oB110 =>
            intro ev wo hev hC hs hph
            have e132 := see_det hs 132 6 (by kernel_rfl) (by kernel_rfl) rfl
            have e135 := see_det hs 135 9 (by kernel_rfl) (by kernel_rfl) rfl
            exact ob_det (wanted_none rfl) rfl (by kernel_rfl) hC (TSp.of rfl (Grows.refl _)) (by simp [go_sem, e132, e135, x1, x2]; try first | exact ⟨rfl, rfl⟩ | rfl)
          case oB111 =>
            intro ev wo hev hC hs hph
            have e136 := see_det hs 136 10 (by kernel_rfl) (by kernel_rfl) rfl
            exact ob_det (wanted_none rfl) rfl (by kernel_rfl) hC (TSp.of rfl (Grows.refl _)) (by simp [go_sem, e136, x1, x2]; try first | exact ⟨rfl, rfl⟩ | rfl)
          intro sg wf hC hph
          intro a97 hA97
          refine n_then ?_
          have hA98 := hA97.keep [2, 3, 4, 5, 6, 7, 11, 12, 13, 123]
          simp only [argsE, keepE, lookS, Nat.reduceBEq, cond_true, cond_false, Nat.reduceAdd, gv_tt, gv_ff, Bool.true_and, Bool.false_and, Bool.true_or, Bool.false_or] at hA98
          clear hA96 hA97 a95
          replace HB := HB.trans (hC.mono HB.size)
          replace hR := (hR.below hC).more hC.size
          replace K2 := K2.below hC K2.lt
          replace K3 := K3.below hC K3.lt
          replace K4 := K4.below hC K4.lt
          replace K7 := K7.below hC K7.lt
          replace K11 := K11.below hC K11.lt
          clear hC hph x1 x2
          have lP := xo_lt (xo_lt r6 r11) r25
          obtain ⟨P, hP⟩ : ∃ P, xo (xo (rotr ve 6) (rotr ve 11)) (rotr ve 25) = P := ⟨_, rfl⟩
          rw [hP] at hA98 lP
          have a1 := v_an (l64 le) lf
          have n1 := v_ones le
          have ln : xo 4294967295 ve < 4294967296 := xo_lt (by decide) le
          have a2 := v_an (l64 ln) lg
          have o1 := v_or (an_lt (b := vf) le) (an_lt (b := vg) ln)
          refine wp_seq ?_
          refine wp_region_lit ?_
          refine wl_op hA98 rfl rfl (by decide) (fun ev h => by simp [go_sem, h.c, h.get 11 rfl, K11.cell, a1, n1, a2, o1]; try first | exact ⟨rfl, rfl⟩ | rfl) fun a99 hA99 => ?_
          refine wl_op hA99 rfl rfl (by decide) (fun ev h => by simp [go_sem, h.get 137 rfl, K11.cell, a1, n1, a2, o1]; try first | exact ⟨rfl, rfl⟩ | rfl) fun a100 hA100 => ?_
          refine wl_op hA100 rfl rfl (by decide) (fun ev h => by simp [go_sem, h.c, h.get 11 rfl, K11.cell, a1, n1, a2, o1]; try first | exact ⟨rfl, rfl⟩ | rfl) fun a101 hA101 => ?_
          refine wl_op hA101 rfl rfl (by decide) (fun ev h => by simp [go_sem, h.get 139 rfl, K11.cell, a1, n1, a2, o1]; try first | exact ⟨rfl, rfl⟩ | rfl) fun a102 hA102 => ?_
          refine wl_op hA102 rfl rfl (by decide) (fun ev h => by simp [go_sem, h.get 138 rfl, h.get 140 rfl, K11.cell, a1, n1, a2, o1]; try first | exact ⟨rfl, rfl⟩ | rfl) fun a103 hA103 => ?_
          refine wl_op hA103 rfl rfl (by decide) (fun ev h => by simp [go_sem, h.c, h.get 11 rfl, K11.cell, a1, n1, a2, o1]; try first | exact ⟨rfl, rfl⟩ | rfl) fun a104 hA104 => ?_
          refine wl_op hA104 rfl rfl (by decide) (fun ev h => by simp [go_sem, h.get 142 rfl, K11.cell, a1, n1, a2, o1]; try first | exact ⟨rfl, rfl⟩ | rfl) fun a105 hA105 => ?_
          refine wl_op hA105 rfl rfl (by decide) (fun ev h => by simp [go_sem, h.c, h.get 143 rfl, K11.cell, a1, n1, a2, o1]; try first | exact ⟨rfl, rfl⟩ | rfl) fun a106 hA106 => ?_
          refine wl_op hA106 rfl rfl (by decide) (fun ev h => by simp [go_sem, h.c, h.get 11 rfl, K11.cell, a1, n1, a2, o1]; try first | exact ⟨rfl, rfl⟩ | rfl) fun a107 hA107 => ?_
          refine wl_op hA107 rfl rfl (by decide) (fun ev h => by simp [go_sem, h.get 145 rfl, K11.cell, a1, n1, a2, o1]; try first | exact ⟨rfl, rfl⟩ | rfl) fun a108 hA108 => ?_
          refine wl_op hA108 rfl rfl (by decide) (fun ev h => by simp [go_sem, h.get 144 rfl, h.get 146 rfl, K11.cell, a1, n1, a2, o1]; try first | exact ⟨rfl, rfl⟩ | rfl) fun a109 hA109 => ?_
          refine wl_op hA109 rfl rfl (by decide) (fun ev h => by simp [go_sem, h.get 141 rfl, h.get 147 rfl, K11.cell, a1, n1, a2, o1]; try first | exact ⟨rfl, rfl⟩ | rfl) fun a110 hA110 => ?_
          refine wl_op hA110 rfl rfl (by decide) (fun ev h => by simp [go_sem, h.get 148 rfl, K11.cell, a1, n1, a2, o1]; try first | exact ⟨rfl, rfl⟩ | rfl) fun a111 hA111 => ?_
          refine wl_nil ?_
          refine n_then ?_
          have hA112 := hA111.keep [2, 3, 4, 5, 6, 7, 11, 12, 13, 14, 123]
          simp only [argsE, keepE, lookS, Nat.reduceBEq, cond_true, cond_false, Nat.reduceAdd, gv_tt, gv_ff, Bool.true_and, Bool.false_and, Bool.true_or, Bool.false_or] at hA112
          clear hA98 hA99 hA100 hA101 hA102 hA103 hA104 hA105 hA106 hA107 hA108 hA109 hA110 hA111 a97 a99 a100 a101 a102 a103 a104 a105 a106 a107 a108 a109 a110
          refine wp_seq ?_
          -- any
          have lC := orr_lt (an_lt (b := vf) le) (an_lt (b := vg) ln)
          obtain ⟨C, hC0⟩ : ∃ C, orr (an ve vf) (an (xo 4294967295 ve) vg) = C := ⟨_, rfl⟩
          rw [hC0] at hA112 lC
          have jj : (0 : Int) ≤ (q : Int) := by omega
          have ji : (q : Int) < 64 := by omega
          refine wp_any_at hA112 [(.det ?dB20), (.det ?dB21), (.det ?dB22), (.det ?dB23), (.det ?dB24), (.det ?dB25), (.det ?dB26), (.det ?dB27), (.det ?dB28), (.det ?dB29), (.det ?dB210), (.det ?dB211), (.det ?dB212), (.det ?dB213), (.det ?dB214)] [] (fun wy => Below wf.heap.size wf wy) (TSp [] Grows) (by kernel_rfl) rfl (by kernel_rfl) (by kernel_rfl) rfl ((Below.refl _ _).drew) (stab_sp [] [true, true, true, true, true, true, true, true, true, true, true, true, true, true, true] [true, true, true, true, true, true, true, true, true, true, true, true, true, true, true] [] rfl rfl rfl (by kernel_rfl) ⟨trivial, trivial, trivial, trivial, trivial, trivial, trivial, trivial, trivial, trivial, trivial, trivial, trivial, trivial, trivial, trivial⟩ trivial) (fun _ h => by cases h) (fun _ _ _ _ _ h => by cases h) (fun _ h => by cases h) ⟨?oB20, ?oB21, ?oB22, ?oB23, ?oB24, ?oB25, ?oB26, ?oB27, ?oB28, ?oB29, ?oB210, ?oB211, ?oB212, ?oB213, ?oB214, trivial⟩ (by kernel_rfl) ?fB2
          case oB20 =>
            intro ev wo hev hC hs hph
            have e11 := see_env hA112 hs 11 (by kernel_rfl) (by kernel_rfl) rfl
            exact ob_det (wanted_none rfl) rfl (by kernel_rfl) hC (TSp.of rfl (Grows.refl _)) (by simp [go_sem, e11, hev.const, v_ad, jj, ji, add0]; try first | exact ⟨rfl, rfl⟩ | rfl)
          case oB21 =>
            intro ev wo hev hC hs hph
            have e149 := see_det hs 149 0 (by kernel_rfl) (by kernel_rfl) rfl
            have Kx := K11.below hC K11.lt
            have Ky := K3.below hC K3.lt
            have Kz := K7.below hC K7.lt
            exact ob_det (wanted_none rfl) rfl (by kernel_rfl) hC (TSp.of rfl (Grows.refl _)) (by simp [go_sem, e149, Kx.cell, Ky.cell, Kz.cell, ck, cw, v_ad, jj, ji, add0]; try first | exact ⟨rfl, rfl⟩ | rfl)
          case oB22 =>
            intro ev wo hev hC hs hph
            have e13 := see_env hA112 hs 13 (by kernel_rfl) (by kernel_rfl) rfl
            exact ob_det (wanted_none rfl) rfl (by kernel_rfl) hC (TSp.of rfl (Grows.refl _)) (by simp [go_sem, e13, v_ad, jj, ji, add0]; try first | exact ⟨rfl, rfl⟩ | rfl)
          case oB23 =>
            intro ev wo hev hC hs hph
            have e150 := see_det hs 150 1 (by kernel_rfl) (by kernel_rfl) rfl
            have e151 := see_det hs 151 2 (by kernel_rfl) (by kernel_rfl) rfl
            exact ob_det (wanted_none rfl) rfl (by kernel_rfl) hC (TSp.of rfl (Grows.refl _)) (by simp [go_sem, e150, e151, v_ad, jj, ji, add0]; try first | exact ⟨rfl, rfl⟩ | rfl)
          case oB24 =>
            intro ev wo hev hC hs hph
            have e14 := see_env hA112 hs 14 (by kernel_rfl) (by kernel_rfl) rfl
            exact ob_det (wanted_none rfl) rfl (by kernel_rfl) hC (TSp.of rfl (Grows.refl _)) (by simp [go_sem, e14, v_ad, jj, ji, add0]; try first | exact ⟨rfl, rfl⟩ | rfl)
          case oB25 =>
            intro ev wo hev hC hs hph
            have e152 := see_det hs 152 3 (by kernel_rfl) (by kernel_rfl) rfl
            have e153 := see_det hs 153 4 (by kernel_rfl) (by kernel_rfl) rfl
            exact ob_det (wanted_none rfl) rfl (by kernel_rfl) hC (TSp.of rfl (Grows.refl _)) (by simp [go_sem, e152, e153, v_ad, jj, ji, add0]; try first | exact ⟨rfl, rfl⟩ | rfl)
          case oB26 =>
            intro ev wo hev hC hs hph
            have e12 := see_env hA112 hs 12 (by kernel_rfl) (by kernel_rfl) rfl
            exact ob_det (wanted_none rfl) rfl (by kernel_rfl) hC (TSp.of rfl (Grows.refl _)) (by simp [go_sem, e12, v_ad, jj, ji, add0]; try first | exact ⟨rfl, rfl⟩ | rfl)
          case oB27 =>
            intro ev wo hev hC hs hph
            have e3 := see_env hA112 hs 3 (by kernel_rfl) (by kernel_rfl) rfl
            have e155 := see_det hs 155 6 (by kernel_rfl) (by kernel_rfl) rfl
            exact ob_det (wanted_none rfl) rfl (by kernel_rfl) hC (TSp.of rfl (Grows.refl _)) (by simp [go_sem, e3, e155, v_ad, jj, ji, add0]; try first | exact ⟨rfl, rfl⟩ | rfl)
          case oB28 =>
            intro ev wo hev hC hs hph
            have e156 := see_det hs 156 7 (by kernel_rfl) (by kernel_rfl) rfl
            have Kx := K11.below hC K11.lt
            have Ky := K3.below hC K3.lt
            have Kz := K7.below hC K7.lt
            exact ob_det (wanted_none rfl) rfl (by kernel_rfl) hC (TSp.of rfl (Grows.refl _)) (by simp [go_sem, e156, Kx.cell, Ky.cell, Kz.cell, ck, cw, v_ad, jj, ji, add0]; try first | exact ⟨rfl, rfl⟩ | rfl)
          case oB29 =>
            intro ev wo hev hC hs hph
            have e154 := see_det hs 154 5 (by kernel_rfl) (by kernel_rfl) rfl
            have e157 := see_det hs 157 8 (by kernel_rfl) (by kernel_rfl) rfl
            exact ob_det (wanted_none rfl) rfl (by kernel_rfl) hC (TSp.of rfl (Grows.refl _)) (by simp [go_sem, e154, e157, v_ad, jj, ji, add0]; try first | exact ⟨rfl, rfl⟩ | rfl)
          case oB210 =>
            intro ev wo hev hC hs hph
            have e12 := see_env hA112 hs 12 (by kernel_rfl) (by kernel_rfl) rfl
            exact ob_det (wanted_none rfl) rfl (by kernel_rfl) hC (TSp.of rfl (Grows.refl _)) (by simp [go_sem, e12, v_ad, jj, ji, add0]; try first | exact ⟨rfl, rfl⟩ | rfl)
          case oB211 =>
            intro ev wo hev hC hs hph
            have e7 := see_env hA112 hs 7 (by kernel_rfl) (by kernel_rfl) rfl
            have e159 := see_det hs 159 10 (by kernel_rfl) (by kernel_rfl) rfl
            exact ob_det (wanted_none rfl) rfl (by kernel_rfl) hC (TSp.of rfl (Grows.refl _)) (by simp [go_sem, e7, e159, v_ad, jj, ji, add0]; try first | exact ⟨rfl, rfl⟩ | rfl)
          case oB212 =>
            intro ev wo hev hC hs hph
            have e160 := see_det hs 160 11 (by kernel_rfl) (by kernel_rfl) rfl
            have Kx := K11.below hC K11.lt
            have Ky := K3.below hC K3.lt
            have Kz := K7.below hC K7.lt
            exact ob_det (wanted_none rfl) rfl (by kernel_rfl) hC (TSp.of rfl (Grows.refl _)) (by simp [go_sem, e160, Kx.cell, Ky.cell, Kz.cell, ck, cw, v_ad, jj, ji, add0]; try first | exact ⟨rfl, rfl⟩ | rfl)
          case oB213 =>
            intro ev wo hev hC hs hph
            have e158 := see_det hs 158 9 (by kernel_rfl) (by kernel_rfl) rfl
            have e161 := see_det hs 161 12 (by kernel_rfl) (by kernel_rfl) rfl
            exact ob_det (wanted_none rfl) rfl (by kernel_rfl) hC (TSp.of rfl (Grows.refl _)) (by simp [go_sem, e158, e161, v_ad, jj, ji, add0]; try first | exact ⟨rfl, rfl⟩ | rfl)
          case oB214 =>
            intro ev wo hev hC hs hph
            have e162 := see_det hs 162 13 (by kernel_rfl) (by kernel_rfl) rfl
            exact ob_det (wanted_none rfl) rfl (by kernel_rfl) hC (TSp.of rfl (Grows.refl _)) (by simp [go_sem, e162, v_ad, jj, ji, add0]; try first | exact ⟨rfl, rfl⟩ | rfl)
          intro sg wf hC hph
          intro a113 hA113
          refine n_then ?_
          have hA114 := hA113.keep [2, 3, 4, 5, 6, 7, 11, 15, 123]
          simp only [argsE, keepE, lookS, Nat.reduceBEq, cond_true, cond_false, Nat.reduceAdd, gv_tt, gv_ff, Bool.true_and, Bool.false_and, Bool.true_or, Bool.false_or] at hA114
          clear hA112 hA113 a111
          replace HB := HB.trans (hC.mono HB.size)
          replace hR := (hR.below hC).more hC.size
          replace K2 := K2.below hC K2.lt
          replace K3 := K3.below hC K3.lt
          replace K4 := K4.below hC K4.lt
          replace K7 := K7.below hC K7.lt
          replace K11 := K11.below hC K11.lt
          clear hC hph a1 n1 a2 o1
          obtain ⟨V1, hV1⟩ : ∃ V1, ad64 (ad64 (ad64 (ad64 vh P) C) kk) ww = V1 := ⟨_, rfl⟩
          rw [hV1] at hA114
          have y1 := v_xo r2 r13
          have y2 := v_xo (xo_lt r2 r13) r22
          refine wp_seq ?_
          -- any
          refine wp_any_at hA114 [(.det ?dB30), (.det ?dB31), (.det ?dB32), (.det ?dB33), (.det ?dB34), (.det ?dB35), (.det ?dB36), (.det ?dB37), (.det ?dB38), (.det ?dB39), (.det ?dB310), (.det ?dB311)] [] (fun wy => Below wf.heap.size wf wy) (TSp [] Grows) (by kernel_rfl) rfl (by kernel_rfl) (by kernel_rfl) rfl ((Below.refl _ _).drew) (stab_sp [] [true, true, true, true, true, true, true, true, true, true, true, true] [true, true, true, true, true, true, true, true, true, true, true, true] [] rfl rfl rfl (by kernel_rfl) ⟨trivial, trivial, trivial, trivial, trivial, trivial, trivial, trivial, trivial, trivial, trivial, trivial, trivial⟩ trivial) (fun _ h => by cases h) (fun _ _ _ _ _ h => by cases h) (fun _ h => by cases h) ⟨?oB30, ?oB31, ?oB32, ?oB33, ?oB34, ?oB35, ?oB36, ?oB37, ?oB38, ?oB39, ?oB310, ?oB311, trivial⟩ (by kernel_rfl) ?fB3
          case oB30 =>
            intro ev wo hev hC hs hph
            have e11 := see_env hA114 hs 11 (by kernel_rfl) (by kernel_rfl) rfl
            exact ob_det (wanted_none rfl) rfl (by kernel_rfl) hC (TSp.of rfl (Grows.refl _)) (by simp [go_sem, e11, hev.const, y1, y2]; try first | exact ⟨rfl, rfl⟩ | rfl)
          case oB31 =>
            intro ev wo hev hC hs hph
            have e163 := see_det hs 163 0 (by kernel_rfl) (by kernel_rfl) rfl
            have Kx := K11.below hC K11.lt
            exact ob_det (wanted_none rfl) rfl (by kernel_rfl) hC (TSp.of rfl (Grows.refl _)) (by simp [go_sem, e163, Kx.cell, y1, y2]; try first | exact ⟨rfl, rfl⟩ | rfl)
          case oB32 =>
            intro ev wo hev hC hs hph
            have e164 := see_det hs 164 1 (by kernel_rfl) (by kernel_rfl) rfl
            have Kx := K11.below hC K11.lt
            exact ob_dcall (wanted_none rfl) rfl (by kernel_rfl) (turned_any va 2 2 rfl la (by decide) (by decide) wo) (exec_call Tryz.func67 (by kernel_rfl) rfl (hev.func _) (by first | (simp only [List.map_toArray, List.map_cons, List.map_nil, e164, hev.const]; done) | (simp only [List.map_toArray, List.map_cons, List.map_nil, e164, hev.const]; rfl) | (simp [List.map_toArray, List.map_cons, List.map_nil, e164, hev.const]; done) | (simp [List.map_toArray, List.map_cons, List.map_nil, e164, hev.const]; rfl) | rfl)) (by rfl) (fun w3 hb3 => ⟨hC.trans (hb3.mono hC.size), TSp.of rfl hb3⟩)
          case oB33 =>
            intro ev wo hev hC hs hph
            have e11 := see_env hA114 hs 11 (by kernel_rfl) (by kernel_rfl) rfl
            exact ob_det (wanted_none rfl) rfl (by kernel_rfl) hC (TSp.of rfl (Grows.refl _)) (by simp [go_sem, e11, hev.const, y1, y2]; try first | exact ⟨rfl, rfl⟩ | rfl)
          case oB34 =>
            intro ev wo hev hC hs hph
            have e166 := see_det hs 166 3 (by kernel_rfl) (by kernel_rfl) rfl
            have Kx := K11.below hC K11.lt
            exact ob_det (wanted_none rfl) rfl (by kernel_rfl) hC (TSp.of rfl (Grows.refl _)) (by simp [go_sem, e166, Kx.cell, y1, y2]; try first | exact ⟨rfl, rfl⟩ | rfl)
          case oB35 =>
            intro ev wo hev hC hs hph
            have e167 := see_det hs 167 4 (by kernel_rfl) (by kernel_rfl) rfl
            have Kx := K11.below hC K11.lt
            exact ob_dcall (wanted_none rfl) rfl (by kernel_rfl) (turned_any va 13 13 rfl la (by decide) (by decide) wo) (exec_call Tryz.func67 (by kernel_rfl) rfl (hev.func _) (by first | (simp only [List.map_toArray, List.map_cons, List.map_nil, e167, hev.const]; done) | (simp only [List.map_toArray, List.map_cons, List.map_nil, e167, hev.const]; rfl) | (simp [List.map_toArray, List.map_cons, List.map_nil, e167, hev.const]; done) | (simp [List.map_toArray, List.map_cons, List.map_nil, e167, hev.const]; rfl) | rfl)) (by rfl) (fun w3 hb3 => ⟨hC.trans (hb3.mono hC.size), TSp.of rfl hb3⟩)
          case oB36 =>
            intro ev wo hev hC hs hph
            have e165 := see_det hs 165 2 (by kernel_rfl) (by kernel_rfl) rfl
            have e168 := see_det hs 168 5 (by kernel_rfl) (by kernel_rfl) rfl
            exact ob_det (wanted_none rfl) rfl (by kernel_rfl) hC (TSp.of rfl (Grows.refl _)) (by simp [go_sem, e165, e168, y1, y2]; try first | exact ⟨rfl, rfl⟩ | rfl)
          case oB37 =>
            intro ev wo hev hC hs hph
            have e11 := see_env hA114 hs 11 (by kernel_rfl) (by kernel_rfl) rfl
            exact ob_det (wanted_none rfl) rfl (by kernel_rfl) hC (TSp.of rfl (Grows.refl _)) (by simp [go_sem, e11, hev.const, y1, y2]; try first | exact ⟨rfl, rfl⟩ | rfl)
          case oB38 =>
            intro ev wo hev hC hs hph
            have e170 := see_det hs 170 7 (by kernel_rfl) (by kernel_rfl) rfl
            have Kx := K11.below hC K11.lt
            exact ob_det (wanted_none rfl) rfl (by kernel_rfl) hC (TSp.of rfl (Grows.refl _)) (by simp [go_sem, e170, Kx.cell, y1, y2]; try first | exact ⟨rfl, rfl⟩ | rfl)
          case oB39 =>
            intro ev wo hev hC hs hph
            have e171 := see_det hs 171 8 (by kernel_rfl) (by kernel_rfl) rfl
            have Kx := K11.below hC K11.lt
            exact ob_dcall (wanted_none rfl) rfl (by kernel_rfl) (turned_any va 22 22 rfl la (by decide) (by decide) wo) (exec_call Tryz.func67 (by kernel_rfl) rfl (hev.func _) (by first | (simp only [List.map_toArray, List.map_cons, List.map_nil, e171, hev.const]; done) | (simp only [List.map_toArray, List.map_cons, List.map_nil, e171, hev.const]; rfl) | (simp [List.map_toArray, List.map_cons, List.map_nil, e171, hev.const]; done) | (simp [List.map_toArray, List.map_cons, List.map_nil, e171, hev.const]; rfl) | rfl)) (by rfl) (fun w3 hb3 => ⟨hC.trans (hb3.mono hC.size), TSp.of rfl hb3⟩)
          case oB310 =>
            intro ev wo hev hC hs hph
            have e169 := see_det hs 169 6 (by kernel_rfl) (by kernel_rfl) rfl
            have e172 := see_det hs 172 9 (by kernel_rfl) (by kernel_rfl) rfl
            exact ob_det (wanted_none rfl) rfl (by kernel_rfl) hC (TSp.of rfl (Grows.refl _)) (by simp [go_sem, e169, e172, y1, y2]; try first | exact ⟨rfl, rfl⟩ | rfl)
          case oB311 =>
            intro ev wo hev hC hs hph
            have e173 := see_det hs 173 10 (by kernel_rfl) (by kernel_rfl) rfl
            exact ob_det (wanted_none rfl) rfl (by kernel_rfl) hC (TSp.of rfl (Grows.refl _)) (by simp [go_sem, e173, y1, y2]; try first | exact ⟨rfl, rfl⟩ | rfl)
          intro sg wf hC hph
          intro a115 hA115
          refine n_then ?_
          have hA116 := hA115.keep [2, 3, 4, 5, 6, 7, 11, 15, 16, 123]
          simp only [argsE, keepE, lookS, Nat.reduceBEq, cond_true, cond_false, Nat.reduceAdd, gv_tt, gv_ff, Bool.true_and, Bool.false_and, Bool.true_or, Bool.false_or] at hA116
          clear hA114 hA115 a113
          replace HB := HB.trans (hC.mono HB.size)
          replace hR := (hR.below hC).more hC.size
          replace K2 := K2.below hC K2.lt
          replace K3 := K3.below hC K3.lt
          replace K4 := K4.below hC K4.lt
          replace K7 := K7.below hC K7.lt
          replace K11 := K11.below hC K11.lt
          clear hC hph y1 y2
          have lQ := xo_lt (xo_lt r2 r13) r22
          obtain ⟨Q, hQ⟩ : ∃ Q, xo (xo (rotr va 2) (rotr va 13)) (rotr va 22) = Q := ⟨_, rfl⟩
          rw [hQ] at hA116 lQ
          have m1 := v_an (l64 la) lb
          have m2 := v_an (l64 la) lc
          have m3 := v_an (l64 lb) lc
          have m4 := v_or (an_lt (b := vb) la) (an_lt (b := vc) la)
          have m5 := v_or (orr_lt (an_lt (b := vb) la) (an_lt (b := vc) la)) (an_lt (b := vc) lb)
          refine wp_seq ?_
          refine wp_region_lit ?_
          refine wl_op hA116 rfl rfl (by decide) (fun ev h => by simp [go_sem, h.c, h.get 11 rfl, K11.cell, m1, m2, m3, m4, m5]; try first | exact ⟨rfl, rfl⟩ | rfl) fun a117 hA117 => ?_
          refine wl_op hA117 rfl rfl (by decide) (fun ev h => by simp [go_sem, h.get 174 rfl, K11.cell, m1, m2, m3, m4, m5]; try first | exact ⟨rfl, rfl⟩ | rfl) fun a118 hA118 => ?_
          refine wl_op hA118 rfl rfl (by decide) (fun ev h => by simp [go_sem, h.c, h.get 11 rfl, K11.cell, m1, m2, m3, m4, m5]; try first | exact ⟨rfl, rfl⟩ | rfl) fun a119 hA119 => ?_
          refine wl_op hA119 rfl rfl (by decide) (fun ev h => by simp [go_sem, h.get 176 rfl, K11.cell, m1, m2, m3, m4, m5]; try first | exact ⟨rfl, rfl⟩ | rfl) fun a120 hA120 => ?_
          refine wl_op hA120 rfl rfl (by decide) (fun ev h => by simp [go_sem, h.get 175 rfl, h.get 177 rfl, K11.cell, m1, m2, m3, m4, m5]; try first | exact ⟨rfl, rfl⟩ | rfl) fun a121 hA121 => ?_
          refine wl_op hA121 rfl rfl (by decide) (fun ev h => by simp [go_sem, h.c, h.get 11 rfl, K11.cell, m1, m2, m3, m4, m5]; try first | exact ⟨rfl, rfl⟩ | rfl) fun a122 hA122 => ?_
          refine wl_op hA122 rfl rfl (by decide) (fun ev h => by simp [go_sem, h.get 179 rfl, K11.cell, m1, m2, m3, m4, m5]; try first | exact ⟨rfl, rfl⟩ | rfl) fun a123 hA123 => ?_
          refine wl_op hA123 rfl rfl (by decide) (fun ev h => by simp [go_sem, h.c, h.get 11 rfl, K11.cell, m1, m2, m3, m4, m5]; try first | exact ⟨rfl, rfl⟩ | rfl) fun a124 hA124 => ?_
          refine wl_op hA124 rfl rfl (by decide) (fun ev h => by simp [go_sem, h.get 181 rfl, K11.cell, m1, m2, m3, m4, m5]; try first | exact ⟨rfl, rfl⟩ | rfl) fun a125 hA125 => ?_
          refine wl_op hA125 rfl rfl (by decide) (fun ev h => by simp [go_sem, h.get 180 rfl, h.get 182 rfl, K11.cell, m1, m2, m3, m4, m5]; try first | exact ⟨rfl, rfl⟩ | rfl) fun a126 hA126 => ?_
          refine wl_op hA126 rfl rfl (by decide) (fun ev h => by simp [go_sem, h.get 178 rfl, h.get 183 rfl, K11.cell, m1, m2, m3, m4, m5]; try first | exact ⟨rfl, rfl⟩ | rfl) fun a127 hA127 => ?_
          refine wl_op hA127 rfl rfl (by decide) (fun ev h => by simp [go_sem, h.c, h.get 11 rfl, K11.cell, m1, m2, m3, m4, m5]; try first | exact ⟨rfl, rfl⟩ | rfl) fun a128 hA128 => ?_
          refine wl_op hA128 rfl rfl (by decide) (fun ev h => by simp [go_sem, h.get 185 rfl, K11.cell, m1, m2, m3, m4, m5]; try first | exact ⟨rfl, rfl⟩ | rfl) fun a129 hA129 => ?_
          refine wl_op hA129 rfl rfl (by decide) (fun ev h => by simp [go_sem, h.c, h.get 11 rfl, K11.cell, m1, m2, m3, m4, m5]; try first | exact ⟨rfl, rfl⟩ | rfl) fun a130 hA130 => ?_
          refine wl_op hA130 rfl rfl (by decide) (fun ev h => by simp [go_sem, h.get 187 rfl, K11.cell, m1, m2, m3, m4, m5]; try first | exact ⟨rfl, rfl⟩ | rfl) fun a131 hA131 => ?_
          refine wl_op hA131 rfl rfl (by decide) (fun ev h => by simp [go_sem, h.get 186 rfl, h.get 188 rfl, K11.cell, m1, m2, m3, m4, m5]; try first | exact ⟨rfl, rfl⟩ | rfl) fun a132 hA132 => ?_
          refine wl_op hA132 rfl rfl (by decide) (fun ev h => by simp [go_sem, h.get 184 rfl, h.get 189 rfl, K11.cell, m1, m2, m3, m4, m5]; try first | exact ⟨rfl, rfl⟩ | rfl) fun a133 hA133 => ?_
          refine wl_op hA133 rfl rfl (by decide) (fun ev h => by simp [go_sem, h.get 190 rfl, K11.cell, m1, m2, m3, m4, m5]; try first | exact ⟨rfl, rfl⟩ | rfl) fun a134 hA134 => ?_
          refine wl_nil ?_
          refine n_then ?_
          have hA135 := hA134.keep [2, 3, 4, 5, 6, 7, 11, 15, 16, 17, 123]
          simp only [argsE, keepE, lookS, Nat.reduceBEq, cond_true, cond_false, Nat.reduceAdd, gv_tt, gv_ff, Bool.true_and, Bool.false_and, Bool.true_or, Bool.false_or] at hA135
          clear hA116 hA117 hA118 hA119 hA120 hA121 hA122 hA123 hA124 hA125 hA126 hA127 hA128 hA129 hA130 hA131 hA132 hA133 hA134 a115 a117 a118 a119 a120 a121 a122 a123 a124 a125 a126 a127 a128 a129 a130 a131 a132 a133
          refine wp_seq ?_
          refine wp_seq ?_
          refine wp_region_lit ?_
          refine wl_op hA135 rfl rfl (by decide) (fun ev h => by simp [go_sem, h.c, K11.cell, m1, m2, m3, m4, m5]; try first | exact ⟨rfl, rfl⟩ | rfl) fun a136 hA136 => ?_
          refine wl_nil ?_
          refine n_then ?_
          have hA137 := hA136.keep [2, 3, 4, 5, 6, 7, 11, 15, 16, 17, 18, 123]
          simp only [argsE, keepE, lookS, Nat.reduceBEq, cond_true, cond_false, Nat.reduceAdd, gv_tt, gv_ff, Bool.true_and, Bool.false_and, Bool.true_or, Bool.false_or] at hA137
          clear hA135 hA136 a134
          refine wp_block ?_
          -- loop
          have lM := orr_lt (orr_lt (an_lt (b := vb) la) (an_lt (b := vc) la)) (an_lt (b := vc) lb)
          obtain ⟨M1, hM1⟩ : ∃ M1, orr (orr (an va vb) (an va vc)) (an vb vc) = M1 := ⟨_, rfl⟩
          rw [hM1] at hA137 lM
          clear m1 m2 m3 m4 m5
          replace K11 : Blk wf g11 122 ((shiftN ⟨va, vb, vc, vd, ve, vf, vg, vh⟩ 7).map u64v).toArray := K11
          refine wp_loop_at (fun k a wx => ∃ (e : Nat), e = k ∧ e ≤ 7 ∧ At 251 [(2, .pointer (some ⟨g2, 0, none⟩)), (3, .pointer (some ⟨g3, 0, none⟩)), (4, .pointer (some ⟨g4, 0, none⟩)), (5, .slice Ar N cr), (6, .int .i64 (p : Nat)), (7, .pointer (some ⟨g7, 0, none⟩)), (11, .pointer (some ⟨g11, 0, none⟩)), (15, .int .u64 (V1 : Nat)), (16, .int .u64 (Q : Nat)), (17, .int .u64 (M1 : Nat)), (18, .int .i64 (e : Nat)), (123, .int .i64 (q : Nat))] a ∧ Reads wx wx.heap.size 1 Ar N (u8s T) ∧ Blk wx g2 91 (digCells []).toArray ∧ Blk wx g3 121 (shaK.map u64v).toArray ∧ Blk wx g4 122 (S.l.map u64v).toArray ∧ Blk wx g7 121 (W.map u64v).toArray ∧ Blk wx g11 122 ((shiftN ⟨va, vb, vc, vd, ve, vf, vg, vh⟩ e).map u64v).toArray ∧ Below w.heap.size w wx) (7) ?_ ?_
          · exact ⟨7, rfl, by omega, hA137, hR, K2, K3, K4, K7, K11, HB⟩
          clear hR K2 K3 K4 K7 K11 HB
          rintro k'' a wx ⟨e, rfl, he7, hA, hR, K2, K3, K4, K7, K11, HB⟩
          refine wp_seq ?_
          refine wp_seq ?_
          refine wp_region_lit ?_
          refine wl_op hA rfl rfl (by decide) (fun ev h => by simp [go_sem, h.get 18 rfl]; try first | exact ⟨rfl, rfl⟩ | rfl) fun a138 hA138 => ?_
          refine wl_op hA138 rfl rfl (by decide) (fun ev h => by simp [go_sem, h.c, h.get 191 rfl]; try first | exact ⟨rfl, rfl⟩ | rfl) fun a139 hA139 => ?_
          refine wl_nil ?_
          refine n_then ?_
          have hA140 := hA139.keep [2, 3, 4, 5, 6, 7, 11, 15, 16, 17, 18, 123, 192]
          simp only [argsE, keepE, lookS, Nat.reduceBEq, cond_true, cond_false, Nat.reduceAdd, gv_tt, gv_ff, Bool.true_and, Bool.false_and, Bool.true_or, Bool.false_or] at hA140
          clear hA hA138 hA139 a138
          -- cond
          refine wp_if hA140 192 _ rfl (fun hq3 => ?yZ) (fun hq3 => ?nZ)
          case yZ =>
            obtain ⟨e, rfl⟩ : ∃ e', e = e' + 1 := ⟨e - 1, by simp at hq3; omega⟩
            obtain ⟨f, hf⟩ : ∃ f, e + 1 = f := ⟨_, rfl⟩
            obtain ⟨cg1, cg2⟩ := shiftN_get (s := ⟨va, vb, vc, vd, ve, vf, vg, vh⟩) (j := e) (by omega)
            have hset := shiftN_set (s := ⟨va, vb, vc, vd, ve, vf, vg, vh⟩) (j := e) (by omega)
            rw [hf] at cg1 cg2 hset K11 hA140
            have i0 : (0 : Int) ≤ (e : Int) := by omega
            have i1 : (0 : Int) ≤ (f : Int) := by omega
            have i2 : (e : Int) < 8 := by omega
            have i3 : (f : Int) < 8 := by omega
            have i4 : IntKind.i64.wrap ((f : Int) - 1) = (e : Int) := by rw [IntWalk.i64_in _ (by omega)]; omega
            refine wp_skip ?_
            refine n_then ?_
            refine wp_seq ?_
            refine wp_block ?_
            refine wp_region_lit ?_
            refine wl_op hA140 rfl rfl (by decide) (fun ev h => by simp [go_sem, h.get 18 rfl, i0, i1, i2, i3, i4, K11.cell, cg1, cg2, add0]; try first | exact ⟨rfl, rfl⟩ | rfl) fun a141 hA141 => ?_
            refine wl_op hA141 rfl rfl (by decide) (fun ev h => by simp [go_sem, h.get 18 rfl, i0, i1, i2, i3, i4, K11.cell, cg1, cg2, add0]; try first | exact ⟨rfl, rfl⟩ | rfl) fun a142 hA142 => ?_
            refine wl_op hA142 rfl rfl (by decide) (fun ev h => by simp [go_sem, h.c, h.get 196 rfl, i0, i1, i2, i3, i4, K11.cell, cg1, cg2, add0]; try first | exact ⟨rfl, rfl⟩ | rfl) fun a143 hA143 => ?_
            refine wl_op hA143 rfl rfl (by decide) (fun ev h => by simp [go_sem, h.get 11 rfl, h.get 197 rfl, i0, i1, i2, i3, i4, K11.cell, cg1, cg2, add0]; try first | exact ⟨rfl, rfl⟩ | rfl) fun a144 hA144 => ?_
            refine wl_op hA144 rfl rfl (by decide) (fun ev h => by simp [go_sem, h.get 198 rfl, i0, i1, i2, i3, i4, K11.cell, cg1, cg2, add0]; try first | exact ⟨rfl, rfl⟩ | rfl) fun a145 hA145 => ?_
            refine wl_op hA145 rfl rfl (by decide) (fun ev h => by simp [go_sem, h.get 11 rfl, h.get 195 rfl, i0, i1, i2, i3, i4, K11.cell, cg1, cg2, add0]; try first | exact ⟨rfl, rfl⟩ | rfl) fun a146 hA146 => ?_
            -- stop store slot None
            have K11b := K11
            refine wl_setf (((shiftN ⟨va, vb, vc, vd, ve, vf, vg, vh⟩ f).map u64v).set f (.int .u64 ((ShaS.l ⟨va, vb, vc, vd, ve, vf, vg, vh⟩).getD e 0 : Nat))) _ hA146 rfl rfl K11 (j := f) (by rfl) (fun ev h => by simp [go_sem, h.get 200 rfl, h.get 199 rfl, i0, i1, i2, i3, i4, K11.cell, cg1, cg2, add0, K11.cell, K11.frozen]; try first | exact ⟨rfl, rfl⟩ | rfl) fun w20 (K11 : Blk _ _ _ _) hs => ?_
            refine wl_nil ?_
            refine n_block ?_
            refine n_then ?_
            have hA147 := hA146.keep [2, 3, 4, 5, 6, 7, 11, 15, 16, 17, 18, 123]
            simp only [argsE, keepE, lookS, Nat.reduceBEq, cond_true, cond_false, Nat.reduceAdd, gv_tt, gv_ff, Bool.true_and, Bool.false_and, Bool.true_or, Bool.false_or] at hA147
            clear hA140 hA141 hA142 hA143 hA144 hA145 hA146 a141 a142 a143 a144 a145
            refine wp_region_lit ?_
            refine wl_op hA147 rfl rfl (by decide) (fun ev h => by simp [go_sem, h.get 18 rfl, i0, i1, i2, i3, i4, K11.cell, cg1, cg2, add0]; try first | exact ⟨rfl, rfl⟩ | rfl) fun a148 hA148 => ?_
            refine wl_op hA148 rfl rfl (by decide) (fun ev h => by simp [go_sem, h.c, h.get 193 rfl, i0, i1, i2, i3, i4, K11.cell, cg1, cg2, add0]; try first | exact ⟨rfl, rfl⟩ | rfl) fun a149 hA149 => ?_
            refine wl_op hA149 rfl rfl (by decide) (fun ev h => by simp [go_sem, h.get 194 rfl, i0, i1, i2, i3, i4, K11.cell, cg1, cg2, add0]; try first | exact ⟨rfl, rfl⟩ | rfl) fun a150 hA150 => ?_
            refine wl_nil ?_
            refine n_then ?_
            have hA151 := hA150.keep [2, 3, 4, 5, 6, 7, 11, 15, 16, 17, 18, 123]
            simp only [argsE, keepE, lookS, Nat.reduceBEq, cond_true, cond_false, Nat.reduceAdd, gv_tt, gv_ff, Bool.true_and, Bool.false_and, Bool.true_or, Bool.false_or] at hA151
            clear hA147 hA148 hA149 hA150 a146 a148 a149
            -- round
            rw [hset] at K11
            exact ⟨e, by omega, e, rfl, by omega, hA151, reads_only hR hs K11b (map64_no' _), hs.blk K2 (by omega), hs.blk K3 (by omega), hs.blk K4 (by omega), hs.blk K7 (by omega), K11, hs.below HB hwl2⟩
          case nZ =>
            have he : e = 0 := by simp at hq3; omega
            subst he
            replace K11 : Blk wx g11 122 #[.int .u64 (va : Nat), .int .u64 (va : Nat), .int .u64 (vb : Nat), .int .u64 (vc : Nat), .int .u64 (vd : Nat), .int .u64 (ve : Nat), .int .u64 (vf : Nat), .int .u64 (vg : Nat)] := K11
            have hcell := refStep_cells (vd := vd) (vh := vh) (kk := kk) (ww := ww) le lg ld lh lk lw lP lC lQ lM hP hC0 hQ hM1
            rw [← hnext, hV1] at hcell
            have e1 := v_mask (ad64_lt vd V1)
            have e2 := v_mask (ad64_lt (ad64 V1 Q) M1)
            refine wp_exit ?_
            refine x_then ?_
            refine x_then ?_
            refine x_block ?_
            refine n_then ?_
            have hA152 := hA140.keep [2, 3, 4, 5, 6, 7, 11, 15, 16, 17, 123]
            simp only [argsE, keepE, lookS, Nat.reduceBEq, cond_true, cond_false, Nat.reduceAdd, gv_tt, gv_ff, Bool.true_and, Bool.false_and, Bool.true_or, Bool.false_or] at hA152
            clear hA140
            refine wp_seq ?_
            refine wp_region_lit ?_
            refine wl_op hA152 rfl rfl (by decide) (fun ev h => by simp [go_sem, h.c, h.get 11 rfl, K11.cell, v_ad, e1, e2]; try first | exact ⟨rfl, rfl⟩ | rfl) fun a153 hA153 => ?_
            refine wl_op hA153 rfl rfl (by decide) (fun ev h => by simp [go_sem, h.get 201 rfl, K11.cell, v_ad, e1, e2]; try first | exact ⟨rfl, rfl⟩ | rfl) fun a154 hA154 => ?_
            refine wl_op hA154 rfl rfl (by decide) (fun ev h => by simp [go_sem, h.get 15 rfl, K11.cell, v_ad, e1, e2]; try first | exact ⟨rfl, rfl⟩ | rfl) fun a155 hA155 => ?_
            refine wl_op hA155 rfl rfl (by decide) (fun ev h => by simp [go_sem, h.get 202 rfl, h.get 203 rfl, K11.cell, v_ad, e1, e2]; try first | exact ⟨rfl, rfl⟩ | rfl) fun a156 hA156 => ?_
            refine wl_op hA156 rfl rfl (by decide) (fun ev h => by simp [go_sem, h.c, h.get 204 rfl, K11.cell, v_ad, e1, e2]; try first | exact ⟨rfl, rfl⟩ | rfl) fun a157 hA157 => ?_
            refine wl_op hA157 rfl rfl (by decide) (fun ev h => by simp [go_sem, h.c, h.get 11 rfl, K11.cell, v_ad, e1, e2]; try first | exact ⟨rfl, rfl⟩ | rfl) fun a158 hA158 => ?_
            -- stop store slot None
            have K11b := K11
            refine wl_setf ([.int .u64 (va : Nat), .int .u64 (va : Nat), .int .u64 (vb : Nat), .int .u64 (vc : Nat), .int .u64 (mask (ad64 vd V1) : Nat), .int .u64 (ve : Nat), .int .u64 (vf : Nat), .int .u64 (vg : Nat)]) _ hA158 rfl rfl K11 (j := 4) (by rfl) (fun ev h => by simp [go_sem, h.get 206 rfl, h.get 205 rfl, K11.cell, v_ad, e1, e2, K11.cell, K11.frozen]; try first | exact ⟨rfl, rfl⟩ | rfl) fun w21 (K11 : Blk _ _ _ _) hs => ?_
            replace hR := reads_only hR hs K11b (by rfl)
            replace K2 := hs.blk K2 (by omega)
            replace K3 := hs.blk K3 (by omega)
            replace K4 := hs.blk K4 (by omega)
            replace K7 := hs.blk K7 (by omega)
            replace HB := hs.below HB hwl2
            clear hs K11b
            refine wl_nil ?_
            refine n_then ?_
            have hA159 := hA158.keep [2, 3, 4, 5, 6, 7, 11, 15, 16, 17, 123]
            simp only [argsE, keepE, lookS, Nat.reduceBEq, cond_true, cond_false, Nat.reduceAdd, gv_tt, gv_ff, Bool.true_and, Bool.false_and, Bool.true_or, Bool.false_or] at hA159
            clear hA152 hA153 hA154 hA155 hA156 hA157 hA158 a153 a154 a155 a156 a157
            refine wp_region_lit ?_
            refine wl_op hA159 rfl rfl (by decide) (fun ev h => by simp [go_sem, h.get 15 rfl, K11.cell, v_ad, e1, e2]; try first | exact ⟨rfl, rfl⟩ | rfl) fun a160 hA160 => ?_
            refine wl_op hA160 rfl rfl (by decide) (fun ev h => by simp [go_sem, h.get 16 rfl, K11.cell, v_ad, e1, e2]; try first | exact ⟨rfl, rfl⟩ | rfl) fun a161 hA161 => ?_
            refine wl_op hA161 rfl rfl (by decide) (fun ev h => by simp [go_sem, h.get 207 rfl, h.get 208 rfl, K11.cell, v_ad, e1, e2]; try first | exact ⟨rfl, rfl⟩ | rfl) fun a162 hA162 => ?_
            refine wl_op hA162 rfl rfl (by decide) (fun ev h => by simp [go_sem, h.get 17 rfl, K11.cell, v_ad, e1, e2]; try first | exact ⟨rfl, rfl⟩ | rfl) fun a163 hA163 => ?_
            refine wl_op hA163 rfl rfl (by decide) (fun ev h => by simp [go_sem, h.get 209 rfl, h.get 210 rfl, K11.cell, v_ad, e1, e2]; try first | exact ⟨rfl, rfl⟩ | rfl) fun a164 hA164 => ?_
            refine wl_op hA164 rfl rfl (by decide) (fun ev h => by simp [go_sem, h.c, h.get 211 rfl, K11.cell, v_ad, e1, e2]; try first | exact ⟨rfl, rfl⟩ | rfl) fun a165 hA165 => ?_
            refine wl_op hA165 rfl rfl (by decide) (fun ev h => by simp [go_sem, h.c, h.get 11 rfl, K11.cell, v_ad, e1, e2]; try first | exact ⟨rfl, rfl⟩ | rfl) fun a166 hA166 => ?_
            -- stop store slot None
            have K11b := K11
            refine wl_setf ([.int .u64 (mask (ad64 (ad64 V1 Q) M1) : Nat), .int .u64 (va : Nat), .int .u64 (vb : Nat), .int .u64 (vc : Nat), .int .u64 (mask (ad64 vd V1) : Nat), .int .u64 (ve : Nat), .int .u64 (vf : Nat), .int .u64 (vg : Nat)]) _ hA166 rfl rfl K11 (j := 0) (by rfl) (fun ev h => by simp [go_sem, h.get 213 rfl, h.get 212 rfl, K11.cell, v_ad, e1, e2, K11.cell, K11.frozen]; try first | exact ⟨rfl, rfl⟩ | rfl) fun w22 (K11 : Blk _ _ _ _) hs => ?_
            have hwi : IntKind.i64.wrap ((q : Int) + 1) = ((q + 1 : Nat) : Int) := by rw [IntWalk.i64_in _ (by omega)]; omega
            refine wl_nil ?_
            refine n_block ?_
            refine n_then ?_
            have hA167 := hA166.keep [2, 3, 4, 5, 6, 7, 11, 123]
            simp only [argsE, keepE, lookS, Nat.reduceBEq, cond_true, cond_false, Nat.reduceAdd, gv_tt, gv_ff, Bool.true_and, Bool.false_and, Bool.true_or, Bool.false_or] at hA167
            clear hA159 hA160 hA161 hA162 hA163 hA164 hA165 hA166 a158 a160 a161 a162 a163 a164 a165
            refine wp_region_lit ?_
            refine wl_op hA167 rfl rfl (by decide) (fun ev h => by simp [go_sem, h.c, h.get 123 rfl, hwi]; try first | exact ⟨rfl, rfl⟩ | rfl) fun a168 hA168 => ?_
            refine wl_op hA168 rfl rfl (by decide) (fun ev h => by simp [go_sem, h.get 214 rfl, hwi]; try first | exact ⟨rfl, rfl⟩ | rfl) fun a169 hA169 => ?_
            refine wl_nil ?_
            refine n_then ?_
            have hA170 := hA169.keep [2, 3, 4, 5, 6, 7, 11, 123]
            simp only [argsE, keepE, lookS, Nat.reduceBEq, cond_true, cond_false, Nat.reduceAdd, gv_tt, gv_ff, Bool.true_and, Bool.false_and, Bool.true_or, Bool.false_or] at hA170
            clear hA167 hA168 hA169 a166 a168
            -- round
            refine ⟨k' - 1, by omega, q + 1, by omega, hA170, reads_only hR hs K11b (by rfl), hs.blk K2 (by omega), hs.blk K3 (by omega), hs.blk K4 (by omega), hs.blk K7 (by omega), ?_, hs.below HB hwl2⟩
            rw [hcell]
            exact K11
        case nY =>
          have hq64 : q = 64 := by simp at hq2; omega
          subst hq64
          have hst := shaSteps_ok W hok 64
          generalize shaSteps W S 64 = t at *
          refine wp_exit ?_
          refine x_then ?_
          refine x_then ?_
          refine x_block ?_
          refine n_then ?_
          have hA171 := hA93.keep [2, 3, 4, 5, 6, 11]
          simp only [argsE, keepE, lookS, Nat.reduceBEq, cond_true, cond_false, Nat.reduceAdd, gv_tt, gv_ff, Bool.true_and, Bool.false_and, Bool.true_or, Bool.false_or] at hA171
          clear hA93
          refine wp_seq ?_
          refine wp_region_lit ?_
          refine wl_op hA171 rfl rfl (by decide) (fun ev h => by simp [go_sem, h.c]; try first | exact ⟨rfl, rfl⟩ | rfl) fun a172 hA172 => ?_
          refine wl_nil ?_
          refine n_then ?_
          have hA173 := hA172.keep [2, 3, 4, 5, 6, 11, 215]
          simp only [argsE, keepE, lookS, Nat.reduceBEq, cond_true, cond_false, Nat.reduceAdd, gv_tt, gv_ff, Bool.true_and, Bool.false_and, Bool.true_or, Bool.false_or] at hA173
          clear hA171 hA172
          refine wp_block ?_
          -- loop
          refine wp_loop_at (fun k a wx => ∃ (q : Nat), q + k = 8 ∧ At 251 [(2, .pointer (some ⟨g2, 0, none⟩)), (3, .pointer (some ⟨g3, 0, none⟩)), (4, .pointer (some ⟨g4, 0, none⟩)), (5, .slice Ar N cr), (6, .int .i64 (p : Nat)), (11, .pointer (some ⟨g11, 0, none⟩)), (215, .int .i64 (q : Nat))] a ∧ Reads wx wx.heap.size 1 Ar N (u8s T) ∧ Blk wx g2 91 (digCells []).toArray ∧ Blk wx g3 121 (shaK.map u64v).toArray ∧ Blk wx g4 122 ((addN S t q).map u64v).toArray ∧ Blk wx g11 122 (t.l.map u64v).toArray ∧ Below w.heap.size w wx) (8) ?_ ?_
          · exact ⟨0, by omega, hA173, hR, K2, K3, by rw [addN_0]; exact K4, K11, HB⟩
          clear hR K2 K3 K4 K7 K11 HB
          rintro k' a wx ⟨q, hqk, hA, hR, K2, K3, K4, K11, HB⟩
          refine wp_seq ?_
          refine wp_region_lit ?_
          refine wl_op hA rfl rfl (by decide) (fun ev h => by simp [go_sem, h.c, h.get 215 rfl]; try first | exact ⟨rfl, rfl⟩ | rfl) fun a174 hA174 => ?_
          refine wl_nil ?_
          refine n_then ?_
          have hA175 := hA174.keep [2, 3, 4, 5, 6, 11, 215, 216]
          simp only [argsE, keepE, lookS, Nat.reduceBEq, cond_true, cond_false, Nat.reduceAdd, gv_tt, gv_ff, Bool.true_and, Bool.false_and, Bool.true_or, Bool.false_or] at hA175
          clear hA hA174
          refine wp_seq ?_
          -- cond
          refine wp_if hA175 216 _ rfl (fun hq3 => ?yX) (fun hq3 => ?nX)
          case yX =>
            have hq8 : q < 8 := by simp at hq3; omega
            have c1 := addN_get (s := S) (t := t) hq8
            have c2 := map64_at (l := t.l) (i := q) hq8
            have jj : (0 : Int) ≤ (q : Int) := by omega
            have ji : (q : Int) < 8 := by omega
            have hset := addN_set (s := S) (t := t) hq8
            obtain ⟨y1, hy1⟩ : ∃ y, S.l.getD q 0 = y := ⟨_, rfl⟩
            obtain ⟨y2, hy2⟩ : ∃ y, t.l.getD q 0 = y := ⟨_, rfl⟩
            rw [hy1] at c1 hset
            rw [hy2] at c2 hset
            have hm := v_mask (ad64_lt y1 y2)
            refine wp_skip ?_
            refine n_then ?_
            refine wp_seq ?_
            refine wp_block ?_
            refine wp_seq ?_
            refine wp_region_lit ?_
            refine wl_op hA175 rfl rfl (by decide) (fun ev h => by simp [go_sem, h.get 215 rfl]; try first | exact ⟨rfl, rfl⟩ | rfl) fun a176 hA176 => ?_
            refine wl_op hA176 rfl rfl (by decide) (fun ev h => by simp [go_sem, h.get 217 rfl]; try first | exact ⟨rfl, rfl⟩ | rfl) fun a177 hA177 => ?_
            refine wl_nil ?_
            refine n_then ?_
            have hA178 := hA177.keep [2, 3, 4, 5, 6, 11, 19, 215]
            simp only [argsE, keepE, lookS, Nat.reduceBEq, cond_true, cond_false, Nat.reduceAdd, gv_tt, gv_ff, Bool.true_and, Bool.false_and, Bool.true_or, Bool.false_or] at hA178
            clear hA175 hA176 hA177 a176
            -- any
            refine wp_region_split 9 ?_
            simp only [List.take_succ_cons, List.take_zero, List.drop_succ_cons, List.drop_zero]
            refine wp_any_split_at hA178 [(.det ?dG10), (.det ?dG11), (.det ?dG12), (.det ?dG13), (.det ?dG14), (.det ?dG15), (.det ?dG16), (.det ?dG17), (.det ?dG18)] [] (fun wy => Below wx.heap.size wx wy) (TSp [] Grows) (by kernel_rfl) rfl (by kernel_rfl) (by kernel_rfl) rfl (by kernel_rfl) (by kernel_rfl) (by kernel_rfl) (by kernel_rfl) ((Below.refl _ _).drew) (stab_sp [] [true, true, true, true, true, true, true, true, true] [true, true, true, true, true, true, true, true, true] [] rfl rfl rfl (by kernel_rfl) ⟨trivial, trivial, trivial, trivial, trivial, trivial, trivial, trivial, trivial, trivial⟩ trivial) (fun _ h => by cases h) (fun _ _ _ _ _ h => by cases h) (fun _ h => by cases h) ⟨?oG10, ?oG11, ?oG12, ?oG13, ?oG14, ?oG15, ?oG16, ?oG17, ?oG18, trivial⟩ (by kernel_rfl) ?fG1
            case oG10 =>
              intro ev wo hev hC hs hph
              have e19 := see_env hA178 hs 19 (by kernel_rfl) (by kernel_rfl) rfl
              exact ob_det (wanted_none rfl) rfl (by kernel_rfl) hC (TSp.of rfl (Grows.refl _)) (by simp [go_sem, e19, v_ad, hm, jj, ji, add0]; try first | exact ⟨rfl, rfl⟩ | rfl)
            case oG11 =>
              intro ev wo hev hC hs hph
              have e19 := see_env hA178 hs 19 (by kernel_rfl) (by kernel_rfl) rfl
              exact ob_det (wanted_none rfl) rfl (by kernel_rfl) hC (TSp.of rfl (Grows.refl _)) (by simp [go_sem, e19, v_ad, hm, jj, ji, add0]; try first | exact ⟨rfl, rfl⟩ | rfl)
            case oG12 =>
              intro ev wo hev hC hs hph
              have e4 := see_env hA178 hs 4 (by kernel_rfl) (by kernel_rfl) rfl
              have e219 := see_det hs 219 1 (by kernel_rfl) (by kernel_rfl) rfl
              exact ob_det (wanted_none rfl) rfl (by kernel_rfl) hC (TSp.of rfl (Grows.refl _)) (by simp [go_sem, e4, e219, v_ad, hm, jj, ji, add0]; try first | exact ⟨rfl, rfl⟩ | rfl)
            case oG13 =>
              intro ev wo hev hC hs hph
              have e220 := see_det hs 220 2 (by kernel_rfl) (by kernel_rfl) rfl
              have Kx := K4.below hC K4.lt
              have Ky := K11.below hC K11.lt
              exact ob_det (wanted_none rfl) rfl (by kernel_rfl) hC (TSp.of rfl (Grows.refl _)) (by simp [go_sem, e220, Kx.cell, Ky.cell, c1, c2, v_ad, hm, jj, ji, add0]; try first | exact ⟨rfl, rfl⟩ | rfl)
            case oG14 =>
              intro ev wo hev hC hs hph
              have e19 := see_env hA178 hs 19 (by kernel_rfl) (by kernel_rfl) rfl
              exact ob_det (wanted_none rfl) rfl (by kernel_rfl) hC (TSp.of rfl (Grows.refl _)) (by simp [go_sem, e19, v_ad, hm, jj, ji, add0]; try first | exact ⟨rfl, rfl⟩ | rfl)
            case oG15 =>
              intro ev wo hev hC hs hph
              have e11 := see_env hA178 hs 11 (by kernel_rfl) (by kernel_rfl) rfl
              have e222 := see_det hs 222 4 (by kernel_rfl) (by kernel_rfl) rfl
              exact ob_det (wanted_none rfl) rfl (by kernel_rfl) hC (TSp.of rfl (Grows.refl _)) (by simp [go_sem, e11, e222, v_ad, hm, jj, ji, add0]; try first | exact ⟨rfl, rfl⟩ | rfl)
            case oG16 =>
              intro ev wo hev hC hs hph
              have e223 := see_det hs 223 5 (by kernel_rfl) (by kernel_rfl) rfl
              have Kx := K4.below hC K4.lt
              have Ky := K11.below hC K11.lt
              exact ob_det (wanted_none rfl) rfl (by kernel_rfl) hC (TSp.of rfl (Grows.refl _)) (by simp [go_sem, e223, Kx.cell, Ky.cell, c1, c2, v_ad, hm, jj, ji, add0]; try first | exact ⟨rfl, rfl⟩ | rfl)
            case oG17 =>
              intro ev wo hev hC hs hph
              have e221 := see_det hs 221 3 (by kernel_rfl) (by kernel_rfl) rfl
              have e224 := see_det hs 224 6 (by kernel_rfl) (by kernel_rfl) rfl
              exact ob_det (wanted_none rfl) rfl (by kernel_rfl) hC (TSp.of rfl (Grows.refl _)) (by simp [go_sem, e221, e224, v_ad, hm, jj, ji, add0]; try first | exact ⟨rfl, rfl⟩ | rfl)
            case oG18 =>
              intro ev wo hev hC hs hph
              have e225 := see_det hs 225 7 (by kernel_rfl) (by kernel_rfl) rfl
              exact ob_det (wanted_none rfl) rfl (by kernel_rfl) hC (TSp.of rfl (Grows.refl _)) (by simp [go_sem, e225, hev.const, v_ad, hm, jj, ji, add0]; try first | exact ⟨rfl, rfl⟩ | rfl)
            intro sg wf hC hph
            intro a179 hA179
            have hA180 := hA179.keep [2, 3, 4, 5, 6, 11, 215, 218, 226]
            simp only [argsE, keepE, lookS, Nat.reduceBEq, cond_true, cond_false, Nat.reduceAdd, gv_tt, gv_ff, Bool.true_and, Bool.false_and, Bool.true_or, Bool.false_or] at hA180
            clear hA178 hA179 a177
            replace HB := HB.trans (hC.mono HB.size)
            replace hR := (hR.below hC).more hC.size
            replace K2 := K2.below hC K2.lt
            replace K3 := K3.below hC K3.lt
            replace K4 := K4.below hC K4.lt
            replace K11 := K11.below hC K11.lt
            refine wl_op hA180 rfl rfl (by decide) (fun ev h => by simp [go_sem, h.get 4 rfl, h.get 218 rfl, jj, ji, add0, c1]; try first | exact ⟨rfl, rfl⟩ | rfl) fun a181 hA181 => ?_
            -- stop store slot None
            have K4b := K4
            refine wl_setf (((addN S t q).map u64v).set q (.int .u64 ((mask (ad64 y1 y2) : Nat) : Int))) _ hA181 rfl rfl K4 (j := q) (by rfl) (fun ev h => by simp [go_sem, h.get 227 rfl, h.get 226 rfl, jj, ji, add0, c1, K4.cell, K4.frozen]; try first | exact ⟨rfl, rfl⟩ | rfl) fun w23 (K4 : Blk _ _ _ _) hs => ?_
            have hwi : IntKind.i64.wrap ((q : Int) + 1) = ((q + 1 : Nat) : Int) := by rw [IntWalk.i64_in _ (by omega)]; omega
            refine wl_nil ?_
            refine n_block ?_
            refine n_then ?_
            have hA182 := hA181.keep [2, 3, 4, 5, 6, 11, 215]
            simp only [argsE, keepE, lookS, Nat.reduceBEq, cond_true, cond_false, Nat.reduceAdd, gv_tt, gv_ff, Bool.true_and, Bool.false_and, Bool.true_or, Bool.false_or] at hA182
            clear hA180 hA181 a179
            refine wp_region_lit ?_
            refine wl_op hA182 rfl rfl (by decide) (fun ev h => by simp [go_sem, h.c, h.get 215 rfl, hwi]; try first | exact ⟨rfl, rfl⟩ | rfl) fun a183 hA183 => ?_
            refine wl_op hA183 rfl rfl (by decide) (fun ev h => by simp [go_sem, h.get 228 rfl, hwi]; try first | exact ⟨rfl, rfl⟩ | rfl) fun a184 hA184 => ?_
            refine wl_nil ?_
            refine n_then ?_
            have hA185 := hA184.keep [2, 3, 4, 5, 6, 11, 215]
            simp only [argsE, keepE, lookS, Nat.reduceBEq, cond_true, cond_false, Nat.reduceAdd, gv_tt, gv_ff, Bool.true_and, Bool.false_and, Bool.true_or, Bool.false_or] at hA185
            clear hA182 hA183 hA184 a181 a183
            -- round
            rw [hset] at K4
            exact ⟨k' - 1, by omega, q + 1, by omega, hA185, reads_only hR hs K4b (map64_no' _), hs.blk K2 (by omega), hs.blk K3 (by omega), K4, hs.blk K11 (by omega), hs.below HB (by omega)⟩
          case nX =>
            have hq8 : q = 8 := by simp at hq3; omega
            subst hq8
            rw [addN_8 hok hst, ← hmix] at K4
            have hwi : IntKind.i64.wrap ((p : Int) + 64) = ((64 * (i + 1) : Nat) : Int) := by rw [IntWalk.i64_in _ (by omega)]; omega
            refine wp_exit ?_
            refine x_then ?_
            refine x_then ?_
            refine x_block ?_
            refine n_block ?_
            refine n_then ?_
            have hA186 := hA175.keep [2, 3, 4, 5, 6]
            simp only [argsE, keepE, lookS, Nat.reduceBEq, cond_true, cond_false, Nat.reduceAdd, gv_tt, gv_ff, Bool.true_and, Bool.false_and, Bool.true_or, Bool.false_or] at hA186
            clear hA175
            refine wp_region_lit ?_
            refine wl_op hA186 rfl rfl (by decide) (fun ev h => by simp [go_sem, h.get 6 rfl, hwi]; try first | exact ⟨rfl, rfl⟩ | rfl) fun a187 hA187 => ?_
            refine wl_op hA187 rfl rfl (by decide) (fun ev h => by simp [go_sem, h.c, h.get 50 rfl, hwi]; try first | exact ⟨rfl, rfl⟩ | rfl) fun a188 hA188 => ?_
            refine wl_op hA188 rfl rfl (by decide) (fun ev h => by simp [go_sem, h.get 51 rfl, hwi]; try first | exact ⟨rfl, rfl⟩ | rfl) fun a189 hA189 => ?_
            refine wl_nil ?_
            refine n_then ?_
            have hA190 := hA189.keep [2, 3, 4, 5, 6]
            simp only [argsE, keepE, lookS, Nat.reduceBEq, cond_true, cond_false, Nat.reduceAdd, gv_tt, gv_ff, Bool.true_and, Bool.false_and, Bool.true_or, Bool.false_or] at hA190
            clear hA186 hA187 hA188 hA189 a187 a188
            -- round
            exact ⟨k - 1, by omega, i + 1, by omega, by rw [hN2]; exact hA190, by rw [hN2]; exact hR, K2, K3, K4, HB⟩
    case nQ =>
      have hiM : i = M := by simp at hq; omega
      subst hiM
      generalize hSi : shaGo T i = S at *
      obtain ⟨D, hD⟩ : ∃ D, S.l.flatMap (be 4) = D := ⟨_, rfl⟩
      have hDl : D.length = 32 := by rw [← hD]; exact ShaS.l_len S
      have hok := hSi ▸ shaGo_ok T i
      have l2 := K2.lt
      have l4 := K4.lt
      have hwl := HB.size
      clear hR
      refine wp_exit ?_
      refine x_then ?_
      refine x_then ?_
      refine x_block ?_
      refine n_then ?_
      have hA191 := hA43.keep [2, 4]
      simp only [argsE, keepE, lookS, Nat.reduceBEq, cond_true, cond_false, Nat.reduceAdd, gv_tt, gv_ff, Bool.true_and, Bool.false_and, Bool.true_or, Bool.false_or] at hA191
      clear hA43
      refine wp_seq ?_
      refine wp_region_lit ?_
      -- stop alloc slot 20
      refine wl_new hA191 rfl rfl (by decide) (fun ev h => by simp [go_sem]; try first | exact ⟨rfl, rfl⟩ | rfl) fun w24 a192 (K20 : Blk _ _ _ _) hz24 hb24 hA192 => ?_
      replace HB := HB.trans (hb24.mono HB.size)
      replace K2 := K2.below hb24 K2.lt
      replace K4 := K4.below hb24 K4.lt
      obtain ⟨g20, hg20⟩ : ∃ g, wx.heap.size = g := ⟨_, rfl⟩
      rw [hg20] at K20 hA192 l2 l4 hwl
      replace K20 : Blk w24 g20 91 (digCells (D.take 0)).toArray := K20
      refine wl_nil ?_
      refine n_then ?_
      have hA193 := hA192.keep [2, 4, 20]
      simp only [argsE, keepE, lookS, Nat.reduceBEq, cond_true, cond_false, Nat.reduceAdd, gv_tt, gv_ff, Bool.true_and, Bool.false_and, Bool.true_or, Bool.false_or] at hA193
      clear hA191 hA192
      refine wp_seq ?_
      refine wp_seq ?_
      refine wp_region_lit ?_
      refine wl_op hA193 rfl rfl (by decide) (fun ev h => by simp [go_sem, h.c]; try first | exact ⟨rfl, rfl⟩ | rfl) fun a194 hA194 => ?_
      refine wl_nil ?_
      refine n_then ?_
      have hA195 := hA194.keep [2, 4, 20, 229]
      simp only [argsE, keepE, lookS, Nat.reduceBEq, cond_true, cond_false, Nat.reduceAdd, gv_tt, gv_ff, Bool.true_and, Bool.false_and, Bool.true_or, Bool.false_or] at hA195
      clear hA193 hA194 a192
      refine wp_block ?_
      -- loop
      refine wp_loop_at (fun k a wy => ∃ (q : Nat), q + k = 8 ∧ At 251 [(2, .pointer (some ⟨g2, 0, none⟩)), (4, .pointer (some ⟨g4, 0, none⟩)), (20, .pointer (some ⟨g20, 0, none⟩)), (229, .int .i64 (q : Nat))] a ∧ Blk wy g2 91 (digCells []).toArray ∧ Blk wy g4 122 (S.l.map u64v).toArray ∧ Blk wy g20 91 (digCells (D.take (4 * q))).toArray ∧ Below w.heap.size w wy) (8) ?_ ?_
      · exact ⟨0, by omega, hA195, K2, K4, K20, HB⟩
      clear K2 K3 K4 K20 HB
      rintro k' a wy ⟨q, hqk, hA, K2, K4, K20, HB⟩
      refine wp_seq ?_
      refine wp_region_lit ?_
      refine wl_op hA rfl rfl (by decide) (fun ev h => by simp [go_sem, h.c, h.get 229 rfl]; try first | exact ⟨rfl, rfl⟩ | rfl) fun a196 hA196 => ?_
      refine wl_nil ?_
      refine n_then ?_
      have hA197 := hA196.keep [2, 4, 20, 229, 230]
      simp only [argsE, keepE, lookS, Nat.reduceBEq, cond_true, cond_false, Nat.reduceAdd, gv_tt, gv_ff, Bool.true_and, Bool.false_and, Bool.true_or, Bool.false_or] at hA197
      clear hA hA196
      refine wp_seq ?_
      -- cond
      refine wp_if hA197 230 _ rfl (fun hq2 => ?yR) (fun hq2 => ?nR)
      case yR =>
        have hq8 : q < 8 := by simp at hq2; omega
        have c1 := map64_at (l := S.l) (i := q) hq8
        have lv := l_getD_lt hok q
        obtain ⟨v, hv⟩ : ∃ v, S.l.getD q 0 = v := ⟨_, rfl⟩
        rw [hv] at c1 lv
        have jj : (0 : Int) ≤ (q : Int) := by omega
        have ji : (q : Int) < 8 := by omega
        refine wp_skip ?_
        refine n_then ?_
        refine wp_seq ?_
        refine wp_block ?_
        refine wp_seq ?_
        refine wp_region_lit ?_
        refine wl_op hA197 rfl rfl (by decide) (fun ev h => by simp [go_sem, h.get 229 rfl, K4.cell, c1, jj, ji, add0]; try first | exact ⟨rfl, rfl⟩ | rfl) fun a198 hA198 => ?_
        refine wl_op hA198 rfl rfl (by decide) (fun ev h => by simp [go_sem, h.get 231 rfl, K4.cell, c1, jj, ji, add0]; try first | exact ⟨rfl, rfl⟩ | rfl) fun a199 hA199 => ?_
        refine wl_nil ?_
        refine n_then ?_
        have hA200 := hA199.keep [2, 4, 20, 21, 229]
        simp only [argsE, keepE, lookS, Nat.reduceBEq, cond_true, cond_false, Nat.reduceAdd, gv_tt, gv_ff, Bool.true_and, Bool.false_and, Bool.true_or, Bool.false_or] at hA200
        clear hA197 hA198 hA199 a198
        refine wp_seq ?_
        refine wp_region_lit ?_
        refine wl_op hA200 rfl rfl (by decide) (fun ev h => by simp [go_sem, h.get 21 rfl, K4.cell, c1, jj, ji, add0]; try first | exact ⟨rfl, rfl⟩ | rfl) fun a201 hA201 => ?_
        refine wl_op hA201 rfl rfl (by decide) (fun ev h => by simp [go_sem, h.get 4 rfl, h.get 232 rfl, K4.cell, c1, jj, ji, add0]; try first | exact ⟨rfl, rfl⟩ | rfl) fun a202 hA202 => ?_
        refine wl_op hA202 rfl rfl (by decide) (fun ev h => by simp [go_sem, h.get 233 rfl, K4.cell, c1, jj, ji, add0]; try first | exact ⟨rfl, rfl⟩ | rfl) fun a203 hA203 => ?_
        -- stop call slot 235
        have hl20 := K20.lt
        refine wl_call hA203 rfl rfl (by decide) (fun ev h => exec_call Tryz.func46 (by kernel_rfl) rfl (h.f _) (by first | (simp only [List.map_toArray, List.map_cons, List.map_nil, h.get 234 rfl, h.c]; done) | (simp only [List.map_toArray, List.map_cons, List.map_nil, h.get 234 rfl, h.c]; rfl) | (simp [List.map_toArray, List.map_cons, List.map_nil, h.get 234 rfl, h.c, K4.cell, c1, jj, ji, add0]; done) | (simp [List.map_toArray, List.map_cons, List.map_nil, h.get 234 rfl, h.c, K4.cell, c1, jj, ji, add0]; rfl) | rfl)) (refBytes_any v 4 (by omega) (by decide) _) ?_
        rintro e w25 ⟨r, rfl, ho, hb25⟩
        refine ⟨_, rfl, fun a204 hA204 => ?_⟩
        replace HB := HB.trans (hb25.mono HB.size)
        replace K2 := K2.below hb25 K2.lt
        replace K4 := K4.below hb25 K4.lt
        replace K20 := K20.below hb25 K20.lt
        obtain ⟨gr, cr2, e0, hgr, _⟩ := World.ownsRow.form ho (by decide)
        subst e0
        have hR2 := Reads.of_own ho
        have h20r : g20 < gr := Nat.lt_of_lt_of_le hl20 hgr
        clear ho hgr
        refine wl_op hA204 rfl rfl (by decide) (fun ev h => by simp [go_sem, h.get 235 rfl]; try first | exact ⟨rfl, rfl⟩ | rfl) fun a205 hA205 => ?_
        refine wl_nil ?_
        refine n_then ?_
        have hA206 := hA205.keep [2, 4, 20, 21, 22, 229]
        simp only [argsE, keepE, lookS, Nat.reduceBEq, cond_true, cond_false, Nat.reduceAdd, gv_tt, gv_ff, Bool.true_and, Bool.false_and, Bool.true_or, Bool.false_or] at hA206
        clear hA200 hA201 hA202 hA203 hA204 hA205 a199 a201 a202 a203 a204
        refine wp_seq ?_
        refine wp_region_lit ?_
        refine wl_op hA206 rfl rfl (by decide) (fun ev h => by simp [go_sem, h.c]; try first | exact ⟨rfl, rfl⟩ | rfl) fun a207 hA207 => ?_
        refine wl_nil ?_
        refine n_then ?_
        have hA208 := hA207.keep [2, 4, 20, 21, 22, 229, 236]
        simp only [argsE, keepE, lookS, Nat.reduceBEq, cond_true, cond_false, Nat.reduceAdd, gv_tt, gv_ff, Bool.true_and, Bool.false_and, Bool.true_or, Bool.false_or] at hA208
        clear hA206 hA207 a205
        refine wp_block ?_
        -- loop
        refine wp_loop_at (fun k a wz => ∃ (j : Nat), j + k = 4 ∧ At 251 [(2, .pointer (some ⟨g2, 0, none⟩)), (4, .pointer (some ⟨g4, 0, none⟩)), (20, .pointer (some ⟨g20, 0, none⟩)), (21, .int .i64 (q : Nat)), (22, .slice (some ⟨gr, 0, none⟩) 4 cr2), (229, .int .i64 (q : Nat)), (236, .int .i64 (j : Nat))] a ∧ Reads wz wz.heap.size 1 (some ⟨gr, 0, none⟩) 4 (u8s (be 4 v)) ∧ Blk wz g2 91 (digCells []).toArray ∧ Blk wz g4 122 (S.l.map u64v).toArray ∧ Blk wz g20 91 (digCells (D.take (4 * q + j))).toArray ∧ Below w.heap.size w wz) (4) ?_ ?_
        · exact ⟨0, by omega, hA208, hR2, K2, K4, K20, HB⟩
        clear hR2 K2 K4 K20 HB
        rintro k'' a wz ⟨j, hjk, hA, hR2, K2, K4, K20, HB⟩
        refine wp_seq ?_
        refine wp_region_lit ?_
        refine wl_op hA rfl rfl (by decide) (fun ev h => by simp [go_sem, h.c, h.get 236 rfl]; try first | exact ⟨rfl, rfl⟩ | rfl) fun a209 hA209 => ?_
        refine wl_nil ?_
        refine n_then ?_
        have hA210 := hA209.keep [2, 4, 20, 21, 22, 229, 236, 237]
        simp only [argsE, keepE, lookS, Nat.reduceBEq, cond_true, cond_false, Nat.reduceAdd, gv_tt, gv_ff, Bool.true_and, Bool.false_and, Bool.true_or, Bool.false_or] at hA210
        clear hA hA209
        refine wp_seq ?_
        -- cond
        refine wp_if hA210 237 _ rfl (fun hq3 => ?yS) (fun hq3 => ?nS)
        case yS =>
          have hj4 : j < 4 := by simp at hq3; omega
          obtain ⟨ad, ea, _, hc⟩ := u8_ats hR2 (be_length _ _) (by decide)
          injection ea with ea
          subst ea
          have cj := hc j hj4
          obtain ⟨i, hi⟩ : ∃ i, 4 * q + j = i := ⟨_, rfl⟩
          have i32 : i < 32 := by omega
          obtain ⟨x, hx⟩ : ∃ x, (be 4 v).getD j 0 = x := ⟨_, rfl⟩
          rw [hx, add0] at cj
          have e2 := flat_take S i32
          rw [hD, show i / 4 = q by omega, show i % 4 = j by omega, hv, be4_at hj4, hx] at e2
          have e := digCells_set (l := D.take i) (by rw [List.length_take]; omega) x
          rw [show (D.take i).length = i by rw [List.length_take]; omega] at e
          have hci := digCells_zero (l := D.take i) (j := i) (by rw [List.length_take]; omega) i32
          rw [hi] at K20
          have q1 : IntKind.i64.wrap (4 * (q : Int)) = 4 * (q : Int) := IntWalk.i64_in _ (by omega)
          have q2 : IntKind.i64.wrap (4 * (q : Int) + (j : Int)) = (i : Int) := by rw [IntWalk.i64_in _ (by omega)]; omega
          have q3 : (0 : Int) ≤ (j : Int) := by omega
          have q4 : (j : Int) < 4 := by omega
          have q5 : (0 : Int) ≤ (i : Int) := by omega
          have q6 : (i : Int) < 32 := by omega
          refine wp_skip ?_
          refine n_then ?_
          refine wp_seq ?_
          refine wp_block ?_
          refine wp_seq ?_
          refine wp_region_lit ?_
          refine wl_op hA210 rfl rfl (by decide) (fun ev h => by simp [go_sem, h.get 236 rfl, q1, q2, q3, q4, q5, q6, cj, add0, hci]; try first | exact ⟨rfl, rfl⟩ | rfl) fun a211 hA211 => ?_
          refine wl_op hA211 rfl rfl (by decide) (fun ev h => by simp [go_sem, h.get 238 rfl, q1, q2, q3, q4, q5, q6, cj, add0, hci]; try first | exact ⟨rfl, rfl⟩ | rfl) fun a212 hA212 => ?_
          refine wl_nil ?_
          refine n_then ?_
          have hA213 := hA212.keep [2, 4, 20, 21, 22, 23, 229, 236]
          simp only [argsE, keepE, lookS, Nat.reduceBEq, cond_true, cond_false, Nat.reduceAdd, gv_tt, gv_ff, Bool.true_and, Bool.false_and, Bool.true_or, Bool.false_or] at hA213
          clear hA210 hA211 hA212 a211
          refine wp_region_lit ?_
          refine wl_op hA213 rfl rfl (by decide) (fun ev h => by simp [go_sem, h.get 21 rfl, q1, q2, q3, q4, q5, q6, cj, add0, hci]; try first | exact ⟨rfl, rfl⟩ | rfl) fun a214 hA214 => ?_
          refine wl_op hA214 rfl rfl (by decide) (fun ev h => by simp [go_sem, h.c, h.get 239 rfl, q1, q2, q3, q4, q5, q6, cj, add0, hci]; try first | exact ⟨rfl, rfl⟩ | rfl) fun a215 hA215 => ?_
          refine wl_op hA215 rfl rfl (by decide) (fun ev h => by simp [go_sem, h.get 23 rfl, q1, q2, q3, q4, q5, q6, cj, add0, hci]; try first | exact ⟨rfl, rfl⟩ | rfl) fun a216 hA216 => ?_
          refine wl_op hA216 rfl rfl (by decide) (fun ev h => by simp [go_sem, h.get 240 rfl, h.get 241 rfl, q1, q2, q3, q4, q5, q6, cj, add0, hci]; try first | exact ⟨rfl, rfl⟩ | rfl) fun a217 hA217 => ?_
          refine wl_op hA217 rfl rfl (by decide) (fun ev h => by simp [go_sem, h.get 22 rfl, q1, q2, q3, q4, q5, q6, cj, add0, hci]; try first | exact ⟨rfl, rfl⟩ | rfl) fun a218 hA218 => ?_
          refine wl_op hA218 rfl rfl (by decide) (fun ev h => by simp [go_sem, h.get 23 rfl, q1, q2, q3, q4, q5, q6, cj, add0, hci]; try first | exact ⟨rfl, rfl⟩ | rfl) fun a219 hA219 => ?_
          refine wl_op hA219 rfl rfl (by decide) (fun ev h => by simp [go_sem, h.get 243 rfl, h.get 244 rfl, q1, q2, q3, q4, q5, q6, cj, add0, hci]; try first | exact ⟨rfl, rfl⟩ | rfl) fun a220 hA220 => ?_
          refine wl_op hA220 rfl rfl (by decide) (fun ev h => by simp [go_sem, h.get 245 rfl, q1, q2, q3, q4, q5, q6, cj, add0, hci]; try first | exact ⟨rfl, rfl⟩ | rfl) fun a221 hA221 => ?_
          refine wl_op hA221 rfl rfl (by decide) (fun ev h => by simp [go_sem, h.get 20 rfl, h.get 242 rfl, q1, q2, q3, q4, q5, q6, cj, add0, hci]; try first | exact ⟨rfl, rfl⟩ | rfl) fun a222 hA222 => ?_
          -- stop store slot None
          refine wl_setf ((digCells (D.take i)).set i (.int .u8 ((x.toNat : Nat) : Int))) _ hA222 rfl rfl K20 (j := i) (by rfl) (fun ev h => by simp [go_sem, h.get 247 rfl, h.get 246 rfl, q1, q2, q3, q4, q5, q6, cj, add0, hci, K20.cell, K20.frozen]; try first | exact ⟨rfl, rfl⟩ | rfl) fun w27 (K20 : Blk _ _ _ _) hs => ?_
          have hwi : IntKind.i64.wrap ((j : Int) + 1) = ((j + 1 : Nat) : Int) := by rw [IntWalk.i64_in _ (by omega)]; omega
          refine wl_nil ?_
          refine n_block ?_
          refine n_then ?_
          have hA223 := hA222.keep [2, 4, 20, 21, 22, 229, 236]
          simp only [argsE, keepE, lookS, Nat.reduceBEq, cond_true, cond_false, Nat.reduceAdd, gv_tt, gv_ff, Bool.true_and, Bool.false_and, Bool.true_or, Bool.false_or] at hA223
          clear hA213 hA214 hA215 hA216 hA217 hA218 hA219 hA220 hA221 hA222 a212 a214 a215 a216 a217 a218 a219 a220 a221
          refine wp_region_lit ?_
          refine wl_op hA223 rfl rfl (by decide) (fun ev h => by simp [go_sem, h.c, h.get 236 rfl, hwi]; try first | exact ⟨rfl, rfl⟩ | rfl) fun a224 hA224 => ?_
          refine wl_op hA224 rfl rfl (by decide) (fun ev h => by simp [go_sem, h.get 248 rfl, hwi]; try first | exact ⟨rfl, rfl⟩ | rfl) fun a225 hA225 => ?_
          refine wl_nil ?_
          refine n_then ?_
          have hA226 := hA225.keep [2, 4, 20, 21, 22, 229, 236]
          simp only [argsE, keepE, lookS, Nat.reduceBEq, cond_true, cond_false, Nat.reduceAdd, gv_tt, gv_ff, Bool.true_and, Bool.false_and, Bool.true_or, Bool.false_or] at hA226
          clear hA223 hA224 hA225 a222 a224
          -- round
          refine ⟨k'' - 1, by omega, j + 1, by omega, hA226, reads_onlyA hR2 hs (by omega), hs.blk K2 (by omega), hs.blk K4 (by omega), ?_, hs.below HB hwl⟩
          rw [show 4 * q + (j + 1) = i + 1 by omega, e2, ← e]
          exact K20
        case nS =>
          have hj4 : j = 4 := by simp at hq3; omega
          subst hj4
          have hwi : IntKind.i64.wrap ((q : Int) + 1) = ((q + 1 : Nat) : Int) := by rw [IntWalk.i64_in _ (by omega)]; omega
          refine wp_exit ?_
          refine x_then ?_
          refine x_then ?_
          refine x_block ?_
          refine n_block ?_
          refine n_then ?_
          have hA227 := hA210.keep [2, 4, 20, 229]
          simp only [argsE, keepE, lookS, Nat.reduceBEq, cond_true, cond_false, Nat.reduceAdd, gv_tt, gv_ff, Bool.true_and, Bool.false_and, Bool.true_or, Bool.false_or] at hA227
          clear hA210
          refine wp_region_lit ?_
          refine wl_op hA227 rfl rfl (by decide) (fun ev h => by simp [go_sem, h.c, h.get 229 rfl, hwi]; try first | exact ⟨rfl, rfl⟩ | rfl) fun a228 hA228 => ?_
          refine wl_op hA228 rfl rfl (by decide) (fun ev h => by simp [go_sem, h.get 249 rfl, hwi]; try first | exact ⟨rfl, rfl⟩ | rfl) fun a229 hA229 => ?_
          refine wl_nil ?_
          refine n_then ?_
          have hA230 := hA229.keep [2, 4, 20, 229]
          simp only [argsE, keepE, lookS, Nat.reduceBEq, cond_true, cond_false, Nat.reduceAdd, gv_tt, gv_ff, Bool.true_and, Bool.false_and, Bool.true_or, Bool.false_or] at hA230
          clear hA227 hA228 hA229 a228
          -- round
          exact ⟨k' - 1, by omega, q + 1, by omega, hA230, K2, K4, K20, HB⟩
      case nR =>
        have hq8 : q = 8 := by simp at hq2; omega
        subst hq8
        rw [List.take_of_length_le (by omega)] at K20
        have h32 : (digCells D).length = 32 := digCells_len (by omega)
        refine wp_exit ?_
        refine x_then ?_
        refine x_then ?_
        refine x_block ?_
        refine n_then ?_
        have hA231 := hA197.keep [2, 20]
        simp only [argsE, keepE, lookS, Nat.reduceBEq, cond_true, cond_false, Nat.reduceAdd, gv_tt, gv_ff, Bool.true_and, Bool.false_and, Bool.true_or, Bool.false_or] at hA231
        clear hA197
        refine wp_seq ?_
        refine wp_region_lit ?_
        -- limit load slot 250
        refine wl_op hA231 rfl rfl (by decide) (fun ev h => exec_loadA K20 Tryz.underlying91 rfl (by kernel_rfl) h32 rfl (h.get 20 rfl)) fun a232 hA232 => ?_
        refine wl_setw (digCells D) hA232 rfl rfl K2 (digCells_len (l := []) (by decide)) h32 (by kernel_rfl) (digCells_one _) rfl (fun ev h => ⟨h.get 2 rfl, h.get 250 rfl⟩) fun w26 (K2 : Blk _ _ _ _) hs => ?_
        refine wl_nil ?_
        refine n_then ?_
        have hA233 := hA232.keep [2]
        simp only [argsE, keepE, lookS, Nat.reduceBEq, cond_true, cond_false, Nat.reduceAdd, gv_tt, gv_ff, Bool.true_and, Bool.false_and, Bool.true_or, Bool.false_or] at hA233
        clear hA231 hA232
        refine wp_ret ?_
        refine ret_cell hA233 2 rfl rfl K2 Tryz.underlying91 rfl (by kernel_rfl) h32 ?_
        exact ⟨by rw [hfin, hD, digCells_full hDl], hs.below HB hB2⟩
end Go.Proofs.YtmjikfeaopmejaaGreatDoor
/-
  Numbers, texts and bytes that are put: the program's codec.Out.
-/
namespace Go.Proofs.YtmjikfeaopmejaaGreatDoor
open Go.RowKit
/-- a block of bytes -/
def U8Row (w : World) (g : Nat) : Prop := ∃ cs p, w.heap[g]? = some (.cells cs 5 p)
theorem U8Row.same {w w' : World} {g : Nat} (h : U8Row w g) (e : w'.heap[g]? = w.heap[g]?) : U8Row w' g := by
  obtain ⟨cs, p, hg⟩ := h
  exact ⟨cs, p, e.trans hg⟩
theorem lt_of_get {w : World} {g : Nat} {o : Obj} (h : w.heap[g]? = some o) : g < w.heap.size := by
  rcases Nat.lt_or_ge g w.heap.size with h' | h'
  · exact h'
  · rw [Array.getElem?_eq_none h'] at h; cases h
theorem U8Row.lt {w : World} {g : Nat} (h : U8Row w g) : g < w.heap.size := by
  obtain ⟨cs, p, hg⟩ := h
  exact lt_of_get hg
/-- but for one block and for rows of bytes that are not older than B nothing has turned -/
structure OBut (B o : Nat) (w w' : World) : Prop where
  os : w'.os = w.os
  tape : w'.tape = w.tape
  output : w'.output = w.output
  size : w.heap.size ≤ w'.heap.size
  block : ∀ i, i < w.heap.size → i ≠ o → (i < B ∨ ¬ U8Row w i) → w'.heap[i]? = w.heap[i]?
section
variable {B o : Nat} {w w' w'' : World}
theorem OBut.refl (B o : Nat) (w : World) : OBut B o w w := ⟨rfl, rfl, rfl, Nat.le_refl _, fun _ _ _ _ => rfl⟩
theorem OBut.trans (h : OBut B o w w') (k : OBut B o w' w'') : OBut B o w w'' := by
  refine ⟨k.os.trans h.os, k.tape.trans h.tape, k.output.trans h.output, Nat.le_trans h.size k.size, fun i hi h1 h2 => ?_⟩
  have e := h.block i hi h1 h2
  refine (k.block i (Nat.lt_of_lt_of_le hi h.size) h1 ?_).trans e
  rcases h2 with h2 | h2
  · exact .inl h2
  · exact .inr fun hf => h2 (hf.same e.symm)
theorem OBut.of_below (k : Below w.heap.size w w') : OBut B o w w' := ⟨k.os, k.tape, k.output, k.size, fun i hi _ _ => k.block i hi⟩
theorem OBut.below (h : OBut B o w w') (k : Below w'.heap.size w' w'') : OBut B o w w'' := h.trans (.of_below k)
theorem OBut.drew (h : OBut B o w w') : OBut B o w w'.drew := ⟨h.os, h.tape, h.output, h.size, h.block⟩
theorem OBut.alloc (h : OBut B o w w') (x : Obj) : OBut B o w (w'.alloc x) := h.below ((Below.refl _ _).alloc (Nat.le_refl _) x)
theorem OBut.set_ (h : OBut B o w w') (i : Nat) (u : Value) : OBut B o w (w'.setCell ⟨o, i, none⟩ u) :=
  h.trans ⟨rfl, rfl, rfl, by simp [World.setCell], fun j _ h1 _ => Below.heap_setCell _ _ _ _ h1⟩
theorem OBut.grown (h : OBut B o w w') {base : Nat} {v : Value} {n : Nat} {xs : List Value} (hv : w'.ownsRow base 5 1 v n xs) (hB : B ≤ base) (g : w'.grownBy w'' v.ownBlock) : OBut B o w w'' := by
  refine h.trans ⟨g.os, g.tape, g.output, g.size, fun i hi _ h2 => g.block i hi (fun e => ?_)⟩
  have hlt := hv.lt i e.symm
  rcases h2 with h2 | h2
  · omega
  · refine h2 ?_
    rcases hv.2 with ⟨rfl, _⟩ | ⟨g', cap, cur, rfl, _, hg, _⟩
    · cases e
    · injection e with e
      subst e
      exact ⟨cur, _, hg⟩
theorem OBut.toBelow (h : OBut B o w w') {C : Nat} (hC : C ≤ w.heap.size) (hB : C ≤ B) (ho : C ≤ o) : Below C w w' :=
  ⟨h.os, h.tape, h.output, h.size, fun i hi => h.block i (by omega) (by omega) (.inl (by omega))⟩
theorem Blk.obut {g : Nat} {t : TypeId} {cs : Array Value} (h : Blk w g t cs) (hb : OBut B o w w') (hg : g ≠ o) (ht : t ≠ 5) : Blk w' g t cs := by
  refine (hb.block g h.lt hg (.inr ?_)).trans h
  rintro ⟨cs', p, h'⟩
  unfold Blk at h
  rw [h] at h'
  injection h' with h'
  injection h' with _ h'
  exact ht h'
end
structure OutAt (w : World) (B o : Nat) (l : List UInt8) (sp : Bool) (v : Value) : Prop where
  le : B ≤ o
  cells : Blk w o 74 #[v, .bool sp]
  own : w.ownsRow B 5 1 v l.length (u8s l)
theorem OutAt.below {w w' : World} {B o : Nat} {l : List UInt8} {sp : Bool} {v : Value} (h : OutAt w B o l sp v) (hb : Below w.heap.size w w') : OutAt w' B o l sp v :=
  ⟨h.le, h.cells.below hb h.cells.lt, own_below h.own hb⟩
theorem OutAt.c0 {w : World} {B o : Nat} {l : List UInt8} {sp : Bool} {v : Value} (h : OutAt w B o l sp v) : w.cell? ⟨o, 0, none⟩ = some v := by rw [h.cells.cell]; rfl
theorem OutAt.c1 {w : World} {B o : Nat} {l : List UInt8} {sp : Bool} {v : Value} (h : OutAt w B o l sp v) : w.cell? ⟨o, 1, none⟩ = some (.bool sp) := by rw [h.cells.cell]; rfl
theorem out_new {w : World} {B : Nat} (hB : B ≤ w.heap.size) : OutAt (w.alloc (.cells #[.slice none 0 0, .bool false] 74)) B w.heap.size [] false (.slice none 0 0) :=
  ⟨hB, Blk.new w _ _, World.ownsRow_nil _ _ _ _⟩
/-- append of bytes, shut: so that a run equation serves the walk -/
def append8S (args : Array Value) : Sem Next := do pure (.value (← Builtin.append_ #[23, 23] 23 args))
theorem builtin_append8 (cs : Array Bool) (args : Array Value) : builtin .append #[23, 23] 23 cs args = append8S args := rfl
theorem run_append8 {w : World} {B : Nat} {v : Value} {l m : List UInt8} (h : w.ownsRow B 5 1 v l.length (u8s l)) {A : Option Addr} {n : Nat} (c : Nat) {Bd : Nat} (hn : n = m.length) (hr : Reads w Bd 1 A n (u8s m)) (hlen : l.length + m.length ≤ 1000000000) (hB : B ≤ w.heap.size) :
    ∃ A' c' w', (append8S #[v, .slice A n c]).run Tryz.prog w = .ok (.value (.slice A' (l ++ m).length c')) w' ∧ w'.ownsRow B 5 1 (.slice A' (l ++ m).length c') (l ++ m).length (u8s (l ++ m)) ∧ w.grownBy w' v.ownBlock := by
  subst hn
  obtain ⟨i0, hi0, hz0, hz1, hz2⟩ := info_parts u8_info
  obtain ⟨v', w', hrun, ho, hg⟩ := run_append_any (P := Tryz.prog) w B 23 23 5 i0 _ 1 1 Tryz.underlying23 hi0 hz0 hz1 hz2 rfl (by omega) v l.length (u8s l) h A m.length c (u8s m) (Gives.of_reads hr (u8s_one m)) (by unfold maxLen; omega) (by omega) hB
  rw [← u8s_append, ← List.length_append] at ho
  obtain ⟨A', c', rfl, _, _⟩ := own_reads ho
  exact ⟨A', c', w', by unfold append8S; simp only [Sem.run_bind, hrun, Result.andThen_ok, Sem.run_pure], ho, hg⟩
theorem out_ne {w : World} {B o : Nat} {l : List UInt8} {sp : Bool} {v : Value} (h : OutAt w B o l sp v) : some o ≠ v.ownBlock := fun e => by
  rcases h.own.2 with ⟨rfl, _⟩ | ⟨g', cap, cur, rfl, _, hgg, _⟩
  · cases e
  · injection e with e
    subst e
    have := h.cells
    unfold Blk at this
    rw [this] at hgg
    injection hgg with hgg
    injection hgg with _ hgg
    exact absurd hgg (by decide)
theorem out_push {X w2 : World} {B o : Nat} {l l2 : List UInt8} {sp : Bool} {v v2 : Value} (h : OutAt X B o l sp v) (hg : X.grownBy w2 v.ownBlock) (hown : w2.ownsRow B 5 1 v2 l2.length (u8s l2)) :
    Blk w2 o 74 #[v, .bool sp] ∧ OutAt (w2.setCell ⟨o, 0, none⟩ v2) B o l2 sp v2 ∧ OBut B o X (w2.setCell ⟨o, 0, none⟩ v2) := by
  have ho2 := h.cells.grown hg (out_ne h)
  refine ⟨ho2, ⟨h.le, ho2.set_ 0 _, own_keep hown fun g hgg => Below.heap_setCell _ _ _ _ (fun e => ?_)⟩, ((OBut.refl B o X).grown h.own (Nat.le_refl B) hg).set_ 0 _⟩
  rcases hown.2 with ⟨h0, _⟩ | ⟨g', cap, cur, h0, _, hgg', _⟩
  · rw [h0] at hgg; cases hgg
  · rw [h0] at hgg
    injection hgg with hgg
    subst hgg
    simp only at e
    subst e
    unfold Blk at ho2
    rw [ho2] at hgg'
    injection hgg' with hgg'
    injection hgg' with _ hgg'
    exact absurd hgg' (by decide)
theorem shr_bytes (v m : Nat) : (v : Int) / 2 ^ (8 * m) = ((v / 256 ^ m : Nat) : Int) := by
  have e : (256 : Nat) ^ m = 2 ^ (8 * m) := by rw [Nat.pow_mul]
  rw [e, Int.natCast_ediv, Int.natCast_pow]; rfl
section
attribute [local go_sem ↓ 100000] builtin_append8
set_option maxRecDepth 100000 in
theorem out_N {w : World} {B o : Nat} {l : List UInt8} {sp : Bool} {v0 : Value} (h : OutAt w B o l sp v0) (hB : B ≤ w.heap.size) (hl : l.length ≤ 900000000) (v n : Nat) (hn : 1 ≤ n ∧ n ≤ 7) (hv : v < 256 ^ n) :
    Calls Tryz.prog 31 #[.pointer (some ⟨o, 0, none⟩), .int .i64 (v : Nat), .int .i64 (n : Nat)] w fun e w' => e = .returned (.tuple #[]) ∧ (∃ v', OutAt w' B o (l ++ be n v) sp v') ∧ OBut B o w w' := by
  have hv7 : v < 72057594037927936 := Nat.lt_of_lt_of_le hv (Nat.le_trans (Nat.pow_le_pow_right (by omega) hn.2) (by decide))
  have H := Lib.hid h
  have n1 : decide ((n : Int) < 1) = false := by simp; omega
  have n2 : decide (7 < (n : Int)) = false := by simp; omega
  have n3 : decide ((v : Int) < 0) = false := by simp
  have hz : (v : Int) / 2 ^ (8 * n) = 0 := by
    rw [shr_bytes, Nat.div_eq_of_lt hv]; rfl
  go_enter Tryz.func31, Tryz.ntmps31
  go_wp2
  go_loopw [6] (fun i wr => ∃ (m : Nat) (l1 : List UInt8) (v1 : Value), i = .int .i64 ((m : Int) - 1) ∧ m ≤ n ∧ Hid (l1 ++ be m v = l ++ be n v) ∧ Hid (OutAt wr B o l1 sp v1) ∧ Hid (OBut B o w wr)) (fun i _ => (intOf i + 1).toNat)
  case atStart => exact ⟨n, l, v0, by go_num, Nat.le_refl _, rfl, H, OBut.refl _ _ _⟩
  case round =>
    obtain ⟨m, l1, v1, rfl, hm, hl1, ho, hb⟩ := hrel
    rcases m with _ | m
    · go_wp2
      go_end0
      have h1 := ho.out
      have h2 := hl1.out
      rw [be, List.append_nil] at h2
      rw [h2] at h1
      exact ⟨rfl, ⟨v1, h1⟩, hb.out⟩
    · have e : (((m + 1 : Nat) : Int) - 1) = (m : Int) := by omega
      rw [e]
      obtain ⟨qm, hqm⟩ : ∃ qm, v / 256 ^ m = qm := ⟨_, rfl⟩
      have hq : (v : Int) / 2 ^ (8 * m) = (qm : Int) := by rw [shr_bytes, hqm]
      have hs8 : (((UInt8.ofNat qm).toNat : Nat) : Int) = (qm : Int) % 256 := by simp
      have hll : l1.length ≤ 900000010 := by
        have := congrArg List.length hl1.out
        rw [List.length_append, List.length_append, be_length, be_length] at this
        omega
      have hbx := ((Below.refl wr.heap.size wr).alloc (Nat.le_refl _) (.cells #[.int .u8 (((UInt8.ofNat qm).toNat : Nat) : Int)] 5)).drew
      have hox := ho.out.below hbx
      obtain ⟨A2, c2, w2, E1, hown, hg⟩ := run_append8 (n := 1) (m := [UInt8.ofNat qm]) hox.own 1 rfl (lit_one wr (UInt8.ofNat qm)).drew (by simp; omega) (Nat.le_trans (Nat.le_trans hB hb.out.size) hbx.size)
      have hl2 : (l1 ++ [UInt8.ofNat qm]) ++ be m v = l ++ be n v := by rw [List.append_assoc, ← hl1.out, ← hqm]; rfl
      obtain ⟨l2, hl2e⟩ : ∃ l2, l1 ++ [UInt8.ofNat qm] = l2 := ⟨_, rfl⟩
      rw [hl2e] at E1 hown hl2
      obtain ⟨ho2, p1, p2⟩ := out_push hox hg hown
      have HFIN : Hid (OutAt (w2.setCell ⟨o, 0, none⟩ (.slice A2 l2.length c2)) B o l2 sp (.slice A2 l2.length c2) ∧ OBut B o w (w2.setCell ⟨o, 0, none⟩ (.slice A2 l2.length c2))) := ⟨p1, (hb.out.below hbx).trans p2⟩
      rw [hs8] at E1
      have c0 := ho.out.c0
      have hol := ho.out.cells.lt
      have z0 : w2.cell? ⟨o, 0, none⟩ = some v1 := by rw [ho2.cell]; rfl
      have zf := ho2.frozen 0
      have m0 : (0 : Int) ≤ (m : Int) := by omega
      have hm7 : m ≤ 7 := by omega
      have HL2 := Lib.hid hl2
      clear hbx hox hown hg ho2 p1 p2 hl2 hl2e hs8 e hqm hll hl1
      go_wp2
      go_region
      all_goals (try go_wp2)
      go_roundw
      case rel => exact ⟨m, l2, _, by go_num, by omega, HL2, HFIN.out.1, HFIN.out.2⟩
      case measure => simp [intOf]
end
end Go.Proofs.YtmjikfeaopmejaaGreatDoor
/-
  Bytes and texts that are put, and what all of it is: the program's codec.Out; the clone of bytes.
-/
namespace Go.Proofs.YtmjikfeaopmejaaGreatDoor
open Go.RowKit
attribute [local go_sem ↓ 100000] builtin_append8
theorem empty_new (w : World) : (w.alloc (.cells #[] 5)).ownsRow w.heap.size 5 1 (.slice (some ⟨w.heap.size, 0, none⟩) 0 0) ([] : List UInt8).length (u8s []) := bytes_empty w
theorem nil_nil (w : World) : (binOp .eql 23 (.slice none 0 0) (.slice none 0 0)).run Tryz.prog w = .ok (.bool true) w := by kernel_rfl
theorem some_nil (g n c : Nat) (w : World) : (binOp .eql 23 (.slice (some ⟨g, 0, none⟩) n c) (.slice none 0 0)).run Tryz.prog w = .ok (.bool false) w := by kernel_rfl
set_option maxRecDepth 100000 in
theorem sclone_any {w : World} {B n : Nat} {v : Value} {l : List UInt8} (h : w.ownsRow B 5 1 v n (u8s l)) (hl : l.length = n) (hn : n ≤ 900000000) :
    Calls Tryz.prog 54 #[v] w fun e w' => ∃ v, e = .returned v ∧ w'.ownsRow w.heap.size 5 1 v n (u8s l) ∧ Below w.heap.size w w' := by
  obtain ⟨_, _, _, hr, _⟩ := own_reads h
  rcases h.2 with ⟨rfl, rfl⟩ | ⟨g, c, cur, rfl, _⟩
  · obtain rfl := List.length_eq_zero_iff.1 hl
    have he := nil_nil w
    go_enter Tryz.func54, Tryz.ntmps54
    go_wp2
    go_ret
    exact ⟨_, rfl, World.ownsRow_nil _ _ _ _, Below.refl _ _⟩
  · have hr := Reads.of_own h
    have he := some_nil g n c w
    have hbx := (Below.refl w.heap.size w).alloc (Nat.le_refl _) (.cells #[] 5)
    obtain ⟨A2, c2, w2, E1, hown, hg⟩ := run_append8 (n := n) (m := l) (empty_new w) c hl.symm (hr.below hbx) (by simp; omega) hbx.size
    have hb2 := hbx.grown hg hbx.size (fun k hk => ((empty_new w).lt k hk).1)
    simp only [List.nil_append] at E1 hown
    rw [hl] at E1 hown
    have HO := Lib.hid hown
    have HB2 := Lib.hid hb2
    clear hr hbx hown hg hb2
    go_enter Tryz.func54, Tryz.ntmps54
    go_wp2
    go_ret
    exact ⟨_, rfl, HO.out, HB2.out⟩
set_option maxRecDepth 100000 in
theorem out_Raw {w : World} {B o : Nat} {l : List UInt8} {sp : Bool} {v0 : Value} (h : OutAt w B o l sp v0) (hB : B ≤ w.heap.size) (hl : l.length ≤ 800000000) (A : Option Addr) (n c : Nat) (m : List UInt8) (hm : m.length = n) (hn : n ≤ 100000000) (hr : Reads w w.heap.size 1 A n (u8s m)) :
    Calls Tryz.prog 33 #[.pointer (some ⟨o, 0, none⟩), .slice A n c] w fun e w' => e = .returned (.tuple #[]) ∧ (∃ v', OutAt w' B o (l ++ m) sp v') ∧ OBut B o w w' := by
  obtain ⟨A2, c2, w2, E1, hown, hg⟩ := run_append8 (n := n) (m := m) h.own c hm.symm hr (by omega) hB
  obtain ⟨ho2, p1, p2⟩ := out_push h hg hown
  have c0 := h.c0
  have z0 : w2.cell? ⟨o, 0, none⟩ = some v0 := by rw [ho2.cell]; rfl
  have zf := ho2.frozen 0
  obtain ⟨l2, hl2⟩ : ∃ l2, l ++ m = l2 := ⟨_, rfl⟩
  rw [hl2] at E1 p1 p2 ⊢
  have H1 := Lib.hid p1
  have H2 := Lib.hid p2
  clear h hr hown hg ho2 p1 p2 hl2
  go_enter Tryz.func33, Tryz.ntmps33
  go_wp2
  go_end0
  exact ⟨rfl, ⟨_, H1.out⟩, H2.out⟩
set_option maxRecDepth 100000 in
theorem out_Text {w : World} {B o : Nat} {l : List UInt8} {sp : Bool} {v0 : Value} (h : OutAt w B o l sp v0) (hB : B ≤ w.heap.size) (hl : l.length ≤ 700000000) (s : ByteArray) (hs : s.size < 65536) :
    Calls Tryz.prog 32 #[.pointer (some ⟨o, 0, none⟩), .string s] w fun e w' => e = .returned (.tuple #[]) ∧ (∃ v', OutAt w' B o (l ++ textB s) sp v') ∧ OBut B o w w' := by
  have HN := Lib.hid (out_N h hB (by omega) s.size 2 (by omega) (by omega))
  have hcv : ∀ w1 : World, (convert 9 23 (.string s)).run Tryz.prog w1 = .ok (.slice (some ⟨w1.heap.size, 0, none⟩) s.size (grownCap w1 s.size 0 5)) (Lib.bytesWorld w1 5 s) := fun w1 => Lib.run_convert_string_bytes w1 9 23 5 s Tryz.underlying9 Tryz.underlying23 Tryz.underlying5
  go_enter Tryz.func32, Tryz.ntmps32
  go_wp2_with fail
  refine HN.out.mono ?_
  rintro e w1 ⟨rfl, ⟨v1, h1⟩, hb1⟩
  have hbx : Below w1.heap.size w1 (Lib.bytesWorld w1 5 s) := ⟨rfl, rfl, rfl, by rw [Lib.bytesWorld_size]; omega, fun k hk => Lib.bytesWorld_at_old w1 5 s k hk⟩
  have hx := h1.below hbx
  have hrd : Reads (Lib.bytesWorld w1 5 s) (Lib.bytesWorld w1 5 s).heap.size 1 (some ⟨w1.heap.size, 0, none⟩) s.size (u8s s.data.toList) := by
    refine ⟨by rw [u8s_length, Array.length_toList, Nat.mul_one]; rfl, fun _ => ⟨_, rfl, by rw [Lib.bytesWorld_size]; exact Nat.lt_succ_self _, fun j u hu => ?_⟩⟩
    have hj : j < s.size := by
      rcases Nat.lt_or_ge j s.size with h | h
      · exact h
      · rw [u8s_get, List.getElem?_eq_none (by simpa using h)] at hu; cases hu
    have ha : (⟨w1.heap.size, 0, none⟩ : Addr).add j = ⟨w1.heap.size, j, none⟩ := by unfold Addr.add; split <;> simp_all
    rw [ha, Lib.bytesWorld_cell w1 5 s j hj, ← hu, u8s_get]
    have hj2 : j < s.data.toList.length := by simpa using hj
    rw [List.getD_eq_getElem?_getD, List.getElem?_eq_getElem hj2]
    rfl
  have HR := Lib.hid (out_Raw hx (Nat.le_trans (Nat.le_trans hB hb1.size) hbx.size) (by rw [List.length_append, be_length]; omega) (some ⟨w1.heap.size, 0, none⟩) s.size (grownCap w1 s.size 0 5) s.data.toList rfl (by omega) hrd)
  have HB1 := Lib.hid (hb1.below hbx)
  have hcv1 := hcv w1
  clear hcv hx hrd h1 hb1 hbx
  go_wp2_with fail
  refine HR.out.mono ?_
  rintro e w2 ⟨rfl, ⟨v2, h2⟩, hb2⟩
  have H2 := Lib.hid h2
  have HB2 := Lib.hid (HB1.out.trans hb2)
  clear h2 hb2
  go_wp2
  go_end0
  refine ⟨rfl, ⟨v2, ?_⟩, HB2.out⟩
  have := H2.out
  rw [List.append_assoc] at this
  exact this
set_option maxRecDepth 100000 in
theorem out_End {w : World} {B o : Nat} {l : List UInt8} {v0 : Value} (h : OutAt w B o l false v0) (hl : l.length ≤ 800000000) :
    Calls Tryz.prog 34 #[.pointer (some ⟨o, 0, none⟩)] w fun e w' => ∃ v, e = .returned (.tuple #[v, .int .i64 0]) ∧ w'.ownsRow w.heap.size 5 1 v l.length (u8s l) ∧ Below w.heap.size w w' := by
  have HC := Lib.hid (sclone_any h.own rfl (by omega))
  have c0 := h.c0
  have c1 := h.c1
  clear h
  go_enter Tryz.func34, Tryz.ntmps34
  go_wp2_with fail
  refine HC.out.mono ?_
  rintro e w2 ⟨v, rfl, ho, hb⟩
  go_wp2
  go_ret2
  exact ⟨v, rfl, ho, hb⟩
end Go.Proofs.YtmjikfeaopmejaaGreatDoor
/-
  Walks of the sum of 32 bits: the program's, and the document's.
-/
namespace Go.Proofs.YtmjikfeaopmejaaGreatDoor
open Go.RowKit
theorem crcGo_step {l : List UInt8} {j : Nat} {x : UInt8} (c : Nat) (hx : l[j]? = some x) : crcGo c (l.take (j + 1)) = crcByte (crcGo c (l.take j)) x := by
  rw [List.take_add_one, hx, ← crcGo_snoc]; rfl
theorem and_one (c : Nat) : c &&& 1 = c % 2 := by rw [Nat.and_one_is_mod]
theorem refBits_lt (x : Nat) {c : Nat} (h : c < 2 ^ 32) : ∀ k, refBits x k c < 2 ^ 32
  | 0 => h
  | k + 1 => by
    have ih := refBits_lt x h k
    show refBit _ _ < _
    unfold refBit
    have : refBits x k c / 2 < 2 ^ 32 := by omega
    split
    · exact Nat.xor_lt_two_pow this (by decide)
    · exact this
set_option maxRecDepth 100000 in
theorem crc_any (A : Option Addr) (n c : Nat) (l : List UInt8) (w : World) (hn : l.length = n) (hn2 : n ≤ 1000000000000) (hr : Reads w w.heap.size 1 A n (u8s l)) :
    Calls Tryz.prog 60 #[.slice A n c] w fun e w' => e = .returned (.int .u32 (crc l : Nat)) ∧ w' = w := by
  have HR := Lib.hid hr
  clear hr
  go_enter Tryz.func60, Tryz.ntmps60
  go_wp2
  go_loopw [3, 9] (fun v i wr => ∃ (j cc : Nat), i = .int .i64 j ∧ j ≤ n ∧ v = .int .u32 cc ∧ Hid (cc = crcGo 4294967295 (l.take j)) ∧ wr = w) (fun _ i _ => n - (intOf i).toNat)
  case atStart => exact ⟨0, 4294967295, rfl, by omega, rfl, rfl, rfl⟩
  case round =>
    obtain ⟨j, cc, rfl, hj, rfl, hcc, rfl⟩ := hrel
    have hl : cc < 4294967296 := by rw [hcc.out]; exact crcGo_lt _ (by decide)
    by_cases hlt : j < n
    · obtain ⟨x, hx⟩ : ∃ x, l[j]? = some x := ⟨_, List.getElem?_eq_getElem (by omega)⟩
      obtain ⟨ad, rfl, _, hc⟩ := HR.out.2 (by omega)
      have hcx := hc j (.int .u8 (x.toNat : Int)) (by rw [u8s_get, hx]; rfl)
      have hst := crcGo_step 4294967295 hx
      rw [← hcc.out] at hst
      have HST := Lib.hid hst
      obtain ⟨xn, hxn⟩ : ∃ xn, x.toNat = xn := ⟨_, rfl⟩
      have hx8 : xn < 256 := by rw [← hxn]; exact x.toNat_lt
      obtain ⟨c1, hc1⟩ : ∃ c1, cc ^^^ xn = c1 := ⟨_, rfl⟩
      have hl1 : c1 < 4294967296 := by rw [← hc1]; exact Nat.xor_lt_two_pow (n := 32) hl (by omega)
      have hb1 : bits .xor .u32 (cc : Int) ((xn : Int) % 4294967296) = (c1 : Int) := by
        rw [show (xn : Int) % 4294967296 = (xn : Int) by omega, u32_xor_nat _ _ hl (by omega), hc1]
      have hb2 : bits .xor .u32 (cc : Int) (xn : Int) = (c1 : Int) := by rw [u32_xor_nat _ _ hl (by omega), hc1]
      have HC1 : Hid (crcByte cc x = crcBits 8 c1) := by unfold crcByte; rw [hxn, hc1]; exact rfl
      rw [hxn] at hcx
      clear hst hx hc hc1 hxn
      go_wp2
      go_loopw [3, 17] (fun v i wr2 => ∃ (k cn : Nat), i = .int .i64 k ∧ k ≤ 8 ∧ v = .int .u32 cn ∧ Hid (cn = crcBits k c1) ∧ wr2 = wr) (fun _ i _ => 8 - (intOf i).toNat)
      case atStart => exact ⟨0, c1, rfl, by omega, rfl, rfl, rfl⟩
      case round =>
        obtain ⟨k, cn, rfl, hk, rfl, hcn, rfl⟩ := hrel
        have hln : cn < 4294967296 := by rw [hcn.out]; exact crcBits_lt _ hl1
        by_cases hk8 : k < 8
        · have hst : crcBits (k + 1) c1 = crcBit cn := by rw [crcBits_succ, hcn.out]
          have ha : bits .and .u32 (cn : Int) 1 = ((cn % 2 : Nat) : Int) := by
            have := u32_and_nat cn 1 hln (by decide)
            rw [and_one] at this
            exact this
          have HS2 := Lib.hid hst
          clear hst
          by_cases hb : cn % 2 = 1
          · have hv : crcBit cn = (cn / 2) ^^^ 3988292384 := by unfold crcBit; rw [if_pos hb]
            rw [hb] at ha
            have hx2 : bits .xor .u32 ((cn : Int) / 2) 3988292384 = (((cn / 2) ^^^ 3988292384 : Nat) : Int) := by
              have := u32_xor_nat (cn / 2) 3988292384 (by omega) (by decide)
              rw [← this]; rfl
            have HV := Lib.hid hv
            clear hv hb
            go_wp2
            go_roundw
            case rel => exact ⟨k + 1, _, by go_num, by omega, rfl, by rw [HS2.out, HV.out]; exact rfl, by first | rfl | trivial⟩
            case measure => simp [intOf]; omega
          · have hv : crcBit cn = cn / 2 := by unfold crcBit; rw [if_neg hb]
            have hb0 : cn % 2 = 0 := by omega
            rw [hb0] at ha
            have HV := Lib.hid hv
            clear hv hb hb0
            go_wp2
            go_roundw
            case rel => exact ⟨k + 1, cn / 2, by go_num, by omega, by rw [Int.natCast_ediv]; rfl, by rw [HS2.out, HV.out]; exact rfl, by first | rfl | trivial⟩
            case measure => simp [intOf]; omega
        · obtain rfl : k = 8 := by omega
          go_wp2
          go_roundw
          case rel => exact ⟨j + 1, cn, by go_num, by omega, rfl, by rw [HST.out, HC1.out]; exact hcn, by first | rfl | trivial⟩
          case measure => simp [intOf]; omega
    · obtain rfl : j = n := by omega
      have hx2 : bits .xor .u32 (cc : Int) 4294967295 = ((cc ^^^ 4294967295 : Nat) : Int) := by
        have := u32_xor_nat cc 4294967295 hl (by decide)
        rw [← this]; rfl
      go_wp2
      go_ret
      refine ⟨?_, rfl⟩
      unfold crc
      rw [hcc.out, List.take_of_length_le (by omega)]
      rfl
set_option maxRecDepth 100000 in
theorem refCrc_any (A : Option Addr) (n c : Nat) (l : List UInt8) (w : World) (hn : l.length = n) (hn2 : n ≤ 1000000000000) (hr : Reads w w.heap.size 1 A n (u8s l)) :
    Calls Tryz.prog 48 #[.slice A n c] w fun e w' => e = .returned (.int .u32 (crc l : Nat)) ∧ w' = w := by
  have HR := Lib.hid hr
  clear hr
  go_enter Tryz.func48, Tryz.ntmps48
  go_wp2
  go_loopw [3, 9] (fun v i wr => ∃ (j cc : Nat), i = .int .i64 j ∧ j ≤ n ∧ v = .int .u64 cc ∧ Hid (cc = crcGo 4294967295 (l.take j)) ∧ wr = w) (fun _ i _ => n - (intOf i).toNat)
  case atStart => exact ⟨0, 4294967295, rfl, by omega, rfl, rfl, rfl⟩
  case round =>
    obtain ⟨j, cc, rfl, hj, rfl, hcc, rfl⟩ := hrel
    have hl : cc < 4294967296 := by rw [hcc.out]; exact crcGo_lt _ (by decide)
    by_cases hlt : j < n
    · obtain ⟨x, hx⟩ : ∃ x, l[j]? = some x := ⟨_, List.getElem?_eq_getElem (by omega)⟩
      obtain ⟨ad, rfl, _, hc⟩ := HR.out.2 (by omega)
      have hcx := hc j (.int .u8 (x.toNat : Int)) (by rw [u8s_get, hx]; rfl)
      have hst := crcGo_step 4294967295 hx
      rw [← hcc.out] at hst
      have HST := Lib.hid hst
      obtain ⟨xn, hxn⟩ : ∃ xn, x.toNat = xn := ⟨_, rfl⟩
      have hx8 : xn < 256 := by rw [← hxn]; exact x.toNat_lt
      have HC1 : Hid (refBits xn 8 cc = crcByte cc x) := by rw [← hxn]; exact byte_same cc x
      rw [hxn] at hcx
      have jj0 : (0 : Int) ≤ (j : Int) := by omega
      have jj1 : (j : Int) < (n : Int) := by omega
      clear hst hx hc hxn
      go_wp2
      go_loopw [3, 12] (fun v i wr2 => ∃ (k cn : Nat), i = .int .i64 k ∧ k ≤ 8 ∧ v = .int .u64 cn ∧ Hid (cn = refBits xn k cc) ∧ wr2 = wr) (fun _ i _ => 8 - (intOf i).toNat)
      case atStart => exact ⟨0, cc, rfl, by omega, rfl, rfl, rfl⟩
      case round =>
        obtain ⟨k, cn, rfl, hk, rfl, hcn, rfl⟩ := hrel
        have hln : cn < 4294967296 := by rw [hcn.out]; exact refBits_lt xn hl k
        by_cases hk8 : k < 8
        · have hst : refBits xn (k + 1) cc = refBit cn (xn / 2 ^ k % 2) := by rw [hcn.out]; rfl
          have HS2 := Lib.hid hst
          clear hst
          obtain ⟨qn, hqn⟩ : ∃ qn, xn / 2 ^ k = qn := ⟨_, rfl⟩
          have hq8 : qn < 256 := by rw [← hqn]; exact Nat.lt_of_le_of_lt (Nat.div_le_self _ _) hx8
          have hq : (xn : Int) / 2 ^ k = (qn : Int) := by rw [← hqn, Int.natCast_ediv, Int.natCast_pow]; rfl
          obtain ⟨b, hbq⟩ : ∃ b, qn % 2 = b := ⟨_, rfl⟩
          obtain ⟨m, hm⟩ : ∃ m, cn % 2 = m := ⟨_, rfl⟩
          have ha8 : bits .and .u8 (qn : Int) 1 = (b : Int) := by
            have := u8_and_nat qn 1 hq8 (by decide)
            rw [and_one, hbq] at this
            exact this
          have ha : bits .and .u64 (cn : Int) 1 = (m : Int) := by
            have := u64_and_nat cn 1 (by omega) (by decide)
            rw [and_one, hm] at this
            exact this
          have hb2 : b < 2 := by omega
          have hm2 : m < 2 := by omega
          have hdv : (cn : Int).tdiv 2 = ((cn / 2 : Nat) : Int) := rfl
          rw [hqn, hbq] at HS2
          have HM := Lib.hid hm
          obtain ⟨t, ht⟩ : ∃ t, m ^^^ b = t := ⟨_, rfl⟩
          have hxx : bits .xor .u64 (m : Int) (b : Int) = (t : Int) := by rw [u64_xor_nat _ _ (by omega) (by omega), ht]
          have ht2 : t < 2 := by rw [← ht]; exact Nat.xor_lt_two_pow (n := 1) hm2 hb2
          have HT : Hid (m ^^^ b = t) := ht
          clear ht hm hbq hqn
          by_cases hb : t = 1
          · subst hb
            have hv : refBit cn b = (cn / 2) ^^^ 3988292384 := by unfold refBit; rw [HM.out, HT.out, if_pos rfl]
            have hx2 : bits .xor .u64 ((cn : Int) / 2) 3988292384 = (((cn / 2) ^^^ 3988292384 : Nat) : Int) := by
              have := u64_xor_nat (cn / 2) 3988292384 (by omega) (by decide)
              rw [← this]; rfl
            have HV := Lib.hid hv
            clear hv
            go_wp2
            go_roundw
            case rel => exact ⟨k + 1, _, by go_num, by omega, rfl, by rw [HS2.out, HV.out]; exact rfl, by first | rfl | trivial⟩
            case measure => simp [intOf]; omega
          · have hv : refBit cn b = cn / 2 := by unfold refBit; rw [HM.out, HT.out, if_neg hb]
            obtain rfl : t = 0 := by omega
            have HV := Lib.hid hv
            clear hv hb
            go_wp2
            go_roundw
            case rel => exact ⟨k + 1, cn / 2, by go_num, by omega, rfl, by rw [HS2.out, HV.out]; exact rfl, by first | rfl | trivial⟩
            case measure => simp [intOf]; omega
        · obtain rfl : k = 8 := by omega
          go_wp2
          go_roundw
          case rel => exact ⟨j + 1, cn, by go_num, by omega, rfl, by rw [HST.out, ← HC1.out]; exact hcn, by first | rfl | trivial⟩
          case measure => simp [intOf]; omega
    · obtain rfl : j = n := by omega
      have hx2 : bits .xor .u64 (cc : Int) 4294967295 = ((cc ^^^ 4294967295 : Nat) : Int) := by
        have := u64_xor_nat cc 4294967295 (by omega) (by decide)
        rw [← this]; rfl
      have hx3 : cc ^^^ 4294967295 < 4294967296 := Nat.xor_lt_two_pow (n := 32) hl (by decide)
      obtain ⟨r, hr⟩ : ∃ r, cc ^^^ 4294967295 = r := ⟨_, rfl⟩
      rw [hr] at hx2 hx3
      have hx4 : (r : Int) % 4294967296 = (r : Int) := by omega
      have HRR : Hid (crc l = r) := by
        unfold crc
        rw [← hr, hcc.out, List.take_of_length_le (by omega)]
        exact rfl
      clear hr
      go_wp2
      go_ret
      refine ⟨?_, rfl⟩
      rw [HRR.out]
      rfl
end Go.Proofs.YtmjikfeaopmejaaGreatDoor
/-
  Walks: a payload's frame, by both sides (frame.Frame, cubbyref01.Frame).
-/
namespace Go.Proofs.YtmjikfeaopmejaaGreatDoor
open Go.RowKit
set_option linter.unusedSimpArgs false
set_option linter.unusedVariables false
theorem blk_reads8 {w : World} {g : Nat} {T : TypeId} {p : Nat × Nat} {l : List UInt8} (h : w.heap[g]? = some (.cells (u8s l).toArray T p)) : Reads w w.heap.size 1 (some ⟨g, 0, none⟩) l.length (u8s l) := by
  refine ⟨by rw [u8s_length, Nat.mul_one], fun _ => ⟨_, rfl, (Array.getElem?_eq_some_iff.1 h).1, fun j u hu => ?_⟩⟩
  have ha : (⟨g, 0, none⟩ : Addr).add j = ⟨g, j, none⟩ := by unfold Addr.add; split <;> simp_all
  rw [ha, cell_of_row w g j _ _ p h]
  simpa using hu
theorem own8_blk {w : World} {B g : Nat} {l : List UInt8} (K : Blk w g 5 (u8s l).toArray) (hB : B ≤ g) (hm : l.length ≤ 1000000) : Own8 B w (.slice (some ⟨g, 0, none⟩) l.length l.length) l :=
  ⟨by rw [u8s_length, Nat.mul_one], .inr ⟨g, l.length, (u8s l).toArray, rfl, hB, K, Nat.le_refl _, by unfold maxLen; omega, by simp [u8s_length], by rw [List.take_of_length_le (by simp [u8s_length])]⟩⟩
theorem u8s_one' (l : List UInt8) : (u8s l).all (·.oneCell') = true := by
  rw [u8s_map, List.all_map, List.all_eq_true]
  intro x _
  rfl
theorem u8s_len32 {l : List UInt8} (h : l.length = 32) : (u8s l).length = 32 := by rw [u8s_length, h]
set_option maxRecDepth 100000 in
set_option maxHeartbeats 1000000 in
theorem frame_any (k : Nat) (hk1 : 1 ≤ k) (hk3 : k ≤ 3) (A : Option Addr) (n c : Nat) (p : List UInt8) (hl : p.length = n) (hn : n ≤ 30000) (w : World) (hr : Reads w w.heap.size 1 A n (u8s p)) :
    Calls Tryz.prog 35 #[.int .i64 (k : Nat), .slice A n c] w fun ev w' => ∃ v, ev = .returned (.tuple #[v, .int .i64 0]) ∧ Own8 w.heap.size w' v (frameB k p) ∧ Below w.heap.size w w' := by
  have f1 : decide ((k : Int) < 1) = false := by simp; omega
  have f2 : decide ((3 : Int) < (k : Int)) = false := by simp; omega
  have f3 : decide ((30000 : Int) < (n : Int)) = false := by simp; omega
  refine calls_at 46 Tryz.func35 rfl rfl (Nat.le_of_ble_eq_true rfl) ?_
  intro a hA
  simp only [argsE, keepE, lookS, Nat.reduceBEq, cond_true, cond_false, Nat.reduceAdd, gv_tt, gv_ff, Bool.true_and, Bool.false_and, Bool.true_or, Bool.false_or] at hA
  refine wp_seq ?_
  refine wp_region_lit ?_
  refine wl_op hA rfl rfl (by decide) (fun ev h => by simp [go_sem, h.c, f1, f2, f3]; try first | exact ⟨rfl, rfl⟩ | rfl) fun a1 hA1 => ?_
  refine wl_op hA1 rfl rfl (by decide) (fun ev h => by simp [go_sem, h.c, f1, f2, f3]; try first | exact ⟨rfl, rfl⟩ | rfl) fun a2 hA2 => ?_
  refine wl_nil ?_
  refine n_then ?_
  have hA3 := hA2.keep [0, 1]
  simp only [argsE, keepE, lookS, Nat.reduceBEq, cond_true, cond_false, Nat.reduceAdd, gv_tt, gv_ff, Bool.true_and, Bool.false_and, Bool.true_or, Bool.false_or] at hA3
  clear hA hA1 hA2 a1
  refine wp_seq ?_
  refine wp_block ?_
  refine wp_seq ?_
  refine wp_region_lit ?_
  refine wl_op hA3 rfl rfl (by decide) (fun ev h => by simp [go_sem, h.get 0 rfl, f1, f2, f3]; try first | exact ⟨rfl, rfl⟩ | rfl) fun a4 hA4 => ?_
  refine wl_op hA4 rfl rfl (by decide) (fun ev h => by simp [go_sem, h.c, h.get 11 rfl, f1, f2, f3]; try first | exact ⟨rfl, rfl⟩ | rfl) fun a5 hA5 => ?_
  refine wl_op hA5 rfl rfl (by decide) (fun ev h => by simp [go_sem, h.get 12 rfl, f1, f2, f3]; try first | exact ⟨rfl, rfl⟩ | rfl) fun a6 hA6 => ?_
  refine wl_guard _ hA6 rfl rfl rfl rfl (by decide) (fun hq ev h => by simp [go_sem, (h.get 0 rfl), f1, f2, f3]; try first | exact ⟨rfl, rfl⟩ | rfl) fun a7 hA7 => ?_
  refine wl_guard _ hA7 rfl rfl rfl rfl (by decide) (fun hq ev h => by simp [go_sem, h.c, ((h.get 14 rfl).trans (gw_t (beq_t hq))), f1, f2, f3]; try first | exact ⟨rfl, rfl⟩ | rfl) fun a8 hA8 => ?_
  refine wl_op hA8 rfl rfl (by decide) (fun ev h => by first | exact pick_and rfl (h.get 13 rfl) (h.c _) (h.get 15 rfl) | exact pick_or rfl (h.get 13 rfl) (h.c _) (h.get 15 rfl) | (simp [go_sem, h.c, h.get 13 rfl, h.get 15 rfl, f1, f2, f3, gv_or, gv_and]; try first | exact ⟨rfl, rfl⟩ | rfl)) fun a9 hA9 => ?_
  refine wl_op hA9 rfl rfl (by decide) (fun ev h => by simp [go_sem, h.get 16 rfl, f1, f2, f3]; try first | exact ⟨rfl, rfl⟩ | rfl) fun a10 hA10 => ?_
  refine wl_nil ?_
  refine n_then ?_
  have hA11 := hA10.keep [0, 1, 10]
  simp only [argsE, keepE, lookS, Nat.reduceBEq, cond_true, cond_false, Nat.reduceAdd, gv_tt, gv_ff, Bool.true_and, Bool.false_and, Bool.true_or, Bool.false_or] at hA11
  clear hA3 hA4 hA5 hA6 hA7 hA8 hA9 hA10 a2 a4 a5 a6 a7 a8 a9
  -- cond
  refine wp_if hA11 10 _ rfl (fun hq => ?yA) (fun hq => ?nA)
  case yA => cases hq
  case nA =>
    refine wp_seq ?_
    refine wp_region_lit ?_
    refine wl_op hA11 rfl rfl (by decide) (fun ev h => by simp [go_sem, h.get 1 rfl, f3]; try first | exact ⟨rfl, rfl⟩ | rfl) fun a12 hA12 => ?_
    refine wl_op hA12 rfl rfl (by decide) (fun ev h => by simp [go_sem, h.get 18 rfl, f3]; try first | exact ⟨rfl, rfl⟩ | rfl) fun a13 hA13 => ?_
    refine wl_op hA13 rfl rfl (by decide) (fun ev h => by simp [go_sem, h.c, h.get 19 rfl, f3]; try first | exact ⟨rfl, rfl⟩ | rfl) fun a14 hA14 => ?_
    refine wl_op hA14 rfl rfl (by decide) (fun ev h => by simp [go_sem, h.get 20 rfl, f3]; try first | exact ⟨rfl, rfl⟩ | rfl) fun a15 hA15 => ?_
    refine wl_nil ?_
    refine n_then ?_
    have hA16 := hA15.keep [0, 1, 17]
    simp only [argsE, keepE, lookS, Nat.reduceBEq, cond_true, cond_false, Nat.reduceAdd, gv_tt, gv_ff, Bool.true_and, Bool.false_and, Bool.true_or, Bool.false_or] at hA16
    clear hA11 hA12 hA13 hA14 hA15 a12 a13 a14
    -- cond
    refine wp_if hA16 17 _ rfl (fun hq2 => ?yB) (fun hq2 => ?nB)
    case yB => cases hq2
    case nB =>
      refine wp_skip ?_
      refine n_block ?_
      refine n_then ?_
      refine wp_seq ?_
      refine wp_region_lit ?_
      -- stop alloc slot 6
      refine wl_new hA16 rfl rfl (by decide) (fun ev h => by simp [go_sem, f3]; try first | exact ⟨rfl, rfl⟩ | rfl) fun w1 a17 (Ko : Blk _ _ _ _) hz1 hb1 hA17 => ?_
      obtain ⟨o, ho⟩ : ∃ o, w.heap.size = o := ⟨_, rfl⟩
      have hO : OutAt w1 w.heap.size o [] false (.slice none 0 0) := ⟨by omega, by rw [← ho]; exact Ko, World.ownsRow_nil _ _ _ _⟩
      rw [ho] at hA17
      have hoB : w.heap.size ≤ o := by omega
      clear Ko
      refine wl_nil ?_
      refine n_then ?_
      have hA18 := hA17.keep [0, 1, 6]
      simp only [argsE, keepE, lookS, Nat.reduceBEq, cond_true, cond_false, Nat.reduceAdd, gv_tt, gv_ff, Bool.true_and, Bool.false_and, Bool.true_or, Bool.false_or] at hA18
      clear hA16 hA17
      refine wp_seq ?_
      refine wp_region_lit ?_
      -- stop buildSlice slot 21
      have hcv : (convert 23 23 (.slice (some ⟨w1.heap.size, 0, none⟩) 3 3)).run Tryz.prog (w1.alloc (.cells #[.int .u8 99, .int .u8 117, .int .u8 98] 5)) = .ok (.slice (some ⟨w1.heap.size, 0, none⟩) 3 3) (w1.alloc (.cells #[.int .u8 99, .int .u8 117, .int .u8 98] 5 (3, 4))) := Lib.run_convert_bytes_const (P := Tryz.prog) w1 23 5 #[.int .u8 99, .int .u8 117, .int .u8 98] 3 3 Tryz.underlying23 Tryz.underlying5
      refine wl_op hA18 rfl rfl (by decide) (fun ev h => by simp [go_sem, h.c, f3, Nat.zero_add]; try first | exact ⟨rfl, rfl⟩ | rfl) fun a19 hA19 => ?_
      refine wl_op hA19 rfl rfl (by decide) (fun ev h => by simp [go_sem, h.get 21 rfl, hcv]; try first | exact ⟨rfl, rfl⟩ | rfl) fun a20 hA20 => ?_
      -- stop call slot 23
      have hb2 : Below w1.heap.size w1 (w1.alloc (.cells #[.int .u8 99, .int .u8 117, .int .u8 98] 5 (3, 4))) := (Below.refl _ _).alloc (Nat.le_refl _) _
      have hR2 : Reads (w1.alloc (.cells #[.int .u8 99, .int .u8 117, .int .u8 98] 5 (3, 4))) (w1.alloc (.cells #[.int .u8 99, .int .u8 117, .int .u8 98] 5 (3, 4))).heap.size 1 (some ⟨w1.heap.size, 0, none⟩) 3 (u8s [99, 117, 98]) := blk_reads8 (l := [99, 117, 98]) (heap_alloc_new w1 _)
      generalize w1.alloc (.cells #[.int .u8 99, .int .u8 117, .int .u8 98] 5 (3, 4)) = w2 at *
      obtain ⟨L0, hL0⟩ : ∃ L0, w1.heap.size = L0 := ⟨_, rfl⟩
      have HB := hb1.trans (hb2.mono hb1.size)
      refine wl_call hA20 rfl rfl (by decide) (fun ev h => exec_call Tryz.func33 (by kernel_rfl) rfl (h.f _) (by first | (simp only [List.map_toArray, List.map_cons, List.map_nil, h.get 6 rfl, h.get 22 rfl, h.c]; done) | (simp only [List.map_toArray, List.map_cons, List.map_nil, h.get 6 rfl, h.get 22 rfl, h.c]; rfl) | (simp [List.map_toArray, List.map_cons, List.map_nil, h.get 6 rfl, h.get 22 rfl, h.c, hcv]; done) | (simp [List.map_toArray, List.map_cons, List.map_nil, h.get 6 rfl, h.get 22 rfl, h.c, hcv]; rfl) | rfl)) (out_Raw (hO.below hb2) HB.size (by simp) _ 3 3 [99, 117, 98] rfl (by decide) hR2) ?_
      rintro e w3 ⟨rfl, ⟨v3, hO⟩, hob⟩
      refine ⟨_, rfl, fun a21 hA21 => ?_⟩
      replace HB := HB.trans (hob.toBelow HB.size (Nat.le_refl _) hoB)
      clear hR2 hb2 hcv
      refine wl_nil ?_
      refine n_then ?_
      have hA22 := hA21.keep [0, 1, 6]
      simp only [argsE, keepE, lookS, Nat.reduceBEq, cond_true, cond_false, Nat.reduceAdd, gv_tt, gv_ff, Bool.true_and, Bool.false_and, Bool.true_or, Bool.false_or] at hA22
      clear hA18 hA19 hA20 hA21 a17 a19 a20
      refine wp_seq ?_
      refine wp_region_lit ?_
      refine wl_op hA22 rfl rfl (by decide) (fun ev h => by simp [go_sem, h.get 0 rfl]; try first | exact ⟨rfl, rfl⟩ | rfl) fun a23 hA23 => ?_
      -- stop call slot 25
      refine wl_call hA23 rfl rfl (by decide) (fun ev h => exec_call Tryz.func31 (by kernel_rfl) rfl (h.f _) (by first | (simp only [List.map_toArray, List.map_cons, List.map_nil, h.get 6 rfl, h.get 24 rfl, h.c]; done) | (simp only [List.map_toArray, List.map_cons, List.map_nil, h.get 6 rfl, h.get 24 rfl, h.c]; rfl) | (simp [List.map_toArray, List.map_cons, List.map_nil, h.get 6 rfl, h.get 24 rfl, h.c]; done) | (simp [List.map_toArray, List.map_cons, List.map_nil, h.get 6 rfl, h.get 24 rfl, h.c]; rfl) | rfl)) (out_N hO HB.size (by simp) k 1 (by omega) (show k < 256 ^ 1 by omega)) ?_
      rintro e w4 ⟨rfl, ⟨v4, hO⟩, hob⟩
      refine ⟨_, rfl, fun a24 hA24 => ?_⟩
      replace HB := HB.trans (hob.toBelow HB.size (Nat.le_refl _) hoB)
      refine wl_nil ?_
      refine n_then ?_
      have hA25 := hA24.keep [1, 6]
      simp only [argsE, keepE, lookS, Nat.reduceBEq, cond_true, cond_false, Nat.reduceAdd, gv_tt, gv_ff, Bool.true_and, Bool.false_and, Bool.true_or, Bool.false_or] at hA25
      clear hA22 hA23 hA24 a21 a23
      refine wp_seq ?_
      refine wp_region_lit ?_
      refine wl_op hA25 rfl rfl (by decide) (fun ev h => by simp [go_sem, h.get 1 rfl]; try first | exact ⟨rfl, rfl⟩ | rfl) fun a26 hA26 => ?_
      refine wl_op hA26 rfl rfl (by decide) (fun ev h => by simp [go_sem, h.get 26 rfl]; try first | exact ⟨rfl, rfl⟩ | rfl) fun a27 hA27 => ?_
      -- stop call slot 28
      refine wl_call hA27 rfl rfl (by decide) (fun ev h => exec_call Tryz.func31 (by kernel_rfl) rfl (h.f _) (by first | (simp only [List.map_toArray, List.map_cons, List.map_nil, h.get 6 rfl, h.get 27 rfl, h.c]; done) | (simp only [List.map_toArray, List.map_cons, List.map_nil, h.get 6 rfl, h.get 27 rfl, h.c]; rfl) | (simp [List.map_toArray, List.map_cons, List.map_nil, h.get 6 rfl, h.get 27 rfl, h.c]; done) | (simp [List.map_toArray, List.map_cons, List.map_nil, h.get 6 rfl, h.get 27 rfl, h.c]; rfl) | rfl)) (out_N hO HB.size (by simp [be_length]) n 4 (by omega) (show n < 256 ^ 4 by omega)) ?_
      rintro e w5 ⟨rfl, ⟨v5, hO⟩, hob⟩
      refine ⟨_, rfl, fun a28 hA28 => ?_⟩
      replace HB := HB.trans (hob.toBelow HB.size (Nat.le_refl _) hoB)
      have eh : [] ++ [99, 117, 98] ++ be 1 k ++ be 4 n = frameHd k p := by unfold frameHd; rw [hl]; simp [be]
      rw [eh] at hO
      have hdl := frameHd_length k p
      refine wl_nil ?_
      refine n_then ?_
      have hA29 := hA28.keep [1, 6]
      simp only [argsE, keepE, lookS, Nat.reduceBEq, cond_true, cond_false, Nat.reduceAdd, gv_tt, gv_ff, Bool.true_and, Bool.false_and, Bool.true_or, Bool.false_or] at hA29
      clear hA25 hA26 hA27 hA28 a24 a26 a27
      refine wp_seq ?_
      refine wp_region_lit ?_
      -- stop call slot 30
      refine wl_call hA29 rfl rfl (by decide) (fun ev h => exec_call Tryz.func34 (by kernel_rfl) rfl (h.f _) (by first | (simp only [List.map_toArray, List.map_cons, List.map_nil, h.get 6 rfl, h.c]; done) | (simp only [List.map_toArray, List.map_cons, List.map_nil, h.get 6 rfl, h.c]; rfl) | (simp [List.map_toArray, List.map_cons, List.map_nil, h.get 6 rfl, h.c]; done) | (simp [List.map_toArray, List.map_cons, List.map_nil, h.get 6 rfl, h.c]; rfl) | rfl)) (out_End hO (by omega)) ?_
      rintro e w6 ⟨r6, rfl, ho6, hb6⟩
      refine ⟨_, rfl, fun a30 hA30 => ?_⟩
      replace HB := HB.trans (hb6.mono HB.size)
      replace hO := hO.below hb6
      obtain ⟨A6, c6, e6, hR6, _⟩ := own_reads ho6
      subst e6
      refine wl_op hA30 rfl rfl (by decide) (fun ev h => by simp [go_sem, h.get 30 rfl]; try first | exact ⟨rfl, rfl⟩ | rfl) fun a31 hA31 => ?_
      refine wl_op hA31 rfl rfl (by decide) (fun ev h => by simp [go_sem, h.get 29 rfl]; try first | exact ⟨rfl, rfl⟩ | rfl) fun a32 hA32 => ?_
      refine wl_op hA32 rfl rfl (by decide) (fun ev h => by simp [go_sem, h.get 29 rfl]; try first | exact ⟨rfl, rfl⟩ | rfl) fun a33 hA33 => ?_
      refine wl_op hA33 rfl rfl (by decide) (fun ev h => by simp [go_sem, h.get 31 rfl]; try first | exact ⟨rfl, rfl⟩ | rfl) fun a34 hA34 => ?_
      refine wl_op hA34 rfl rfl (by decide) (fun ev h => by simp [go_sem, h.get 32 rfl]; try first | exact ⟨rfl, rfl⟩ | rfl) fun a35 hA35 => ?_
      refine wl_nil ?_
      refine n_then ?_
      have hA36 := hA35.keep [1, 6, 7]
      simp only [argsE, keepE, lookS, Nat.reduceBEq, cond_true, cond_false, Nat.reduceAdd, gv_tt, gv_ff, Bool.true_and, Bool.false_and, Bool.true_or, Bool.false_or] at hA36
      clear hA29 hA30 hA31 hA32 hA33 hA34 hA35 a28 a30 a31 a32 a33 a34
      refine wp_seq ?_
      refine wp_region_lit ?_
      refine wl_op hA36 rfl rfl (by decide) (fun ev h => by simp [go_sem, h.get 7 rfl]; try first | exact ⟨rfl, rfl⟩ | rfl) fun a37 hA37 => ?_
      -- stop call slot 34
      refine wl_call hA37 rfl rfl (by decide) (fun ev h => exec_call Tryz.func60 (by kernel_rfl) rfl (h.f _) (by first | (simp only [List.map_toArray, List.map_cons, List.map_nil, h.get 33 rfl, h.c]; done) | (simp only [List.map_toArray, List.map_cons, List.map_nil, h.get 33 rfl, h.c]; rfl) | (simp [List.map_toArray, List.map_cons, List.map_nil, h.get 33 rfl, h.c]; done) | (simp [List.map_toArray, List.map_cons, List.map_nil, h.get 33 rfl, h.c]; rfl) | rfl)) (crc_any A6 _ c6 (frameHd k p) _ rfl (by omega) hR6) ?_
      rintro e w7 ⟨rfl, rfl⟩
      refine ⟨_, rfl, fun a38 hA38 => ?_⟩
      have hcl := crc_bound (frameHd k p)
      obtain ⟨cr, hcr⟩ : ∃ cr, crc (frameHd k p) = cr := ⟨_, rfl⟩
      rw [hcr] at hA38 hcl
      have hwc : IntKind.i64.wrap (cr : Int) = (cr : Int) := IntWalk.i64_in _ (by omega)
      refine wl_op hA38 rfl rfl (by decide) (fun ev h => by simp [go_sem, h.get 34 rfl, hwc]; try first | exact ⟨rfl, rfl⟩ | rfl) fun a39 hA39 => ?_
      -- stop call slot 36
      refine wl_call hA39 rfl rfl (by decide) (fun ev h => exec_call Tryz.func31 (by kernel_rfl) rfl (h.f _) (by first | (simp only [List.map_toArray, List.map_cons, List.map_nil, h.get 6 rfl, h.get 35 rfl, h.c]; done) | (simp only [List.map_toArray, List.map_cons, List.map_nil, h.get 6 rfl, h.get 35 rfl, h.c]; rfl) | (simp [List.map_toArray, List.map_cons, List.map_nil, h.get 6 rfl, h.get 35 rfl, h.c, hwc]; done) | (simp [List.map_toArray, List.map_cons, List.map_nil, h.get 6 rfl, h.get 35 rfl, h.c, hwc]; rfl) | rfl)) (out_N hO HB.size (by omega) cr 4 (by omega) (show cr < 256 ^ 4 by omega)) ?_
      rintro e w8 ⟨rfl, ⟨v8, hO⟩, hob⟩
      refine ⟨_, rfl, fun a40 hA40 => ?_⟩
      replace HB := HB.trans (hob.toBelow HB.size (Nat.le_refl _) hoB)
      clear hR6 ho6
      refine wl_nil ?_
      refine n_then ?_
      have hA41 := hA40.keep [1, 6]
      simp only [argsE, keepE, lookS, Nat.reduceBEq, cond_true, cond_false, Nat.reduceAdd, gv_tt, gv_ff, Bool.true_and, Bool.false_and, Bool.true_or, Bool.false_or] at hA41
      clear hA36 hA37 hA38 hA39 hA40 a35 a37 a38 a39
      refine wp_seq ?_
      refine wp_region_lit ?_
      refine wl_op hA41 rfl rfl (by decide) (fun ev h => by simp [go_sem, h.get 1 rfl]; try first | exact ⟨rfl, rfl⟩ | rfl) fun a42 hA42 => ?_
      -- stop call slot 38
      refine wl_call hA42 rfl rfl (by decide) (fun ev h => exec_call Tryz.func61 (by kernel_rfl) rfl (h.f _) (by first | (simp only [List.map_toArray, List.map_cons, List.map_nil, h.get 37 rfl, h.c]; done) | (simp only [List.map_toArray, List.map_cons, List.map_nil, h.get 37 rfl, h.c]; rfl) | (simp [List.map_toArray, List.map_cons, List.map_nil, h.get 37 rfl, h.c]; done) | (simp [List.map_toArray, List.map_cons, List.map_nil, h.get 37 rfl, h.c]; rfl) | rfl)) (digest_any A n c p hl (by omega) _ ((hr.below HB).more HB.size)) ?_
      rintro e w9 ⟨rfl, hb9⟩
      refine ⟨_, rfl, fun a43 hA43 => ?_⟩
      replace HB := HB.trans (hb9.mono HB.size)
      replace hO := hO.below hb9
      -- stop alloc slot 9
      refine wl_new hA43 rfl rfl (by decide) (fun ev h => by simp [go_sem]; try first | exact ⟨rfl, rfl⟩ | rfl) fun w10 a44 (K9 : Blk _ _ _ _) hz10 hb10 hA44 => ?_
      have hd32 := u8s_len32 (digest_length p)
      -- stop store slot None
      refine wl_setw (u8s (digest p)) hA44 rfl rfl K9 (by rfl) hd32 (by kernel_rfl) (u8s_one' _) rfl (fun ev h => ⟨h.get 9 rfl, h.get 38 rfl⟩) fun w11 (K9 : Blk _ _ _ _) hs => ?_
      have hb11 := hs.below hb10 (Nat.le_refl _)
      replace HB := HB.trans (hb11.mono HB.size)
      replace hO := hO.below hb11
      have hR9 := blk_reads8 (l := digest p) K9
      rw [digest_length] at hR9
      clear hb10 hb11 hs hb9
      refine wl_nil ?_
      refine n_then ?_
      have hA45 := hA44.keep [1, 6, 9]
      simp only [argsE, keepE, lookS, Nat.reduceBEq, cond_true, cond_false, Nat.reduceAdd, gv_tt, gv_ff, Bool.true_and, Bool.false_and, Bool.true_or, Bool.false_or] at hA45
      clear hA41 hA42 hA43 hA44 a40 a42 a43
      refine wp_seq ?_
      refine wp_region_lit ?_
      refine wl_op hA45 rfl rfl (by decide) (fun ev h => by simp [go_sem, h.get 9 rfl]; try first | exact ⟨rfl, rfl⟩ | rfl) fun a46 hA46 => ?_
      -- stop call slot 40
      refine wl_call hA46 rfl rfl (by decide) (fun ev h => exec_call Tryz.func33 (by kernel_rfl) rfl (h.f _) (by first | (simp only [List.map_toArray, List.map_cons, List.map_nil, h.get 6 rfl, h.get 39 rfl, h.c]; done) | (simp only [List.map_toArray, List.map_cons, List.map_nil, h.get 6 rfl, h.get 39 rfl, h.c]; rfl) | (simp [List.map_toArray, List.map_cons, List.map_nil, h.get 6 rfl, h.get 39 rfl, h.c]; done) | (simp [List.map_toArray, List.map_cons, List.map_nil, h.get 6 rfl, h.get 39 rfl, h.c]; rfl) | rfl)) (out_Raw hO HB.size (by simp [be_length]; omega) _ 32 _ (digest p) (digest_length p) (by decide) hR9) ?_
      rintro e w12 ⟨rfl, ⟨v12, hO⟩, hob⟩
      refine ⟨_, rfl, fun a47 hA47 => ?_⟩
      replace HB := HB.trans (hob.toBelow HB.size (Nat.le_refl _) hoB)
      have hdg := digest_length p
      refine wl_nil ?_
      refine n_then ?_
      have hA48 := hA47.keep [1, 6]
      simp only [argsE, keepE, lookS, Nat.reduceBEq, cond_true, cond_false, Nat.reduceAdd, gv_tt, gv_ff, Bool.true_and, Bool.false_and, Bool.true_or, Bool.false_or] at hA48
      clear hA45 hA46 hA47 a44 a46
      refine wp_seq ?_
      refine wp_region_lit ?_
      refine wl_op hA48 rfl rfl (by decide) (fun ev h => by simp [go_sem, h.get 1 rfl]; try first | exact ⟨rfl, rfl⟩ | rfl) fun a49 hA49 => ?_
      -- stop call slot 42
      refine wl_call hA49 rfl rfl (by decide) (fun ev h => exec_call Tryz.func33 (by kernel_rfl) rfl (h.f _) (by first | (simp only [List.map_toArray, List.map_cons, List.map_nil, h.get 6 rfl, h.get 41 rfl, h.c]; done) | (simp only [List.map_toArray, List.map_cons, List.map_nil, h.get 6 rfl, h.get 41 rfl, h.c]; rfl) | (simp [List.map_toArray, List.map_cons, List.map_nil, h.get 6 rfl, h.get 41 rfl, h.c]; done) | (simp [List.map_toArray, List.map_cons, List.map_nil, h.get 6 rfl, h.get 41 rfl, h.c]; rfl) | rfl)) (out_Raw hO HB.size (by simp [be_length]; omega) A n c p hl (by omega) ((hr.below HB).more HB.size)) ?_
      rintro e w13 ⟨rfl, ⟨v13, hO⟩, hob⟩
      refine ⟨_, rfl, fun a50 hA50 => ?_⟩
      replace HB := HB.trans (hob.toBelow HB.size (Nat.le_refl _) hoB)
      have hfe : frameHd k p ++ be 4 cr ++ digest p ++ p = frameB k p := by rw [← hcr]; rfl
      rw [hfe] at hO
      have hfl := frameB_length k p
      refine wl_nil ?_
      refine n_then ?_
      have hA51 := hA50.keep [6]
      simp only [argsE, keepE, lookS, Nat.reduceBEq, cond_true, cond_false, Nat.reduceAdd, gv_tt, gv_ff, Bool.true_and, Bool.false_and, Bool.true_or, Bool.false_or] at hA51
      clear hA48 hA49 hA50 a47 a49
      refine wp_seq ?_
      refine wp_region_lit ?_
      -- stop call slot 43
      refine wl_call hA51 rfl rfl (by decide) (fun ev h => exec_call Tryz.func34 (by kernel_rfl) rfl (h.f _) (by first | (simp only [List.map_toArray, List.map_cons, List.map_nil, h.get 6 rfl, h.c]; done) | (simp only [List.map_toArray, List.map_cons, List.map_nil, h.get 6 rfl, h.c]; rfl) | (simp [List.map_toArray, List.map_cons, List.map_nil, h.get 6 rfl, h.c]; done) | (simp [List.map_toArray, List.map_cons, List.map_nil, h.get 6 rfl, h.c]; rfl) | rfl)) (out_End hO (by omega)) ?_
      rintro e w14 ⟨r14, rfl, ho14, hb14⟩
      refine ⟨_, rfl, fun a52 hA52 => ?_⟩
      refine wl_op hA52 rfl rfl (by decide) (fun ev h => by simp [go_sem, h.get 43 rfl]; try first | exact ⟨rfl, rfl⟩ | rfl) fun a53 hA53 => ?_
      refine wl_op hA53 rfl rfl (by decide) (fun ev h => by simp [go_sem, h.get 43 rfl]; try first | exact ⟨rfl, rfl⟩ | rfl) fun a54 hA54 => ?_
      refine wl_op hA54 rfl rfl (by decide) (fun ev h => by simp [go_sem, h.get 44 rfl]; try first | exact ⟨rfl, rfl⟩ | rfl) fun a55 hA55 => ?_
      refine wl_op hA55 rfl rfl (by decide) (fun ev h => by simp [go_sem, h.get 45 rfl]; try first | exact ⟨rfl, rfl⟩ | rfl) fun a56 hA56 => ?_
      refine wl_nil ?_
      refine n_then ?_
      have hA57 := hA56.keep [4, 5]
      simp only [argsE, keepE, lookS, Nat.reduceBEq, cond_true, cond_false, Nat.reduceAdd, gv_tt, gv_ff, Bool.true_and, Bool.false_and, Bool.true_or, Bool.false_or] at hA57
      clear hA51 hA52 hA53 hA54 hA55 hA56 a50 a52 a53 a54 a55
      refine wp_ret ?_
      -- ret
      refine ret_2 hA57 4 5 rfl rfl rfl ?_
      exact ⟨_, rfl, own_mono (Own8.of ho14) HB.size, HB.trans (hb14.mono HB.size)⟩
set_option maxRecDepth 100000 in
set_option maxHeartbeats 1000000 in
theorem refFrame_any (k : Nat) (hk1 : 1 ≤ k) (hk3 : k ≤ 3) (A : Option Addr) (n c : Nat) (p : List UInt8) (hl : p.length = n) (hn : n ≤ 30000) (w : World) (hr : Reads w w.heap.size 1 A n (u8s p)) :
    Calls Tryz.prog 16 #[.int .i64 (k : Nat), .slice A n c] w fun ev w' => ∃ v, ev = .returned v ∧ Own8 w.heap.size w' v (frameB k p) ∧ Below w.heap.size w w' := by
  have q1 : IntKind.u8.wrap (k : Int) = (((UInt8.ofNat k).toNat : Nat) : Int) := by rw [IntKind.wrap_u8']; simp
  have q2 : IntKind.u64.wrap (n : Int) = (n : Int) := IntWalk.u64_in _ (by omega)
  refine calls_at 28 Tryz.func16 rfl rfl (Nat.le_of_ble_eq_true rfl) ?_
  intro a hA
  simp only [argsE, keepE, lookS, Nat.reduceBEq, cond_true, cond_false, Nat.reduceAdd, gv_tt, gv_ff, Bool.true_and, Bool.false_and, Bool.true_or, Bool.false_or] at hA
  refine wp_seq ?_
  refine wp_region_lit ?_
  refine wl_op hA rfl rfl (by decide) (fun ev h => by simp [go_sem, h.c, q1, q2]; try first | exact ⟨rfl, rfl⟩ | rfl) fun a58 hA58 => ?_
  refine wl_nil ?_
  refine n_then ?_
  have hA59 := hA58.keep [0, 1]
  simp only [argsE, keepE, lookS, Nat.reduceBEq, cond_true, cond_false, Nat.reduceAdd, gv_tt, gv_ff, Bool.true_and, Bool.false_and, Bool.true_or, Bool.false_or] at hA59
  clear hA hA58
  refine wp_seq ?_
  refine wp_region_lit ?_
  refine wl_op hA59 rfl rfl (by decide) (fun ev h => by simp [go_sem, h.get 0 rfl, q1, q2]; try first | exact ⟨rfl, rfl⟩ | rfl) fun a60 hA60 => ?_
  refine wl_op hA60 rfl rfl (by decide) (fun ev h => by simp [go_sem, h.get 7 rfl, q1, q2]; try first | exact ⟨rfl, rfl⟩ | rfl) fun a61 hA61 => ?_
  -- stop buildSlice slot 9
  refine wl_new hA61 rfl rfl (by decide) (fun ev h => by simp [go_sem, h.c, h.get 8 rfl, q1, q2]; try first | exact ⟨rfl, rfl⟩ | rfl) fun w1 a62 (K1 : Blk _ _ _ _) hz1 hb1 hA62 => ?_
  have ho1 : Own8 w.heap.size w1 (.slice (some ⟨w.heap.size, 0, none⟩) 4 4) [99, 117, 98, UInt8.ofNat k] := own8_blk (l := [99, 117, 98, UInt8.ofNat k]) K1 (Nat.le_refl _) (by simp)
  have HB : Below w.heap.size w w1 := hb1
  clear K1 hb1
  refine wl_op hA62 rfl rfl (by decide) (fun ev h => by simp [go_sem, h.get 1 rfl, q1, q2]; try first | exact ⟨rfl, rfl⟩ | rfl) fun a63 hA63 => ?_
  refine wl_op hA63 rfl rfl (by decide) (fun ev h => by simp [go_sem, h.get 10 rfl, q1, q2]; try first | exact ⟨rfl, rfl⟩ | rfl) fun a64 hA64 => ?_
  refine wl_op hA64 rfl rfl (by decide) (fun ev h => by simp [go_sem, h.get 11 rfl, q1, q2]; try first | exact ⟨rfl, rfl⟩ | rfl) fun a65 hA65 => ?_
  -- stop call slot 13
  refine wl_call hA65 rfl rfl (by decide) (fun ev h => exec_call Tryz.func46 (by kernel_rfl) rfl (h.f _) (by first | (simp only [List.map_toArray, List.map_cons, List.map_nil, h.get 12 rfl, h.c]; done) | (simp only [List.map_toArray, List.map_cons, List.map_nil, h.get 12 rfl, h.c]; rfl) | (simp [List.map_toArray, List.map_cons, List.map_nil, h.get 12 rfl, h.c, q1, q2]; done) | (simp [List.map_toArray, List.map_cons, List.map_nil, h.get 12 rfl, h.c, q1, q2]; rfl) | rfl)) (refBytes_any n 4 (by omega) (by decide) _) ?_
  rintro e w2 ⟨r2, rfl, ho2, hb2⟩
  refine ⟨_, rfl, fun a66 hA66 => ?_⟩
  replace HB := HB.trans (hb2.mono HB.size)
  replace ho1 := ho1.below hb2
  obtain ⟨r3, w3, hr3, ho3, hg3⟩ := run_app8 ho1 (Own8.of ho2).took (by simp [be_length]) HB.size
  have HB3 := below_app8 HB ho1 hg3 (Nat.le_refl _) HB.size
  refine wl_op hA66 rfl rfl (by decide) (fun ev h => exec_append rfl (h.get 9 rfl) (h.get 13 rfl) hr3) fun a67 hA67 => ?_
  have eh : [99, 117, 98, UInt8.ofNat k] ++ be 4 n = frameHd k p := by unfold frameHd; rw [hl]
  rw [eh] at ho3
  have hdl := frameHd_length k p
  clear HB ho1 ho2 hb2
  obtain ⟨A3, c3, e3, hR3, _⟩ := own_reads ho3
  subst e3
  refine wl_op hA67 rfl rfl (by decide) (fun ev h => by simp [go_sem, h.get 14 rfl, q1, q2]; try first | exact ⟨rfl, rfl⟩ | rfl) fun a68 hA68 => ?_
  refine wl_nil ?_
  refine n_then ?_
  have hA69 := hA68.keep [1, 5]
  simp only [argsE, keepE, lookS, Nat.reduceBEq, cond_true, cond_false, Nat.reduceAdd, gv_tt, gv_ff, Bool.true_and, Bool.false_and, Bool.true_or, Bool.false_or] at hA69
  clear hA59 hA60 hA61 hA62 hA63 hA64 hA65 hA66 hA67 hA68 a58 a60 a61 a62 a63 a64 a65 a66 a67
  refine wp_seq ?_
  refine wp_region_lit ?_
  refine wl_op hA69 rfl rfl (by decide) (fun ev h => by simp [go_sem, h.get 5 rfl, q1, q2]; try first | exact ⟨rfl, rfl⟩ | rfl) fun a70 hA70 => ?_
  refine wl_op hA70 rfl rfl (by decide) (fun ev h => by simp [go_sem, h.get 5 rfl, q1, q2]; try first | exact ⟨rfl, rfl⟩ | rfl) fun a71 hA71 => ?_
  -- stop call slot 17
  refine wl_call hA71 rfl rfl (by decide) (fun ev h => exec_call Tryz.func48 (by kernel_rfl) rfl (h.f _) (by first | (simp only [List.map_toArray, List.map_cons, List.map_nil, h.get 16 rfl, h.c]; done) | (simp only [List.map_toArray, List.map_cons, List.map_nil, h.get 16 rfl, h.c]; rfl) | (simp [List.map_toArray, List.map_cons, List.map_nil, h.get 16 rfl, h.c, q1, q2]; done) | (simp [List.map_toArray, List.map_cons, List.map_nil, h.get 16 rfl, h.c, q1, q2]; rfl) | rfl)) (refCrc_any A3 _ c3 (frameHd k p) _ rfl (by omega) hR3) ?_
  rintro e w4 ⟨rfl, rfl⟩
  refine ⟨_, rfl, fun a72 hA72 => ?_⟩
  have hcl := crc_bound (frameHd k p)
  obtain ⟨cr, hcr⟩ : ∃ cr, crc (frameHd k p) = cr := ⟨_, rfl⟩
  rw [hcr] at hA72 hcl
  have hwc : IntKind.u64.wrap (cr : Int) = (cr : Int) := IntWalk.u64_in _ (by omega)
  refine wl_op hA72 rfl rfl (by decide) (fun ev h => by simp [go_sem, h.get 17 rfl, hwc]; try first | exact ⟨rfl, rfl⟩ | rfl) fun a73 hA73 => ?_
  -- stop call slot 19
  refine wl_call hA73 rfl rfl (by decide) (fun ev h => exec_call Tryz.func46 (by kernel_rfl) rfl (h.f _) (by first | (simp only [List.map_toArray, List.map_cons, List.map_nil, h.get 18 rfl, h.c]; done) | (simp only [List.map_toArray, List.map_cons, List.map_nil, h.get 18 rfl, h.c]; rfl) | (simp [List.map_toArray, List.map_cons, List.map_nil, h.get 18 rfl, h.c, hwc]; done) | (simp [List.map_toArray, List.map_cons, List.map_nil, h.get 18 rfl, h.c, hwc]; rfl) | rfl)) (refBytes_any cr 4 (by omega) (by decide) _) ?_
  rintro e w5 ⟨r5, rfl, ho5, hb5⟩
  refine ⟨_, rfl, fun a74 hA74 => ?_⟩
  replace HB3 := HB3.trans (hb5.mono HB3.size)
  replace ho3 := ho3.below hb5
  obtain ⟨r6, w6, hr6, ho6, hg6⟩ := run_app8 ho3 (Own8.of ho5).took (by simp [be_length]; omega) HB3.size
  have HB6 := below_app8 HB3 ho3 hg6 (Nat.le_refl _) HB3.size
  refine wl_op hA74 rfl rfl (by decide) (fun ev h => exec_append rfl (h.get 15 rfl) (h.get 19 rfl) hr6) fun a75 hA75 => ?_
  clear HB3 ho3 ho5 hb5 hR3
  refine wl_op hA75 rfl rfl (by decide) (fun ev h => by simp [go_sem, h.get 20 rfl]; try first | exact ⟨rfl, rfl⟩ | rfl) fun a76 hA76 => ?_
  refine wl_nil ?_
  refine n_then ?_
  have hA77 := hA76.keep [1, 5]
  simp only [argsE, keepE, lookS, Nat.reduceBEq, cond_true, cond_false, Nat.reduceAdd, gv_tt, gv_ff, Bool.true_and, Bool.false_and, Bool.true_or, Bool.false_or] at hA77
  clear hA69 hA70 hA71 hA72 hA73 hA74 hA75 hA76 a68 a70 a71 a72 a73 a74 a75
  refine wp_seq ?_
  refine wp_region_lit ?_
  refine wl_op hA77 rfl rfl (by decide) (fun ev h => by simp [go_sem, h.get 1 rfl]; try first | exact ⟨rfl, rfl⟩ | rfl) fun a78 hA78 => ?_
  -- stop call slot 22
  refine wl_call hA78 rfl rfl (by decide) (fun ev h => exec_call Tryz.func49 (by kernel_rfl) rfl (h.f _) (by first | (simp only [List.map_toArray, List.map_cons, List.map_nil, h.get 21 rfl, h.c]; done) | (simp only [List.map_toArray, List.map_cons, List.map_nil, h.get 21 rfl, h.c]; rfl) | (simp [List.map_toArray, List.map_cons, List.map_nil, h.get 21 rfl, h.c]; done) | (simp [List.map_toArray, List.map_cons, List.map_nil, h.get 21 rfl, h.c]; rfl) | rfl)) (refDigest_any A n c p hl (by omega) _ ((hr.below HB6).more HB6.size)) ?_
  rintro e w7 ⟨rfl, hb7⟩
  refine ⟨_, rfl, fun a79 hA79 => ?_⟩
  replace HB6 := HB6.trans (hb7.mono HB6.size)
  replace ho6 := ho6.below hb7
  -- stop alloc slot 6
  refine wl_new hA79 rfl rfl (by decide) (fun ev h => by simp [go_sem]; try first | exact ⟨rfl, rfl⟩ | rfl) fun w8 a80 (K8 : Blk _ _ _ _) hz8 hb8 hA80 => ?_
  have hd32 := u8s_len32 (digest_length p)
  -- stop store slot None
  refine wl_setw (u8s (digest p)) hA80 rfl rfl K8 (by rfl) hd32 (by kernel_rfl) (u8s_one' _) rfl (fun ev h => ⟨h.get 6 rfl, h.get 22 rfl⟩) fun w9 (K8 : Blk _ _ _ _) hs => ?_
  have hb9 := hs.below hb8 (Nat.le_refl _)
  replace HB6 := HB6.trans (hb9.mono HB6.size)
  replace ho6 := ho6.below hb9
  have hR9 := blk_reads8 (l := digest p) K8
  clear hb8 hb9 hs
  obtain ⟨A6, c6, e6, _, _⟩ := own_reads ho6
  subst e6
  refine wl_nil ?_
  refine n_then ?_
  have hA81 := hA80.keep [1, 5, 6]
  simp only [argsE, keepE, lookS, Nat.reduceBEq, cond_true, cond_false, Nat.reduceAdd, gv_tt, gv_ff, Bool.true_and, Bool.false_and, Bool.true_or, Bool.false_or] at hA81
  clear hA77 hA78 hA79 hA80 a76 a78 a79
  refine wp_seq ?_
  refine wp_region_lit ?_
  refine wl_op hA81 rfl rfl (by decide) (fun ev h => by simp [go_sem, h.get 5 rfl]; try first | exact ⟨rfl, rfl⟩ | rfl) fun a82 hA82 => ?_
  refine wl_op hA82 rfl rfl (by decide) (fun ev h => by simp [go_sem, h.get 6 rfl]; try first | exact ⟨rfl, rfl⟩ | rfl) fun a83 hA83 => ?_
  -- stop call slot 25
  have hdg := digest_length p
  obtain ⟨r10, w10, hr10, ho10, hg10⟩ := run_app8 ho6 (u := .slice (some ⟨w7.heap.size, 0, none⟩) 32 32) ⟨_, 32, by rw [hdg], hR9⟩ (by simp [be_length]; omega) HB6.size
  have HB10 := below_app8 HB6 ho6 hg10 (Nat.le_refl _) HB6.size
  refine wl_op hA83 rfl rfl (by decide) (fun ev h => exec_append rfl (h.get 23 rfl) (h.get 24 rfl) hr10) fun a84 hA84 => ?_
  clear HB6 ho6 hR9
  refine wl_op hA84 rfl rfl (by decide) (fun ev h => by simp [go_sem, h.get 1 rfl]; try first | exact ⟨rfl, rfl⟩ | rfl) fun a85 hA85 => ?_
  -- stop call slot 27
  obtain ⟨r11, w11, hr11, ho11, hg11⟩ := run_app8 ho10 (u := .slice A n c) ⟨A, c, by rw [hl], by rw [hl]; exact (hr.below HB10).more HB10.size⟩ (by simp [be_length]; omega) HB10.size
  have HB11 := below_app8 HB10 ho10 hg11 (Nat.le_refl _) HB10.size
  refine wl_op hA85 rfl rfl (by decide) (fun ev h => exec_append rfl (h.get 25 rfl) (h.get 26 rfl) hr11) fun a86 hA86 => ?_
  refine wl_op hA86 rfl rfl (by decide) (fun ev h => by simp [go_sem, h.get 27 rfl]; try first | exact ⟨rfl, rfl⟩ | rfl) fun a87 hA87 => ?_
  refine wl_nil ?_
  refine n_then ?_
  have hA88 := hA87.keep [4]
  simp only [argsE, keepE, lookS, Nat.reduceBEq, cond_true, cond_false, Nat.reduceAdd, gv_tt, gv_ff, Bool.true_and, Bool.false_and, Bool.true_or, Bool.false_or] at hA88
  clear hA81 hA82 hA83 hA84 hA85 hA86 hA87 a80 a82 a83 a84 a85 a86
  refine wp_ret ?_
  -- ret
  refine ret_1 hA88 4 rfl rfl ?_
  have hfe : frameHd k p ++ be 4 cr ++ digest p ++ p = frameB k p := by rw [← hcr]; rfl
  rw [hfe] at ho11
  exact ⟨_, rfl, ho11, HB11⟩
end Go.Proofs.YtmjikfeaopmejaaGreatDoor
/-
  Plain laws on lists of bytes: what stands between signs.
-/
namespace Go.Proofs.YtmjikfeaopmejaaGreatDoor
/-- what stands between the signs c -/
def splitC (c : UInt8) : List UInt8 → List (List UInt8)
  | [] => [[]]
  | b :: l => if b = c then [] :: splitC c l else match splitC c l with
    | [] => [[b]]
    | p :: ps => (b :: p) :: ps
theorem splitC_ne (c : UInt8) (l : List UInt8) : splitC c l ≠ [] := by
  cases l with
  | nil => simp [splitC]
  | cons b l => unfold splitC; split; · simp
                split <;> simp
theorem count_nil (c : UInt8) : Lib.count [] [c] = 0 := by rw [Lib.count_one]; rfl
theorem index_none_of_count (c : UInt8) (l : List UInt8) (h : Lib.index l [c] = -1) : Lib.count l [c] = 0 := Lib.count_miss h
theorem splitK_one (c : UInt8) : ∀ l : List UInt8, Lib.splitK [c] 0 (Lib.count l [c]) l = splitC c l
  | [] => by rw [count_nil]; rfl
  | b :: l => by
    have ih := splitK_one c l
    unfold splitC
    by_cases hb : b = c
    · subst hb
      rw [if_pos rfl, Lib.count_cons_eq, Nat.add_comm]
      have hi : Lib.index (b :: l) [b] = 0 := by unfold Lib.index; simp
      unfold Lib.splitK
      rw [hi]
      simp [ih]
    · rw [if_neg hb, Lib.count_cons_ne _ _ _ hb]
      cases hk : Lib.count l [c] with
      | zero =>
        rw [hk] at ih
        rw [← ih]; rfl
      | succ k =>
        rw [hk] at ih
        have hne : ¬ Lib.index l [c] = -1 := fun h => by rw [Lib.count_miss h] at hk; cases hk
        have hge := Lib.index_ge l [c]
        obtain ⟨i, hi⟩ : ∃ i : Nat, Lib.index l [c] = i := ⟨(Lib.index l [c]).toNat, by omega⟩
        have hib : Lib.index (b :: l) [c] = ((i + 1 : Nat) : Int) := by
          unfold Lib.index
          rw [if_neg (by simp [Ne.symm hb]), hi, if_neg (by simp)]; rfl
        have hn1 : ¬ (((i : Nat) : Int) == -1) = true := by simp
        have hn2 : ¬ (((i + 1 : Nat) : Int) == -1) = true := by simp; omega
        rw [← ih]
        unfold Lib.splitK
        rw [hi, hib, if_neg hn1, if_neg hn2]
        simp only [Int.toNat_natCast, List.length_cons, List.length_nil, Nat.add_zero, Nat.zero_add]
        rfl
def splitsB (c : UInt8) (s : ByteArray) : List ByteArray := Lib.splitB ⟨#[c]⟩ 0 (Lib.countB s ⟨#[c]⟩) s
theorem splitsB_data (c : UInt8) (s : ByteArray) : (splitsB c s).map (·.data.toList) = splitC c s.data.toList := by
  unfold splitsB
  rw [Lib.splitB_data]
  exact splitK_one c _
theorem splitsB_length (c : UInt8) (s : ByteArray) : (splitsB c s).length = Lib.countB s ⟨#[c]⟩ + 1 := Lib.splitB_all ⟨#[c]⟩ (by simp [ByteArray.size]) 0 _ s rfl
theorem splitB_size (sep : ByteArray) (save : Nat) : ∀ (k : Nat) (s q : ByteArray), q ∈ Lib.splitB sep save k s → q.size ≤ s.size
  | 0, s, q, h => by simp [Lib.splitB] at h; subst h; exact Nat.le_refl _
  | k + 1, s, q, h => by
    unfold Lib.splitB at h
    split at h
    · simp at h; subst h; exact Nat.le_refl _
    · rcases List.mem_cons.1 h with rfl | h
      · simp; omega
      · have := splitB_size sep save k _ q h
        simp at this; omega
theorem splitsB_size (c : UInt8) (s q : ByteArray) (h : q ∈ splitsB c s) : q.size ≤ s.size := splitB_size _ _ _ s q h
theorem mem_splitC (c b : UInt8) : ∀ l : List UInt8, b ∈ l → b = c ∨ ∃ p ∈ splitC c l, b ∈ p
  | [], h => by simp at h
  | a :: l, h => by
    unfold splitC
    by_cases ha : a = c
    · rw [if_pos ha]
      rcases List.mem_cons.1 h with rfl | h
      · exact .inl ha
      · rcases mem_splitC c b l h with h | ⟨p, hp, hb⟩
        · exact .inl h
        · exact .inr ⟨p, List.mem_cons_of_mem _ hp, hb⟩
    · rw [if_neg ha]
      rcases List.mem_cons.1 h with rfl | h
      · right
        cases splitC c l with
        | nil => exact ⟨[b], by simp, by simp⟩
        | cons p ps => exact ⟨b :: p, by simp, by simp⟩
      · rcases mem_splitC c b l h with h | ⟨p, hp, hb⟩
        · exact .inl h
        · right
          cases hs : splitC c l with
          | nil => rw [hs] at hp; cases hp
          | cons q qs =>
            rw [hs] at hp
            rcases List.mem_cons.1 hp with rfl | hp
            · exact ⟨a :: p, by simp, by simp [hb]⟩
            · exact ⟨p, by simp [hp], hb⟩
theorem toList_take (s : ByteArray) (k : Nat) (h : k = s.size) : s.data.toList.take k = s.data.toList := List.take_of_length_le (by simp [h])
theorem all_snoc_get {α : Type} (l : List α) (p : α → Bool) (k : Nat) (q : α) (h : l[k]? = some q) (ha : (l.take k).all p = true) (hq : p q = true) : (l.take (k + 1)).all p = true := by
  rw [List.take_add_one, h]; simp [ha, hq]
end Go.Proofs.YtmjikfeaopmejaaGreatDoor
/-
  name.plain, name.Norm, walked.
-/
namespace Go.Proofs.YtmjikfeaopmejaaGreatDoor
open Go.RowKit
def plainI (c : Int) : Bool := decide (97 ≤ c ∧ c ≤ 122 ∨ 65 ≤ c ∧ c ≤ 90 ∨ 48 ≤ c ∧ c ≤ 57 ∨ c = 46 ∨ c = 95 ∨ c = 45)
set_option maxHeartbeats 400000 in
theorem plain_any (c : Int) (h0 : 0 ≤ c) (h1 : c ≤ 255) (w : World) :
    Calls Tryz.prog 82 #[.int .u8 c] w fun e w' => e = .returned (.bool (plainI c)) ∧ w = w' := by
  go_enter Tryz.func82, Tryz.ntmps82
  go_wp2
  all_goals go_ret
  all_goals exact ⟨ret_bool (by unfold plainI; rw [Bool.eq_iff_iff]; simp <;> omega), rfl⟩
def plainB (c : UInt8) : Bool := plainI (c.toNat : Int)
def okPartL (p : List UInt8) : Bool := !(p == []) && p.all plainB
/-- parts with a slash between -/
def nameOK (l : List UInt8) : Bool := (splitC 47 l).all okPartL
def okPart (p : ByteArray) : Bool := okPartL p.data.toList
def slash : ByteArray := ⟨#[47]⟩
def inboxS : ByteArray := ⟨#[73, 78, 66, 79, 88]⟩
/-- the name that a text is -/
def normV (s : ByteArray) : ByteArray × Bool :=
  if 60 < s.size then (⟨#[]⟩, false) else if nameOK s.data.toList then (if (Lib.toUpperA s.data.toList == [73, 78, 66, 79, 88]) = true then (inboxS, true) else (s, true)) else (⟨#[]⟩, false)
theorem parts_ok (s : ByteArray) : (splitsB 47 s).all okPart = nameOK s.data.toList := by
  unfold nameOK; rw [← splitsB_data, List.all_map]; rfl
theorem normV_bad (s q : ByteArray) (hs : s.size ≤ 60) (k : Nat) (h : (splitsB 47 s)[k]? = some q) (hq : okPart q = false) : normV s = (⟨#[]⟩, false) := by
  have hm : q ∈ splitsB 47 s := List.mem_of_getElem? h
  have : nameOK s.data.toList = false := by
    rw [← parts_ok, List.all_eq_false]; exact ⟨q, hm, by simp [hq]⟩
  unfold normV
  rw [if_neg (by omega), this]; rfl
theorem normV_good (s : ByteArray) (hs : s.size ≤ 60) (h : nameOK s.data.toList = true) : normV s = (if (Lib.toUpperA s.data.toList == [73, 78, 66, 79, 88]) = true then (inboxS, true) else (s, true)) := by
  unfold normV
  rw [if_neg (by omega), if_pos h]
theorem okPart_bad (q : ByteArray) (j : Nat) (h : j < q.size) (hp : plainI (q[j].toNat : Int) = false) : okPart q = false := by
  unfold okPart okPartL
  have : q.data.toList.all plainB = false := by
    rw [List.all_eq_false]
    exact ⟨q[j], by rw [show q[j] = q.data.toList[j]'(by simpa using h) from rfl]; exact List.getElem_mem _, by unfold plainB; simp [hp]⟩
  rw [this]; simp
theorem plain_low (c : UInt8) (h : plainB c = true) : c.toNat < 128 := by
  unfold plainB plainI at h; simp at h; omega
theorem nameOK_ascii (l : List UInt8) (h : nameOK l = true) : ∀ (j : Nat) (b : UInt8), l[j]? = some b → b.toNat < 128 := by
  intro j b hb
  rcases mem_splitC 47 b l (List.mem_of_getElem? hb) with rfl | ⟨p, hp, hbp⟩
  · decide
  · have h1 := List.all_eq_true.1 h p hp
    unfold okPartL at h1
    simp only [Bool.and_eq_true] at h1
    exact plain_low b (List.all_eq_true.1 h1.2 b hbp)
set_option maxHeartbeats 1000000 in
theorem norm_any (s : ByteArray) (m : Int) (w : World) (hs : s.size ≤ 60) (hm : w.cell? ⟨0, 0, none⟩ = some (.int .i64 m)) :
    Calls Tryz.prog 62 #[.string s] w fun e w' => e = .returned (.tuple #[.string (normV s).1, .bool (normV s).2]) ∧ Below w.heap.size w w' := by
  have hcl := Lib.countB_le slash (by decide) s.size s (Nat.le_refl _)
  go_enter Tryz.func62, Tryz.ntmps62
  go_wp2_with fail
  refine (Tryz.strings_Split s slash m w (by omega) hm (by decide)).mono ?_
  rintro e w1 ⟨rfl, hw1⟩
  have hb1 : Below w.heap.size w w1 := by rw [hw1]; exact (Below.refl _ _).alloc (Nat.le_refl _) _
  have hk1 : Hid (Blk w1 w.heap.size 9 ((splitsB 47 s).map Value.string).toArray) := by rw [hw1]; exact Blk.new _ _ _
  clear hw1 hm
  have hpl : (splitsB 47 s).length = Lib.countB s slash + 1 := splitsB_length 47 s
  have Hpl := Lib.hid hpl; clear hpl
  go_wp2_with fail
  generalize hn : Lib.countB s slash = n at *
  clear hn
  go_loop [13] (fun i => ∃ k : Nat, i = .int .i64 k ∧ k ≤ n + 1 ∧ Hid (((splitsB 47 s).take k).all okPart = true)) (fun i => n + 1 - (intOf i).toNat)
  case atStart => exact ⟨0, rfl, by omega, rfl⟩
  case round =>
    obtain ⟨k, rfl, hk, hall⟩ := hrel
    by_cases hlt : k < n + 1
    · obtain ⟨q, hq⟩ : ∃ q, (splitsB 47 s)[k]? = some q := ⟨(splitsB 47 s)[k]'(by rw [Hpl.out]; exact hlt), List.getElem?_eq_getElem (by rw [Hpl.out]; exact hlt)⟩
      have hc := hk1.out.cell k
      rw [show (((splitsB 47 s).map Value.string).toArray)[k]? = some (.string q) from by simp [hq]] at hc
      have Hq := Lib.hid hq; clear hq
      have hqs : q.size ≤ 60 := by have := splitsB_size 47 s q (List.mem_of_getElem? Hq.out); omega
      rcases Bool.eq_false_or_eq_true q.toList.isEmpty with he | he
      · have hv := normV_bad s q hs k Hq.out (by unfold okPart okPartL; rw [← ByteArray.toList_eq]; simp [List.isEmpty_iff.1 he])
        have Hv := Lib.hid hv; clear hv
        go_wp2
        go_ret2
        exact ⟨by rw [Hv.out]; rfl, hb1⟩
      · go_wp2
        go_loop [21] (fun i => ∃ j : Nat, i = .int .i64 j ∧ j ≤ q.size ∧ Hid ((q.data.toList.take j).all plainB = true)) (fun i => q.size - (intOf i).toNat)
        case atStart => exact ⟨0, rfl, by omega, rfl⟩
        case round =>
          obtain ⟨j, rfl, hj, hpl⟩ := hrel
          by_cases hjl : j < q.size
          · rcases Bool.eq_false_or_eq_true (plainI (q[j].toNat : Int)) with hp | hp
            · go_wp2_with (go_at_call 82; refine (plain_any _ (by omega) (by have := q[j].toNat_lt; omega) _).mono ?_; rintro e w' ⟨rfl, rfl⟩; rw [hp])
              go_round
              case rel =>
                refine ⟨j + 1, by go_num, by omega, ?_⟩
                have h1 := hpl.out
                show (q.data.toList.take (j + 1)).all plainB = true
                rw [take_snoc q j hjl]; simp only [List.all_append, h1, Bool.true_and, List.all_cons, List.all_nil, Bool.and_true]; exact hp
              case measure => simp [intOf] <;> omega
            · have hv := normV_bad s q hs k Hq.out (okPart_bad q j hjl hp)
              have Hv := Lib.hid hv; clear hv
              go_wp2_with (go_at_call 82; refine (plain_any _ (by omega) (by have := q[j].toNat_lt; omega) _).mono ?_; rintro e w' ⟨rfl, rfl⟩; rw [hp])
              go_ret2
              exact ⟨by rw [Hv.out]; rfl, hb1⟩
          · obtain rfl : j = q.size := by omega
            go_wp2
            go_round
            case rel =>
              refine ⟨k + 1, by go_num, by omega, all_snoc_get _ _ _ _ Hq.out hall.out ?_⟩
              have h1 := hpl.out
              rw [toList_take q _ rfl] at h1
              unfold okPart okPartL
              rw [h1, ← ByteArray.toList_eq]
              cases hq : q.toList with
              | nil => rw [hq] at he; cases he
              | cons a b => rfl
            case measure => simp [intOf] <;> omega
    · have hall' : nameOK s.data.toList = true := by
        have := hall.out
        rw [List.take_of_length_le (by rw [Hpl.out]; omega), parts_ok] at this
        exact this
      have hasc := nameOK_ascii _ hall'
      have hv := normV_good s hs hall'
      have Hv := Lib.hid hv; clear hv hall'
      have Ha := Lib.hid hasc; clear hasc
      rcases Bool.eq_false_or_eq_true (Lib.toUpperA s.data.toList == [73, 78, 66, 79, 88]) with he | he
      · have Hw : Hid (normV s = (inboxS, true)) := by rw [Hv.out, if_pos he]; rfl
        clear Hv
        go_wp2_with fail
        refine (Tryz.strings_ToUpper_ascii s w1 (by omega) Ha.out).mono ?_
        rintro e w2 ⟨rfl, hb2⟩
        go_wp2
        go_ret2
        exact ⟨by rw [Hw.out]; rfl, hb1.trans (hb2.mono hb1.size)⟩
      · have Hw : Hid (normV s = (s, true)) := by rw [Hv.out, if_neg (by rw [he]; decide)]; rfl
        clear Hv
        go_wp2_with fail
        refine (Tryz.strings_ToUpper_ascii s w1 (by omega) Ha.out).mono ?_
        rintro e w2 ⟨rfl, hb2⟩
        go_wp2
        go_ret2
        exact ⟨by rw [Hw.out]; rfl, hb1.trans (hb2.mono hb1.size)⟩
theorem norm_long (s : ByteArray) (w : World) (hs : 60 < s.size) (hl : s.size ≤ 9223372036854775807) :
    Calls Tryz.prog 62 #[.string s] w fun e w' => e = .returned (.tuple #[.string (normV s).1, .bool (normV s).2]) ∧ Below w.heap.size w w' := by
  have Hv : Hid (normV s = (⟨#[]⟩, false)) := by show normV s = _; unfold normV; rw [if_pos hs]
  go_enter Tryz.func62, Tryz.ntmps62
  go_wp2
  go_ret2
  exact ⟨by rw [Hv.out]; rfl, Below.refl _ _⟩
/-- name.Norm at every text -/
theorem norm_all (s : ByteArray) (m : Int) (w : World) (hl : s.size ≤ 9223372036854775807) (hm : w.cell? ⟨0, 0, none⟩ = some (.int .i64 m)) :
    Calls Tryz.prog 62 #[.string s] w fun e w' => e = .returned (.tuple #[.string (normV s).1, .bool (normV s).2]) ∧ Below w.heap.size w w' := by
  by_cases hs : s.size ≤ 60
  · exact norm_any s m w hs hm
  · exact norm_long s w (by omega) hl
end Go.Proofs.YtmjikfeaopmejaaGreatDoor
/-
  cubbyref06.small, Alike, Norm, walked.
-/
namespace Go.Proofs.YtmjikfeaopmejaaGreatDoor
open Go.RowKit
def smallI (c : Int) : Int := if 65 ≤ c ∧ c ≤ 90 then c + 32 else c
theorem smallI_lo (c : Int) (h : 0 ≤ c) : 0 ≤ smallI c := by unfold smallI; split <;> omega
theorem smallI_hi (c : Int) (h : c ≤ 255) : smallI c ≤ 255 := by unfold smallI; split <;> omega
set_option maxHeartbeats 400000 in
theorem small_any (c : Int) (h0 : 0 ≤ c) (h1 : c ≤ 255) (w : World) :
    Calls Tryz.prog 73 #[.int .u8 c] w fun e w' => e = .returned (.int .u8 (smallI c)) ∧ w' = w := by
  go_enter Tryz.func73, Tryz.ntmps73
  go_wp2
  all_goals go_ret
  all_goals exact ⟨ret_int (by unfold smallI; split <;> omega), rfl⟩
def smallB (c : UInt8) : Int := smallI (c.toNat : Int)
def alikeL (a b : List UInt8) : Bool := a.map smallB == b.map smallB
theorem map_take_snoc (s : ByteArray) (k : Nat) (h : k < s.size) (f : UInt8 → Int) : (s.data.toList.take (k + 1)).map f = (s.data.toList.take k).map f ++ [f s[k]] := by
  rw [take_snoc s k h]; simp
theorem alike_diff (a b : ByteArray) (k : Nat) (h : k < a.size) (h' : k < b.size) (hne : smallB a[k] ≠ smallB b[k]) : alikeL a.data.toList b.data.toList = false := by
  unfold alikeL
  rw [beq_eq_false_iff_ne]
  intro e
  have := congrArg (fun l => l[k]?) e
  simp only [List.getElem?_map, List.getElem?_eq_getElem (l := a.data.toList) (i := k) (by simpa using h), List.getElem?_eq_getElem (l := b.data.toList) (i := k) (by simpa using h')] at this
  simp at this; exact hne this
set_option maxHeartbeats 400000 in
theorem alike_any (a b : ByteArray) (ha : a.size ≤ 9223372036854775807) (_hb : b.size ≤ 9223372036854775807) (w : World) :
    Calls Tryz.prog 74 #[.string a, .string b] w fun e w' => e = .returned (.bool (alikeL a.data.toList b.data.toList)) ∧ ∃ n, w' = w.drewN n := by
  by_cases hl : a.size = b.size
  · go_enter Tryz.func74, Tryz.ntmps74
    have hl' : ((a.size : Int) != (b.size : Int)) = false := by simp [hl]
    have HL := Lib.hid hl; clear hl
    go_wp2
    go_loopw [13] (fun i wr => ∃ (k n : Nat), i = .int .i64 k ∧ k ≤ a.size ∧ Hid ((a.data.toList.take k).map smallB = (b.data.toList.take k).map smallB) ∧ Hid (wr = w.drewN n)) (fun i _ => a.size - (intOf i).toNat)
    case atStart => exact ⟨0, 0, rfl, by omega, rfl, rfl⟩
    case round =>
      obtain ⟨k, n, rfl, hk, hm, hw⟩ := hrel
      by_cases hlt : k < a.size
      · have hlb : k < b.size := by have := HL.out; omega
        have a0 := smallI_lo (a[k].toNat : Int) (by omega)
        rcases Bool.eq_false_or_eq_true (smallI (a[k].toNat : Int) != smallI (b[k].toNat : Int)) with he | he
        · have Hf := Lib.hid (alike_diff a b k hlt hlb (by simpa [smallB] using he))
          go_wp2
          go_quiet ((go_at_call 73; exact Calls.quiet_of_same (small_any _ (by omega) (by first | (have := a[k].toNat_lt; omega) | (have := b[k].toNat_lt; omega)) _)))
          go_wp2
          go_ret
          exact ⟨ret_bool Hf.out.symm, _, by rw [hw.out, World.drewN_drewN]⟩
        · go_wp2
          go_quiet ((go_at_call 73; exact Calls.quiet_of_same (small_any _ (by omega) (by first | (have := a[k].toNat_lt; omega) | (have := b[k].toNat_lt; omega)) _)))
          go_wp2
          go_roundw
          case rel =>
            refine ⟨k + 1, _, by go_num, by omega, ?_, by show _ = _; rw [hw.out, World.drewN_drewN]⟩
            show List.map smallB _ = List.map smallB _
            rw [map_take_snoc a k hlt, map_take_snoc b k hlb, hm.out]
            congr 2
            simpa [smallB] using he
          case measure => simp [intOf] <;> omega
      · obtain rfl : k = a.size := by omega
        go_wp2
        go_ret
        refine ⟨ret_bool ?_, _, hw.out⟩
        have h1 := hm.out
        rw [toList_take a _ rfl, toList_take b _ HL.out] at h1
        unfold alikeL
        simp [h1]
  · have hl' : ((a.size : Int) != (b.size : Int)) = true := by simp; omega
    have Hf : Hid (alikeL a.data.toList b.data.toList = false) := by
      show alikeL _ _ = false
      unfold alikeL
      rw [beq_eq_false_iff_ne]
      intro e
      have := congrArg List.length e
      simp at this
      exact hl this
    clear hl
    go_enter Tryz.func74, Tryz.ntmps74
    go_wp2
    go_ret
    exact ⟨ret_bool Hf.out.symm, 0, rfl⟩
/-- the reference's scan: at a part's beginning, or inside one -/
def nameScan : Bool → List UInt8 → Bool
  | st, [] => !st
  | st, c :: l => if c = 47 then !st && nameScan true l else plainB c && nameScan false l
def refNormV (s : ByteArray) : ByteArray × Bool :=
  if nameScan true s.data.toList && decide (s.size ≤ 60) then (if alikeL s.data.toList [105, 110, 98, 111, 120] = true then (inboxS, true) else (s, true)) else (⟨#[]⟩, false)
theorem scan_slash (st : Bool) (c : UInt8) (l : List UInt8) (h : c = 47) : nameScan st (c :: l) = (!st && nameScan true l) := by rw [nameScan, if_pos h]
theorem scan_other (st : Bool) (c : UInt8) (l : List UInt8) (h : c ≠ 47) : nameScan st (c :: l) = (plainB c && nameScan false l) := by rw [nameScan, if_neg h]
theorem drop_cons (p : ByteArray) (i : Nat) (h : i < p.size) : p.data.toList.drop i = p[i] :: p.data.toList.drop (i + 1) := by
  rw [List.drop_eq_getElem_cons (by simpa using h)]; rfl
theorem u8_of_int (c : UInt8) (n : Nat) (hn : n < 256) (h : (c.toNat : Int) = n) : c = UInt8.ofNat n := by
  apply UInt8.toNat_inj.1; simp; omega
set_option maxHeartbeats 1000000 in
theorem refNorm_any (s : ByteArray) (hs : s.size ≤ 9223372036854775807) (w : World) :
    Calls Tryz.prog 57 #[.string s] w fun e w' => e = .returned (.tuple #[.string (refNormV s).1, .bool (refNormV s).2]) ∧ ∃ n, w' = w.drewN n := by
  go_enter Tryz.func57, Tryz.ntmps57
  go_wp2
  go_loop [4, 9] (fun last i => ∃ (k : Nat) (c : Int), last = .int .u8 c ∧ 0 ≤ c ∧ c ≤ 255 ∧ i = .int .i64 k ∧ k ≤ s.size ∧ Hid (nameScan true s.data.toList = nameScan (c == 47) (s.data.toList.drop k))) (fun _ i => s.size - (intOf i).toNat)
  case atStart => exact ⟨0, 47, rfl, by omega, by omega, rfl, by omega, rfl⟩
  case round =>
    obtain ⟨k, c, rfl, hc0, hc1, rfl, hk, hsc⟩ := hrel
    by_cases hlt : k < s.size
    · have hb := s[k].toNat_lt
      have hd := drop_cons s k hlt
      have Hd := Lib.hid hd; clear hd
      rcases Bool.eq_false_or_eq_true ((s[k].toNat : Int) == 47) with h47 | h47
      · rcases Bool.eq_false_or_eq_true (c == 47) with hl | hl
        · have hv : refNormV s = (⟨#[]⟩, false) := by
            unfold refNormV
            rw [hsc.out, Hd.out, scan_slash _ _ _ (u8_of_int _ 47 (by omega) (by simpa using h47)), hl]; rfl
          have Hv := Lib.hid hv; clear hv
          go_wp2
          go_ret2
          exact ⟨by rw [Hv.out]; rfl, 0, rfl⟩
        · have hv : nameScan true s.data.toList = nameScan true (s.data.toList.drop (k + 1)) := by
            rw [hsc.out, Hd.out, scan_slash _ _ _ (u8_of_int _ 47 (by omega) (by simpa using h47)), hl]; rfl
          have Hv := Lib.hid hv; clear hv
          have h47' : ((s[k].toNat : Int) != 47) = false := by rw [bne, h47]; rfl
          go_wp2
          go_round
          case rel => exact ⟨k + 1, _, rfl, by omega, by omega, by go_num, by omega, Hv.out.trans (by congr 1; first | rfl | (exact h47.symm))⟩
          case measure => simp [intOf] <;> omega
      · have hs47 : s[k] ≠ 47 := fun e => by rw [e] at h47; exact absurd h47 (by decide)
        have h47' : ((s[k].toNat : Int) != 47) = true := by rw [bne, h47]; rfl
        have Kg : Hid (plainB s[k] = true → nameScan true s.data.toList = nameScan false (s.data.toList.drop (k + 1))) := fun hp => by
          rw [hsc.out, Hd.out, scan_other _ _ _ hs47, hp]; rfl
        have Kb : Hid (plainB s[k] = false → refNormV s = (⟨#[]⟩, false)) := fun hp => by
          unfold refNormV
          rw [hsc.out, Hd.out, scan_other _ _ _ hs47, hp]; rfl
        unfold plainB at Kg Kb
        clear hs47 Hd
        have key : (plainI (s[k].toNat : Int) = true ∧ (
             (((s[k].toNat : Int) != 46) = false) ∨ (((s[k].toNat : Int) != 46) = true ∧ ((s[k].toNat : Int) != 95) = false) ∨ (((s[k].toNat : Int) != 46) = true ∧ ((s[k].toNat : Int) != 95) = true ∧ ((s[k].toNat : Int) != 45) = false) ∨
             (((s[k].toNat : Int) != 46) = true ∧ ((s[k].toNat : Int) != 95) = true ∧ ((s[k].toNat : Int) != 45) = true ∧ 48 ≤ (s[k].toNat : Int) ∧ (s[k].toNat : Int) ≤ 57) ∨
             (((s[k].toNat : Int) != 46) = true ∧ ((s[k].toNat : Int) != 95) = true ∧ ((s[k].toNat : Int) != 45) = true ∧ (s[k].toNat : Int) < 48 ∧ 97 ≤ smallI (s[k].toNat : Int) ∧ smallI (s[k].toNat : Int) ≤ 122) ∨
             (((s[k].toNat : Int) != 46) = true ∧ ((s[k].toNat : Int) != 95) = true ∧ ((s[k].toNat : Int) != 45) = true ∧ 57 < (s[k].toNat : Int) ∧ 97 ≤ smallI (s[k].toNat : Int) ∧ smallI (s[k].toNat : Int) ≤ 122))) ∨
            (plainI (s[k].toNat : Int) = false ∧ ((s[k].toNat : Int) != 46) = true ∧ ((s[k].toNat : Int) != 95) = true ∧ ((s[k].toNat : Int) != 45) = true ∧ ((s[k].toNat : Int) < 48 ∨ 57 < (s[k].toNat : Int)) ∧ (smallI (s[k].toNat : Int) < 97 ∨ 122 < smallI (s[k].toNat : Int))) := by
          unfold plainI smallI; simp only [bne_iff_ne, bne_eq_false_iff_eq, decide_eq_true_eq, decide_eq_false_iff_not]
          split <;> omega
        rcases key with ⟨hp, hk⟩ | ⟨hp, k1, k2, k3, hk, hk2⟩
        · have hv := Kg.out hp
          have Hv := Lib.hid hv; clear hv Kg Kb
          have Hp := Lib.hid hp; clear hp
          rcases hk with k1 | ⟨k1, k2⟩ | ⟨k1, k2, k3⟩ | ⟨k1, k2, k3, k4, k5⟩ | ⟨k1, k2, k3, k4, k5, k6⟩ | ⟨k1, k2, k3, k4, k5, k6⟩
          all_goals
            go_wp2_with (go_at_call 73; refine (small_any _ (by omega) (by omega) _).mono ?_; rintro e w' ⟨rfl, rfl⟩)
          all_goals
            go_round
            case rel => exact ⟨k + 1, _, rfl, by omega, by omega, by go_num, by omega, Hv.out.trans (by congr 1; first | rfl | (exact h47.symm))⟩
            case measure => simp [intOf] <;> omega
        · have hv := Kb.out hp
          have Hv := Lib.hid hv; clear hv Kg Kb
          have Hp := Lib.hid hp; clear hp
          have hk4 : ((s[k].toNat : Int) < 48 ∧ decide (48 ≤ (s[k].toNat : Int)) = false) ∨ (57 < (s[k].toNat : Int) ∧ decide ((s[k].toNat : Int) ≤ 57) = false) := by simp only [decide_eq_false_iff_not]; omega
          have hk5 : (smallI (s[k].toNat : Int) < 97 ∧ decide (97 ≤ smallI (s[k].toNat : Int)) = false) ∨ (122 < smallI (s[k].toNat : Int) ∧ decide (smallI (s[k].toNat : Int) ≤ 122) = false) := by simp only [decide_eq_false_iff_not]; omega
          clear hk hk2
          rcases hk4 with ⟨k4, k6⟩ | ⟨k4, k6⟩ <;> rcases hk5 with ⟨k5, k7⟩ | ⟨k5, k7⟩
          all_goals
            go_wp2_with (go_at_call 73; refine (small_any _ (by omega) (by omega) _).mono ?_; rintro e w' ⟨rfl, rfl⟩)
          all_goals
            go_ret2
            exact ⟨by rw [Hv.out]; rfl, 0, rfl⟩
    · obtain rfl : k = s.size := by omega
      have hnil : s.data.toList.drop s.size = [] := List.drop_eq_nil_of_le (by simp)
      have hsc' := hsc.out
      rw [hnil] at hsc'
      clear hsc hnil
      rcases Bool.eq_false_or_eq_true (c == 47) with hl | hl
      · have hv : refNormV s = (⟨#[]⟩, false) := by
          unfold refNormV
          rw [hsc', hl]; rfl
        have Hv := Lib.hid hv; clear hv hsc'
        go_wp2
        go_ret2
        exact ⟨by rw [Hv.out]; rfl, 0, rfl⟩
      · by_cases h60 : 60 < s.size
        · have hv : refNormV s = (⟨#[]⟩, false) := by
            unfold refNormV
            rw [hsc', hl, show decide (s.size ≤ 60) = false from by simp; omega]; rfl
          have Hv := Lib.hid hv; clear hv hsc'
          go_wp2
          go_ret2
          exact ⟨by rw [Hv.out]; rfl, 0, rfl⟩
        · have hok : (nameScan true s.data.toList && decide (s.size ≤ 60)) = true := by
            rw [hsc', hl, show decide (s.size ≤ 60) = true from by simp; omega]; rfl
          have Hok := Lib.hid hok; clear hok hsc'
          rcases Bool.eq_false_or_eq_true (alikeL s.data.toList [105, 110, 98, 111, 120]) with ha | ha
          · have Hv : Hid (refNormV s = (inboxS, true)) := by show refNormV s = _; unfold refNormV; rw [Hok.out, if_pos rfl, if_pos ha]
            go_wp2_with fail
            refine (alike_any s ⟨#[105, 110, 98, 111, 120]⟩ (by omega) (by decide) _).mono ?_
            rintro e w1 ⟨rfl, n, hw1⟩
            have Hw := Lib.hid hw1; clear hw1
            rw [ha]
            have Ha := Lib.hid ha; clear ha
            go_wp2
            go_ret2
            exact ⟨by rw [Hv.out]; rfl, n, Hw.out⟩
          · have Hv : Hid (refNormV s = (s, true)) := by show refNormV s = _; unfold refNormV; rw [Hok.out, if_pos rfl, if_neg (by rw [ha]; decide)]
            go_wp2_with fail
            refine (alike_any s ⟨#[105, 110, 98, 111, 120]⟩ (by omega) (by decide) _).mono ?_
            rintro e w1 ⟨rfl, n, hw1⟩
            have Hw := Lib.hid hw1; clear hw1
            rw [ha]
            have Ha := Lib.hid ha; clear ha
            go_wp2
            go_ret2
            exact ⟨by rw [Hv.out]; rfl, n, Hw.out⟩
end Go.Proofs.YtmjikfeaopmejaaGreatDoor
