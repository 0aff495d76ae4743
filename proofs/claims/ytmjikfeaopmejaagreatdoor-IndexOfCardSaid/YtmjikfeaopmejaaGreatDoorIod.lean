/-
  Walk: SHA-256 by the document (cubbyref01.Digest).
-/
import Derived.Test.YtmjikfeaopmejaaGreatDoorIoc
import Derived.Laws.BitsAllLaws
import Derived.Lib.SlBytesConst
namespace Go.Proofs.YtmjikfeaopmejaaGreatDoor
open Go.RowKit
set_option linter.unusedSimpArgs false
set_option linter.unusedVariables false
def u64v (x : Nat) : Value := .int .u64 (x : Nat)
def shaC64 (l : List Nat) : List Value := (l ++ List.replicate (64 - l.length) 0).map u64v
theorem shaC64_len {l : List Nat} (h : l.length ≤ 64) : (shaC64 l).length = 64 := by unfold shaC64; simp; omega
theorem shaC64_set {l : List Nat} (h : l.length < 64) (x : Nat) : (shaC64 l).set l.length (u64v x) = shaC64 (l ++ [x]) := by
  unfold shaC64
  have e : List.replicate (64 - l.length) 0 = 0 :: List.replicate (64 - (l ++ [x]).length) 0 := by
    rw [List.length_append, show 64 - l.length = (64 - (l.length + [x].length)) + 1 by simp; omega, List.replicate_succ]
  rw [e, List.map_append, List.map_cons, List.set_append_right _ _ (by simp), List.length_map, Nat.sub_self, List.set_cons_zero, List.append_assoc, List.map_append]
  simp
theorem shaC64_at {l : List Nat} {j : Nat} (h : j < l.length) : (shaC64 l)[j]? = some (.int .u64 ((l.getD j 0 : Nat) : Int)) := by
  unfold shaC64
  rw [List.getElem?_map, List.getElem?_append_left h, List.getD_eq_getElem?_getD, List.getElem?_eq_getElem h]
  rfl
theorem shaC64_zero {l : List Nat} {j : Nat} (h : l.length ≤ j) (h2 : j < 64) : (shaC64 l)[j]? = some (.int .u64 0) := by
  unfold shaC64
  rw [List.getElem?_map, List.getElem?_append_right h, List.getElem?_replicate, if_pos (by omega)]
  rfl
theorem shaC64_full {l : List Nat} (h : l.length = 64) : shaC64 l = l.map u64v := by unfold shaC64; rw [h]; simp
theorem map64_one (l : List Nat) : (l.map u64v).all (·.oneCell') = true := by
  rw [List.all_map, List.all_eq_true]
  intro x _
  rfl
theorem map64_no (l : List Nat) : (shaC64 l).toArray.toList.all noB8 = true := by
  unfold shaC64
  rw [List.all_map, List.all_eq_true]
  intro x _
  rfl
theorem map64_no' (l : List Nat) : (l.map u64v).toArray.toList.all noB8 = true := by
  rw [List.all_map, List.all_eq_true]
  intro x _
  rfl
theorem map64_at {l : List Nat} {i : Nat} (h : i < l.length) : (l.map u64v)[i]? = some (.int .u64 ((l.getD i 0 : Nat) : Int)) := by
  rw [List.getElem?_map, List.getD_eq_getElem?_getD, List.getElem?_eq_getElem h]
  rfl
def mask (a : Nat) : Nat := a % 4294967296
theorem v_mask {a : Nat} (h : a < 18446744073709551616) : bits .and .u64 (a : Int) 4294967295 = ((mask a : Nat) : Int) := by
  have := u64_and_nat a 4294967295 h (by decide)
  rw [show (4294967295 : Nat) = 2 ^ 32 - 1 by decide, Nat.and_two_pow_sub_one_eq_mod] at this
  exact this
theorem mask_lt (a : Nat) : mask a < 4294967296 := Nat.mod_lt _ (by decide)
theorem v_ones {a : Nat} (h : a < 4294967296) : bits .xor .u64 4294967295 (a : Int) = ((xo 4294967295 a : Nat) : Int) := v_xo (a := 4294967295) (by decide) h
/-- a state's words, those behind a place moved on by one -/
def shiftN (s : ShaS) (j : Nat) : List Nat := (List.range 8).map fun p => if j < p then s.l.getD (p - 1) 0 else s.l.getD p 0
theorem shiftN_get {s : ShaS} {j : Nat} (h : j < 7) : ((shiftN s (j + 1)).map u64v)[j]? = some (.int .u64 ((s.l.getD j 0 : Nat) : Int)) ∧ ((shiftN s (j + 1)).map u64v)[j + 1]? = some (.int .u64 ((s.l.getD (j + 1) 0 : Nat) : Int)) := by
  have hc : j = 0 ∨ j = 1 ∨ j = 2 ∨ j = 3 ∨ j = 4 ∨ j = 5 ∨ j = 6 := by omega
  rcases hc with rfl | rfl | rfl | rfl | rfl | rfl | rfl <;> exact ⟨rfl, rfl⟩
theorem shiftN_set {s : ShaS} {j : Nat} (h : j < 7) : ((shiftN s (j + 1)).map u64v).set (j + 1) (.int .u64 ((s.l.getD j 0 : Nat) : Int)) = (shiftN s j).map u64v := by
  have hc : j = 0 ∨ j = 1 ∨ j = 2 ∨ j = 3 ∨ j = 4 ∨ j = 5 ∨ j = 6 := by omega
  rcases hc with rfl | rfl | rfl | rfl | rfl | rfl | rfl <;> rfl
theorem shiftN_7 (s : ShaS) : (shiftN s 7).map u64v = s.l.map u64v := rfl
theorem shiftN_0 (s : ShaS) : (shiftN s 0).map u64v = [u64v s.a, u64v s.a, u64v s.b, u64v s.c, u64v s.d, u64v s.e, u64v s.f, u64v s.g] := rfl
/-- words added, up to a place -/
def addN (s t : ShaS) (i : Nat) : List Nat := (List.range 8).map fun j => if j < i then mask (ad64 (s.l.getD j 0) (t.l.getD j 0)) else s.l.getD j 0
theorem addN_get {s t : ShaS} {i : Nat} (h : i < 8) : ((addN s t i).map u64v)[i]? = some (.int .u64 ((s.l.getD i 0 : Nat) : Int)) := by
  unfold addN
  rw [List.getElem?_map, List.getElem?_map, List.getElem?_range h]
  simp [u64v]
theorem addN_set {s t : ShaS} {i : Nat} (h : i < 8) : ((addN s t i).map u64v).set i (.int .u64 ((mask (ad64 (s.l.getD i 0) (t.l.getD i 0)) : Nat) : Int)) = (addN s t (i + 1)).map u64v := by
  have hc : i = 0 ∨ i = 1 ∨ i = 2 ∨ i = 3 ∨ i = 4 ∨ i = 5 ∨ i = 6 ∨ i = 7 := by omega
  rcases hc with rfl | rfl | rfl | rfl | rfl | rfl | rfl | rfl <;> rfl
theorem addN_0 (s t : ShaS) : (addN s t 0).map u64v = s.l.map u64v := rfl
theorem addN_8 {s t : ShaS} (hs : s.Ok) (ht : t.Ok) : (addN s t 8).map u64v = (shaAdd t s).l.map u64v := by
  have e : ∀ a b : Nat, a < 4294967296 → b < 4294967296 → mask (ad64 a b) = (b + a) % 4294967296 := fun a b ha hb => by unfold mask ad64; omega
  have h8 : addN s t 8 = [mask (ad64 s.a t.a), mask (ad64 s.b t.b), mask (ad64 s.c t.c), mask (ad64 s.d t.d), mask (ad64 s.e t.e), mask (ad64 s.f t.f), mask (ad64 s.g t.g), mask (ad64 s.h t.h)] := rfl
  rw [h8, e _ _ hs.a ht.a, e _ _ hs.b ht.b, e _ _ hs.c ht.c, e _ _ hs.d ht.d, e _ _ hs.e ht.e, e _ _ hs.f ht.f, e _ _ hs.g ht.g, e _ _ hs.h ht.h]
  rfl
theorem refNext_eq {x16 x15 x7 x2 : Nat} (l16 : x16 < 4294967296) (l7 : x7 < 4294967296) (lp : xo (xo (rotr x15 7) (rotr x15 18)) (sr x15 3) < 4294967296) (lq : xo (xo (rotr x2 17) (rotr x2 19)) (sr x2 10) < 4294967296) :
    mask (ad64 (ad64 (ad64 x16 (xo (xo (rotr x15 7) (rotr x15 18)) (sr x15 3))) x7) (xo (xo (rotr x2 17) (rotr x2 19)) (sr x2 10))) = shaNext4 x16 x15 x7 x2 := by
  unfold shaNext4 smallS smallT mask ad64
  unfold xo sr at *
  omega
theorem refStep_cells {va vb vc vd ve vf vg vh kk ww P C Q M : Nat} (he : ve < 4294967296) (hg : vg < 4294967296) (hd : vd < 4294967296) (hh : vh < 4294967296) (hk : kk < 4294967296) (hw : ww < 4294967296) (lP : P < 4294967296) (lC : C < 4294967296) (lQ : Q < 4294967296) (lM : M < 4294967296)
    (hP : xo (xo (rotr ve 6) (rotr ve 11)) (rotr ve 25) = P) (hC : orr (an ve vf) (an (xo 4294967295 ve) vg) = C) (hQ : xo (xo (rotr va 2) (rotr va 13)) (rotr va 22) = Q) (hM : orr (orr (an va vb) (an va vc)) (an vb vc) = M) :
    (shaStep kk ww ⟨va, vb, vc, vd, ve, vf, vg, vh⟩).l = [mask (ad64 (ad64 (ad64 (ad64 (ad64 (ad64 vh P) C) kk) ww) Q) M), va, vb, vc, mask (ad64 vd (ad64 (ad64 (ad64 (ad64 vh P) C) kk) ww)), ve, vf, vg] := by
  have e1 : bigS ve = P := hP
  have e2 : bigT va = Q := hQ
  have e3 : choose ve vf vg = C := by rw [← hC]; exact (choose_alt he hg).symm
  have e4 : most va vb vc = M := by rw [← hM]; exact (most_or va vb vc).symm
  have ea : (vh + bigS ve + choose ve vf vg + kk + ww + bigT va + most va vb vc) % 4294967296 = mask (ad64 (ad64 (ad64 (ad64 (ad64 (ad64 vh P) C) kk) ww) Q) M) := by
    rw [e1, e2, e3, e4]
    unfold mask ad64
    omega
  have eb : (vd + (vh + bigS ve + choose ve vf vg + kk + ww)) % 4294967296 = mask (ad64 vd (ad64 (ad64 (ad64 (ad64 vh P) C) kk) ww)) := by
    rw [e1, e3]
    unfold mask ad64
    omega
  unfold shaStep ShaS.l
  simp only
  rw [ea, eb]
theorem word_cut {L : List UInt8} {a j : Nat} (h : j < 16) : shaWord ((L.drop a).take 64) j = beVal ((L.drop (a + 4 * j)).take 4) := by
  unfold shaWord
  rw [List.drop_take, List.take_take, List.drop_drop, Nat.min_eq_left (by omega)]
theorem reads_sub8 {w : World} {B n lo hi cap : Nat} {A : Option Addr} {l : List UInt8} (h : Reads w B 1 A n (u8s l)) (h1 : lo ≤ hi) (h2 : hi ≤ n) (hc : n ≤ cap) : Reads w B 1 (if cap = lo then A else Option.map (fun x => x.add lo) A) (hi - lo) (u8s ((l.drop lo).take (hi - lo))) := by
  have := h.cut (k := lo) (by omega) hc
  rw [Nat.mul_one, show (u8s l).drop lo = u8s (l.drop lo) by rw [u8s_map, u8s_map, List.map_drop]] at this
  exact Reads.take8 this (by omega)
theorem be4_at {v j : Nat} (h : j < 4) : UInt8.ofNat (v / 256 ^ (3 - j)) = (be 4 v).getD j 0 := by
  have hc : j = 0 ∨ j = 1 ∨ j = 2 ∨ j = 3 := by omega
  rcases hc with rfl | rfl | rfl | rfl <;> rfl
theorem reads_onlyA {w w' : World} {gr n g : Nat} {l : List UInt8} (h : Reads w w.heap.size 1 (some ⟨gr, 0, none⟩) n (u8s l)) (hs : Only g w w') (hne : gr ≠ g) : Reads w' w'.heap.size 1 (some ⟨gr, 0, none⟩) n (u8s l) := by
  have hl : l.length = n := by have := h.1; rw [u8s_length] at this; omega
  subst hl
  exact readsP_apart (p := (some ⟨gr, 0, none⟩, l)) h (fun _ ad ha => by injection ha with ha; subst ha; exact hne) (fun j _ hj => hs.block j hj) (by rw [hs.size]; exact Nat.le_refl _)
theorem zeros_ref {n j : Nat} (h : j ≤ shaZeros n) : (n + 1 + j + 8) % 64 = 0 ↔ j = shaZeros n := by
  unfold shaZeros at *
  omega
set_option maxRecDepth 100000 in
set_option maxHeartbeats 2000000 in
theorem refDigest_any (A : Option Addr) (n c : Nat) (b : List UInt8) (hl : b.length = n) (hn : n ≤ 1000000) (w : World) (hr : Reads w w.heap.size 1 A n (u8s b)) :
    Calls Tryz.prog 49 #[.slice A n c] w fun ev w' => ev = .returned (.agg (u8s (digest b)).toArray) ∧ Below w.heap.size w w' := by
  refine calls_at 251 Tryz.func49 rfl rfl (Nat.le_of_ble_eq_true rfl) ?_
  intro a hA; replace hA := hA.norm
  refine wS (wR ?_)
  refine wl_new hA rfl rfl (by decide) (fun ev h => by simp [go_sem]; try first | exact ⟨rfl, rfl⟩ | rfl) fun w1 a (K2 : Blk _ _ _ _) hz1 hb1 hA => ?_
  obtain ⟨g2, hg2⟩ : ∃ g, w.heap.size = g := ⟨_, rfl⟩
  rw [hg2] at K2 hA
  replace K2 : Blk w1 g2 91 (digCells []).toArray := K2
  have HB : Below w.heap.size w w1 := hb1
  replace hA := hA.keepN [0, 2]
  refine wN (nT (wS (wR ?_)))
  refine wl_op hA rfl rfl (by decide) (fun ev h => exec_buildC (v := .agg (shaK.map u64v).toArray) h rfl (by kernel_rfl) (by kernel_rfl)) fun a hA => ?_
  refine wl_new hA rfl rfl (by decide) (fun ev h => by simp [go_sem]; try first | exact ⟨rfl, rfl⟩ | rfl) fun w2 a (K3 : Blk _ _ _ _) hz2 hb2 hA => ?_
  replace HB := HB.trans (hb2.mono HB.size)
  replace K2 := K2.below hb2 K2.lt
  obtain ⟨g3, hg3⟩ : ∃ g, w1.heap.size = g := ⟨_, rfl⟩
  rw [hg3] at K3 hA
  replace K3 : Blk w2 g3 121 (shaC64 []).toArray := K3
  have h23 : g2 < g3 := by omega
  have hB2 : w.heap.size ≤ g2 := by omega
  refine wl_setw (shaK.map u64v) hA rfl rfl K3 (shaC64_len (l := []) (by decide)) (rfl : (shaK.map u64v).length = 64) (by kernel_rfl) (map64_one _) rfl (fun ev h => ⟨h.get 3 rfl, h.get 24 rfl⟩) fun w3 (K3 : Blk _ _ _ _) hs3 => ?_
  replace K2 := hs3.blk K2 (by omega)
  replace HB := hs3.below HB (by omega)
  replace hA := hA.keepN [0, 2, 3]
  refine wN (nT (wS (wR ?_)))
  refine wl_op hA rfl rfl (by decide) (fun ev h => exec_buildC (v := .agg (sha0.l.map u64v).toArray) h rfl (by kernel_rfl) (by kernel_rfl)) fun a hA => ?_
  have l3 := K3.lt
  refine wl_new hA rfl rfl (by decide) (fun ev h => by simp [go_sem]; try first | exact ⟨rfl, rfl⟩ | rfl) fun w4 a (K4 : Blk _ _ _ _) hz4 hb4 hA => ?_
  replace HB := HB.trans (hb4.mono HB.size)
  replace K2 := K2.below hb4 K2.lt
  replace K3 := K3.below hb4 K3.lt
  obtain ⟨g4, hg4⟩ : ∃ g, w3.heap.size = g := ⟨_, rfl⟩
  rw [hg4] at K4 hA l3
  have h34 : g3 < g4 := by omega
  refine wl_setw (sha0.l.map u64v) hA rfl rfl K4 (by rfl) (by rfl) (by kernel_rfl) (map64_one _) rfl (fun ev h => ⟨h.get 4 rfl, h.get 25 rfl⟩) fun w5 (K4 : Blk _ _ _ _) hs4 => ?_
  replace K2 := hs4.blk K2 (by omega)
  replace K3 := hs4.blk K3 (by omega)
  replace HB := hs4.below HB (by omega)
  replace hA := hA.keepN [0, 2, 3, 4]
  refine wN (nT (wS (wR ?_)))
  have l4 := K4.lt
  have hQw : w.heap.size ≤ w5.heap.size := HB.size
  refine wl_new hA rfl rfl (by decide) (fun ev h => by simp [go_sem]; try first | exact ⟨rfl, rfl⟩ | rfl) fun w6 a (K6 : Blk _ _ _ _) hz6 hb6 hA => ?_
  have ho6 : Own8 w5.heap.size w6 (.slice (some ⟨w5.heap.size, 0, none⟩) 0 0) [] := ownsRow_empty K6 (Nat.le_refl _)
  revert a; refine wo rfl rfl (by decide) (fun ev e h => by simp [go_sem, h] <;> rfl) ?_; intro a hA
  have hr6 := (hr.below (HB.trans (hb6.mono hQw))).more (HB.trans (hb6.mono hQw)).size
  obtain ⟨r7, w7, hr7, ho7, hg7⟩ := run_app8 ho6 (u := .slice A n c) ⟨A, c, by rw [hl], by rw [hl]; exact hr6⟩ (by simp; omega) hb6.size
  have hb7 := below_app8 hb6 ho6 hg7 (Nat.le_refl _) hb6.size
  rw [List.nil_append] at ho7
  refine wl_op hA rfl rfl (by decide) (fun ev h => exec_append rfl (h.get 26 rfl) (h.get 27 rfl) hr7) fun a hA => ?_
  clear K6 hb6 ho6 hr6
  refine wl_new hA rfl rfl (by decide) (fun ev h => by simp [go_sem, h.c]; try first | exact ⟨rfl, rfl⟩ | rfl) fun w8 a (K8 : Blk _ _ _ _) hz8 hb8 hA => ?_
  replace hb7 := hb7.trans (hb8.mono hb7.size)
  replace ho7 := ho7.below hb8
  obtain ⟨r9, w9, hr9, ho9, hg9⟩ := run_app8 ho7 (took_blk (c := 128) K8) (by simp; omega) hb7.size
  have hb9 := below_app8 hb7 ho7 hg9 (Nat.le_refl _) hb7.size
  refine wl_op hA rfl rfl (by decide) (fun ev h => exec_append rfl (h.get 28 rfl) (h.get 29 rfl) hr9) fun a hA => ?_
  clear K8 ho7 hb7
  revert a; refine wo rfl rfl (by decide) (fun ev e h => by simp [go_sem, h] <;> rfl) ?_; intro a hA
  replace hA := hA.keepN [0, 2, 3, 4, 5]
  refine wN (nT (wS (wB ?_)))
  have hz64 : shaZeros n < 64 := Nat.mod_lt _ (by decide)
  refine wp_loop_at (fun k a wx => ∃ (j : Nat) (v : Value), j + k = shaZeros n ∧ At 251 [(0, .slice A n c), (2, .pointer (some ⟨g2, 0, none⟩)), (3, .pointer (some ⟨g3, 0, none⟩)), (4, .pointer (some ⟨g4, 0, none⟩)), (5, v)] a ∧ Own8 w5.heap.size wx v (b ++ [128] ++ List.replicate j 0) ∧ Below w5.heap.size w5 wx) (shaZeros n) ?_ ?_
  · exact ⟨0, _, by omega, hA, by simpa using ho9, hb9⟩
  clear ho9 hb9
  rintro k a wx ⟨j, v, hjk, hA, ho, HX⟩
  obtain ⟨Av, cv, rfl, hrv⟩ := ho.took
  obtain ⟨L, hL⟩ : ∃ L, (b ++ [128] ++ List.replicate j 0).length = L := ⟨_, rfl⟩
  have hL2 : L = n + 1 + j := by rw [← hL]; simp; omega
  rw [hL] at hA
  have z1 : IntKind.i64.wrap ((L : Int) + 8) = ((L + 8 : Nat) : Int) := by rw [IntWalk.i64_in _ (by omega)]; omega
  obtain ⟨L8, hL8⟩ : ∃ L8, L + 8 = L8 := ⟨_, rfl⟩
  obtain ⟨m8, hm8⟩ : ∃ m8, L8 % 64 = m8 := ⟨_, rfl⟩
  rw [hL8] at z1
  have z2 : (L8 : Int).tmod 64 = (m8 : Int) := by rw [← hm8]; exact (Int.ofNat_tmod L8 64).symm
  have hz := zeros_ref (n := n) (j := j) (by omega)
  rw [show n + 1 + j + 8 = L8 by omega, hm8] at hz
  refine wS (wS (wR ?_))
  revert a; (iterate 5 refine wo rfl rfl (by decide) (fun ev e h => by simp [go_sem, h, z1, z2] <;> rfl) ?_); intro a hA
  replace hA := hA.keepN [0, 2, 3, 4, 5, 35]
  refine wN (nT ?_)
  refine wp_if hA 35 _ rfl (fun hq => ?yP) (fun hq => ?nP)
  case yP =>
    have hne : j ≠ shaZeros n := fun e => by
      have := hz.2 e
      simp at hq
      omega
    refine wp_skip (nT (wB (wR ?_)))
    revert a; refine wo rfl rfl (by decide) (fun ev e h => by simp [go_sem, h, z1, z2] <;> rfl) ?_; intro a hA
    refine wl_new hA rfl rfl (by decide) (fun ev h => by simp [go_sem, h.c, z1, z2]; try first | exact ⟨rfl, rfl⟩ | rfl) fun w10 a (K10 : Blk _ _ _ _) hz10 hb10 hA => ?_
    replace HX := HX.trans (hb10.mono HX.size)
    replace ho := ho.below hb10
    obtain ⟨r11, w11, hr11, ho11, hg11⟩ := run_app8 ho (took_blk (c := 0) K10) (by simp; omega) HX.size
    rw [← hL] at hA
    refine wl_op hA rfl rfl (by decide) (fun ev h => exec_append rfl (h.get 36 rfl) (h.get 37 rfl) hr11) fun a hA => ?_
    revert a; refine wo rfl rfl (by decide) (fun ev e h => by simp [go_sem, h, z1, z2] <;> rfl) ?_; intro a hA
    replace hA := hA.keepN [0, 2, 3, 4, 5]
    refine wN (nB (nT ?_))
    exact ⟨k - 1, by omega, j + 1, _, by omega, hA, by rw [padZ_succ]; exact ho11, below_app8 HX ho hg11 (Nat.le_refl _) HX.size⟩
  case nP =>
    have hje : j = shaZeros n := by
      refine hz.1 ?_
      simp at hq
      omega
    have hw8 : IntKind.u64.wrap (n : Int) = (n : Int) := IntWalk.u64_in _ (by omega)
    have hw9 : IntKind.u64.wrap ((n : Int) * 8) = ((n * 8 : Nat) : Int) := by rw [IntWalk.u64_in _ (by omega)]; omega
    replace hA := hA.keepN [0, 2, 3, 4, 5]
    refine wp_exit (xT (xT (xB (nT (wS (wR ?_))))))
    revert a; (iterate 3 refine wo rfl rfl (by decide) (fun ev e h => by simp [go_sem, h, hw8, hw9] <;> rfl) ?_); intro a hA
    refine wl_op hA rfl rfl (by decide) (fun ev h => by simp [go_sem, h.get 41 rfl, hw8, hw9]; try first | exact ⟨rfl, rfl⟩ | rfl) fun a hA => ?_
    revert a; refine wo rfl rfl (by decide) (fun ev e h => by simp [go_sem, h, hw8, hw9] <;> rfl) ?_; intro a hA
    refine wl_call hA rfl rfl (by decide) (fun ev h => exec_call Tryz.func46 (by kernel_rfl) rfl (h.f _) (by first | (simp only [mL, h.get 43 rfl, h.c] <;> rfl) | (simp [mL, h.get 43 rfl, h.c, hw8, hw9] <;> rfl))) (refBytes_any (n * 8) 8 (by omega) (by decide) _) ?_
    rintro e w12 ⟨r12, rfl, ho12, hb12⟩
    refine ⟨_, rfl, fun a hA => ?_⟩
    replace HX := HX.trans (hb12.mono HX.size)
    replace ho := ho.below hb12
    obtain ⟨r13, w13, hr13, ho13, hg13⟩ := run_app8 ho (Own8.of ho12).took (by simp [be_length]; omega) HX.size
    have hb13 := below_app8 HX ho hg13 (Nat.le_refl _) HX.size
    rw [← hL] at hA
    refine wl_op hA rfl rfl (by decide) (fun ev h => exec_append rfl (h.get 39 rfl) (h.get 44 rfl) hr13) fun a hA => ?_
    obtain ⟨T, hT⟩ : ∃ T, shaPad b = T := ⟨_, rfl⟩
    have hT64 := shaPad_length b
    have hTe : b ++ [128] ++ List.replicate j 0 ++ be 8 (n * 8) = T := by rw [← hT, hje, ← hl]; rfl
    rw [hTe] at ho13
    rw [hT] at hT64
    have hTlen : T.length ≤ 2000000 := by rw [← hT]; unfold shaPad; simp [be_length, shaZeros]; omega
    obtain ⟨M, hM⟩ : ∃ M, T.length = 64 * M := ⟨T.length / 64, by omega⟩
    have hfin : digest b = (shaGo T M).l.flatMap (be 4) := by unfold digest; rw [hT, hM, Nat.mul_div_cancel_left _ (by decide)]
    clear hTe hrv ho ho12 hb12 HX
    obtain ⟨Ar, cr, e0, hR, hcr⟩ := own_reads ho13
    subst e0
    clear ho13
    replace K2 := K2.below hb13 K2.lt
    replace K3 := K3.below hb13 K3.lt
    replace K4 := K4.below hb13 K4.lt
    replace HB := HB.trans (hb13.mono hQw)
    have hN : T.length < 9223372036854775808 := by omega
    revert a; refine wo rfl rfl (by decide) (fun ev e h => by simp [go_sem, h] <;> rfl) ?_; intro a hA
    replace hA := hA.keepN [2, 3, 4, 5]
    refine wN (nT (wS (wS (wR ?_))))
    revert a; refine wo rfl rfl (by decide) (fun ev e h => by simp [go_sem, h] <;> rfl) ?_; intro a hA
    replace hA := hA.keepN [2, 3, 4, 5, 6]
    refine wN (nT (wB ?_))
    refine wp_loop_at (fun k a wx => ∃ (i : Nat), i + k = M ∧ At 251 [(2, .pointer (some ⟨g2, 0, none⟩)), (3, .pointer (some ⟨g3, 0, none⟩)), (4, .pointer (some ⟨g4, 0, none⟩)), (5, .slice Ar T.length cr), (6, .int .i64 ((64 * i : Nat) : Int))] a ∧ Reads wx wx.heap.size 1 Ar T.length (u8s T) ∧ Blk wx g2 91 (digCells []).toArray ∧ Blk wx g3 121 (shaK.map u64v).toArray ∧ Blk wx g4 122 ((shaGo T i).l.map u64v).toArray ∧ Below w.heap.size w wx) (M) ?_ ?_
    · exact ⟨0, by omega, hA, hR, K2, K3, K4, HB⟩
    rw [← hT] at hcr
    rw [hT] at hcr
    clear hR K2 K3 K4 HB hb13 hr
    rintro k a wx ⟨i, hik, hA, hR, K2, K3, K4, HB⟩
    obtain ⟨N, hN2⟩ : ∃ N, T.length = N := ⟨_, rfl⟩
    obtain ⟨p, hp⟩ : ∃ p, 64 * i = p := ⟨_, rfl⟩
    rw [hN2, hp] at hA
    rw [hN2] at hM hR
    refine wS (wS (wR ?_))
    revert a; (iterate 4 refine wo rfl rfl (by decide) (fun ev e h => by simp [go_sem, h] <;> rfl) ?_); intro a hA
    replace hA := hA.keepN [2, 3, 4, 5, 6, 49]
    refine wN (nT ?_)
    refine wp_if hA 49 _ rfl (fun hq => ?yQ) (fun hq => ?nQ)
    case yQ =>
      have hpn : p + 64 ≤ N := by simp at hq; omega
      refine wp_skip (nT (wS (wB (wS (wR ?_)))))
      have l4 := K4.lt
      have hwl := HB.size
      refine wl_new hA rfl rfl (by decide) (fun ev h => by simp [go_sem]; try first | exact ⟨rfl, rfl⟩ | rfl) fun w14 a (K7 : Blk _ _ _ _) hz14 hb14 hA => ?_
      replace HB := HB.trans (hb14.mono HB.size)
      replace K2 := K2.below hb14 K2.lt
      replace K3 := K3.below hb14 K3.lt
      replace K4 := K4.below hb14 K4.lt
      replace hR := (hR.below hb14).more hb14.size
      obtain ⟨g7, hg7⟩ : ∃ g, wx.heap.size = g := ⟨_, rfl⟩
      rw [hg7] at K7 hA l4
      have h7w : w.heap.size ≤ g7 := by rw [← hg7]; exact hwl
      obtain ⟨k1, hk1⟩ : ∃ k1, (T.drop p).take 64 = k1 := ⟨_, rfl⟩
      have hT4 : T.length = N := hN2
      replace K7 : Blk w14 g7 121 (shaC64 (shaW k1 0)).toArray := K7
      replace hA := hA.keepN [2, 3, 4, 5, 6, 7]
      refine wN (nT (wS (wS (wR ?_))))
      revert a; refine wo rfl rfl (by decide) (fun ev e h => by simp [go_sem, h] <;> rfl) ?_; intro a hA
      replace hA := hA.keepN [2, 3, 4, 5, 6, 7, 52]
      refine wN (nT (wB ?_))
      refine wp_loop_at (fun k a wx => ∃ (j : Nat), j + k = 64 ∧ At 251 [(2, .pointer (some ⟨g2, 0, none⟩)), (3, .pointer (some ⟨g3, 0, none⟩)), (4, .pointer (some ⟨g4, 0, none⟩)), (5, .slice Ar N cr), (6, .int .i64 (p : Nat)), (7, .pointer (some ⟨g7, 0, none⟩)), (52, .int .i64 (j : Nat))] a ∧ Reads wx wx.heap.size 1 Ar N (u8s T) ∧ Blk wx g2 91 (digCells []).toArray ∧ Blk wx g3 121 (shaK.map u64v).toArray ∧ Blk wx g4 122 ((shaGo T i).l.map u64v).toArray ∧ Blk wx g7 121 (shaC64 (shaW k1 j)).toArray ∧ Below w.heap.size w wx) (64) ?_ ?_
      · exact ⟨0, by omega, hA, hR, K2, K3, K4, K7, HB⟩
      clear hR K2 K3 K4 K7 HB
      rintro k' a wx ⟨j, hjk2, hA, hR, K2, K3, K4, K7, HB⟩
      refine wS (wR ?_)
      revert a; refine wo rfl rfl (by decide) (fun ev e h => by simp [go_sem, h] <;> rfl) ?_; intro a hA
      replace hA := hA.keepN [2, 3, 4, 5, 6, 7, 52, 53]
      refine wN (nT (wS ?_))
      refine wp_if hA 53 _ rfl (fun hq2 => ?yU) (fun hq2 => ?nU)
      case yU =>
        have hj : j < 64 := by simp at hq2; omega
        have jj : ∀ j : Nat, (0 : Int) ≤ (j : Int) := fun j => by omega
        have hlen : (shaW k1 j).length = j := shaW_length k1 j
        have hwi : IntKind.i64.wrap ((j : Int) + 1) = ((j + 1 : Nat) : Int) := by rw [IntWalk.i64_in _ (by omega)]; omega
        have hci := shaC64_zero (l := shaW k1 j) (j := j) (by omega) (by omega)
        have ki : (j : Int) < 64 := by omega
        refine wp_skip (nT (wS (wB (wS (wR ?_)))))
        revert a; (iterate 2 refine wo rfl rfl (by decide) (fun ev e h => by simp [go_sem, h] <;> rfl) ?_); intro a hA
        replace hA := hA.keepN [2, 3, 4, 5, 6, 7, 8, 52]
        refine wN (nT (wS (wS (wR ?_))))
        revert a; (iterate 2 refine wo rfl rfl (by decide) (fun ev e h => by simp [go_sem, h] <;> rfl) ?_); intro a hA
        replace hA := hA.keepN [2, 3, 4, 5, 6, 7, 8, 52, 56]
        refine wN (nT ?_)
        refine wp_if hA 56 _ rfl (fun hq3 => ?yV) (fun hq3 => ?nV)
        case yV =>
          have hj16 : j < 16 := by simp at hq3; omega
          obtain ⟨a1, ha1⟩ : ∃ a1, p + 4 * j = a1 := ⟨_, rfl⟩
          obtain ⟨a2, ha2⟩ : ∃ a2, p + 4 * j + 4 = a2 := ⟨_, rfl⟩
          have q1 : IntKind.i64.wrap (4 * (j : Int)) = 4 * (j : Int) := IntWalk.i64_in _ (by omega)
          have q2 : IntKind.i64.wrap ((p : Int) + 4 * (j : Int)) = (a1 : Int) := by rw [IntWalk.i64_in _ (by omega)]; omega
          have q3 : IntKind.i64.wrap ((a1 : Int) + 4) = (a2 : Int) := by rw [IntWalk.i64_in _ (by omega)]; omega
          have q4 : (a1 : Int) ≤ (a2 : Int) := by omega
          have q5 : (a2 : Int) ≤ (cr : Int) := by omega
          have q9 : a2 - a1 = 4 := by omega
          have q6 : (a2 : Int) ≤ (N : Int) := by omega
          have q7 := jj a1
          have q8 := jj a2
          refine wS (wR ?_)
          revert a; (iterate 10 refine wo rfl rfl (by decide) (fun ev e h => by simp [go_sem, h, q1, q2, q3, q4, q5, q6, q7, q8, q9] <;> rfl) ?_); intro a hA
          replace hA := hA.keepN [2, 3, 4, 5, 6, 7, 52, 57, 58, 62, 66]
          revert a; (iterate 2 refine wo rfl rfl (by decide) (fun ev e h => by simp [go_sem, h, q1, q2, q3, q4, q5, q6, q7, q8, q9] <;> rfl) ?_); intro a hA
          obtain ⟨V, hV⟩ : ∃ V, shaWord k1 j = V := ⟨_, rfl⟩
          have hVe : beVal ((T.drop a1).take 4) = V := by rw [← hV, ← hk1, word_cut hj16, ha1]
          have hR4 := reads_sub8 hR (lo := a1) (hi := a2) (cap := cr) (by omega) (by omega) (by omega)
          rw [q9] at hR4
          refine wl_call hA rfl rfl (by decide) (fun ev h => exec_call Tryz.func66 (by kernel_rfl) rfl (h.f _) (by first | (simp only [mL, h.get 68 rfl, h.c] <;> rfl) | (simp [mL, h.get 68 rfl, h.c, q1, q2, q3, q4, q5, q6, q7, q8, q9] <;> rfl))) (refNumber_any _ 4 _ ((T.drop a1).take 4) (by rw [List.length_take, List.length_drop]; omega) (by decide) _ hR4) ?_
          rintro e w15 ⟨rfl, rfl⟩
          refine ⟨_, rfl, fun a hA => ?_⟩
          rw [hVe] at hA
          revert a; refine wo rfl rfl (by decide) (fun ev e h => by simp [go_sem, h, jj, ki, add0, hci] <;> rfl) ?_; intro a hA
          have K7b := K7
          refine wl_setf ((shaC64 (shaW k1 j)).set j (.int .u64 (V : Nat))) _ hA rfl rfl K7 (j := j) (by rfl) (fun ev h => by simp [go_sem, h.get 70 rfl, h.get 69 rfl, jj, ki, add0, hci, K7.cell, K7.frozen]; try first | exact ⟨rfl, rfl⟩ | rfl) fun w16 (K7 : Blk _ _ _ _) hs => ?_
          replace hA := hA.keepN [2, 3, 4, 5, 6, 7, 52]
          replace hA := hA.keepN [2, 3, 4, 5, 6, 7, 52]
          refine wN (nT (wp_exit (xT (xB (nT (wR ?_))))))
          revert a; (iterate 2 refine wo rfl rfl (by decide) (fun ev e h => by simp [go_sem, h, hwi] <;> rfl) ?_); intro a hA
          replace hA := hA.keepN [2, 3, 4, 5, 6, 7, 52]
          refine wN (nT ?_)
          refine ⟨k' - 1, by omega, j + 1, by omega, hA, reads_only hR hs K7b (map64_no _), hs.blk K2 (by omega), hs.blk K3 (by omega), hs.blk K4 (by omega), ?_, hs.below HB h7w⟩
          have e := shaC64_set (l := shaW k1 j) (by omega) V
          rw [hlen] at e
          rw [show shaW k1 (j + 1) = shaW k1 j ++ [V] by rw [← hV]; show shaW k1 j ++ _ = _; rw [if_pos hj16], ← e]
          exact K7
        case nV =>
          have hj16 : 16 ≤ j := by simp at hq3; omega
          obtain ⟨j15, hj15⟩ : ∃ q, j - 15 = q := ⟨_, rfl⟩
          obtain ⟨j16, hj16e⟩ : ∃ q, j - 16 = q := ⟨_, rfl⟩
          obtain ⟨j7, hj7⟩ : ∃ q, j - 7 = q := ⟨_, rfl⟩
          obtain ⟨j2, hj2⟩ : ∃ q, j - 2 = q := ⟨_, rfl⟩
          have w15 : IntKind.i64.wrap ((j : Int) - 15) = (j15 : Int) := by rw [IntWalk.i64_in _ (by omega)]; omega
          have w16 : IntKind.i64.wrap ((j : Int) - 16) = (j16 : Int) := by rw [IntWalk.i64_in _ (by omega)]; omega
          have w7 : IntKind.i64.wrap ((j : Int) - 7) = (j7 : Int) := by rw [IntWalk.i64_in _ (by omega)]; omega
          have w2 : IntKind.i64.wrap ((j : Int) - 2) = (j2 : Int) := by rw [IntWalk.i64_in _ (by omega)]; omega
          have c15 := shaC64_at (l := shaW k1 j) (j := j15) (by omega)
          have c16 := shaC64_at (l := shaW k1 j) (j := j16) (by omega)
          have c7 := shaC64_at (l := shaW k1 j) (j := j7) (by omega)
          have c2 := shaC64_at (l := shaW k1 j) (j := j2) (by omega)
          have hnx : shaNext (shaW k1 j) j = shaNext4 ((shaW k1 j).getD j16 0) ((shaW k1 j).getD j15 0) ((shaW k1 j).getD j7 0) ((shaW k1 j).getD j2 0) := by unfold shaNext shaNext4; rw [hj15, hj16e, hj7, hj2]
          have l15 := shaW_getD_lt k1 j j15
          have l16 := shaW_getD_lt k1 j j16
          have l7 := shaW_getD_lt k1 j j7
          have l2 := shaW_getD_lt k1 j j2
          obtain ⟨x15, hx15⟩ : ∃ x, (shaW k1 j).getD j15 0 = x := ⟨_, rfl⟩
          obtain ⟨x16, hx16⟩ : ∃ x, (shaW k1 j).getD j16 0 = x := ⟨_, rfl⟩
          obtain ⟨x7, hx7⟩ : ∃ x, (shaW k1 j).getD j7 0 = x := ⟨_, rfl⟩
          obtain ⟨x2, hx2⟩ : ∃ x, (shaW k1 j).getD j2 0 = x := ⟨_, rfl⟩
          rw [hx15, hx16, hx7, hx2] at hnx
          rw [hx15] at c15 l15
          rw [hx16] at c16 l16
          rw [hx7] at c7 l7
          rw [hx2] at c2 l2
          clear hx15 hx16 hx7 hx2
          have k15 : (j15 : Int) < 64 := by omega
          have k16 : (j16 : Int) < 64 := by omega
          have k7 : (j7 : Int) < 64 := by omega
          have k2 : (j2 : Int) < 64 := by omega
          have r7 := rotr_lt x15 7
          have r18 := rotr_lt x15 18
          have r17 := rotr_lt x2 17
          have r19 := rotr_lt x2 19
          have s3 : (x15 : Int) / 8 = ((sr x15 3 : Nat) : Int) := shr_u32 x15 3
          have s10 : (x2 : Int) / 1024 = ((sr x2 10 : Nat) : Int) := shr_u32 x2 10
          have e1 := v_xo r7 r18
          have e2 := v_xo (xo_lt r7 r18) (sr_lt (n := 3) l15)
          have e3 := v_xo r17 r19
          have e4 := v_xo (xo_lt r17 r19) (sr_lt (n := 10) l2)
          have pA1 := fun (wo : World) (hC : (fun wy => Below wx.heap.size wx wy) wo) => have Kx := K7.below hC K7.lt; And.intro (Kx.cell) (c15)
          refine wp_skip (nT (wS ?_))
          refine wp_any_at hA [(.det ?dA10), (.det ?dA11), (.det ?dA12), (.det ?dA13), (.det ?dA14), (.det ?dA15), (.det ?dA16), (.det ?dA17), (.det ?dA18), (.det ?dA19), (.det ?dA110), (.det ?dA111), (.det ?dA112), (.det ?dA113), (.det ?dA114), (.det ?dA115), (.det ?dA116), (.det ?dA117)] [] (fun wy => Below wx.heap.size wx wy) (TSp [] Grows) (by kernel_rfl) rfl (by kernel_rfl) (by kernel_rfl) rfl ((Below.refl _ _).drew) (stab_sp [] [true, true, true, true, true, true, true, true, true, true, true, true, true, true, true, true, true, true] [true, true, true, true, true, true, true, true, true, true, true, true, true, true, true, true, true, true] [] rfl rfl rfl (by kernel_rfl) ⟨trivial, trivial, trivial, trivial, trivial, trivial, trivial, trivial, trivial, trivial, trivial, trivial, trivial, trivial, trivial, trivial, trivial, trivial, trivial⟩ trivial) (fun _ h => by cases h) (fun _ _ _ _ _ h => by cases h) (fun _ h => by cases h) ⟨?oA10, ?oA11, ?oA12, ?oA13, ?oA14, ?oA15, ?oA16, ?oA17, ?oA18, ?oA19, ?oA110, ?oA111, ?oA112, ?oA113, ?oA114, ?oA115, ?oA116, ?oA117, trivial⟩ (by kernel_rfl) ?fA1
          case oA10 => intro ev wo hev hC hs hph; have x0 := se hA hs 8; exact od rfl rfl (by kernel_rfl) hC (TSp.of rfl (Grows.refl _)) (by simp [go_sem, x0, w15, jj, k15, add0, s3, e1, e2] <;> rfl)
          case oA11 => intro ev wo hev hC hs hph; have x0 := sd hs 71 0; exact od rfl rfl (by kernel_rfl) hC (TSp.of rfl (Grows.refl _)) (by simp [go_sem, x0, hev.const, w15, jj, k15, add0, s3, e1, e2] <;> rfl)
          case oA12 => intro ev wo hev hC hs hph; have x0 := se hA hs 7; have x1 := sd hs 72 1; exact od rfl rfl (by kernel_rfl) hC (TSp.of rfl (Grows.refl _)) (by simp [go_sem, x0, x1, w15, jj, k15, add0, s3, e1, e2] <;> rfl)
          case oA13 => intro ev wo hev hC hs hph; have x0 := sd hs 73 2; exact od rfl rfl (by kernel_rfl) hC (TSp.of rfl (Grows.refl _)) (by simp [go_sem, x0, pA1 _ hC, w15, jj, k15, add0, s3, e1, e2] <;> rfl)
          case oA14 =>
            intro ev wo hev hC hs hph
            have e74 := sd hs 74 3
            have Kx := K7.below hC K7.lt
            exact ob_dcall (wanted_none rfl) rfl (by kernel_rfl) (turned_any x15 7 7 rfl l15 (by decide) (by decide) wo) (exec_call Tryz.func67 (by kernel_rfl) rfl (hev.func _) (by first | (simp only [mL, e74, hev.const] <;> rfl) | (simp [mL, e74, hev.const] <;> rfl))) (by rfl) (fun w3 hb3 => ⟨hC.trans (hb3.mono hC.size), TSp.of rfl hb3⟩)
          case oA15 => intro ev wo hev hC hs hph; have x0 := se hA hs 8; exact od rfl rfl (by kernel_rfl) hC (TSp.of rfl (Grows.refl _)) (by simp [go_sem, x0, w15, jj, k15, add0, s3, e1, e2] <;> rfl)
          case oA16 => intro ev wo hev hC hs hph; have x0 := sd hs 76 5; exact od rfl rfl (by kernel_rfl) hC (TSp.of rfl (Grows.refl _)) (by simp [go_sem, x0, hev.const, w15, jj, k15, add0, s3, e1, e2] <;> rfl)
          case oA17 => intro ev wo hev hC hs hph; have x0 := se hA hs 7; have x1 := sd hs 77 6; exact od rfl rfl (by kernel_rfl) hC (TSp.of rfl (Grows.refl _)) (by simp [go_sem, x0, x1, w15, jj, k15, add0, s3, e1, e2] <;> rfl)
          case oA18 => intro ev wo hev hC hs hph; have x0 := sd hs 78 7; exact od rfl rfl (by kernel_rfl) hC (TSp.of rfl (Grows.refl _)) (by simp [go_sem, x0, pA1 _ hC, w15, jj, k15, add0, s3, e1, e2] <;> rfl)
          case oA19 =>
            intro ev wo hev hC hs hph
            have e79 := sd hs 79 8
            have Kx := K7.below hC K7.lt
            exact ob_dcall (wanted_none rfl) rfl (by kernel_rfl) (turned_any x15 18 18 rfl l15 (by decide) (by decide) wo) (exec_call Tryz.func67 (by kernel_rfl) rfl (hev.func _) (by first | (simp only [mL, e79, hev.const] <;> rfl) | (simp [mL, e79, hev.const] <;> rfl))) (by rfl) (fun w3 hb3 => ⟨hC.trans (hb3.mono hC.size), TSp.of rfl hb3⟩)
          case oA110 => intro ev wo hev hC hs hph; have x0 := sd hs 75 4; have x1 := sd hs 80 9; exact od rfl rfl (by kernel_rfl) hC (TSp.of rfl (Grows.refl _)) (by simp [go_sem, x0, x1, w15, jj, k15, add0, s3, e1, e2] <;> rfl)
          case oA111 => intro ev wo hev hC hs hph; have x0 := se hA hs 8; exact od rfl rfl (by kernel_rfl) hC (TSp.of rfl (Grows.refl _)) (by simp [go_sem, x0, w15, jj, k15, add0, s3, e1, e2] <;> rfl)
          case oA112 => intro ev wo hev hC hs hph; have x0 := sd hs 82 11; exact od rfl rfl (by kernel_rfl) hC (TSp.of rfl (Grows.refl _)) (by simp [go_sem, x0, hev.const, w15, jj, k15, add0, s3, e1, e2] <;> rfl)
          case oA113 => intro ev wo hev hC hs hph; have x0 := se hA hs 7; have x1 := sd hs 83 12; exact od rfl rfl (by kernel_rfl) hC (TSp.of rfl (Grows.refl _)) (by simp [go_sem, x0, x1, w15, jj, k15, add0, s3, e1, e2] <;> rfl)
          case oA114 => intro ev wo hev hC hs hph; have x0 := sd hs 84 13; exact od rfl rfl (by kernel_rfl) hC (TSp.of rfl (Grows.refl _)) (by simp [go_sem, x0, pA1 _ hC, w15, jj, k15, add0, s3, e1, e2] <;> rfl)
          case oA115 => intro ev wo hev hC hs hph; have x0 := sd hs 85 14; exact od rfl rfl (by kernel_rfl) hC (TSp.of rfl (Grows.refl _)) (by simp [go_sem, x0, hev.const, w15, jj, k15, add0, s3, e1, e2] <;> rfl)
          case oA116 => intro ev wo hev hC hs hph; have x0 := sd hs 81 10; have x1 := sd hs 86 15; exact od rfl rfl (by kernel_rfl) hC (TSp.of rfl (Grows.refl _)) (by simp [go_sem, x0, x1, w15, jj, k15, add0, s3, e1, e2] <;> rfl)
          case oA117 => intro ev wo hev hC hs hph; have x0 := sd hs 87 16; exact od rfl rfl (by kernel_rfl) hC (TSp.of rfl (Grows.refl _)) (by simp [go_sem, x0, w15, jj, k15, add0, s3, e1, e2] <;> rfl)
          intro sg wf hC hph
          intro a hA
          replace hA := hA.keepN [2, 3, 4, 5, 6, 7, 8, 9, 52]
          refine nT ?_
          replace HB := HB.trans (hC.mono HB.size)
          replace hR := (hR.below hC).more hC.size
          replace K2 := K2.below hC K2.lt
          replace K3 := K3.below hC K3.lt
          replace K4 := K4.below hC K4.lt
          replace K7 := K7.below hC K7.lt
          clear hC hph
          have pA2 := fun (wo : World) (hC : (fun wy => Below wf.heap.size wf wy) wo) => have Kx := K7.below hC K7.lt; And.intro (Kx.cell) (c2)
          refine wS ?_
          refine wp_any_at hA [(.det ?dA20), (.det ?dA21), (.det ?dA22), (.det ?dA23), (.det ?dA24), (.det ?dA25), (.det ?dA26), (.det ?dA27), (.det ?dA28), (.det ?dA29), (.det ?dA210), (.det ?dA211), (.det ?dA212), (.det ?dA213), (.det ?dA214), (.det ?dA215), (.det ?dA216), (.det ?dA217)] [] (fun wy => Below wf.heap.size wf wy) (TSp [] Grows) (by kernel_rfl) rfl (by kernel_rfl) (by kernel_rfl) rfl ((Below.refl _ _).drew) (stab_sp [] [true, true, true, true, true, true, true, true, true, true, true, true, true, true, true, true, true, true] [true, true, true, true, true, true, true, true, true, true, true, true, true, true, true, true, true, true] [] rfl rfl rfl (by kernel_rfl) ⟨trivial, trivial, trivial, trivial, trivial, trivial, trivial, trivial, trivial, trivial, trivial, trivial, trivial, trivial, trivial, trivial, trivial, trivial, trivial⟩ trivial) (fun _ h => by cases h) (fun _ _ _ _ _ h => by cases h) (fun _ h => by cases h) ⟨?oA20, ?oA21, ?oA22, ?oA23, ?oA24, ?oA25, ?oA26, ?oA27, ?oA28, ?oA29, ?oA210, ?oA211, ?oA212, ?oA213, ?oA214, ?oA215, ?oA216, ?oA217, trivial⟩ (by kernel_rfl) ?fA2
          case oA20 => intro ev wo hev hC hs hph; have x0 := se hA hs 8; exact od rfl rfl (by kernel_rfl) hC (TSp.of rfl (Grows.refl _)) (by simp [go_sem, x0, w2, jj, k2, add0, s10, e3, e4] <;> rfl)
          case oA21 => intro ev wo hev hC hs hph; have x0 := sd hs 88 0; exact od rfl rfl (by kernel_rfl) hC (TSp.of rfl (Grows.refl _)) (by simp [go_sem, x0, hev.const, w2, jj, k2, add0, s10, e3, e4] <;> rfl)
          case oA22 => intro ev wo hev hC hs hph; have x0 := se hA hs 7; have x1 := sd hs 89 1; exact od rfl rfl (by kernel_rfl) hC (TSp.of rfl (Grows.refl _)) (by simp [go_sem, x0, x1, w2, jj, k2, add0, s10, e3, e4] <;> rfl)
          case oA23 => intro ev wo hev hC hs hph; have x0 := sd hs 90 2; exact od rfl rfl (by kernel_rfl) hC (TSp.of rfl (Grows.refl _)) (by simp [go_sem, x0, pA2 _ hC, w2, jj, k2, add0, s10, e3, e4] <;> rfl)
          case oA24 =>
            intro ev wo hev hC hs hph
            have e91 := sd hs 91 3
            have Kx := K7.below hC K7.lt
            exact ob_dcall (wanted_none rfl) rfl (by kernel_rfl) (turned_any x2 17 17 rfl l2 (by decide) (by decide) wo) (exec_call Tryz.func67 (by kernel_rfl) rfl (hev.func _) (by first | (simp only [mL, e91, hev.const] <;> rfl) | (simp [mL, e91, hev.const] <;> rfl))) (by rfl) (fun w3 hb3 => ⟨hC.trans (hb3.mono hC.size), TSp.of rfl hb3⟩)
          case oA25 => intro ev wo hev hC hs hph; have x0 := se hA hs 8; exact od rfl rfl (by kernel_rfl) hC (TSp.of rfl (Grows.refl _)) (by simp [go_sem, x0, w2, jj, k2, add0, s10, e3, e4] <;> rfl)
          case oA26 => intro ev wo hev hC hs hph; have x0 := sd hs 93 5; exact od rfl rfl (by kernel_rfl) hC (TSp.of rfl (Grows.refl _)) (by simp [go_sem, x0, hev.const, w2, jj, k2, add0, s10, e3, e4] <;> rfl)
          case oA27 => intro ev wo hev hC hs hph; have x0 := se hA hs 7; have x1 := sd hs 94 6; exact od rfl rfl (by kernel_rfl) hC (TSp.of rfl (Grows.refl _)) (by simp [go_sem, x0, x1, w2, jj, k2, add0, s10, e3, e4] <;> rfl)
          case oA28 => intro ev wo hev hC hs hph; have x0 := sd hs 95 7; exact od rfl rfl (by kernel_rfl) hC (TSp.of rfl (Grows.refl _)) (by simp [go_sem, x0, pA2 _ hC, w2, jj, k2, add0, s10, e3, e4] <;> rfl)
          case oA29 =>
            intro ev wo hev hC hs hph
            have e96 := sd hs 96 8
            have Kx := K7.below hC K7.lt
            exact ob_dcall (wanted_none rfl) rfl (by kernel_rfl) (turned_any x2 19 19 rfl l2 (by decide) (by decide) wo) (exec_call Tryz.func67 (by kernel_rfl) rfl (hev.func _) (by first | (simp only [mL, e96, hev.const] <;> rfl) | (simp [mL, e96, hev.const] <;> rfl))) (by rfl) (fun w3 hb3 => ⟨hC.trans (hb3.mono hC.size), TSp.of rfl hb3⟩)
          case oA210 => intro ev wo hev hC hs hph; have x0 := sd hs 92 4; have x1 := sd hs 97 9; exact od rfl rfl (by kernel_rfl) hC (TSp.of rfl (Grows.refl _)) (by simp [go_sem, x0, x1, w2, jj, k2, add0, s10, e3, e4] <;> rfl)
          case oA211 => intro ev wo hev hC hs hph; have x0 := se hA hs 8; exact od rfl rfl (by kernel_rfl) hC (TSp.of rfl (Grows.refl _)) (by simp [go_sem, x0, w2, jj, k2, add0, s10, e3, e4] <;> rfl)
          case oA212 => intro ev wo hev hC hs hph; have x0 := sd hs 99 11; exact od rfl rfl (by kernel_rfl) hC (TSp.of rfl (Grows.refl _)) (by simp [go_sem, x0, hev.const, w2, jj, k2, add0, s10, e3, e4] <;> rfl)
          case oA213 => intro ev wo hev hC hs hph; have x0 := se hA hs 7; have x1 := sd hs 100 12; exact od rfl rfl (by kernel_rfl) hC (TSp.of rfl (Grows.refl _)) (by simp [go_sem, x0, x1, w2, jj, k2, add0, s10, e3, e4] <;> rfl)
          case oA214 => intro ev wo hev hC hs hph; have x0 := sd hs 101 13; exact od rfl rfl (by kernel_rfl) hC (TSp.of rfl (Grows.refl _)) (by simp [go_sem, x0, pA2 _ hC, w2, jj, k2, add0, s10, e3, e4] <;> rfl)
          case oA215 => intro ev wo hev hC hs hph; have x0 := sd hs 102 14; exact od rfl rfl (by kernel_rfl) hC (TSp.of rfl (Grows.refl _)) (by simp [go_sem, x0, hev.const, w2, jj, k2, add0, s10, e3, e4] <;> rfl)
          case oA216 => intro ev wo hev hC hs hph; have x0 := sd hs 98 10; have x1 := sd hs 103 15; exact od rfl rfl (by kernel_rfl) hC (TSp.of rfl (Grows.refl _)) (by simp [go_sem, x0, x1, w2, jj, k2, add0, s10, e3, e4] <;> rfl)
          case oA217 => intro ev wo hev hC hs hph; have x0 := sd hs 104 16; exact od rfl rfl (by kernel_rfl) hC (TSp.of rfl (Grows.refl _)) (by simp [go_sem, x0, w2, jj, k2, add0, s10, e3, e4] <;> rfl)
          intro sg wf hC hph
          intro a hA
          replace hA := hA.keepN [2, 3, 4, 5, 6, 7, 8, 9, 10, 52]
          refine nT ?_
          replace HB := HB.trans (hC.mono HB.size)
          replace hR := (hR.below hC).more hC.size
          replace K2 := K2.below hC K2.lt
          replace K3 := K3.below hC K3.lt
          replace K4 := K4.below hC K4.lt
          replace K7 := K7.below hC K7.lt
          clear hC hph
          have lp := xo_lt (xo_lt r7 r18) (sr_lt (n := 3) l15)
          have lq := xo_lt (xo_lt r17 r19) (sr_lt (n := 10) l2)
          have hVe := refNext_eq (x15 := x15) (x2 := x2) l16 l7 lp lq
          have hm := v_mask (ad64_lt (ad64 (ad64 x16 (xo (xo (rotr x15 7) (rotr x15 18)) (sr x15 3))) x7) (xo (xo (rotr x2 17) (rotr x2 19)) (sr x2 10)))
          rw [hVe, ← hnx] at hm
          obtain ⟨V, hV⟩ : ∃ V, shaNext (shaW k1 j) j = V := ⟨_, rfl⟩
          rw [hV] at hm
          have pA3 := fun (wo : World) (hC : (fun wy => Below wf.heap.size wf wy) wo) => have Kx := K7.below hC K7.lt; And.intro (Kx.cell) (And.intro (c16) (c7))
          refine wp_region_split 15 ?_
          simp only [List.take_succ_cons, List.take_zero, List.drop_succ_cons, List.drop_zero]
          refine wp_any_split_at hA [(.det ?dA30), (.det ?dA31), (.det ?dA32), (.det ?dA33), (.det ?dA34), (.det ?dA35), (.det ?dA36), (.det ?dA37), (.det ?dA38), (.det ?dA39), (.det ?dA310), (.det ?dA311), (.det ?dA312), (.det ?dA313), (.det ?dA314)] [] (fun wy => Below wf.heap.size wf wy) (TSp [] Grows) (by kernel_rfl) rfl (by kernel_rfl) (by kernel_rfl) rfl (by kernel_rfl) (by kernel_rfl) (by kernel_rfl) (by kernel_rfl) ((Below.refl _ _).drew) (stab_sp [] [true, true, true, true, true, true, true, true, true, true, true, true, true, true, true] [true, true, true, true, true, true, true, true, true, true, true, true, true, true, true] [] rfl rfl rfl (by kernel_rfl) ⟨trivial, trivial, trivial, trivial, trivial, trivial, trivial, trivial, trivial, trivial, trivial, trivial, trivial, trivial, trivial, trivial⟩ trivial) (fun _ h => by cases h) (fun _ _ _ _ _ h => by cases h) (fun _ h => by cases h) ⟨?oA30, ?oA31, ?oA32, ?oA33, ?oA34, ?oA35, ?oA36, ?oA37, ?oA38, ?oA39, ?oA310, ?oA311, ?oA312, ?oA313, ?oA314, trivial⟩ (by kernel_rfl) ?fA3
          case oA30 => intro ev wo hev hC hs hph; have x0 := se hA hs 8; exact od rfl rfl (by kernel_rfl) hC (TSp.of rfl (Grows.refl _)) (by simp [go_sem, x0, w16, w7, jj, k16, k7, add0, v_ad, hm] <;> rfl)
          case oA31 => intro ev wo hev hC hs hph; have x0 := se hA hs 8; exact od rfl rfl (by kernel_rfl) hC (TSp.of rfl (Grows.refl _)) (by simp [go_sem, x0, w16, w7, jj, k16, k7, add0, v_ad, hm] <;> rfl)
          case oA32 => intro ev wo hev hC hs hph; have x0 := sd hs 106 1; exact od rfl rfl (by kernel_rfl) hC (TSp.of rfl (Grows.refl _)) (by simp [go_sem, x0, hev.const, w16, w7, jj, k16, k7, add0, v_ad, hm] <;> rfl)
          case oA33 => intro ev wo hev hC hs hph; have x0 := se hA hs 7; have x1 := sd hs 107 2; exact od rfl rfl (by kernel_rfl) hC (TSp.of rfl (Grows.refl _)) (by simp [go_sem, x0, x1, w16, w7, jj, k16, k7, add0, v_ad, hm] <;> rfl)
          case oA34 => intro ev wo hev hC hs hph; have x0 := sd hs 108 3; exact od rfl rfl (by kernel_rfl) hC (TSp.of rfl (Grows.refl _)) (by simp [go_sem, x0, pA3 _ hC, w16, w7, jj, k16, k7, add0, v_ad, hm] <;> rfl)
          case oA35 => intro ev wo hev hC hs hph; have x0 := se hA hs 9; exact od rfl rfl (by kernel_rfl) hC (TSp.of rfl (Grows.refl _)) (by simp [go_sem, x0, w16, w7, jj, k16, k7, add0, v_ad, hm] <;> rfl)
          case oA36 => intro ev wo hev hC hs hph; have x0 := sd hs 109 4; have x1 := sd hs 110 5; exact od rfl rfl (by kernel_rfl) hC (TSp.of rfl (Grows.refl _)) (by simp [go_sem, x0, x1, w16, w7, jj, k16, k7, add0, v_ad, hm] <;> rfl)
          case oA37 => intro ev wo hev hC hs hph; have x0 := se hA hs 8; exact od rfl rfl (by kernel_rfl) hC (TSp.of rfl (Grows.refl _)) (by simp [go_sem, x0, w16, w7, jj, k16, k7, add0, v_ad, hm] <;> rfl)
          case oA38 => intro ev wo hev hC hs hph; have x0 := sd hs 112 7; exact od rfl rfl (by kernel_rfl) hC (TSp.of rfl (Grows.refl _)) (by simp [go_sem, x0, hev.const, w16, w7, jj, k16, k7, add0, v_ad, hm] <;> rfl)
          case oA39 => intro ev wo hev hC hs hph; have x0 := se hA hs 7; have x1 := sd hs 113 8; exact od rfl rfl (by kernel_rfl) hC (TSp.of rfl (Grows.refl _)) (by simp [go_sem, x0, x1, w16, w7, jj, k16, k7, add0, v_ad, hm] <;> rfl)
          case oA310 => intro ev wo hev hC hs hph; have x0 := sd hs 114 9; exact od rfl rfl (by kernel_rfl) hC (TSp.of rfl (Grows.refl _)) (by simp [go_sem, x0, pA3 _ hC, w16, w7, jj, k16, k7, add0, v_ad, hm] <;> rfl)
          case oA311 => intro ev wo hev hC hs hph; have x0 := sd hs 111 6; have x1 := sd hs 115 10; exact od rfl rfl (by kernel_rfl) hC (TSp.of rfl (Grows.refl _)) (by simp [go_sem, x0, x1, w16, w7, jj, k16, k7, add0, v_ad, hm] <;> rfl)
          case oA312 => intro ev wo hev hC hs hph; have x0 := se hA hs 10; exact od rfl rfl (by kernel_rfl) hC (TSp.of rfl (Grows.refl _)) (by simp [go_sem, x0, w16, w7, jj, k16, k7, add0, v_ad, hm] <;> rfl)
          case oA313 => intro ev wo hev hC hs hph; have x0 := sd hs 116 11; have x1 := sd hs 117 12; exact od rfl rfl (by kernel_rfl) hC (TSp.of rfl (Grows.refl _)) (by simp [go_sem, x0, x1, w16, w7, jj, k16, k7, add0, v_ad, hm] <;> rfl)
          case oA314 => intro ev wo hev hC hs hph; have x0 := sd hs 118 13; exact od rfl rfl (by kernel_rfl) hC (TSp.of rfl (Grows.refl _)) (by simp [go_sem, x0, hev.const, w16, w7, jj, k16, k7, add0, v_ad, hm] <;> rfl)
          intro sg wf hC hph
          intro a hA
          replace hA := hA.keepN [2, 3, 4, 5, 6, 7, 52, 105, 119]
          replace HB := HB.trans (hC.mono HB.size)
          replace hR := (hR.below hC).more hC.size
          replace K2 := K2.below hC K2.lt
          replace K3 := K3.below hC K3.lt
          replace K4 := K4.below hC K4.lt
          replace K7 := K7.below hC K7.lt
          revert a; refine wo rfl rfl (by decide) (fun ev e h => by simp [go_sem, h, jj, ki, add0, hci] <;> rfl) ?_; intro a hA
          have K7b := K7
          refine wl_setf ((shaC64 (shaW k1 j)).set j (.int .u64 (V : Nat))) _ hA rfl rfl K7 (j := j) (by rfl) (fun ev h => by simp [go_sem, h.get 120 rfl, h.get 119 rfl, jj, ki, add0, hci, K7.cell, K7.frozen]; try first | exact ⟨rfl, rfl⟩ | rfl) fun w16 (K7 : Blk _ _ _ _) hs => ?_
          replace hA := hA.keepN [2, 3, 4, 5, 6, 7, 52]
          refine wN (nB (nT (wR ?_)))
          revert a; (iterate 2 refine wo rfl rfl (by decide) (fun ev e h => by simp [go_sem, h, hwi] <;> rfl) ?_); intro a hA
          replace hA := hA.keepN [2, 3, 4, 5, 6, 7, 52]
          refine wN (nT ?_)
          refine ⟨k' - 1, by omega, j + 1, by omega, hA, reads_only hR hs K7b (map64_no _), hs.blk K2 (by omega), hs.blk K3 (by omega), hs.blk K4 (by omega), ?_, hs.below HB h7w⟩
          have e := shaC64_set (l := shaW k1 j) (by omega) V
          rw [hlen] at e
          rw [show shaW k1 (j + 1) = shaW k1 j ++ [V] by rw [← hV]; show shaW k1 j ++ _ = _; rw [if_neg (by omega)], ← e]
          exact K7
      case nU =>
        have hj : j = 64 := by simp at hq2; omega
        subst hj
        have hk64 : (shaW k1 64).length = 64 := shaW_length k1 64
        have hWlt : ∀ q, (shaW k1 64).getD q 0 < 4294967296 := fun q => shaW_getD_lt k1 64 q
        have hmix : shaGo T (i + 1) = shaAdd (shaSteps (shaW k1 64) (shaGo T i) 64) (shaGo T i) := by
          rw [← hk1, ← hp]
          rfl
        have hok := shaGo_ok T i
        rw [shaC64_full hk64] at K7
        generalize shaW k1 64 = W at *
        generalize hSi : shaGo T i = S at *
        replace hA := hA.keepN [2, 3, 4, 5, 6, 7]
        refine wp_exit (xT (xT (xB (nT (wS (wR ?_))))))
        refine wl_op hA rfl rfl (by decide) (fun ev h => exec_loadA K4 Tryz.underlying122 rfl (by kernel_rfl) (rfl : (S.l.map u64v).length = 8) rfl (h.get 4 rfl)) fun a hA => ?_
        have l4 := K4.lt
        have l7 := K7.lt
        have hwl2 := HB.size
        refine wl_new hA rfl rfl (by decide) (fun ev h => by simp [go_sem]; try first | exact ⟨rfl, rfl⟩ | rfl) fun w17 a (K11 : Blk _ _ _ _) hz17 hb17 hA => ?_
        replace HB := HB.trans (hb17.mono HB.size)
        replace K2 := K2.below hb17 K2.lt
        replace K3 := K3.below hb17 K3.lt
        replace K4 := K4.below hb17 K4.lt
        replace K7 := K7.below hb17 K7.lt
        replace hR := (hR.below hb17).more hb17.size
        obtain ⟨g11, hg11⟩ : ∃ g, wx.heap.size = g := ⟨_, rfl⟩
        rw [hg11] at K11 hA l7 l4 hwl2
        have K11b := K11
        refine wl_setw (S.l.map u64v) hA rfl rfl K11 (by rfl) (by rfl) (by kernel_rfl) (map64_one _) rfl (fun ev h => ⟨h.get 11 rfl, h.get 122 rfl⟩) fun w18 (K11 : Blk _ _ _ _) hs11 => ?_
        replace hR := reads_only hR hs11 K11b (by rfl)
        replace K2 := hs11.blk K2 (by omega)
        replace K3 := hs11.blk K3 (by omega)
        replace K4 := hs11.blk K4 (by omega)
        replace K7 := hs11.blk K7 (by omega)
        replace HB := hs11.below HB hwl2
        replace hA := hA.keepN [2, 3, 4, 5, 6, 7, 11]
        refine wN (nT (wS (wS (wR ?_))))
        revert a; refine wo rfl rfl (by decide) (fun ev e h => by simp [go_sem, h] <;> rfl) ?_; intro a hA
        replace hA := hA.keepN [2, 3, 4, 5, 6, 7, 11, 123]
        refine wN (nT (wB ?_))
        refine wp_loop_at (fun k a wx => ∃ (q : Nat), q + k = 64 ∧ At 251 [(2, .pointer (some ⟨g2, 0, none⟩)), (3, .pointer (some ⟨g3, 0, none⟩)), (4, .pointer (some ⟨g4, 0, none⟩)), (5, .slice Ar N cr), (6, .int .i64 (p : Nat)), (7, .pointer (some ⟨g7, 0, none⟩)), (11, .pointer (some ⟨g11, 0, none⟩)), (123, .int .i64 (q : Nat))] a ∧ Reads wx wx.heap.size 1 Ar N (u8s T) ∧ Blk wx g2 91 (digCells []).toArray ∧ Blk wx g3 121 (shaK.map u64v).toArray ∧ Blk wx g4 122 (S.l.map u64v).toArray ∧ Blk wx g7 121 (W.map u64v).toArray ∧ Blk wx g11 122 ((shaSteps W S q).l.map u64v).toArray ∧ Below w.heap.size w wx) (64) ?_ ?_
        · exact ⟨0, by omega, hA, hR, K2, K3, K4, K7, K11, HB⟩
        clear hR K2 K3 K4 K7 K11 HB
        rintro k' a wx ⟨q, hqk, hA, hR, K2, K3, K4, K7, K11, HB⟩
        refine wS (wR ?_)
        revert a; refine wo rfl rfl (by decide) (fun ev e h => by simp [go_sem, h] <;> rfl) ?_; intro a hA
        replace hA := hA.keepN [2, 3, 4, 5, 6, 7, 11, 123, 124]
        refine wN (nT (wS ?_))
        refine wp_if hA 124 _ rfl (fun hq2 => ?yY) (fun hq2 => ?nY)
        case yY =>
          have hj : q < 64 := by simp at hq2; omega
          have hst := shaSteps_ok W hok q
          have hnext : shaSteps W S (q + 1) = shaStep (shaK.getD q 0) (W.getD q 0) (shaSteps W S q) := rfl
          have ck := map64_at (l := shaK) (i := q) hj
          have cw := map64_at (l := W) (i := q) (by omega)
          have lk : shaK.getD q 0 < 4294967296 := by
            rw [List.getD_eq_getElem?_getD, List.getElem?_eq_getElem (show q < shaK.length from hj)]
            exact shaK_lt _ (List.getElem_mem _)
          have lw := hWlt q
          obtain ⟨kk, hkk⟩ : ∃ x, shaK.getD q 0 = x := ⟨_, rfl⟩
          obtain ⟨ww, hww⟩ : ∃ x, W.getD q 0 = x := ⟨_, rfl⟩
          rw [hkk] at ck lk hnext
          rw [hww] at cw lw hnext
          generalize shaSteps W S q = st at *
          obtain ⟨va, vb, vc, vd, ve, vf, vg, vh⟩ := st
          have la : va < 4294967296 := hst.a
          have lb : vb < 4294967296 := hst.b
          have lc : vc < 4294967296 := hst.c
          have ld : vd < 4294967296 := hst.d
          have le : ve < 4294967296 := hst.e
          have lf : vf < 4294967296 := hst.f
          have lg : vg < 4294967296 := hst.g
          have lh : vh < 4294967296 := hst.h
          clear hst
          replace K11 : Blk wx g11 122 #[.int .u64 (va : Nat), .int .u64 (vb : Nat), .int .u64 (vc : Nat), .int .u64 (vd : Nat), .int .u64 (ve : Nat), .int .u64 (vf : Nat), .int .u64 (vg : Nat), .int .u64 (vh : Nat)] := K11
          have r6 := rotr_lt ve 6
          have r11 := rotr_lt ve 11
          have r25 := rotr_lt ve 25
          have r2 := rotr_lt va 2
          have r13 := rotr_lt va 13
          have r22 := rotr_lt va 22
          have x1 := v_xo r6 r11
          have x2 := v_xo (xo_lt r6 r11) r25
          refine wp_skip (nT (wS (wB (wS (wR ?_)))))
          revert a; (iterate 2 refine wo rfl rfl (by decide) (fun ev e h => by simp [go_sem, h] <;> rfl) ?_); intro a hA
          replace hA := hA.keepN [2, 3, 4, 5, 6, 7, 11, 12, 123]
          have pB1 := fun (wo : World) (hC : (fun wy => Below wx.heap.size wx wy) wo) => have Kx := K11.below hC K11.lt; (Kx.cell)
          refine wN (nT (wS ?_))
          refine wp_any_at hA [(.det ?dB10), (.det ?dB11), (.det ?dB12), (.det ?dB13), (.det ?dB14), (.det ?dB15), (.det ?dB16), (.det ?dB17), (.det ?dB18), (.det ?dB19), (.det ?dB110), (.det ?dB111)] [] (fun wy => Below wx.heap.size wx wy) (TSp [] Grows) (by kernel_rfl) rfl (by kernel_rfl) (by kernel_rfl) rfl ((Below.refl _ _).drew) (stab_sp [] [true, true, true, true, true, true, true, true, true, true, true, true] [true, true, true, true, true, true, true, true, true, true, true, true] [] rfl rfl rfl (by kernel_rfl) ⟨trivial, trivial, trivial, trivial, trivial, trivial, trivial, trivial, trivial, trivial, trivial, trivial, trivial⟩ trivial) (fun _ h => by cases h) (fun _ _ _ _ _ h => by cases h) (fun _ h => by cases h) ⟨?oB10, ?oB11, ?oB12, ?oB13, ?oB14, ?oB15, ?oB16, ?oB17, ?oB18, ?oB19, ?oB110, ?oB111, trivial⟩ (by kernel_rfl) ?fB1
          case oB10 => intro ev wo hev hC hs hph; have x0 := se hA hs 11; exact od rfl rfl (by kernel_rfl) hC (TSp.of rfl (Grows.refl _)) (by simp [go_sem, x0, hev.const, x1, x2] <;> rfl)
          case oB11 => intro ev wo hev hC hs hph; have x0 := sd hs 126 0; exact od rfl rfl (by kernel_rfl) hC (TSp.of rfl (Grows.refl _)) (by simp [go_sem, x0, pB1 _ hC, x1, x2] <;> rfl)
          case oB12 =>
            intro ev wo hev hC hs hph
            have e127 := sd hs 127 1
            have Kx := K11.below hC K11.lt
            exact ob_dcall (wanted_none rfl) rfl (by kernel_rfl) (turned_any ve 6 6 rfl le (by decide) (by decide) wo) (exec_call Tryz.func67 (by kernel_rfl) rfl (hev.func _) (by first | (simp only [mL, e127, hev.const] <;> rfl) | (simp [mL, e127, hev.const] <;> rfl))) (by rfl) (fun w3 hb3 => ⟨hC.trans (hb3.mono hC.size), TSp.of rfl hb3⟩)
          case oB13 => intro ev wo hev hC hs hph; have x0 := se hA hs 11; exact od rfl rfl (by kernel_rfl) hC (TSp.of rfl (Grows.refl _)) (by simp [go_sem, x0, hev.const, x1, x2] <;> rfl)
          case oB14 => intro ev wo hev hC hs hph; have x0 := sd hs 129 3; exact od rfl rfl (by kernel_rfl) hC (TSp.of rfl (Grows.refl _)) (by simp [go_sem, x0, pB1 _ hC, x1, x2] <;> rfl)
          case oB15 =>
            intro ev wo hev hC hs hph
            have e130 := sd hs 130 4
            have Kx := K11.below hC K11.lt
            exact ob_dcall (wanted_none rfl) rfl (by kernel_rfl) (turned_any ve 11 11 rfl le (by decide) (by decide) wo) (exec_call Tryz.func67 (by kernel_rfl) rfl (hev.func _) (by first | (simp only [mL, e130, hev.const] <;> rfl) | (simp [mL, e130, hev.const] <;> rfl))) (by rfl) (fun w3 hb3 => ⟨hC.trans (hb3.mono hC.size), TSp.of rfl hb3⟩)
          case oB16 => intro ev wo hev hC hs hph; have x0 := sd hs 128 2; have x1 := sd hs 131 5; exact od rfl rfl (by kernel_rfl) hC (TSp.of rfl (Grows.refl _)) (by simp [go_sem, x0, x1, x1, x2] <;> rfl)
          case oB17 => intro ev wo hev hC hs hph; have x0 := se hA hs 11; exact od rfl rfl (by kernel_rfl) hC (TSp.of rfl (Grows.refl _)) (by simp [go_sem, x0, hev.const, x1, x2] <;> rfl)
          case oB18 => intro ev wo hev hC hs hph; have x0 := sd hs 133 7; exact od rfl rfl (by kernel_rfl) hC (TSp.of rfl (Grows.refl _)) (by simp [go_sem, x0, pB1 _ hC, x1, x2] <;> rfl)
          case oB19 =>
            intro ev wo hev hC hs hph
            have e134 := sd hs 134 8
            have Kx := K11.below hC K11.lt
            exact ob_dcall (wanted_none rfl) rfl (by kernel_rfl) (turned_any ve 25 25 rfl le (by decide) (by decide) wo) (exec_call Tryz.func67 (by kernel_rfl) rfl (hev.func _) (by first | (simp only [mL, e134, hev.const] <;> rfl) | (simp [mL, e134, hev.const] <;> rfl))) (by rfl) (fun w3 hb3 => ⟨hC.trans (hb3.mono hC.size), TSp.of rfl hb3⟩)
          case oB110 => intro ev wo hev hC hs hph; have x0 := sd hs 132 6; have x1 := sd hs 135 9; exact od rfl rfl (by kernel_rfl) hC (TSp.of rfl (Grows.refl _)) (by simp [go_sem, x0, x1, x1, x2] <;> rfl)
          case oB111 => intro ev wo hev hC hs hph; have x0 := sd hs 136 10; exact od rfl rfl (by kernel_rfl) hC (TSp.of rfl (Grows.refl _)) (by simp [go_sem, x0, x1, x2] <;> rfl)
          intro sg wf hC hph
          intro a hA
          replace hA := hA.keepN [2, 3, 4, 5, 6, 7, 11, 12, 13, 123]
          refine nT ?_
          replace HB := HB.trans (hC.mono HB.size)
          replace hR := (hR.below hC).more hC.size
          replace K2 := K2.below hC K2.lt
          replace K3 := K3.below hC K3.lt
          replace K4 := K4.below hC K4.lt
          replace K7 := K7.below hC K7.lt
          replace K11 := K11.below hC K11.lt
          clear hC hph x1 x2
          have lP := xo_lt (xo_lt r6 r11) r25
          obtain ⟨P, hP⟩ : ∃ P, xo (xo (rotr ve 6) (rotr ve 11)) (rotr ve 25) = P := ⟨_, rfl⟩
          rw [hP] at hA lP
          have a1 := v_an (l64 le) lf
          have n1 := v_ones le
          have ln : xo 4294967295 ve < 4294967296 := xo_lt (by decide) le
          have a2 := v_an (l64 ln) lg
          have o1 := v_or (an_lt (b := vf) le) (an_lt (b := vg) ln)
          refine wS (wR ?_)
          revert a; (iterate 10 refine wo rfl rfl (by decide) (fun ev e h => by simp [go_sem, h, K11.cell, a1, n1, a2, o1] <;> rfl) ?_); intro a hA
          replace hA := hA.keepN [2, 3, 4, 5, 6, 7, 11, 12, 13, 123, 141, 144, 146]
          revert a; (iterate 3 refine wo rfl rfl (by decide) (fun ev e h => by simp [go_sem, h, K11.cell, a1, n1, a2, o1] <;> rfl) ?_); intro a hA
          replace hA := hA.keepN [2, 3, 4, 5, 6, 7, 11, 12, 13, 14, 123]
          refine wN (nT (wS ?_))
          have lC := orr_lt (an_lt (b := vf) le) (an_lt (b := vg) ln)
          obtain ⟨C, hC0⟩ : ∃ C, orr (an ve vf) (an (xo 4294967295 ve) vg) = C := ⟨_, rfl⟩
          rw [hC0] at hA lC
          have jj : (0 : Int) ≤ (q : Int) := by omega
          have ji : (q : Int) < 64 := by omega
          have pB2 := fun (wo : World) (hC : (fun wy => Below wf.heap.size wf wy) wo) => have Kx := K11.below hC K11.lt; have Ky := K3.below hC K3.lt; have Kz := K7.below hC K7.lt; And.intro (Kx.cell) (And.intro (Ky.cell) (And.intro (Kz.cell) (And.intro (ck) (cw))))
          refine wp_any_at hA [(.det ?dB20), (.det ?dB21), (.det ?dB22), (.det ?dB23), (.det ?dB24), (.det ?dB25), (.det ?dB26), (.det ?dB27), (.det ?dB28), (.det ?dB29), (.det ?dB210), (.det ?dB211), (.det ?dB212), (.det ?dB213), (.det ?dB214)] [] (fun wy => Below wf.heap.size wf wy) (TSp [] Grows) (by kernel_rfl) rfl (by kernel_rfl) (by kernel_rfl) rfl ((Below.refl _ _).drew) (stab_sp [] [true, true, true, true, true, true, true, true, true, true, true, true, true, true, true] [true, true, true, true, true, true, true, true, true, true, true, true, true, true, true] [] rfl rfl rfl (by kernel_rfl) ⟨trivial, trivial, trivial, trivial, trivial, trivial, trivial, trivial, trivial, trivial, trivial, trivial, trivial, trivial, trivial, trivial⟩ trivial) (fun _ h => by cases h) (fun _ _ _ _ _ h => by cases h) (fun _ h => by cases h) ⟨?oB20, ?oB21, ?oB22, ?oB23, ?oB24, ?oB25, ?oB26, ?oB27, ?oB28, ?oB29, ?oB210, ?oB211, ?oB212, ?oB213, ?oB214, trivial⟩ (by kernel_rfl) ?fB2
          case oB20 => intro ev wo hev hC hs hph; have x0 := se hA hs 11; exact od rfl rfl (by kernel_rfl) hC (TSp.of rfl (Grows.refl _)) (by simp [go_sem, x0, hev.const, v_ad, jj, ji, add0] <;> rfl)
          case oB21 => intro ev wo hev hC hs hph; have x0 := sd hs 149 0; exact od rfl rfl (by kernel_rfl) hC (TSp.of rfl (Grows.refl _)) (by simp [go_sem, x0, pB2 _ hC, v_ad, jj, ji, add0] <;> rfl)
          case oB22 => intro ev wo hev hC hs hph; have x0 := se hA hs 13; exact od rfl rfl (by kernel_rfl) hC (TSp.of rfl (Grows.refl _)) (by simp [go_sem, x0, v_ad, jj, ji, add0] <;> rfl)
          case oB23 => intro ev wo hev hC hs hph; have x0 := sd hs 150 1; have x1 := sd hs 151 2; exact od rfl rfl (by kernel_rfl) hC (TSp.of rfl (Grows.refl _)) (by simp [go_sem, x0, x1, v_ad, jj, ji, add0] <;> rfl)
          case oB24 => intro ev wo hev hC hs hph; have x0 := se hA hs 14; exact od rfl rfl (by kernel_rfl) hC (TSp.of rfl (Grows.refl _)) (by simp [go_sem, x0, v_ad, jj, ji, add0] <;> rfl)
          case oB25 => intro ev wo hev hC hs hph; have x0 := sd hs 152 3; have x1 := sd hs 153 4; exact od rfl rfl (by kernel_rfl) hC (TSp.of rfl (Grows.refl _)) (by simp [go_sem, x0, x1, v_ad, jj, ji, add0] <;> rfl)
          case oB26 => intro ev wo hev hC hs hph; have x0 := se hA hs 12; exact od rfl rfl (by kernel_rfl) hC (TSp.of rfl (Grows.refl _)) (by simp [go_sem, x0, v_ad, jj, ji, add0] <;> rfl)
          case oB27 => intro ev wo hev hC hs hph; have x0 := se hA hs 3; have x1 := sd hs 155 6; exact od rfl rfl (by kernel_rfl) hC (TSp.of rfl (Grows.refl _)) (by simp [go_sem, x0, x1, v_ad, jj, ji, add0] <;> rfl)
          case oB28 => intro ev wo hev hC hs hph; have x0 := sd hs 156 7; exact od rfl rfl (by kernel_rfl) hC (TSp.of rfl (Grows.refl _)) (by simp [go_sem, x0, pB2 _ hC, v_ad, jj, ji, add0] <;> rfl)
          case oB29 => intro ev wo hev hC hs hph; have x0 := sd hs 154 5; have x1 := sd hs 157 8; exact od rfl rfl (by kernel_rfl) hC (TSp.of rfl (Grows.refl _)) (by simp [go_sem, x0, x1, v_ad, jj, ji, add0] <;> rfl)
          case oB210 => intro ev wo hev hC hs hph; have x0 := se hA hs 12; exact od rfl rfl (by kernel_rfl) hC (TSp.of rfl (Grows.refl _)) (by simp [go_sem, x0, v_ad, jj, ji, add0] <;> rfl)
          case oB211 => intro ev wo hev hC hs hph; have x0 := se hA hs 7; have x1 := sd hs 159 10; exact od rfl rfl (by kernel_rfl) hC (TSp.of rfl (Grows.refl _)) (by simp [go_sem, x0, x1, v_ad, jj, ji, add0] <;> rfl)
          case oB212 => intro ev wo hev hC hs hph; have x0 := sd hs 160 11; exact od rfl rfl (by kernel_rfl) hC (TSp.of rfl (Grows.refl _)) (by simp [go_sem, x0, pB2 _ hC, v_ad, jj, ji, add0] <;> rfl)
          case oB213 => intro ev wo hev hC hs hph; have x0 := sd hs 158 9; have x1 := sd hs 161 12; exact od rfl rfl (by kernel_rfl) hC (TSp.of rfl (Grows.refl _)) (by simp [go_sem, x0, x1, v_ad, jj, ji, add0] <;> rfl)
          case oB214 => intro ev wo hev hC hs hph; have x0 := sd hs 162 13; exact od rfl rfl (by kernel_rfl) hC (TSp.of rfl (Grows.refl _)) (by simp [go_sem, x0, v_ad, jj, ji, add0] <;> rfl)
          intro sg wf hC hph
          intro a hA
          replace hA := hA.keepN [2, 3, 4, 5, 6, 7, 11, 15, 123]
          refine nT ?_
          replace HB := HB.trans (hC.mono HB.size)
          replace hR := (hR.below hC).more hC.size
          replace K2 := K2.below hC K2.lt
          replace K3 := K3.below hC K3.lt
          replace K4 := K4.below hC K4.lt
          replace K7 := K7.below hC K7.lt
          replace K11 := K11.below hC K11.lt
          clear hC hph a1 n1 a2 o1
          obtain ⟨V1, hV1⟩ : ∃ V1, ad64 (ad64 (ad64 (ad64 vh P) C) kk) ww = V1 := ⟨_, rfl⟩
          rw [hV1] at hA
          have y1 := v_xo r2 r13
          have y2 := v_xo (xo_lt r2 r13) r22
          have pB3 := fun (wo : World) (hC : (fun wy => Below wf.heap.size wf wy) wo) => have Kx := K11.below hC K11.lt; (Kx.cell)
          refine wS ?_
          refine wp_any_at hA [(.det ?dB30), (.det ?dB31), (.det ?dB32), (.det ?dB33), (.det ?dB34), (.det ?dB35), (.det ?dB36), (.det ?dB37), (.det ?dB38), (.det ?dB39), (.det ?dB310), (.det ?dB311)] [] (fun wy => Below wf.heap.size wf wy) (TSp [] Grows) (by kernel_rfl) rfl (by kernel_rfl) (by kernel_rfl) rfl ((Below.refl _ _).drew) (stab_sp [] [true, true, true, true, true, true, true, true, true, true, true, true] [true, true, true, true, true, true, true, true, true, true, true, true] [] rfl rfl rfl (by kernel_rfl) ⟨trivial, trivial, trivial, trivial, trivial, trivial, trivial, trivial, trivial, trivial, trivial, trivial, trivial⟩ trivial) (fun _ h => by cases h) (fun _ _ _ _ _ h => by cases h) (fun _ h => by cases h) ⟨?oB30, ?oB31, ?oB32, ?oB33, ?oB34, ?oB35, ?oB36, ?oB37, ?oB38, ?oB39, ?oB310, ?oB311, trivial⟩ (by kernel_rfl) ?fB3
          case oB30 => intro ev wo hev hC hs hph; have x0 := se hA hs 11; exact od rfl rfl (by kernel_rfl) hC (TSp.of rfl (Grows.refl _)) (by simp [go_sem, x0, hev.const, y1, y2] <;> rfl)
          case oB31 => intro ev wo hev hC hs hph; have x0 := sd hs 163 0; exact od rfl rfl (by kernel_rfl) hC (TSp.of rfl (Grows.refl _)) (by simp [go_sem, x0, pB3 _ hC, y1, y2] <;> rfl)
          case oB32 =>
            intro ev wo hev hC hs hph
            have e164 := sd hs 164 1
            have Kx := K11.below hC K11.lt
            exact ob_dcall (wanted_none rfl) rfl (by kernel_rfl) (turned_any va 2 2 rfl la (by decide) (by decide) wo) (exec_call Tryz.func67 (by kernel_rfl) rfl (hev.func _) (by first | (simp only [mL, e164, hev.const] <;> rfl) | (simp [mL, e164, hev.const] <;> rfl))) (by rfl) (fun w3 hb3 => ⟨hC.trans (hb3.mono hC.size), TSp.of rfl hb3⟩)
          case oB33 => intro ev wo hev hC hs hph; have x0 := se hA hs 11; exact od rfl rfl (by kernel_rfl) hC (TSp.of rfl (Grows.refl _)) (by simp [go_sem, x0, hev.const, y1, y2] <;> rfl)
          case oB34 => intro ev wo hev hC hs hph; have x0 := sd hs 166 3; exact od rfl rfl (by kernel_rfl) hC (TSp.of rfl (Grows.refl _)) (by simp [go_sem, x0, pB3 _ hC, y1, y2] <;> rfl)
          case oB35 =>
            intro ev wo hev hC hs hph
            have e167 := sd hs 167 4
            have Kx := K11.below hC K11.lt
            exact ob_dcall (wanted_none rfl) rfl (by kernel_rfl) (turned_any va 13 13 rfl la (by decide) (by decide) wo) (exec_call Tryz.func67 (by kernel_rfl) rfl (hev.func _) (by first | (simp only [mL, e167, hev.const] <;> rfl) | (simp [mL, e167, hev.const] <;> rfl))) (by rfl) (fun w3 hb3 => ⟨hC.trans (hb3.mono hC.size), TSp.of rfl hb3⟩)
          case oB36 => intro ev wo hev hC hs hph; have x0 := sd hs 165 2; have x1 := sd hs 168 5; exact od rfl rfl (by kernel_rfl) hC (TSp.of rfl (Grows.refl _)) (by simp [go_sem, x0, x1, y1, y2] <;> rfl)
          case oB37 => intro ev wo hev hC hs hph; have x0 := se hA hs 11; exact od rfl rfl (by kernel_rfl) hC (TSp.of rfl (Grows.refl _)) (by simp [go_sem, x0, hev.const, y1, y2] <;> rfl)
          case oB38 => intro ev wo hev hC hs hph; have x0 := sd hs 170 7; exact od rfl rfl (by kernel_rfl) hC (TSp.of rfl (Grows.refl _)) (by simp [go_sem, x0, pB3 _ hC, y1, y2] <;> rfl)
          case oB39 =>
            intro ev wo hev hC hs hph
            have e171 := sd hs 171 8
            have Kx := K11.below hC K11.lt
            exact ob_dcall (wanted_none rfl) rfl (by kernel_rfl) (turned_any va 22 22 rfl la (by decide) (by decide) wo) (exec_call Tryz.func67 (by kernel_rfl) rfl (hev.func _) (by first | (simp only [mL, e171, hev.const] <;> rfl) | (simp [mL, e171, hev.const] <;> rfl))) (by rfl) (fun w3 hb3 => ⟨hC.trans (hb3.mono hC.size), TSp.of rfl hb3⟩)
          case oB310 => intro ev wo hev hC hs hph; have x0 := sd hs 169 6; have x1 := sd hs 172 9; exact od rfl rfl (by kernel_rfl) hC (TSp.of rfl (Grows.refl _)) (by simp [go_sem, x0, x1, y1, y2] <;> rfl)
          case oB311 => intro ev wo hev hC hs hph; have x0 := sd hs 173 10; exact od rfl rfl (by kernel_rfl) hC (TSp.of rfl (Grows.refl _)) (by simp [go_sem, x0, y1, y2] <;> rfl)
          intro sg wf hC hph
          intro a hA
          replace hA := hA.keepN [2, 3, 4, 5, 6, 7, 11, 15, 16, 123]
          refine nT ?_
          replace HB := HB.trans (hC.mono HB.size)
          replace hR := (hR.below hC).more hC.size
          replace K2 := K2.below hC K2.lt
          replace K3 := K3.below hC K3.lt
          replace K4 := K4.below hC K4.lt
          replace K7 := K7.below hC K7.lt
          replace K11 := K11.below hC K11.lt
          clear hC hph y1 y2
          have lQ := xo_lt (xo_lt r2 r13) r22
          obtain ⟨Q, hQ⟩ : ∃ Q, xo (xo (rotr va 2) (rotr va 13)) (rotr va 22) = Q := ⟨_, rfl⟩
          rw [hQ] at hA lQ
          have m1 := v_an (l64 la) lb
          have m2 := v_an (l64 la) lc
          have m3 := v_an (l64 lb) lc
          have m4 := v_or (an_lt (b := vb) la) (an_lt (b := vc) la)
          have m5 := v_or (orr_lt (an_lt (b := vb) la) (an_lt (b := vc) la)) (an_lt (b := vc) lb)
          refine wS (wR ?_)
          revert a; (iterate 10 refine wo rfl rfl (by decide) (fun ev e h => by simp [go_sem, h, K11.cell, m1, m2, m3, m4, m5] <;> rfl) ?_); intro a hA
          replace hA := hA.keepN [2, 3, 4, 5, 6, 7, 11, 15, 16, 123, 178, 183]
          revert a; (iterate 8 refine wo rfl rfl (by decide) (fun ev e h => by simp [go_sem, h, K11.cell, m1, m2, m3, m4, m5] <;> rfl) ?_); intro a hA
          replace hA := hA.keepN [2, 3, 4, 5, 6, 7, 11, 15, 16, 17, 123]
          refine wN (nT (wS (wS (wR ?_))))
          revert a; refine wo rfl rfl (by decide) (fun ev e h => by simp [go_sem, h, K11.cell, m1, m2, m3, m4, m5] <;> rfl) ?_; intro a hA
          replace hA := hA.keepN [2, 3, 4, 5, 6, 7, 11, 15, 16, 17, 18, 123]
          refine wN (nT (wB ?_))
          have lM := orr_lt (orr_lt (an_lt (b := vb) la) (an_lt (b := vc) la)) (an_lt (b := vc) lb)
          obtain ⟨M1, hM1⟩ : ∃ M1, orr (orr (an va vb) (an va vc)) (an vb vc) = M1 := ⟨_, rfl⟩
          rw [hM1] at hA lM
          clear m1 m2 m3 m4 m5
          replace K11 : Blk wf g11 122 ((shiftN ⟨va, vb, vc, vd, ve, vf, vg, vh⟩ 7).map u64v).toArray := K11
          refine wp_loop_at (fun k a wx => ∃ (e : Nat), e = k ∧ e ≤ 7 ∧ At 251 [(2, .pointer (some ⟨g2, 0, none⟩)), (3, .pointer (some ⟨g3, 0, none⟩)), (4, .pointer (some ⟨g4, 0, none⟩)), (5, .slice Ar N cr), (6, .int .i64 (p : Nat)), (7, .pointer (some ⟨g7, 0, none⟩)), (11, .pointer (some ⟨g11, 0, none⟩)), (15, .int .u64 (V1 : Nat)), (16, .int .u64 (Q : Nat)), (17, .int .u64 (M1 : Nat)), (18, .int .i64 (e : Nat)), (123, .int .i64 (q : Nat))] a ∧ Reads wx wx.heap.size 1 Ar N (u8s T) ∧ Blk wx g2 91 (digCells []).toArray ∧ Blk wx g3 121 (shaK.map u64v).toArray ∧ Blk wx g4 122 (S.l.map u64v).toArray ∧ Blk wx g7 121 (W.map u64v).toArray ∧ Blk wx g11 122 ((shiftN ⟨va, vb, vc, vd, ve, vf, vg, vh⟩ e).map u64v).toArray ∧ Below w.heap.size w wx) (7) ?_ ?_
          · exact ⟨7, rfl, by omega, hA, hR, K2, K3, K4, K7, K11, HB⟩
          clear hR K2 K3 K4 K7 K11 HB
          rintro k'' a wx ⟨e, rfl, he7, hA, hR, K2, K3, K4, K7, K11, HB⟩
          refine wS (wS (wR ?_))
          revert a; (iterate 2 refine wo rfl rfl (by decide) (fun ev e h => by simp [go_sem, h] <;> rfl) ?_); intro a hA
          replace hA := hA.keepN [2, 3, 4, 5, 6, 7, 11, 15, 16, 17, 18, 123, 192]
          refine wN (nT ?_)
          refine wp_if hA 192 _ rfl (fun hq3 => ?yZ) (fun hq3 => ?nZ)
          case yZ =>
            obtain ⟨e, rfl⟩ : ∃ e', e = e' + 1 := ⟨e - 1, by simp at hq3; omega⟩
            obtain ⟨f, hf⟩ : ∃ f, e + 1 = f := ⟨_, rfl⟩
            obtain ⟨cg1, cg2⟩ := shiftN_get (s := ⟨va, vb, vc, vd, ve, vf, vg, vh⟩) (j := e) (by omega)
            have hset := shiftN_set (s := ⟨va, vb, vc, vd, ve, vf, vg, vh⟩) (j := e) (by omega)
            rw [hf] at cg1 cg2 hset K11 hA
            have i0 : (0 : Int) ≤ (e : Int) := by omega
            have i1 : (0 : Int) ≤ (f : Int) := by omega
            have i2 : (e : Int) < 8 := by omega
            have i3 : (f : Int) < 8 := by omega
            have i4 : IntKind.i64.wrap ((f : Int) - 1) = (e : Int) := by rw [IntWalk.i64_in _ (by omega)]; omega
            refine wp_skip (nT (wS (wB (wR ?_))))
            revert a; (iterate 6 refine wo rfl rfl (by decide) (fun ev e h => by simp [go_sem, h, i0, i1, i2, i3, i4, K11.cell, cg1, cg2, add0] <;> rfl) ?_); intro a hA
            have K11b := K11
            refine wl_setf (((shiftN ⟨va, vb, vc, vd, ve, vf, vg, vh⟩ f).map u64v).set f (.int .u64 ((ShaS.l ⟨va, vb, vc, vd, ve, vf, vg, vh⟩).getD e 0 : Nat))) _ hA rfl rfl K11 (j := f) (by rfl) (fun ev h => by simp [go_sem, h.get 200 rfl, h.get 199 rfl, i0, i1, i2, i3, i4, K11.cell, cg1, cg2, add0, K11.cell, K11.frozen]; try first | exact ⟨rfl, rfl⟩ | rfl) fun w20 (K11 : Blk _ _ _ _) hs => ?_
            replace hA := hA.keepN [2, 3, 4, 5, 6, 7, 11, 15, 16, 17, 18, 123]
            refine wN (nB (nT (wR ?_)))
            revert a; (iterate 3 refine wo rfl rfl (by decide) (fun ev e h => by simp [go_sem, h, i0, i1, i2, i3, i4, K11.cell, cg1, cg2, add0] <;> rfl) ?_); intro a hA
            replace hA := hA.keepN [2, 3, 4, 5, 6, 7, 11, 15, 16, 17, 18, 123]
            refine wN (nT ?_)
            rw [hset] at K11
            exact ⟨e, by omega, e, rfl, by omega, hA, reads_only hR hs K11b (map64_no' _), hs.blk K2 (by omega), hs.blk K3 (by omega), hs.blk K4 (by omega), hs.blk K7 (by omega), K11, hs.below HB hwl2⟩
          case nZ =>
            have he : e = 0 := by simp at hq3; omega
            subst he
            replace K11 : Blk wx g11 122 #[.int .u64 (va : Nat), .int .u64 (va : Nat), .int .u64 (vb : Nat), .int .u64 (vc : Nat), .int .u64 (vd : Nat), .int .u64 (ve : Nat), .int .u64 (vf : Nat), .int .u64 (vg : Nat)] := K11
            have hcell := refStep_cells (vd := vd) (vh := vh) (kk := kk) (ww := ww) le lg ld lh lk lw lP lC lQ lM hP hC0 hQ hM1
            rw [← hnext, hV1] at hcell
            have e1 := v_mask (ad64_lt vd V1)
            have e2 := v_mask (ad64_lt (ad64 V1 Q) M1)
            replace hA := hA.keepN [2, 3, 4, 5, 6, 7, 11, 15, 16, 17, 123]
            refine wp_exit (xT (xT (xB (nT (wS (wR ?_))))))
            revert a; (iterate 6 refine wo rfl rfl (by decide) (fun ev e h => by simp [go_sem, h, K11.cell, v_ad, e1, e2] <;> rfl) ?_); intro a hA
            have K11b := K11
            refine wl_setf ([.int .u64 (va : Nat), .int .u64 (va : Nat), .int .u64 (vb : Nat), .int .u64 (vc : Nat), .int .u64 (mask (ad64 vd V1) : Nat), .int .u64 (ve : Nat), .int .u64 (vf : Nat), .int .u64 (vg : Nat)]) _ hA rfl rfl K11 (j := 4) (by rfl) (fun ev h => by simp [go_sem, h.get 206 rfl, h.get 205 rfl, K11.cell, v_ad, e1, e2, K11.cell, K11.frozen]; try first | exact ⟨rfl, rfl⟩ | rfl) fun w21 (K11 : Blk _ _ _ _) hs => ?_
            replace hR := reads_only hR hs K11b (by rfl)
            replace K2 := hs.blk K2 (by omega)
            replace K3 := hs.blk K3 (by omega)
            replace K4 := hs.blk K4 (by omega)
            replace K7 := hs.blk K7 (by omega)
            replace HB := hs.below HB hwl2
            clear hs K11b
            replace hA := hA.keepN [2, 3, 4, 5, 6, 7, 11, 15, 16, 17, 123]
            refine wN (nT (wR ?_))
            revert a; (iterate 7 refine wo rfl rfl (by decide) (fun ev e h => by simp [go_sem, h, K11.cell, v_ad, e1, e2] <;> rfl) ?_); intro a hA
            have K11b := K11
            refine wl_setf ([.int .u64 (mask (ad64 (ad64 V1 Q) M1) : Nat), .int .u64 (va : Nat), .int .u64 (vb : Nat), .int .u64 (vc : Nat), .int .u64 (mask (ad64 vd V1) : Nat), .int .u64 (ve : Nat), .int .u64 (vf : Nat), .int .u64 (vg : Nat)]) _ hA rfl rfl K11 (j := 0) (by rfl) (fun ev h => by simp [go_sem, h.get 213 rfl, h.get 212 rfl, K11.cell, v_ad, e1, e2, K11.cell, K11.frozen]; try first | exact ⟨rfl, rfl⟩ | rfl) fun w22 (K11 : Blk _ _ _ _) hs => ?_
            have hwi : IntKind.i64.wrap ((q : Int) + 1) = ((q + 1 : Nat) : Int) := by rw [IntWalk.i64_in _ (by omega)]; omega
            replace hA := hA.keepN [2, 3, 4, 5, 6, 7, 11, 123]
            refine wN (nB (nT (wR ?_)))
            revert a; (iterate 2 refine wo rfl rfl (by decide) (fun ev e h => by simp [go_sem, h, hwi] <;> rfl) ?_); intro a hA
            replace hA := hA.keepN [2, 3, 4, 5, 6, 7, 11, 123]
            refine wN (nT ?_)
            refine ⟨k' - 1, by omega, q + 1, by omega, hA, reads_only hR hs K11b (by rfl), hs.blk K2 (by omega), hs.blk K3 (by omega), hs.blk K4 (by omega), hs.blk K7 (by omega), ?_, hs.below HB hwl2⟩
            rw [hcell]
            exact K11
        case nY =>
          have hq64 : q = 64 := by simp at hq2; omega
          subst hq64
          have hst := shaSteps_ok W hok 64
          generalize shaSteps W S 64 = t at *
          replace hA := hA.keepN [2, 3, 4, 5, 6, 11]
          refine wp_exit (xT (xT (xB (nT (wS (wR ?_))))))
          revert a; refine wo rfl rfl (by decide) (fun ev e h => by simp [go_sem, h] <;> rfl) ?_; intro a hA
          replace hA := hA.keepN [2, 3, 4, 5, 6, 11, 215]
          refine wN (nT (wB ?_))
          refine wp_loop_at (fun k a wx => ∃ (q : Nat), q + k = 8 ∧ At 251 [(2, .pointer (some ⟨g2, 0, none⟩)), (3, .pointer (some ⟨g3, 0, none⟩)), (4, .pointer (some ⟨g4, 0, none⟩)), (5, .slice Ar N cr), (6, .int .i64 (p : Nat)), (11, .pointer (some ⟨g11, 0, none⟩)), (215, .int .i64 (q : Nat))] a ∧ Reads wx wx.heap.size 1 Ar N (u8s T) ∧ Blk wx g2 91 (digCells []).toArray ∧ Blk wx g3 121 (shaK.map u64v).toArray ∧ Blk wx g4 122 ((addN S t q).map u64v).toArray ∧ Blk wx g11 122 (t.l.map u64v).toArray ∧ Below w.heap.size w wx) (8) ?_ ?_
          · exact ⟨0, by omega, hA, hR, K2, K3, by rw [addN_0]; exact K4, K11, HB⟩
          clear hR K2 K3 K4 K7 K11 HB
          rintro k' a wx ⟨q, hqk, hA, hR, K2, K3, K4, K11, HB⟩
          refine wS (wR ?_)
          revert a; refine wo rfl rfl (by decide) (fun ev e h => by simp [go_sem, h] <;> rfl) ?_; intro a hA
          replace hA := hA.keepN [2, 3, 4, 5, 6, 11, 215, 216]
          refine wN (nT (wS ?_))
          refine wp_if hA 216 _ rfl (fun hq3 => ?yX) (fun hq3 => ?nX)
          case yX =>
            have hq8 : q < 8 := by simp at hq3; omega
            have c1 := addN_get (s := S) (t := t) hq8
            have c2 := map64_at (l := t.l) (i := q) hq8
            have jj : (0 : Int) ≤ (q : Int) := by omega
            have ji : (q : Int) < 8 := by omega
            have hset := addN_set (s := S) (t := t) hq8
            obtain ⟨y1, hy1⟩ : ∃ y, S.l.getD q 0 = y := ⟨_, rfl⟩
            obtain ⟨y2, hy2⟩ : ∃ y, t.l.getD q 0 = y := ⟨_, rfl⟩
            rw [hy1] at c1 hset
            rw [hy2] at c2 hset
            have hm := v_mask (ad64_lt y1 y2)
            refine wp_skip (nT (wS (wB (wS (wR ?_)))))
            revert a; (iterate 2 refine wo rfl rfl (by decide) (fun ev e h => by simp [go_sem, h] <;> rfl) ?_); intro a hA
            replace hA := hA.keepN [2, 3, 4, 5, 6, 11, 19, 215]
            have pG1 := fun (wo : World) (hC : (fun wy => Below wx.heap.size wx wy) wo) => have Kx := K4.below hC K4.lt; have Ky := K11.below hC K11.lt; And.intro (Kx.cell) (And.intro (Ky.cell) (And.intro (c1) (c2)))
            refine wN (nT ?_)
            refine wp_region_split 9 ?_
            simp only [List.take_succ_cons, List.take_zero, List.drop_succ_cons, List.drop_zero]
            refine wp_any_split_at hA [(.det ?dG10), (.det ?dG11), (.det ?dG12), (.det ?dG13), (.det ?dG14), (.det ?dG15), (.det ?dG16), (.det ?dG17), (.det ?dG18)] [] (fun wy => Below wx.heap.size wx wy) (TSp [] Grows) (by kernel_rfl) rfl (by kernel_rfl) (by kernel_rfl) rfl (by kernel_rfl) (by kernel_rfl) (by kernel_rfl) (by kernel_rfl) ((Below.refl _ _).drew) (stab_sp [] [true, true, true, true, true, true, true, true, true] [true, true, true, true, true, true, true, true, true] [] rfl rfl rfl (by kernel_rfl) ⟨trivial, trivial, trivial, trivial, trivial, trivial, trivial, trivial, trivial, trivial⟩ trivial) (fun _ h => by cases h) (fun _ _ _ _ _ h => by cases h) (fun _ h => by cases h) ⟨?oG10, ?oG11, ?oG12, ?oG13, ?oG14, ?oG15, ?oG16, ?oG17, ?oG18, trivial⟩ (by kernel_rfl) ?fG1
            case oG10 => intro ev wo hev hC hs hph; have x0 := se hA hs 19; exact od rfl rfl (by kernel_rfl) hC (TSp.of rfl (Grows.refl _)) (by simp [go_sem, x0, v_ad, hm, jj, ji, add0] <;> rfl)
            case oG11 => intro ev wo hev hC hs hph; have x0 := se hA hs 19; exact od rfl rfl (by kernel_rfl) hC (TSp.of rfl (Grows.refl _)) (by simp [go_sem, x0, v_ad, hm, jj, ji, add0] <;> rfl)
            case oG12 => intro ev wo hev hC hs hph; have x0 := se hA hs 4; have x1 := sd hs 219 1; exact od rfl rfl (by kernel_rfl) hC (TSp.of rfl (Grows.refl _)) (by simp [go_sem, x0, x1, v_ad, hm, jj, ji, add0] <;> rfl)
            case oG13 => intro ev wo hev hC hs hph; have x0 := sd hs 220 2; exact od rfl rfl (by kernel_rfl) hC (TSp.of rfl (Grows.refl _)) (by simp [go_sem, x0, pG1 _ hC, v_ad, hm, jj, ji, add0] <;> rfl)
            case oG14 => intro ev wo hev hC hs hph; have x0 := se hA hs 19; exact od rfl rfl (by kernel_rfl) hC (TSp.of rfl (Grows.refl _)) (by simp [go_sem, x0, v_ad, hm, jj, ji, add0] <;> rfl)
            case oG15 => intro ev wo hev hC hs hph; have x0 := se hA hs 11; have x1 := sd hs 222 4; exact od rfl rfl (by kernel_rfl) hC (TSp.of rfl (Grows.refl _)) (by simp [go_sem, x0, x1, v_ad, hm, jj, ji, add0] <;> rfl)
            case oG16 => intro ev wo hev hC hs hph; have x0 := sd hs 223 5; exact od rfl rfl (by kernel_rfl) hC (TSp.of rfl (Grows.refl _)) (by simp [go_sem, x0, pG1 _ hC, v_ad, hm, jj, ji, add0] <;> rfl)
            case oG17 => intro ev wo hev hC hs hph; have x0 := sd hs 221 3; have x1 := sd hs 224 6; exact od rfl rfl (by kernel_rfl) hC (TSp.of rfl (Grows.refl _)) (by simp [go_sem, x0, x1, v_ad, hm, jj, ji, add0] <;> rfl)
            case oG18 => intro ev wo hev hC hs hph; have x0 := sd hs 225 7; exact od rfl rfl (by kernel_rfl) hC (TSp.of rfl (Grows.refl _)) (by simp [go_sem, x0, hev.const, v_ad, hm, jj, ji, add0] <;> rfl)
            intro sg wf hC hph
            intro a hA
            replace hA := hA.keepN [2, 3, 4, 5, 6, 11, 215, 218, 226]
            replace HB := HB.trans (hC.mono HB.size)
            replace hR := (hR.below hC).more hC.size
            replace K2 := K2.below hC K2.lt
            replace K3 := K3.below hC K3.lt
            replace K4 := K4.below hC K4.lt
            replace K11 := K11.below hC K11.lt
            revert a; refine wo rfl rfl (by decide) (fun ev e h => by simp [go_sem, h, jj, ji, add0, c1] <;> rfl) ?_; intro a hA
            have K4b := K4
            refine wl_setf (((addN S t q).map u64v).set q (.int .u64 ((mask (ad64 y1 y2) : Nat) : Int))) _ hA rfl rfl K4 (j := q) (by rfl) (fun ev h => by simp [go_sem, h.get 227 rfl, h.get 226 rfl, jj, ji, add0, c1, K4.cell, K4.frozen]; try first | exact ⟨rfl, rfl⟩ | rfl) fun w23 (K4 : Blk _ _ _ _) hs => ?_
            have hwi : IntKind.i64.wrap ((q : Int) + 1) = ((q + 1 : Nat) : Int) := by rw [IntWalk.i64_in _ (by omega)]; omega
            replace hA := hA.keepN [2, 3, 4, 5, 6, 11, 215]
            refine wN (nB (nT (wR ?_)))
            revert a; (iterate 2 refine wo rfl rfl (by decide) (fun ev e h => by simp [go_sem, h, hwi] <;> rfl) ?_); intro a hA
            replace hA := hA.keepN [2, 3, 4, 5, 6, 11, 215]
            refine wN (nT ?_)
            rw [hset] at K4
            exact ⟨k' - 1, by omega, q + 1, by omega, hA, reads_only hR hs K4b (map64_no' _), hs.blk K2 (by omega), hs.blk K3 (by omega), K4, hs.blk K11 (by omega), hs.below HB (by omega)⟩
          case nX =>
            have hq8 : q = 8 := by simp at hq3; omega
            subst hq8
            rw [addN_8 hok hst, ← hmix] at K4
            have hwi : IntKind.i64.wrap ((p : Int) + 64) = ((64 * (i + 1) : Nat) : Int) := by rw [IntWalk.i64_in _ (by omega)]; omega
            replace hA := hA.keepN [2, 3, 4, 5, 6]
            refine wp_exit (xT (xT (xB (nB (nT (wR ?_))))))
            revert a; (iterate 3 refine wo rfl rfl (by decide) (fun ev e h => by simp [go_sem, h, hwi] <;> rfl) ?_); intro a hA
            replace hA := hA.keepN [2, 3, 4, 5, 6]
            refine wN (nT ?_)
            exact ⟨k - 1, by omega, i + 1, by omega, by rw [hN2]; exact hA, by rw [hN2]; exact hR, K2, K3, K4, HB⟩
    case nQ =>
      have hiM : i = M := by simp at hq; omega
      subst hiM
      generalize hSi : shaGo T i = S at *
      obtain ⟨D, hD⟩ : ∃ D, S.l.flatMap (be 4) = D := ⟨_, rfl⟩
      have hDl : D.length = 32 := by rw [← hD]; exact ShaS.l_len S
      have hok := hSi ▸ shaGo_ok T i
      have l2 := K2.lt
      have l4 := K4.lt
      have hwl := HB.size
      clear hR
      replace hA := hA.keepN [2, 4]
      refine wp_exit (xT (xT (xB (nT (wS (wR ?_))))))
      refine wl_new hA rfl rfl (by decide) (fun ev h => by simp [go_sem]; try first | exact ⟨rfl, rfl⟩ | rfl) fun w24 a (K20 : Blk _ _ _ _) hz24 hb24 hA => ?_
      replace HB := HB.trans (hb24.mono HB.size)
      replace K2 := K2.below hb24 K2.lt
      replace K4 := K4.below hb24 K4.lt
      obtain ⟨g20, hg20⟩ : ∃ g, wx.heap.size = g := ⟨_, rfl⟩
      rw [hg20] at K20 hA l2 l4 hwl
      replace K20 : Blk w24 g20 91 (digCells (D.take 0)).toArray := K20
      replace hA := hA.keepN [2, 4, 20]
      refine wN (nT (wS (wS (wR ?_))))
      revert a; refine wo rfl rfl (by decide) (fun ev e h => by simp [go_sem, h] <;> rfl) ?_; intro a hA
      replace hA := hA.keepN [2, 4, 20, 229]
      refine wN (nT (wB ?_))
      refine wp_loop_at (fun k a wy => ∃ (q : Nat), q + k = 8 ∧ At 251 [(2, .pointer (some ⟨g2, 0, none⟩)), (4, .pointer (some ⟨g4, 0, none⟩)), (20, .pointer (some ⟨g20, 0, none⟩)), (229, .int .i64 (q : Nat))] a ∧ Blk wy g2 91 (digCells []).toArray ∧ Blk wy g4 122 (S.l.map u64v).toArray ∧ Blk wy g20 91 (digCells (D.take (4 * q))).toArray ∧ Below w.heap.size w wy) (8) ?_ ?_
      · exact ⟨0, by omega, hA, K2, K4, K20, HB⟩
      clear K2 K3 K4 K20 HB
      rintro k' a wy ⟨q, hqk, hA, K2, K4, K20, HB⟩
      refine wS (wR ?_)
      revert a; refine wo rfl rfl (by decide) (fun ev e h => by simp [go_sem, h] <;> rfl) ?_; intro a hA
      replace hA := hA.keepN [2, 4, 20, 229, 230]
      refine wN (nT (wS ?_))
      refine wp_if hA 230 _ rfl (fun hq2 => ?yR) (fun hq2 => ?nR)
      case yR =>
        have hq8 : q < 8 := by simp at hq2; omega
        have c1 := map64_at (l := S.l) (i := q) hq8
        have lv := l_getD_lt hok q
        obtain ⟨v, hv⟩ : ∃ v, S.l.getD q 0 = v := ⟨_, rfl⟩
        rw [hv] at c1 lv
        have jj : (0 : Int) ≤ (q : Int) := by omega
        have ji : (q : Int) < 8 := by omega
        refine wp_skip (nT (wS (wB (wS (wR ?_)))))
        revert a; (iterate 2 refine wo rfl rfl (by decide) (fun ev e h => by simp [go_sem, h, K4.cell, c1, jj, ji, add0] <;> rfl) ?_); intro a hA
        replace hA := hA.keepN [2, 4, 20, 21, 229]
        refine wN (nT (wS (wR ?_)))
        revert a; (iterate 3 refine wo rfl rfl (by decide) (fun ev e h => by simp [go_sem, h, K4.cell, c1, jj, ji, add0] <;> rfl) ?_); intro a hA
        have hl20 := K20.lt
        refine wl_call hA rfl rfl (by decide) (fun ev h => exec_call Tryz.func46 (by kernel_rfl) rfl (h.f _) (by first | (simp only [mL, h.get 234 rfl, h.c] <;> rfl) | (simp [mL, h.get 234 rfl, h.c, K4.cell, c1, jj, ji, add0] <;> rfl))) (refBytes_any v 4 (by omega) (by decide) _) ?_
        rintro e w25 ⟨r, rfl, ho, hb25⟩
        refine ⟨_, rfl, fun a hA => ?_⟩
        replace HB := HB.trans (hb25.mono HB.size)
        replace K2 := K2.below hb25 K2.lt
        replace K4 := K4.below hb25 K4.lt
        replace K20 := K20.below hb25 K20.lt
        obtain ⟨gr, cr2, e0, hgr, _⟩ := World.ownsRow.form ho (by decide)
        subst e0
        have hR2 := Reads.of_own ho
        have h20r : g20 < gr := Nat.lt_of_lt_of_le hl20 hgr
        clear ho hgr
        revert a; refine wo rfl rfl (by decide) (fun ev e h => by simp [go_sem, h] <;> rfl) ?_; intro a hA
        replace hA := hA.keepN [2, 4, 20, 21, 22, 229]
        refine wN (nT (wS (wR ?_)))
        revert a; refine wo rfl rfl (by decide) (fun ev e h => by simp [go_sem, h] <;> rfl) ?_; intro a hA
        replace hA := hA.keepN [2, 4, 20, 21, 22, 229, 236]
        refine wN (nT (wB ?_))
        refine wp_loop_at (fun k a wz => ∃ (j : Nat), j + k = 4 ∧ At 251 [(2, .pointer (some ⟨g2, 0, none⟩)), (4, .pointer (some ⟨g4, 0, none⟩)), (20, .pointer (some ⟨g20, 0, none⟩)), (21, .int .i64 (q : Nat)), (22, .slice (some ⟨gr, 0, none⟩) 4 cr2), (229, .int .i64 (q : Nat)), (236, .int .i64 (j : Nat))] a ∧ Reads wz wz.heap.size 1 (some ⟨gr, 0, none⟩) 4 (u8s (be 4 v)) ∧ Blk wz g2 91 (digCells []).toArray ∧ Blk wz g4 122 (S.l.map u64v).toArray ∧ Blk wz g20 91 (digCells (D.take (4 * q + j))).toArray ∧ Below w.heap.size w wz) (4) ?_ ?_
        · exact ⟨0, by omega, hA, hR2, K2, K4, K20, HB⟩
        clear hR2 K2 K4 K20 HB
        rintro k'' a wz ⟨j, hjk, hA, hR2, K2, K4, K20, HB⟩
        refine wS (wR ?_)
        revert a; refine wo rfl rfl (by decide) (fun ev e h => by simp [go_sem, h] <;> rfl) ?_; intro a hA
        replace hA := hA.keepN [2, 4, 20, 21, 22, 229, 236, 237]
        refine wN (nT (wS ?_))
        refine wp_if hA 237 _ rfl (fun hq3 => ?yS) (fun hq3 => ?nS)
        case yS =>
          have hj4 : j < 4 := by simp at hq3; omega
          obtain ⟨ad, ea, _, hc⟩ := u8_ats hR2 (be_length _ _) (by decide)
          injection ea with ea
          subst ea
          have cj := hc j hj4
          obtain ⟨i, hi⟩ : ∃ i, 4 * q + j = i := ⟨_, rfl⟩
          have i32 : i < 32 := by omega
          obtain ⟨x, hx⟩ : ∃ x, (be 4 v).getD j 0 = x := ⟨_, rfl⟩
          rw [hx, add0] at cj
          have e2 := flat_take S i32
          rw [hD, show i / 4 = q by omega, show i % 4 = j by omega, hv, be4_at hj4, hx] at e2
          have e := digCells_set (l := D.take i) (by rw [List.length_take]; omega) x
          rw [show (D.take i).length = i by rw [List.length_take]; omega] at e
          have hci := digCells_zero (l := D.take i) (j := i) (by rw [List.length_take]; omega) i32
          rw [hi] at K20
          have q1 : IntKind.i64.wrap (4 * (q : Int)) = 4 * (q : Int) := IntWalk.i64_in _ (by omega)
          have q2 : IntKind.i64.wrap (4 * (q : Int) + (j : Int)) = (i : Int) := by rw [IntWalk.i64_in _ (by omega)]; omega
          have q3 : (0 : Int) ≤ (j : Int) := by omega
          have q4 : (j : Int) < 4 := by omega
          have q5 : (0 : Int) ≤ (i : Int) := by omega
          have q6 : (i : Int) < 32 := by omega
          refine wp_skip (nT (wS (wB (wS (wR ?_)))))
          revert a; (iterate 2 refine wo rfl rfl (by decide) (fun ev e h => by simp [go_sem, h, q1, q2, q3, q4, q5, q6, cj, add0, hci] <;> rfl) ?_); intro a hA
          replace hA := hA.keepN [2, 4, 20, 21, 22, 23, 229, 236]
          refine wN (nT (wR ?_))
          revert a; (iterate 9 refine wo rfl rfl (by decide) (fun ev e h => by simp [go_sem, h, q1, q2, q3, q4, q5, q6, cj, add0, hci] <;> rfl) ?_); intro a hA
          refine wl_setf ((digCells (D.take i)).set i (.int .u8 ((x.toNat : Nat) : Int))) _ hA rfl rfl K20 (j := i) (by rfl) (fun ev h => by simp [go_sem, h.get 247 rfl, h.get 246 rfl, q1, q2, q3, q4, q5, q6, cj, add0, hci, K20.cell, K20.frozen]; try first | exact ⟨rfl, rfl⟩ | rfl) fun w27 (K20 : Blk _ _ _ _) hs => ?_
          have hwi : IntKind.i64.wrap ((j : Int) + 1) = ((j + 1 : Nat) : Int) := by rw [IntWalk.i64_in _ (by omega)]; omega
          replace hA := hA.keepN [2, 4, 20, 21, 22, 229, 236]
          refine wN (nB (nT (wR ?_)))
          revert a; (iterate 2 refine wo rfl rfl (by decide) (fun ev e h => by simp [go_sem, h, hwi] <;> rfl) ?_); intro a hA
          replace hA := hA.keepN [2, 4, 20, 21, 22, 229, 236]
          refine wN (nT ?_)
          refine ⟨k'' - 1, by omega, j + 1, by omega, hA, reads_onlyA hR2 hs (by omega), hs.blk K2 (by omega), hs.blk K4 (by omega), ?_, hs.below HB hwl⟩
          rw [show 4 * q + (j + 1) = i + 1 by omega, e2, ← e]
          exact K20
        case nS =>
          have hj4 : j = 4 := by simp at hq3; omega
          subst hj4
          have hwi : IntKind.i64.wrap ((q : Int) + 1) = ((q + 1 : Nat) : Int) := by rw [IntWalk.i64_in _ (by omega)]; omega
          replace hA := hA.keepN [2, 4, 20, 229]
          refine wp_exit (xT (xT (xB (nB (nT (wR ?_))))))
          revert a; (iterate 2 refine wo rfl rfl (by decide) (fun ev e h => by simp [go_sem, h, hwi] <;> rfl) ?_); intro a hA
          replace hA := hA.keepN [2, 4, 20, 229]
          refine wN (nT ?_)
          exact ⟨k' - 1, by omega, q + 1, by omega, hA, K2, K4, K20, HB⟩
      case nR =>
        have hq8 : q = 8 := by simp at hq2; omega
        subst hq8
        rw [List.take_of_length_le (by omega)] at K20
        have h32 : (digCells D).length = 32 := digCells_len (by omega)
        replace hA := hA.keepN [2, 20]
        refine wp_exit (xT (xT (xB (nT (wS (wR ?_))))))
        refine wl_op hA rfl rfl (by decide) (fun ev h => exec_loadA K20 Tryz.underlying91 rfl (by kernel_rfl) h32 rfl (h.get 20 rfl)) fun a hA => ?_
        refine wl_setw (digCells D) hA rfl rfl K2 (digCells_len (l := []) (by decide)) h32 (by kernel_rfl) (digCells_one _) rfl (fun ev h => ⟨h.get 2 rfl, h.get 250 rfl⟩) fun w26 (K2 : Blk _ _ _ _) hs => ?_
        replace hA := hA.keepN [2]
        refine wN (nT (wp_ret ?_))
        refine ret_cell hA 2 rfl rfl K2 Tryz.underlying91 rfl (by kernel_rfl) h32 ?_
        exact ⟨by rw [hfin, hD, digCells_full hDl], hs.below HB hB2⟩
end Go.Proofs.YtmjikfeaopmejaaGreatDoor
/-
  Walks of the sum of 32 bits: the program's, and the document's.
-/
namespace Go.Proofs.YtmjikfeaopmejaaGreatDoor
open Go.RowKit
theorem crcGo_step {l : List UInt8} {j : Nat} {x : UInt8} (c : Nat) (hx : l[j]? = some x) : crcGo c (l.take (j + 1)) = crcByte (crcGo c (l.take j)) x := by
  rw [List.take_add_one, hx, ← crcGo_snoc]; rfl
theorem and_one (c : Nat) : c &&& 1 = c % 2 := by rw [Nat.and_one_is_mod]
theorem refBits_lt (x : Nat) {c : Nat} (h : c < 2 ^ 32) : ∀ k, refBits x k c < 2 ^ 32
  | 0 => h
  | k + 1 => by
    have ih := refBits_lt x h k
    show refBit _ _ < _
    unfold refBit
    have : refBits x k c / 2 < 2 ^ 32 := by omega
    split
    · exact Nat.xor_lt_two_pow this (by decide)
    · exact this
set_option maxRecDepth 100000 in
theorem crc_any (A : Option Addr) (n c : Nat) (l : List UInt8) (w : World) (hn : l.length = n) (hn2 : n ≤ 1000000000000) (hr : Reads w w.heap.size 1 A n (u8s l)) :
    Calls Tryz.prog 60 #[.slice A n c] w fun e w' => e = .returned (.int .u32 (crc l : Nat)) ∧ w' = w := by
  have HR := Lib.hid hr
  clear hr
  go_enter Tryz.func60, Tryz.ntmps60
  go_wp2
  go_loopw [3, 9] (fun v i wr => ∃ (j cc : Nat), i = .int .i64 j ∧ j ≤ n ∧ v = .int .u32 cc ∧ Hid (cc = crcGo 4294967295 (l.take j)) ∧ wr = w) (fun _ i _ => n - (intOf i).toNat)
  case atStart => exact ⟨0, 4294967295, rfl, by omega, rfl, rfl, rfl⟩
  case round =>
    obtain ⟨j, cc, rfl, hj, rfl, hcc, rfl⟩ := hrel
    have hl : cc < 4294967296 := by rw [hcc.out]; exact crcGo_lt _ (by decide)
    by_cases hlt : j < n
    · obtain ⟨x, hx⟩ : ∃ x, l[j]? = some x := ⟨_, List.getElem?_eq_getElem (by omega)⟩
      obtain ⟨ad, rfl, _, hc⟩ := HR.out.2 (by omega)
      have hcx := hc j (.int .u8 (x.toNat : Int)) (by rw [u8s_get, hx]; rfl)
      have hst := crcGo_step 4294967295 hx
      rw [← hcc.out] at hst
      have HST := Lib.hid hst
      obtain ⟨xn, hxn⟩ : ∃ xn, x.toNat = xn := ⟨_, rfl⟩
      have hx8 : xn < 256 := by rw [← hxn]; exact x.toNat_lt
      obtain ⟨c1, hc1⟩ : ∃ c1, cc ^^^ xn = c1 := ⟨_, rfl⟩
      have hl1 : c1 < 4294967296 := by rw [← hc1]; exact Nat.xor_lt_two_pow (n := 32) hl (by omega)
      have hb1 : bits .xor .u32 (cc : Int) ((xn : Int) % 4294967296) = (c1 : Int) := by
        rw [show (xn : Int) % 4294967296 = (xn : Int) by omega, u32_xor_nat _ _ hl (by omega), hc1]
      have hb2 : bits .xor .u32 (cc : Int) (xn : Int) = (c1 : Int) := by rw [u32_xor_nat _ _ hl (by omega), hc1]
      have HC1 : Hid (crcByte cc x = crcBits 8 c1) := by unfold crcByte; rw [hxn, hc1]; exact rfl
      rw [hxn] at hcx
      clear hst hx hc hc1 hxn
      go_wp2
      go_loopw [3, 17] (fun v i wr2 => ∃ (k cn : Nat), i = .int .i64 k ∧ k ≤ 8 ∧ v = .int .u32 cn ∧ Hid (cn = crcBits k c1) ∧ wr2 = wr) (fun _ i _ => 8 - (intOf i).toNat)
      case atStart => exact ⟨0, c1, rfl, by omega, rfl, rfl, rfl⟩
      case round =>
        obtain ⟨k, cn, rfl, hk, rfl, hcn, rfl⟩ := hrel
        have hln : cn < 4294967296 := by rw [hcn.out]; exact crcBits_lt _ hl1
        by_cases hk8 : k < 8
        · have hst : crcBits (k + 1) c1 = crcBit cn := by rw [crcBits_succ, hcn.out]
          have ha : bits .and .u32 (cn : Int) 1 = ((cn % 2 : Nat) : Int) := by
            have := u32_and_nat cn 1 hln (by decide)
            rw [and_one] at this
            exact this
          have HS2 := Lib.hid hst
          clear hst
          by_cases hb : cn % 2 = 1
          · have hv : crcBit cn = (cn / 2) ^^^ 3988292384 := by unfold crcBit; rw [if_pos hb]
            rw [hb] at ha
            have hx2 : bits .xor .u32 ((cn : Int) / 2) 3988292384 = (((cn / 2) ^^^ 3988292384 : Nat) : Int) := by
              have := u32_xor_nat (cn / 2) 3988292384 (by omega) (by decide)
              rw [← this]; rfl
            have HV := Lib.hid hv
            clear hv hb
            go_wp2
            go_roundw
            case rel => exact ⟨k + 1, _, by go_num, by omega, rfl, by rw [HS2.out, HV.out]; exact rfl, by first | rfl | trivial⟩
            case measure => simp [intOf]; omega
          · have hv : crcBit cn = cn / 2 := by unfold crcBit; rw [if_neg hb]
            have hb0 : cn % 2 = 0 := by omega
            rw [hb0] at ha
            have HV := Lib.hid hv
            clear hv hb hb0
            go_wp2
            go_roundw
            case rel => exact ⟨k + 1, cn / 2, by go_num, by omega, by rw [Int.natCast_ediv]; rfl, by rw [HS2.out, HV.out]; exact rfl, by first | rfl | trivial⟩
            case measure => simp [intOf]; omega
        · obtain rfl : k = 8 := by omega
          go_wp2
          go_roundw
          case rel => exact ⟨j + 1, cn, by go_num, by omega, rfl, by rw [HST.out, HC1.out]; exact hcn, by first | rfl | trivial⟩
          case measure => simp [intOf]; omega
    · obtain rfl : j = n := by omega
      have hx2 : bits .xor .u32 (cc : Int) 4294967295 = ((cc ^^^ 4294967295 : Nat) : Int) := by
        have := u32_xor_nat cc 4294967295 hl (by decide)
        rw [← this]; rfl
      go_wp2
      go_ret
      refine ⟨?_, rfl⟩
      unfold crc
      rw [hcc.out, List.take_of_length_le (by omega)]
      rfl
set_option maxRecDepth 100000 in
theorem refCrc_any (A : Option Addr) (n c : Nat) (l : List UInt8) (w : World) (hn : l.length = n) (hn2 : n ≤ 1000000000000) (hr : Reads w w.heap.size 1 A n (u8s l)) :
    Calls Tryz.prog 48 #[.slice A n c] w fun e w' => e = .returned (.int .u32 (crc l : Nat)) ∧ w' = w := by
  have HR := Lib.hid hr
  clear hr
  go_enter Tryz.func48, Tryz.ntmps48
  go_wp2
  go_loopw [3, 9] (fun v i wr => ∃ (j cc : Nat), i = .int .i64 j ∧ j ≤ n ∧ v = .int .u64 cc ∧ Hid (cc = crcGo 4294967295 (l.take j)) ∧ wr = w) (fun _ i _ => n - (intOf i).toNat)
  case atStart => exact ⟨0, 4294967295, rfl, by omega, rfl, rfl, rfl⟩
  case round =>
    obtain ⟨j, cc, rfl, hj, rfl, hcc, rfl⟩ := hrel
    have hl : cc < 4294967296 := by rw [hcc.out]; exact crcGo_lt _ (by decide)
    by_cases hlt : j < n
    · obtain ⟨x, hx⟩ : ∃ x, l[j]? = some x := ⟨_, List.getElem?_eq_getElem (by omega)⟩
      obtain ⟨ad, rfl, _, hc⟩ := HR.out.2 (by omega)
      have hcx := hc j (.int .u8 (x.toNat : Int)) (by rw [u8s_get, hx]; rfl)
      have hst := crcGo_step 4294967295 hx
      rw [← hcc.out] at hst
      have HST := Lib.hid hst
      obtain ⟨xn, hxn⟩ : ∃ xn, x.toNat = xn := ⟨_, rfl⟩
      have hx8 : xn < 256 := by rw [← hxn]; exact x.toNat_lt
      have HC1 : Hid (refBits xn 8 cc = crcByte cc x) := by rw [← hxn]; exact byte_same cc x
      rw [hxn] at hcx
      have jj0 : (0 : Int) ≤ (j : Int) := by omega
      have jj1 : (j : Int) < (n : Int) := by omega
      clear hst hx hc hxn
      go_wp2
      go_loopw [3, 12] (fun v i wr2 => ∃ (k cn : Nat), i = .int .i64 k ∧ k ≤ 8 ∧ v = .int .u64 cn ∧ Hid (cn = refBits xn k cc) ∧ wr2 = wr) (fun _ i _ => 8 - (intOf i).toNat)
      case atStart => exact ⟨0, cc, rfl, by omega, rfl, rfl, rfl⟩
      case round =>
        obtain ⟨k, cn, rfl, hk, rfl, hcn, rfl⟩ := hrel
        have hln : cn < 4294967296 := by rw [hcn.out]; exact refBits_lt xn hl k
        by_cases hk8 : k < 8
        · have hst : refBits xn (k + 1) cc = refBit cn (xn / 2 ^ k % 2) := by rw [hcn.out]; rfl
          have HS2 := Lib.hid hst
          clear hst
          obtain ⟨qn, hqn⟩ : ∃ qn, xn / 2 ^ k = qn := ⟨_, rfl⟩
          have hq8 : qn < 256 := by rw [← hqn]; exact Nat.lt_of_le_of_lt (Nat.div_le_self _ _) hx8
          have hq : (xn : Int) / 2 ^ k = (qn : Int) := by rw [← hqn, Int.natCast_ediv, Int.natCast_pow]; rfl
          obtain ⟨b, hbq⟩ : ∃ b, qn % 2 = b := ⟨_, rfl⟩
          obtain ⟨m, hm⟩ : ∃ m, cn % 2 = m := ⟨_, rfl⟩
          have ha8 : bits .and .u8 (qn : Int) 1 = (b : Int) := by
            have := u8_and_nat qn 1 hq8 (by decide)
            rw [and_one, hbq] at this
            exact this
          have ha : bits .and .u64 (cn : Int) 1 = (m : Int) := by
            have := u64_and_nat cn 1 (by omega) (by decide)
            rw [and_one, hm] at this
            exact this
          have hb2 : b < 2 := by omega
          have hm2 : m < 2 := by omega
          have hdv : (cn : Int).tdiv 2 = ((cn / 2 : Nat) : Int) := rfl
          rw [hqn, hbq] at HS2
          have HM := Lib.hid hm
          obtain ⟨t, ht⟩ : ∃ t, m ^^^ b = t := ⟨_, rfl⟩
          have hxx : bits .xor .u64 (m : Int) (b : Int) = (t : Int) := by rw [u64_xor_nat _ _ (by omega) (by omega), ht]
          have ht2 : t < 2 := by rw [← ht]; exact Nat.xor_lt_two_pow (n := 1) hm2 hb2
          have HT : Hid (m ^^^ b = t) := ht
          clear ht hm hbq hqn
          by_cases hb : t = 1
          · subst hb
            have hv : refBit cn b = (cn / 2) ^^^ 3988292384 := by unfold refBit; rw [HM.out, HT.out, if_pos rfl]
            have hx2 : bits .xor .u64 ((cn : Int) / 2) 3988292384 = (((cn / 2) ^^^ 3988292384 : Nat) : Int) := by
              have := u64_xor_nat (cn / 2) 3988292384 (by omega) (by decide)
              rw [← this]; rfl
            have HV := Lib.hid hv
            clear hv
            go_wp2
            go_roundw
            case rel => exact ⟨k + 1, _, by go_num, by omega, rfl, by rw [HS2.out, HV.out]; exact rfl, by first | rfl | trivial⟩
            case measure => simp [intOf]; omega
          · have hv : refBit cn b = cn / 2 := by unfold refBit; rw [HM.out, HT.out, if_neg hb]
            obtain rfl : t = 0 := by omega
            have HV := Lib.hid hv
            clear hv hb
            go_wp2
            go_roundw
            case rel => exact ⟨k + 1, cn / 2, by go_num, by omega, rfl, by rw [HS2.out, HV.out]; exact rfl, by first | rfl | trivial⟩
            case measure => simp [intOf]; omega
        · obtain rfl : k = 8 := by omega
          go_wp2
          go_roundw
          case rel => exact ⟨j + 1, cn, by go_num, by omega, rfl, by rw [HST.out, ← HC1.out]; exact hcn, by first | rfl | trivial⟩
          case measure => simp [intOf]; omega
    · obtain rfl : j = n := by omega
      have hx2 : bits .xor .u64 (cc : Int) 4294967295 = ((cc ^^^ 4294967295 : Nat) : Int) := by
        have := u64_xor_nat cc 4294967295 (by omega) (by decide)
        rw [← this]; rfl
      have hx3 : cc ^^^ 4294967295 < 4294967296 := Nat.xor_lt_two_pow (n := 32) hl (by decide)
      obtain ⟨r, hr⟩ : ∃ r, cc ^^^ 4294967295 = r := ⟨_, rfl⟩
      rw [hr] at hx2 hx3
      have hx4 : (r : Int) % 4294967296 = (r : Int) := by omega
      have HRR : Hid (crc l = r) := by
        unfold crc
        rw [← hr, hcc.out, List.take_of_length_le (by omega)]
        exact rfl
      clear hr
      go_wp2
      go_ret
      refine ⟨?_, rfl⟩
      rw [HRR.out]
      rfl
end Go.Proofs.YtmjikfeaopmejaaGreatDoor
/-
  Walks: a payload's frame, by both sides (frame.Frame, cubbyref01.Frame).
-/
namespace Go.Proofs.YtmjikfeaopmejaaGreatDoor
open Go.RowKit
set_option linter.unusedSimpArgs false
set_option linter.unusedVariables false
theorem blk_reads8 {w : World} {g : Nat} {T : TypeId} {p : Nat × Nat} {l : List UInt8} (h : w.heap[g]? = some (.cells (u8s l).toArray T p)) : Reads w w.heap.size 1 (some ⟨g, 0, none⟩) l.length (u8s l) := by
  refine ⟨by rw [u8s_length, Nat.mul_one], fun _ => ⟨_, rfl, (Array.getElem?_eq_some_iff.1 h).1, fun j u hu => ?_⟩⟩
  have ha : (⟨g, 0, none⟩ : Addr).add j = ⟨g, j, none⟩ := by unfold Addr.add; split <;> simp_all
  rw [ha, cell_of_row w g j _ _ p h]
  simpa using hu
theorem own8_blk {w : World} {B g : Nat} {l : List UInt8} (K : Blk w g 5 (u8s l).toArray) (hB : B ≤ g) (hm : l.length ≤ 1000000) : Own8 B w (.slice (some ⟨g, 0, none⟩) l.length l.length) l :=
  ⟨by rw [u8s_length, Nat.mul_one], .inr ⟨g, l.length, (u8s l).toArray, rfl, hB, K, Nat.le_refl _, by unfold maxLen; omega, by simp [u8s_length], by rw [List.take_of_length_le (by simp [u8s_length])]⟩⟩
theorem u8s_one' (l : List UInt8) : (u8s l).all (·.oneCell') = true := by
  rw [u8s_map, List.all_map, List.all_eq_true]
  intro x _
  rfl
theorem u8s_len32 {l : List UInt8} (h : l.length = 32) : (u8s l).length = 32 := by rw [u8s_length, h]
set_option maxRecDepth 100000 in
set_option maxHeartbeats 1000000 in
theorem frame_any (k : Nat) (hk1 : 1 ≤ k) (hk3 : k ≤ 3) (A : Option Addr) (n c : Nat) (p : List UInt8) (hl : p.length = n) (hn : n ≤ 30000) (w : World) (hr : Reads w w.heap.size 1 A n (u8s p)) :
    Calls Tryz.prog 35 #[.int .i64 (k : Nat), .slice A n c] w fun ev w' => ∃ v, ev = .returned (.tuple #[v, .int .i64 0]) ∧ Own8 w.heap.size w' v (frameB k p) ∧ Below w.heap.size w w' := by
  have f1 : decide ((k : Int) < 1) = false := by simp; omega
  have f2 : decide ((3 : Int) < (k : Int)) = false := by simp; omega
  have f3 : decide ((30000 : Int) < (n : Int)) = false := by simp; omega
  refine calls_at 46 Tryz.func35 rfl rfl (Nat.le_of_ble_eq_true rfl) ?_
  intro a hA; replace hA := hA.norm
  refine wS (wR ?_)
  revert a; (iterate 2 refine wo rfl rfl (by decide) (fun ev e h => by simp [go_sem, h, f1, f2, f3] <;> rfl) ?_); intro a hA
  replace hA := hA.keepN [0, 1]
  refine wN (nT (wS (wB (wS (wR ?_)))))
  revert a; (iterate 3 refine wo rfl rfl (by decide) (fun ev e h => by simp [go_sem, h, f1, f2, f3] <;> rfl) ?_); (iterate 2 refine wg _ rfl rfl rfl rfl (by decide) (fun hq ev e h => by simp [go_sem, h, ↓gw_t (beq_t hq), f1, f2, f3] <;> rfl) ?_); refine wko rfl rfl (by decide) rfl rfl rfl ?_; refine wo rfl rfl (by decide) (fun ev e h => by simp [go_sem, h, f1, f2, f3] <;> rfl) ?_; intro a hA
  replace hA := hA.keepN [0, 1, 10]
  refine wN (nT ?_)
  refine wp_if hA 10 _ rfl (fun hq => ?yA) (fun hq => ?nA)
  case yA => cases hq
  case nA =>
    refine wS (wR ?_)
    revert a; (iterate 4 refine wo rfl rfl (by decide) (fun ev e h => by simp [go_sem, h, f3] <;> rfl) ?_); intro a hA
    replace hA := hA.keepN [0, 1, 17]
    refine wN (nT ?_)
    refine wp_if hA 17 _ rfl (fun hq2 => ?yB) (fun hq2 => ?nB)
    case yB => cases hq2
    case nB =>
      refine wp_skip (nB (nT (wS (wR ?_))))
      refine wl_new hA rfl rfl (by decide) (fun ev h => by simp [go_sem, f3]; try first | exact ⟨rfl, rfl⟩ | rfl) fun w1 a (Ko : Blk _ _ _ _) hz1 hb1 hA => ?_
      obtain ⟨o, ho⟩ : ∃ o, w.heap.size = o := ⟨_, rfl⟩
      have hO : OutAt w1 w.heap.size o [] false (.slice none 0 0) := ⟨by omega, by rw [← ho]; exact Ko, World.ownsRow_nil _ _ _ _⟩
      rw [ho] at hA
      have hoB : w.heap.size ≤ o := by omega
      clear Ko
      replace hA := hA.keepN [0, 1, 6]
      refine wN (nT (wS (wR ?_)))
      have hcv : (convert 23 23 (.slice (some ⟨w1.heap.size, 0, none⟩) 3 3)).run Tryz.prog (w1.alloc (.cells #[.int .u8 99, .int .u8 117, .int .u8 98] 5)) = .ok (.slice (some ⟨w1.heap.size, 0, none⟩) 3 3) (w1.alloc (.cells #[.int .u8 99, .int .u8 117, .int .u8 98] 5 (3, 4))) := Lib.run_convert_bytes_const (P := Tryz.prog) w1 23 5 #[.int .u8 99, .int .u8 117, .int .u8 98] 3 3 Tryz.underlying23 Tryz.underlying5
      refine wl_op hA rfl rfl (by decide) (fun ev h => by simp [go_sem, h.c, f3, Nat.zero_add]; try first | exact ⟨rfl, rfl⟩ | rfl) fun a hA => ?_
      refine wl_op hA rfl rfl (by decide) (fun ev h => by simp [go_sem, h.get 21 rfl, hcv]; try first | exact ⟨rfl, rfl⟩ | rfl) fun a hA => ?_
      have hb2 : Below w1.heap.size w1 (w1.alloc (.cells #[.int .u8 99, .int .u8 117, .int .u8 98] 5 (3, 4))) := (Below.refl _ _).alloc (Nat.le_refl _) _
      have hR2 : Reads (w1.alloc (.cells #[.int .u8 99, .int .u8 117, .int .u8 98] 5 (3, 4))) (w1.alloc (.cells #[.int .u8 99, .int .u8 117, .int .u8 98] 5 (3, 4))).heap.size 1 (some ⟨w1.heap.size, 0, none⟩) 3 (u8s [99, 117, 98]) := blk_reads8 (l := [99, 117, 98]) (heap_alloc_new w1 _)
      generalize w1.alloc (.cells #[.int .u8 99, .int .u8 117, .int .u8 98] 5 (3, 4)) = w2 at *
      obtain ⟨L0, hL0⟩ : ∃ L0, w1.heap.size = L0 := ⟨_, rfl⟩
      have HB := hb1.trans (hb2.mono hb1.size)
      refine wl_call hA rfl rfl (by decide) (fun ev h => exec_call Tryz.func33 (by kernel_rfl) rfl (h.f _) (by first | (simp only [mL, h.get 6 rfl, h.get 22 rfl, h.c] <;> rfl) | (simp [mL, h.get 6 rfl, h.get 22 rfl, h.c, hcv] <;> rfl))) (out_Raw (hO.below hb2) HB.size (by simp) _ 3 3 [99, 117, 98] rfl (by decide) hR2) ?_
      rintro e w3 ⟨rfl, ⟨v3, hO⟩, hob⟩
      refine ⟨_, rfl, fun a hA => ?_⟩
      replace HB := HB.trans (hob.toBelow HB.size (Nat.le_refl _) hoB)
      clear hR2 hb2 hcv
      replace hA := hA.keepN [0, 1, 6]
      refine wN (nT (wS (wR ?_)))
      revert a; refine wo rfl rfl (by decide) (fun ev e h => by simp [go_sem, h] <;> rfl) ?_; intro a hA
      refine wl_call hA rfl rfl (by decide) (fun ev h => exec_call Tryz.func31 (by kernel_rfl) rfl (h.f _) (by first | (simp only [mL, h.get 6 rfl, h.get 24 rfl, h.c] <;> rfl) | (simp [mL, h.get 6 rfl, h.get 24 rfl, h.c] <;> rfl))) (out_N hO HB.size (by simp) k 1 (by omega) (show k < 256 ^ 1 by omega)) ?_
      rintro e w4 ⟨rfl, ⟨v4, hO⟩, hob⟩
      refine ⟨_, rfl, fun a hA => ?_⟩
      replace HB := HB.trans (hob.toBelow HB.size (Nat.le_refl _) hoB)
      replace hA := hA.keepN [1, 6]
      refine wN (nT (wS (wR ?_)))
      revert a; (iterate 2 refine wo rfl rfl (by decide) (fun ev e h => by simp [go_sem, h] <;> rfl) ?_); intro a hA
      refine wl_call hA rfl rfl (by decide) (fun ev h => exec_call Tryz.func31 (by kernel_rfl) rfl (h.f _) (by first | (simp only [mL, h.get 6 rfl, h.get 27 rfl, h.c] <;> rfl) | (simp [mL, h.get 6 rfl, h.get 27 rfl, h.c] <;> rfl))) (out_N hO HB.size (by simp [be_length]) n 4 (by omega) (show n < 256 ^ 4 by omega)) ?_
      rintro e w5 ⟨rfl, ⟨v5, hO⟩, hob⟩
      refine ⟨_, rfl, fun a hA => ?_⟩
      replace HB := HB.trans (hob.toBelow HB.size (Nat.le_refl _) hoB)
      have eh : [] ++ [99, 117, 98] ++ be 1 k ++ be 4 n = frameHd k p := by unfold frameHd; rw [hl]; simp [be]
      rw [eh] at hO
      have hdl := frameHd_length k p
      replace hA := hA.keepN [1, 6]
      refine wN (nT (wS (wR ?_)))
      refine wl_call hA rfl rfl (by decide) (fun ev h => exec_call Tryz.func34 (by kernel_rfl) rfl (h.f _) (by first | (simp only [mL, h.get 6 rfl, h.c] <;> rfl) | (simp [mL, h.get 6 rfl, h.c] <;> rfl))) (out_End hO (by omega)) ?_
      rintro e w6 ⟨r6, rfl, ho6, hb6⟩
      refine ⟨_, rfl, fun a hA => ?_⟩
      replace HB := HB.trans (hb6.mono HB.size)
      replace hO := hO.below hb6
      obtain ⟨A6, c6, e6, hR6, _⟩ := own_reads ho6
      subst e6
      revert a; (iterate 5 refine wo rfl rfl (by decide) (fun ev e h => by simp [go_sem, h] <;> rfl) ?_); intro a hA
      replace hA := hA.keepN [1, 6, 7]
      refine wN (nT (wS (wR ?_)))
      revert a; refine wo rfl rfl (by decide) (fun ev e h => by simp [go_sem, h] <;> rfl) ?_; intro a hA
      refine wl_call hA rfl rfl (by decide) (fun ev h => exec_call Tryz.func60 (by kernel_rfl) rfl (h.f _) (by first | (simp only [mL, h.get 33 rfl, h.c] <;> rfl) | (simp [mL, h.get 33 rfl, h.c] <;> rfl))) (crc_any A6 _ c6 (frameHd k p) _ rfl (by omega) hR6) ?_
      rintro e w7 ⟨rfl, rfl⟩
      refine ⟨_, rfl, fun a hA => ?_⟩
      have hcl := crc_bound (frameHd k p)
      obtain ⟨cr, hcr⟩ : ∃ cr, crc (frameHd k p) = cr := ⟨_, rfl⟩
      rw [hcr] at hA hcl
      have hwc : IntKind.i64.wrap (cr : Int) = (cr : Int) := IntWalk.i64_in _ (by omega)
      refine wl_op hA rfl rfl (by decide) (fun ev h => by simp [go_sem, h.get 34 rfl, hwc]; try first | exact ⟨rfl, rfl⟩ | rfl) fun a hA => ?_
      refine wl_call hA rfl rfl (by decide) (fun ev h => exec_call Tryz.func31 (by kernel_rfl) rfl (h.f _) (by first | (simp only [mL, h.get 6 rfl, h.get 35 rfl, h.c] <;> rfl) | (simp [mL, h.get 6 rfl, h.get 35 rfl, h.c, hwc] <;> rfl))) (out_N hO HB.size (by omega) cr 4 (by omega) (show cr < 256 ^ 4 by omega)) ?_
      rintro e w8 ⟨rfl, ⟨v8, hO⟩, hob⟩
      refine ⟨_, rfl, fun a hA => ?_⟩
      replace HB := HB.trans (hob.toBelow HB.size (Nat.le_refl _) hoB)
      clear hR6 ho6
      replace hA := hA.keepN [1, 6]
      refine wN (nT (wS (wR ?_)))
      revert a; refine wo rfl rfl (by decide) (fun ev e h => by simp [go_sem, h] <;> rfl) ?_; intro a hA
      refine wl_call hA rfl rfl (by decide) (fun ev h => exec_call Tryz.func61 (by kernel_rfl) rfl (h.f _) (by first | (simp only [mL, h.get 37 rfl, h.c] <;> rfl) | (simp [mL, h.get 37 rfl, h.c] <;> rfl))) (digest_any A n c p hl (by omega) _ ((hr.below HB).more HB.size)) ?_
      rintro e w9 ⟨rfl, hb9⟩
      refine ⟨_, rfl, fun a hA => ?_⟩
      replace HB := HB.trans (hb9.mono HB.size)
      replace hO := hO.below hb9
      refine wl_new hA rfl rfl (by decide) (fun ev h => by simp [go_sem]; try first | exact ⟨rfl, rfl⟩ | rfl) fun w10 a (K9 : Blk _ _ _ _) hz10 hb10 hA => ?_
      have hd32 := u8s_len32 (digest_length p)
      refine wl_setw (u8s (digest p)) hA rfl rfl K9 (by rfl) hd32 (by kernel_rfl) (u8s_one' _) rfl (fun ev h => ⟨h.get 9 rfl, h.get 38 rfl⟩) fun w11 (K9 : Blk _ _ _ _) hs => ?_
      have hb11 := hs.below hb10 (Nat.le_refl _)
      replace HB := HB.trans (hb11.mono HB.size)
      replace hO := hO.below hb11
      have hR9 := blk_reads8 (l := digest p) K9
      rw [digest_length] at hR9
      clear hb10 hb11 hs hb9
      replace hA := hA.keepN [1, 6, 9]
      refine wN (nT (wS (wR ?_)))
      revert a; refine wo rfl rfl (by decide) (fun ev e h => by simp [go_sem, h] <;> rfl) ?_; intro a hA
      refine wl_call hA rfl rfl (by decide) (fun ev h => exec_call Tryz.func33 (by kernel_rfl) rfl (h.f _) (by first | (simp only [mL, h.get 6 rfl, h.get 39 rfl, h.c] <;> rfl) | (simp [mL, h.get 6 rfl, h.get 39 rfl, h.c] <;> rfl))) (out_Raw hO HB.size (by simp [be_length]; omega) _ 32 _ (digest p) (digest_length p) (by decide) hR9) ?_
      rintro e w12 ⟨rfl, ⟨v12, hO⟩, hob⟩
      refine ⟨_, rfl, fun a hA => ?_⟩
      replace HB := HB.trans (hob.toBelow HB.size (Nat.le_refl _) hoB)
      have hdg := digest_length p
      replace hA := hA.keepN [1, 6]
      refine wN (nT (wS (wR ?_)))
      revert a; refine wo rfl rfl (by decide) (fun ev e h => by simp [go_sem, h] <;> rfl) ?_; intro a hA
      refine wl_call hA rfl rfl (by decide) (fun ev h => exec_call Tryz.func33 (by kernel_rfl) rfl (h.f _) (by first | (simp only [mL, h.get 6 rfl, h.get 41 rfl, h.c] <;> rfl) | (simp [mL, h.get 6 rfl, h.get 41 rfl, h.c] <;> rfl))) (out_Raw hO HB.size (by simp [be_length]; omega) A n c p hl (by omega) ((hr.below HB).more HB.size)) ?_
      rintro e w13 ⟨rfl, ⟨v13, hO⟩, hob⟩
      refine ⟨_, rfl, fun a hA => ?_⟩
      replace HB := HB.trans (hob.toBelow HB.size (Nat.le_refl _) hoB)
      have hfe : frameHd k p ++ be 4 cr ++ digest p ++ p = frameB k p := by rw [← hcr]; rfl
      rw [hfe] at hO
      have hfl := frameB_length k p
      replace hA := hA.keepN [6]
      refine wN (nT (wS (wR ?_)))
      refine wl_call hA rfl rfl (by decide) (fun ev h => exec_call Tryz.func34 (by kernel_rfl) rfl (h.f _) (by first | (simp only [mL, h.get 6 rfl, h.c] <;> rfl) | (simp [mL, h.get 6 rfl, h.c] <;> rfl))) (out_End hO (by omega)) ?_
      rintro e w14 ⟨r14, rfl, ho14, hb14⟩
      refine ⟨_, rfl, fun a hA => ?_⟩
      revert a; (iterate 4 refine wo rfl rfl (by decide) (fun ev e h => by simp [go_sem, h] <;> rfl) ?_); intro a hA
      replace hA := hA.keepN [4, 5]
      refine wN (nT (wp_ret ?_))
      refine ret_2 hA 4 5 rfl rfl rfl ?_
      exact ⟨_, rfl, own_mono (Own8.of ho14) HB.size, HB.trans (hb14.mono HB.size)⟩
set_option maxRecDepth 100000 in
set_option maxHeartbeats 1000000 in
theorem refFrame_any (k : Nat) (hk1 : 1 ≤ k) (hk3 : k ≤ 3) (A : Option Addr) (n c : Nat) (p : List UInt8) (hl : p.length = n) (hn : n ≤ 30000) (w : World) (hr : Reads w w.heap.size 1 A n (u8s p)) :
    Calls Tryz.prog 16 #[.int .i64 (k : Nat), .slice A n c] w fun ev w' => ∃ v, ev = .returned v ∧ Own8 w.heap.size w' v (frameB k p) ∧ Below w.heap.size w w' := by
  have q1 : IntKind.u8.wrap (k : Int) = (((UInt8.ofNat k).toNat : Nat) : Int) := by rw [IntKind.wrap_u8']; simp
  have q2 : IntKind.u64.wrap (n : Int) = (n : Int) := IntWalk.u64_in _ (by omega)
  refine calls_at 28 Tryz.func16 rfl rfl (Nat.le_of_ble_eq_true rfl) ?_
  intro a hA; replace hA := hA.norm
  refine wS (wR ?_)
  revert a; refine wo rfl rfl (by decide) (fun ev e h => by simp [go_sem, h, q1, q2] <;> rfl) ?_; intro a hA
  replace hA := hA.keepN [0, 1]
  refine wN (nT (wS (wR ?_)))
  revert a; refine wo rfl rfl (by decide) (fun ev e h => by simp [go_sem, h, q1, q2] <;> rfl) ?_; intro a hA
  refine wl_op hA rfl rfl (by decide) (fun ev h => by simp [go_sem, h.get 7 rfl, q1, q2]; try first | exact ⟨rfl, rfl⟩ | rfl) fun a hA => ?_
  refine wl_new hA rfl rfl (by decide) (fun ev h => by simp [go_sem, h.c, h.get 8 rfl, q1, q2]; try first | exact ⟨rfl, rfl⟩ | rfl) fun w1 a (K1 : Blk _ _ _ _) hz1 hb1 hA => ?_
  have ho1 : Own8 w.heap.size w1 (.slice (some ⟨w.heap.size, 0, none⟩) 4 4) [99, 117, 98, UInt8.ofNat k] := own8_blk (l := [99, 117, 98, UInt8.ofNat k]) K1 (Nat.le_refl _) (by simp)
  have HB : Below w.heap.size w w1 := hb1
  clear K1 hb1
  revert a; (iterate 2 refine wo rfl rfl (by decide) (fun ev e h => by simp [go_sem, h, q1, q2] <;> rfl) ?_); intro a hA
  refine wl_op hA rfl rfl (by decide) (fun ev h => by simp [go_sem, h.get 11 rfl, q1, q2]; try first | exact ⟨rfl, rfl⟩ | rfl) fun a hA => ?_
  refine wl_call hA rfl rfl (by decide) (fun ev h => exec_call Tryz.func46 (by kernel_rfl) rfl (h.f _) (by first | (simp only [mL, h.get 12 rfl, h.c] <;> rfl) | (simp [mL, h.get 12 rfl, h.c, q1, q2] <;> rfl))) (refBytes_any n 4 (by omega) (by decide) _) ?_
  rintro e w2 ⟨r2, rfl, ho2, hb2⟩
  refine ⟨_, rfl, fun a hA => ?_⟩
  replace HB := HB.trans (hb2.mono HB.size)
  replace ho1 := ho1.below hb2
  obtain ⟨r3, w3, hr3, ho3, hg3⟩ := run_app8 ho1 (Own8.of ho2).took (by simp [be_length]) HB.size
  have HB3 := below_app8 HB ho1 hg3 (Nat.le_refl _) HB.size
  refine wl_op hA rfl rfl (by decide) (fun ev h => exec_append rfl (h.get 9 rfl) (h.get 13 rfl) hr3) fun a hA => ?_
  have eh : [99, 117, 98, UInt8.ofNat k] ++ be 4 n = frameHd k p := by unfold frameHd; rw [hl]
  rw [eh] at ho3
  have hdl := frameHd_length k p
  clear HB ho1 ho2 hb2
  obtain ⟨A3, c3, e3, hR3, _⟩ := own_reads ho3
  subst e3
  revert a; refine wo rfl rfl (by decide) (fun ev e h => by simp [go_sem, h, q1, q2] <;> rfl) ?_; intro a hA
  replace hA := hA.keepN [1, 5]
  refine wN (nT (wS (wR ?_)))
  revert a; (iterate 2 refine wo rfl rfl (by decide) (fun ev e h => by simp [go_sem, h, q1, q2] <;> rfl) ?_); intro a hA
  refine wl_call hA rfl rfl (by decide) (fun ev h => exec_call Tryz.func48 (by kernel_rfl) rfl (h.f _) (by first | (simp only [mL, h.get 16 rfl, h.c] <;> rfl) | (simp [mL, h.get 16 rfl, h.c, q1, q2] <;> rfl))) (refCrc_any A3 _ c3 (frameHd k p) _ rfl (by omega) hR3) ?_
  rintro e w4 ⟨rfl, rfl⟩
  refine ⟨_, rfl, fun a hA => ?_⟩
  have hcl := crc_bound (frameHd k p)
  obtain ⟨cr, hcr⟩ : ∃ cr, crc (frameHd k p) = cr := ⟨_, rfl⟩
  rw [hcr] at hA hcl
  have hwc : IntKind.u64.wrap (cr : Int) = (cr : Int) := IntWalk.u64_in _ (by omega)
  refine wl_op hA rfl rfl (by decide) (fun ev h => by simp [go_sem, h.get 17 rfl, hwc]; try first | exact ⟨rfl, rfl⟩ | rfl) fun a hA => ?_
  refine wl_call hA rfl rfl (by decide) (fun ev h => exec_call Tryz.func46 (by kernel_rfl) rfl (h.f _) (by first | (simp only [mL, h.get 18 rfl, h.c] <;> rfl) | (simp [mL, h.get 18 rfl, h.c, hwc] <;> rfl))) (refBytes_any cr 4 (by omega) (by decide) _) ?_
  rintro e w5 ⟨r5, rfl, ho5, hb5⟩
  refine ⟨_, rfl, fun a hA => ?_⟩
  replace HB3 := HB3.trans (hb5.mono HB3.size)
  replace ho3 := ho3.below hb5
  obtain ⟨r6, w6, hr6, ho6, hg6⟩ := run_app8 ho3 (Own8.of ho5).took (by simp [be_length]; omega) HB3.size
  have HB6 := below_app8 HB3 ho3 hg6 (Nat.le_refl _) HB3.size
  refine wl_op hA rfl rfl (by decide) (fun ev h => exec_append rfl (h.get 15 rfl) (h.get 19 rfl) hr6) fun a hA => ?_
  clear HB3 ho3 ho5 hb5 hR3
  revert a; refine wo rfl rfl (by decide) (fun ev e h => by simp [go_sem, h] <;> rfl) ?_; intro a hA
  replace hA := hA.keepN [1, 5]
  refine wN (nT (wS (wR ?_)))
  revert a; refine wo rfl rfl (by decide) (fun ev e h => by simp [go_sem, h] <;> rfl) ?_; intro a hA
  refine wl_call hA rfl rfl (by decide) (fun ev h => exec_call Tryz.func49 (by kernel_rfl) rfl (h.f _) (by first | (simp only [mL, h.get 21 rfl, h.c] <;> rfl) | (simp [mL, h.get 21 rfl, h.c] <;> rfl))) (refDigest_any A n c p hl (by omega) _ ((hr.below HB6).more HB6.size)) ?_
  rintro e w7 ⟨rfl, hb7⟩
  refine ⟨_, rfl, fun a hA => ?_⟩
  replace HB6 := HB6.trans (hb7.mono HB6.size)
  replace ho6 := ho6.below hb7
  refine wl_new hA rfl rfl (by decide) (fun ev h => by simp [go_sem]; try first | exact ⟨rfl, rfl⟩ | rfl) fun w8 a (K8 : Blk _ _ _ _) hz8 hb8 hA => ?_
  have hd32 := u8s_len32 (digest_length p)
  refine wl_setw (u8s (digest p)) hA rfl rfl K8 (by rfl) hd32 (by kernel_rfl) (u8s_one' _) rfl (fun ev h => ⟨h.get 6 rfl, h.get 22 rfl⟩) fun w9 (K8 : Blk _ _ _ _) hs => ?_
  have hb9 := hs.below hb8 (Nat.le_refl _)
  replace HB6 := HB6.trans (hb9.mono HB6.size)
  replace ho6 := ho6.below hb9
  have hR9 := blk_reads8 (l := digest p) K8
  clear hb8 hb9 hs
  obtain ⟨A6, c6, e6, _, _⟩ := own_reads ho6
  subst e6
  replace hA := hA.keepN [1, 5, 6]
  refine wN (nT (wS (wR ?_)))
  revert a; (iterate 2 refine wo rfl rfl (by decide) (fun ev e h => by simp [go_sem, h] <;> rfl) ?_); intro a hA
  have hdg := digest_length p
  obtain ⟨r10, w10, hr10, ho10, hg10⟩ := run_app8 ho6 (u := .slice (some ⟨w7.heap.size, 0, none⟩) 32 32) ⟨_, 32, by rw [hdg], hR9⟩ (by simp [be_length]; omega) HB6.size
  have HB10 := below_app8 HB6 ho6 hg10 (Nat.le_refl _) HB6.size
  refine wl_op hA rfl rfl (by decide) (fun ev h => exec_append rfl (h.get 23 rfl) (h.get 24 rfl) hr10) fun a hA => ?_
  clear HB6 ho6 hR9
  revert a; refine wo rfl rfl (by decide) (fun ev e h => by simp [go_sem, h] <;> rfl) ?_; intro a hA
  obtain ⟨r11, w11, hr11, ho11, hg11⟩ := run_app8 ho10 (u := .slice A n c) ⟨A, c, by rw [hl], by rw [hl]; exact (hr.below HB10).more HB10.size⟩ (by simp [be_length]; omega) HB10.size
  have HB11 := below_app8 HB10 ho10 hg11 (Nat.le_refl _) HB10.size
  refine wl_op hA rfl rfl (by decide) (fun ev h => exec_append rfl (h.get 25 rfl) (h.get 26 rfl) hr11) fun a hA => ?_
  revert a; refine wo rfl rfl (by decide) (fun ev e h => by simp [go_sem, h] <;> rfl) ?_; intro a hA
  replace hA := hA.keepN [4]
  refine wN (nT (wp_ret ?_))
  refine ret_1 hA 4 rfl rfl ?_
  have hfe : frameHd k p ++ be 4 cr ++ digest p ++ p = frameB k p := by rw [← hcr]; rfl
  rw [hfe] at ho11
  exact ⟨_, rfl, ho11, HB11⟩
end Go.Proofs.YtmjikfeaopmejaaGreatDoor
/-
  Walks: what a head tells, by both sides (frame.head, cubbyref01.head).
-/
namespace Go.Proofs.YtmjikfeaopmejaaGreatDoor
open Go.RowKit
set_option linter.unusedSimpArgs false
set_option linter.unusedVariables false
theorem inN_take {l : List UInt8} (n : Nat) (h : n ≤ l.length) : inN ⟨l, false⟩ n = (beVal (l.take n), ⟨l.drop n, false⟩) := by
  unfold inN inTake
  simp only
  rw [if_neg (by simp), if_neg (by omega)]
  simp
theorem beVal_one (x : UInt8) : beVal [x] = x.toNat := by unfold beVal; simp
theorem hd_parts {b : List UInt8} (h : 44 ≤ b.length) : inN ⟨(b.take 44).drop 3, false⟩ 1 = (hdKind b, ⟨(b.take 44).drop 4, false⟩) ∧ inN ⟨(b.take 44).drop 4, false⟩ 4 = (hdLen b, ⟨(b.take 44).drop 8, false⟩) ∧ (inN ⟨(b.take 44).drop 8, false⟩ 4).1 = hdCrc b := by
  have hl : (b.take 44).length = 44 := by rw [List.length_take]; omega
  refine ⟨?_, ?_, ?_⟩
  · rw [inN_take 1 (by rw [List.length_drop]; omega), List.drop_drop]
    congr 1
    rw [List.drop_eq_getElem_cons (by omega), List.take_succ_cons, List.take_zero, beVal_one]
    unfold hdKind
    rw [List.getElem_take, List.getD_eq_getElem?_getD, List.getElem?_eq_getElem (by omega)]
    rfl
  · rw [inN_take 4 (by rw [List.length_drop]; omega), List.drop_drop]
    congr 1
    unfold hdLen
    rw [List.drop_take, List.take_take]
    rfl
  · rw [inN_take 4 (by rw [List.length_drop]; omega)]
    show beVal _ = _
    unfold hdCrc
    rw [List.drop_take, List.take_take]
    rfl
theorem magic_str : (⟨#[99, 117, 98]⟩ : ByteArray).toList = [99, 117, 98] := by rw [ByteArray.toList_eq]
set_option maxRecDepth 100000 in
theorem head_short (A : Option Addr) (n c : Nat) (hn : n < 44) (w : World) : Calls Tryz.prog 68 #[.slice A n c] w fun ev w' => ev = .returned (.tuple #[.int .i64 0, .int .i64 0, .bool false]) ∧ w' = w := by
  have h1 : decide ((n : Int) < 44) = true := by simp; omega
  refine calls_at 47 Tryz.func68 rfl rfl (Nat.le_of_ble_eq_true rfl) ?_
  intro a hA; replace hA := hA.norm
  refine wS (wR ?_)
  refine wl_op hA rfl rfl (by decide) (fun ev h => by simp [go_sem, h.c, h1]; try first | exact ⟨rfl, rfl⟩ | rfl) fun a hA => ?_
  refine wl_op hA rfl rfl (by decide) (fun ev h => by simp [go_sem, h.c, h1]; try first | exact ⟨rfl, rfl⟩ | rfl) fun a hA => ?_
  refine wl_op hA rfl rfl (by decide) (fun ev h => by simp [go_sem, h.c, h1]; try first | exact ⟨rfl, rfl⟩ | rfl) fun a hA => ?_
  replace hA := hA.keepN [0]
  refine wN (nT (wS (wS (wR ?_))))
  refine wl_op hA rfl rfl (by decide) (fun ev h => by simp [go_sem, h.get 0 rfl, h1]; try first | exact ⟨rfl, rfl⟩ | rfl) fun a hA => ?_
  refine wl_op hA rfl rfl (by decide) (fun ev h => by simp [go_sem, h.get 9 rfl, h1]; try first | exact ⟨rfl, rfl⟩ | rfl) fun a hA => ?_
  refine wl_op hA rfl rfl (by decide) (fun ev h => by simp [go_sem, h.c, h.get 10 rfl, h1]; try first | exact ⟨rfl, rfl⟩ | rfl) fun a hA => ?_
  refine wl_op hA rfl rfl (by decide) (fun ev h => by simp [go_sem, h.get 11 rfl, h1]; try first | exact ⟨rfl, rfl⟩ | rfl) fun a hA => ?_
  refine wl_guard _ (v := undef) hA rfl rfl rfl rfl (by decide) (fun hq ev h => by first | (cases hq; done) | (cases hr; done)) fun a hA => ?_
  refine wl_guard _ (v := undef) hA rfl rfl rfl rfl (by decide) (fun hq ev h => by first | (cases hq; done) | (cases hr; done)) fun a hA => ?_
  refine wl_guard _ (v := undef) hA rfl rfl rfl rfl (by decide) (fun hq ev h => by first | (cases hq; done) | (cases hr; done)) fun a hA => ?_
  refine wl_guard _ (v := undef) hA rfl rfl rfl rfl (by decide) (fun hq ev h => by first | (cases hq; done) | (cases hr; done)) fun a hA => ?_
  revert a; (first | refine wko rfl rfl (by decide) rfl rfl rfl ?_ | refine wo rfl rfl (by decide) (fun ev e h => by simp [go_sem, h, gv_or, gv_and, h1] <;> rfl) ?_); intro a hA
  replace hA := hA.keepN [0, 17]
  refine wN (nT ?_)
  refine wp_if hA 17 _ rfl (fun hq => ?yA) (fun hq => ?nA)
  case nA => cases hq
  case yA =>
    refine wS (wR ?_)
    revert a; (iterate 3 refine wo rfl rfl (by decide) (fun ev e h => by simp [go_sem, h, h1] <;> rfl) ?_); intro a hA
    replace hA := hA.keepN [2, 3, 4]
    refine wN (nT (wp_ret (rT ?_)))
    refine ret_3 hA 2 3 4 rfl rfl rfl rfl ?_
    exact ⟨rfl, rfl⟩
set_option maxRecDepth 100000 in
set_option maxHeartbeats 1000000 in
theorem head_long (A : Option Addr) (n c : Nat) (b : List UInt8) (hl : b.length = n) (hc : n ≤ c) (h44 : 44 ≤ n) (hn : n ≤ 16000000) (w : World) (hr : Reads w w.heap.size 1 A n (u8s b)) :
    Calls Tryz.prog 68 #[.slice A n c] w fun ev w' => ∃ (k m : Int), ev = .returned (.tuple #[.int .i64 k, .int .i64 m, .bool (headOk b)]) ∧ (headOk b = true → k = (hdKind b : Nat) ∧ m = (hdLen b : Nat)) ∧ Below w.heap.size w w' := by
  have h1 : decide ((n : Int) < 44) = false := by simp; omega
  have hr3 := hr.take8 (k := 3) (by omega)
  have v3 := conv_reads (c := c) (by rw [List.length_take]; omega) hr3
  obtain ⟨S, hS⟩ : ∃ S : ByteArray, (⟨(b.take 3).toArray⟩ : ByteArray) = S := ⟨_, rfl⟩
  have hSm : (S.toList == [99, 117, 98]) = (b.take 3 == [99, 117, 98]) := by rw [← hS, ByteArray.toList_eq]
  rw [hS] at v3
  have z1 : (3 : Int) ≤ (c : Int) := by omega
  have z2 : (44 : Int) ≤ (c : Int) := by omega
  refine calls_at 47 Tryz.func68 rfl rfl (Nat.le_of_ble_eq_true rfl) ?_
  intro a hA; replace hA := hA.norm
  refine wS (wR ?_)
  revert a; (iterate 3 refine wo rfl rfl (by decide) (fun ev e h => by simp [go_sem, h, h1, v3, z1, z2, magic_str, hSm] <;> rfl) ?_); intro a hA
  replace hA := hA.keepN [0]
  refine wN (nT (wS (wS (wR ?_))))
  revert a; (iterate 4 refine wo rfl rfl (by decide) (fun ev e h => by simp [go_sem, h, h1, v3, z1, z2, magic_str, hSm] <;> rfl) ?_); (iterate 2 refine wg _ rfl rfl rfl rfl (by decide) (fun hq ev e h => by simp [go_sem, h, ↓gw_t (beq_t hq), h1, v3, z1, z2, magic_str, hSm] <;> rfl) ?_); intro a hA
  refine wl_guard _ hA rfl rfl rfl rfl (by decide) (fun hq ev h => by simp [go_sem, ((h.get 14 rfl).trans (gw_t (beq_t hq))), h1, v3, z1, z2, magic_str, hSm]; try first | exact ⟨rfl, rfl⟩ | rfl) fun a hA => ?_
  revert a; refine wg _ rfl rfl rfl rfl (by decide) (fun hq ev e h => by simp [go_sem, h, ↓gw_t (beq_t hq), h1, v3, z1, z2, magic_str, hSm] <;> rfl) ?_; (first | refine wko rfl rfl (by decide) rfl rfl rfl ?_ | refine wo rfl rfl (by decide) (fun ev e h => by simp [go_sem, h, gv_or, gv_and, h1, v3, z1, z2, magic_str, hSm] <;> rfl) ?_); intro a hA
  replace hA := hA.keepN [0, 17]
  refine wN (nT ?_)
  refine wp_if hA 17 _ rfl (fun hq => ?yA) (fun hq => ?nA)
  case yA =>
    have hno : headOk b = false := by
      have : (b.take 3 == [99, 117, 98]) = false := by simpa using hq
      unfold headOk
      rw [this]
      simp
    refine wS (wR ?_)
    revert a; (iterate 3 refine wo rfl rfl (by decide) (fun ev e h => by simp [go_sem, h, h1, v3, z1, z2, magic_str, hSm] <;> rfl) ?_); intro a hA
    replace hA := hA.keepN [2, 3, 4]
    refine wN (nT (wp_ret (rT ?_)))
    refine ret_3 hA 2 3 4 rfl rfl rfl rfl ?_
    exact ⟨0, 0, by rw [hno], fun h => (by rw [hno] at h; cases h), Below.refl _ _⟩
  case nA =>
    have hmg : (b.take 3 == [99, 117, 98]) = true := by simpa using hq
    refine wp_skip (nT (wS (wR ?_)))
    revert a; (iterate 2 refine wo rfl rfl (by decide) (fun ev e h => by simp [go_sem, h, z1, z2] <;> rfl) ?_); intro a hA
    have hr41 := (reads_cut8 hr (k := 3) (by omega) hc (by decide)).take8 (k := 41) (by omega)
    have e41 : ((b.drop 3).take 41) = (b.take 44).drop 3 := by rw [List.drop_take]
    have hl41 : ((b.drop 3).take 41).length = 41 := by rw [List.length_take, List.length_drop]; omega
    obtain ⟨p1, p2, p3⟩ := hd_parts (b := b) (by omega)
    rw [← e41] at p1
    have hl4 : ∀ q, ((b.take 44).drop q).length ≤ 1000000 := fun q => by rw [List.length_drop, List.length_take]; omega
    refine wl_call hA rfl rfl (by decide) (fun ev h => exec_call Tryz.func39 (by kernel_rfl) rfl (h.f _) (by first | (simp only [mL, h.get 19 rfl, h.c] <;> rfl) | (simp [mL, h.get 19 rfl, h.c, z1, z2] <;> rfl))) (in_new _ 41 _ ((b.drop 3).take 41) hl41 (by decide) _ hr41) ?_
    rintro e w1 ⟨i, v1, rfl, hI, hi, hb1⟩
    refine ⟨_, rfl, fun a hA => ?_⟩
    have HB := hb1
    revert a; refine wo rfl rfl (by decide) (fun ev e h => by simp [go_sem, h] <;> rfl) ?_; intro a hA
    replace hA := hA.keepN [0, 5]
    refine wN (nT (wS (wR ?_)))
    revert a; refine wo rfl rfl (by decide) (fun ev e h => by simp [go_sem, h] <;> rfl) ?_; intro a hA
    refine wl_call hA rfl rfl (by decide) (fun ev h => exec_call Tryz.func40 (by kernel_rfl) rfl (h.f _) (by first | (simp only [mL, h.get 21 rfl, h.c] <;> rfl) | (simp [mL, h.get 21 rfl, h.c] <;> rfl))) (in_N hI (by show ((b.drop 3).take 41).length ≤ _; omega) 1 (by omega)) ?_
    rintro e w2 ⟨rfl, ⟨v2, hI⟩, hib⟩
    refine ⟨_, rfl, fun a hA => ?_⟩
    rw [p1] at hI hA
    replace HB := HB.trans (hib.toBelow HB.size hi)
    revert a; refine wo rfl rfl (by decide) (fun ev e h => by simp [go_sem, h] <;> rfl) ?_; intro a hA
    refine wl_call hA rfl rfl (by decide) (fun ev h => exec_call Tryz.func40 (by kernel_rfl) rfl (h.f _) (by first | (simp only [mL, h.get 23 rfl, h.c] <;> rfl) | (simp [mL, h.get 23 rfl, h.c] <;> rfl))) (in_N hI (by exact hl4 _) 4 (by omega)) ?_
    rintro e w3 ⟨rfl, ⟨v3', hI⟩, hib⟩
    refine ⟨_, rfl, fun a hA => ?_⟩
    rw [p2] at hI hA
    replace HB := HB.trans (hib.toBelow HB.size hi)
    revert a; (iterate 2 refine wo rfl rfl (by decide) (fun ev e h => by simp [go_sem, h] <;> rfl) ?_); intro a hA
    replace hA := hA.keepN [0, 5, 6, 7]
    refine wN (nT (wS (wR ?_)))
    revert a; refine wo rfl rfl (by decide) (fun ev e h => by simp [go_sem, h] <;> rfl) ?_; intro a hA
    refine wl_call hA rfl rfl (by decide) (fun ev h => exec_call Tryz.func40 (by kernel_rfl) rfl (h.f _) (by first | (simp only [mL, h.get 25 rfl, h.c] <;> rfl) | (simp [mL, h.get 25 rfl, h.c] <;> rfl))) (in_N hI (by exact hl4 _) 4 (by omega)) ?_
    rintro e w4 ⟨rfl, ⟨v4, hI⟩, hib⟩
    refine ⟨_, rfl, fun a hA => ?_⟩
    rw [p3] at hA
    replace HB := HB.trans (hib.toBelow HB.size hi)
    have hcl : hdCrc b < 4294967296 := by
      have h1 := beVal_lt ((b.drop 8).take 4)
      have h2 : ((b.drop 8).take 4).length ≤ 4 := by rw [List.length_take]; omega
      exact Nat.lt_of_lt_of_le h1 (Nat.le_trans (Nat.pow_le_pow_right (by omega) h2) (by decide))
    have hwc : IntKind.u32.wrap ((hdCrc b : Nat) : Int) = ((hdCrc b : Nat) : Int) := IntWalk.u32_in _ (by omega)
    have z3 : (8 : Int) ≤ (c : Int) := by omega
    have hr8 := ((hr.below HB).more HB.size).take8 (k := 8) (by omega)
    refine wl_op hA rfl rfl (by decide) (fun ev h => by simp [go_sem, h.get 26 rfl, hwc, z3]; try first | exact ⟨rfl, rfl⟩ | rfl) fun a hA => ?_
    revert a; refine wo rfl rfl (by decide) (fun ev e h => by simp [go_sem, h, hwc, z3] <;> rfl) ?_; intro a hA
    replace hA := hA.keepN [0, 6, 7, 8]
    refine wN (nT (wS (wR ?_)))
    revert a; (iterate 5 refine wo rfl rfl (by decide) (fun ev e h => by simp [go_sem, h, hwc, z3] <;> rfl) ?_); (iterate 2 refine wg _ rfl rfl rfl rfl (by decide) (fun hq ev e h => by simp [go_sem, h, ↓gw_t (beq_t hq), hwc, z3] <;> rfl) ?_); (first | refine wka rfl rfl (by decide) rfl rfl rfl ?_ | refine wo rfl rfl (by decide) (fun ev e h => by simp [go_sem, h, gv_or, gv_and, hwc, z3] <;> rfl) ?_); refine wo rfl rfl (by decide) (fun ev e h => by simp [go_sem, h, hwc, z3] <;> rfl) ?_; refine wg _ rfl rfl rfl rfl (by decide) (fun hq ev e h => by simp [go_sem, h, ↓gw_t (beq_t hq), hwc, z3] <;> rfl) ?_; intro a hA
    replace hA := hA.keepN [0, 8, 28, 29, 36, 37]
    revert a; refine wg _ rfl rfl rfl rfl (by decide) (fun hq ev e h => by simp [go_sem, h, ↓gw_t (beq_t hq), hwc, z3] <;> rfl) ?_; (first | refine wka rfl rfl (by decide) rfl rfl rfl ?_ | refine wo rfl rfl (by decide) (fun ev e h => by simp [go_sem, h, gv_or, gv_and, hwc, z3] <;> rfl) ?_); refine wo rfl rfl (by decide) (fun ev e h => by simp [go_sem, h, hwc, z3] <;> rfl) ?_; (iterate 3 refine wg _ rfl rfl rfl rfl (by decide) (fun hq ev e h => by simp [go_sem, h, ↓gw_t (beq_t hq), hwc, z3] <;> rfl) ?_); intro a hA
    refine wl_gcallv _ hA rfl rfl rfl rfl (by decide) (fun hq ev h => exec_call Tryz.func60 (by kernel_rfl) rfl (h.f _) (by first | (simp only [mL, ((h.get 43 rfl).trans (gw_t (beq_t hq))), h.c] <;> rfl) | (simp [mL, ((h.get 43 rfl).trans (gw_t (beq_t hq))), h.c, hwc, z3] <;> rfl))) (fun hq => (crc_any A 8 c (b.take 8) _ (by rw [List.length_take]; omega) (by decide) hr8).mono fun e w' h => ⟨h.1, h.2 ▸ Below.refl _ _⟩) fun a w5 hb5 hA => ?_
    revert a; refine wg _ rfl rfl rfl rfl (by decide) (fun hq ev e h => by simp [go_sem, h, ↓gw_t (beq_t hq), hwc, z3] <;> rfl) ?_; (first | refine wka rfl rfl (by decide) rfl rfl rfl ?_ | refine wo rfl rfl (by decide) (fun ev e h => by simp [go_sem, h, gv_or, gv_and, hwc, z3] <;> rfl) ?_); (iterate 2 refine wo rfl rfl (by decide) (fun ev e h => by simp [go_sem, h, hwc, z3] <;> rfl) ?_); intro a hA
    replace hA := hA.keepN [2, 3, 46]
    revert a; refine wo rfl rfl (by decide) (fun ev e h => by simp [go_sem, h, hwc, z3] <;> rfl) ?_; intro a hA
    replace hA := hA.keepN [2, 3, 4]
    refine wN (nT (wp_ret ?_))
    refine ret_3 hA 2 3 4 rfl rfl rfl rfl ?_
    have hok : headOk b = (decide ((1 : Int) ≤ ((hdKind b : Nat) : Int)) && decide (((hdKind b : Nat) : Int) ≤ 3) && decide (((hdLen b : Nat) : Int) ≤ 30000) && (((hdCrc b : Nat) : Int) == ((crc (b.take 8) : Nat) : Int))) := by
      unfold headOk
      rw [hmg, show decide (44 ≤ b.length) = true by simp; omega]
      have e1 : decide ((1 : Int) ≤ ((hdKind b : Nat) : Int)) = decide (1 ≤ hdKind b) := by rw [Bool.eq_iff_iff]; simp; omega
      have e2 : decide (((hdKind b : Nat) : Int) ≤ 3) = decide (hdKind b ≤ 3) := by rw [Bool.eq_iff_iff]; simp; omega
      have e3 : decide (((hdLen b : Nat) : Int) ≤ 30000) = decide (hdLen b ≤ 30000) := by rw [Bool.eq_iff_iff]; simp; omega
      have e4 : (((hdCrc b : Nat) : Int) == ((crc (b.take 8) : Nat) : Int)) = (hdCrc b == crc (b.take 8)) := by rw [Bool.eq_iff_iff]; simp; omega
      rw [e1, e2, e3, e4]
      simp
    rw [hok]
    exact ⟨_, _, rfl, fun _ => ⟨rfl, rfl⟩, HB.trans (hb5.mono HB.size)⟩
theorem head_any (A : Option Addr) (n c : Nat) (b : List UInt8) (hl : b.length = n) (hc : n ≤ c) (hn : n ≤ 16000000) (w : World) (hr : Reads w w.heap.size 1 A n (u8s b)) :
    Calls Tryz.prog 68 #[.slice A n c] w fun ev w' => ∃ (k m : Int), ev = .returned (.tuple #[.int .i64 k, .int .i64 m, .bool (headOk b)]) ∧ (headOk b = true → k = (hdKind b : Nat) ∧ m = (hdLen b : Nat)) ∧ Below w.heap.size w w' := by
  rcases Nat.lt_or_ge n 44 with h | h
  · refine (head_short A n c h w).mono fun ev w' ⟨h1, h2⟩ => ?_
    have hno := headOk_short (b := b) (by omega)
    exact ⟨0, 0, by rw [h1, hno], fun h => (by rw [hno] at h; cases h), h2 ▸ Below.refl _ _⟩
  · exact head_long A n c b hl hc h hn w hr
end Go.Proofs.YtmjikfeaopmejaaGreatDoor
/-
  Walk: what a head tells, by the document (cubbyref01.head).
-/
namespace Go.Proofs.YtmjikfeaopmejaaGreatDoor
open Go.RowKit
set_option linter.unusedSimpArgs false
set_option linter.unusedVariables false
theorem drop_getD {b : List UInt8} {a j : Nat} : (b.drop a).getD j 0 = b.getD (a + j) 0 := by
  rw [List.getD_eq_getElem?_getD, List.getD_eq_getElem?_getD, List.getElem?_drop]
theorem take3_eq {b : List UInt8} (h : 3 ≤ b.length) : (b.take 3 == [99, 117, 98]) = ((b.getD 0 0).toNat == 99 && (b.getD 1 0).toNat == 117 && (b.getD 2 0).toNat == 98) := by
  match b, h with
  | x :: y :: z :: r, _ =>
    show ([x, y, z] == [99, 117, 98]) = (x.toNat == 99 && y.toNat == 117 && z.toNat == 98)
    have e : ∀ (u : UInt8) (n : Nat) (k : UInt8), k.toNat = n → (u == k) = (u.toNat == n) := fun u n k hk => by
      rw [Bool.eq_iff_iff, beq_iff_eq, beq_iff_eq, ← hk]
      exact ⟨fun h => by rw [h], fun h => UInt8.toNat_inj.1 h⟩
    have e1 := e x 99 99 rfl
    have e2 := e y 117 117 rfl
    have e3 := e z 98 98 rfl
    show (x == 99 && (y == 117 && (z == 98 && true))) = _
    rw [e1, e2, e3, Bool.and_true, Bool.and_assoc]
theorem wrap_addN {a k c : Nat} (h : a + k = c) (hc : c ≤ 1000000000) : IntKind.i64.wrap ((a : Int) + (k : Int)) = (c : Int) := by
  rw [IntWalk.i64_in _ (by omega)]
  omega
theorem wrap_lt {a : Nat} (h : a < 4294967296) : IntKind.i64.wrap (a : Int) = (a : Int) := IntWalk.i64_in _ (by omega)
theorem wrapu_lt {a : Nat} (h : a < 4294967296) : IntKind.u64.wrap (a : Int) = (a : Int) := IntWalk.u64_in _ (by omega)
theorem int_ne (a : Nat) (k : Nat) : ((a : Int) != (k : Int)) = !(a == k) := by
  unfold bne
  congr 1
  rw [Bool.eq_iff_iff, beq_iff_eq, beq_iff_eq]
  omega
set_option maxRecDepth 100000 in
theorem refHead_short (A : Option Addr) (n c at_ : Nat) (hn : n < at_ + 44) (ha : at_ ≤ 1000000) (w : World) : Calls Tryz.prog 72 #[.slice A n c, .int .i64 (at_ : Nat)] w fun ev w' => ev = .returned (.tuple #[.int .i64 0, .int .i64 0, .bool false]) ∧ w' = w := by
  have w1 : IntKind.i64.wrap ((at_ : Int) + 44) = (at_ : Int) + 44 := IntWalk.i64_in _ (by omega)
  have h1 : decide ((n : Int) < (at_ : Int) + 44) = true := by simp; omega
  refine calls_at 86 Tryz.func72 rfl rfl (Nat.le_of_ble_eq_true rfl) ?_
  intro a hA; replace hA := hA.norm
  refine wS (wR ?_)
  refine wl_op hA rfl rfl (by decide) (fun ev h => by simp [go_sem, h.c, w1, h1]; try first | exact ⟨rfl, rfl⟩ | rfl) fun a hA => ?_
  refine wl_op hA rfl rfl (by decide) (fun ev h => by simp [go_sem, h.c, w1, h1]; try first | exact ⟨rfl, rfl⟩ | rfl) fun a hA => ?_
  refine wl_op hA rfl rfl (by decide) (fun ev h => by simp [go_sem, h.c, w1, h1]; try first | exact ⟨rfl, rfl⟩ | rfl) fun a hA => ?_
  replace hA := hA.keepN [0, 1]
  refine wN (nT (wS (wS (wR ?_))))
  refine wl_op hA rfl rfl (by decide) (fun ev h => by simp [go_sem, h.get 1 rfl, w1, h1]; try first | exact ⟨rfl, rfl⟩ | rfl) fun a hA => ?_
  refine wl_op hA rfl rfl (by decide) (fun ev h => by simp [go_sem, h.c, h.get 8 rfl, w1, h1]; try first | exact ⟨rfl, rfl⟩ | rfl) fun a hA => ?_
  refine wl_op hA rfl rfl (by decide) (fun ev h => by simp [go_sem, h.get 0 rfl, w1, h1]; try first | exact ⟨rfl, rfl⟩ | rfl) fun a hA => ?_
  refine wl_op hA rfl rfl (by decide) (fun ev h => by simp [go_sem, h.get 10 rfl, w1, h1]; try first | exact ⟨rfl, rfl⟩ | rfl) fun a hA => ?_
  refine wl_op hA rfl rfl (by decide) (fun ev h => by simp [go_sem, h.get 9 rfl, h.get 11 rfl, w1, h1]; try first | exact ⟨rfl, rfl⟩ | rfl) fun a hA => ?_
  refine wl_op hA rfl rfl (by decide) (fun ev h => by simp [go_sem, h.get 12 rfl, w1, h1]; try first | exact ⟨rfl, rfl⟩ | rfl) fun a hA => ?_
  refine wl_guard _ (v := undef) hA rfl rfl rfl rfl (by decide) (fun hq ev h => by first | (cases hq; done) | (cases hr; done)) fun a hA => ?_
  refine wl_guard _ (v := undef) hA rfl rfl rfl rfl (by decide) (fun hq ev h => by first | (cases hq; done) | (cases hr; done)) fun a hA => ?_
  refine wl_guard _ (v := undef) hA rfl rfl rfl rfl (by decide) (fun hq ev h => by first | (cases hq; done) | (cases hr; done)) fun a hA => ?_
  refine wl_guard _ (v := undef) hA rfl rfl rfl rfl (by decide) (fun hq ev h => by first | (cases hq; done) | (cases hr; done)) fun a hA => ?_
  replace hA := hA.keepN [0, 1, 13, 17]
  refine wl_guard _ (v := undef) hA rfl rfl rfl rfl (by decide) (fun hq ev h => by first | (cases hq; done) | (cases hr; done)) fun a hA => ?_
  revert a; (first | refine wko rfl rfl (by decide) rfl rfl rfl ?_ | refine wo rfl rfl (by decide) (fun ev e h => by simp [go_sem, h, gv_or, gv_and, w1, h1] <;> rfl) ?_); intro a hA
  refine wl_op hA rfl rfl (by decide) (fun ev h => by simp [go_sem, h.get 19 rfl, w1, h1]; try first | exact ⟨rfl, rfl⟩ | rfl) fun a hA => ?_
  refine wl_guard _ (v := undef) hA rfl rfl rfl rfl (by decide) (fun hq ev h => by first | (cases hq; done) | (cases hr; done)) fun a hA => ?_
  refine wl_guard _ (v := undef) hA rfl rfl rfl rfl (by decide) (fun hq ev h => by first | (cases hq; done) | (cases hr; done)) fun a hA => ?_
  refine wl_guard _ (v := undef) hA rfl rfl rfl rfl (by decide) (fun hq ev h => by first | (cases hq; done) | (cases hr; done)) fun a hA => ?_
  refine wl_guard _ (v := undef) hA rfl rfl rfl rfl (by decide) (fun hq ev h => by first | (cases hq; done) | (cases hr; done)) fun a hA => ?_
  refine wl_guard _ (v := undef) hA rfl rfl rfl rfl (by decide) (fun hq ev h => by first | (cases hq; done) | (cases hr; done)) fun a hA => ?_
  refine wl_guard _ (v := undef) hA rfl rfl rfl rfl (by decide) (fun hq ev h => by first | (cases hq; done) | (cases hr; done)) fun a hA => ?_
  revert a; (first | refine wko rfl rfl (by decide) rfl rfl rfl ?_ | refine wo rfl rfl (by decide) (fun ev e h => by simp [go_sem, h, gv_or, gv_and, w1, h1] <;> rfl) ?_); intro a hA
  replace hA := hA.keepN [0, 1, 27]
  refine wl_op hA rfl rfl (by decide) (fun ev h => by simp [go_sem, h.get 27 rfl, w1, h1]; try first | exact ⟨rfl, rfl⟩ | rfl) fun a hA => ?_
  refine wl_guard _ (v := undef) hA rfl rfl rfl rfl (by decide) (fun hq ev h => by first | (cases hq; done) | (cases hr; done)) fun a hA => ?_
  refine wl_guard _ (v := undef) hA rfl rfl rfl rfl (by decide) (fun hq ev h => by first | (cases hq; done) | (cases hr; done)) fun a hA => ?_
  refine wl_guard _ (v := undef) hA rfl rfl rfl rfl (by decide) (fun hq ev h => by first | (cases hq; done) | (cases hr; done)) fun a hA => ?_
  refine wl_guard _ (v := undef) hA rfl rfl rfl rfl (by decide) (fun hq ev h => by first | (cases hq; done) | (cases hr; done)) fun a hA => ?_
  refine wl_guard _ (v := undef) hA rfl rfl rfl rfl (by decide) (fun hq ev h => by first | (cases hq; done) | (cases hr; done)) fun a hA => ?_
  refine wl_guard _ (v := undef) hA rfl rfl rfl rfl (by decide) (fun hq ev h => by first | (cases hq; done) | (cases hr; done)) fun a hA => ?_
  revert a; (first | refine wko rfl rfl (by decide) rfl rfl rfl ?_ | refine wo rfl rfl (by decide) (fun ev e h => by simp [go_sem, h, gv_or, gv_and, w1, h1] <;> rfl) ?_); intro a hA
  replace hA := hA.keepN [0, 1, 35]
  refine wN (nT ?_)
  refine wp_if hA 35 _ rfl (fun hq => ?yA) (fun hq => ?nA)
  case nA => cases hq
  case yA =>
    refine wS (wR ?_)
    revert a; (iterate 3 refine wo rfl rfl (by decide) (fun ev e h => by simp [go_sem, h, w1, h1] <;> rfl) ?_); intro a hA
    replace hA := hA.keepN [4, 5, 6]
    refine wN (nT (wp_ret (rT ?_)))
    refine ret_3 hA 4 5 6 rfl rfl rfl rfl ?_
    exact ⟨rfl, rfl⟩
set_option maxRecDepth 100000 in
set_option maxHeartbeats 1000000 in
theorem refHead_long (A : Option Addr) (n c at_ : Nat) (b : List UInt8) (hl : b.length = n) (hc : n ≤ c) (h44 : at_ + 44 ≤ n) (hn : n ≤ 1000000) (w : World) (hr : Reads w w.heap.size 1 A n (u8s b)) :
    Calls Tryz.prog 72 #[.slice A n c, .int .i64 (at_ : Nat)] w fun ev w' => ∃ (k m : Int), ev = .returned (.tuple #[.int .i64 k, .int .i64 m, .bool (headOk (b.drop at_))]) ∧ (headOk (b.drop at_) = true → k = (hdKind (b.drop at_) : Nat) ∧ m = (hdLen (b.drop at_) : Nat)) ∧ Below w.heap.size w w' := by
  have h1 : decide ((n : Int) < (at_ : Int) + 44) = false := by simp; omega
  obtain ⟨ad, rfl, had, hcell⟩ := u8_ats hr hl (by omega)
  obtain ⟨a1, ha1⟩ : ∃ a, at_ + 1 = a := ⟨_, rfl⟩
  obtain ⟨a2, ha2⟩ : ∃ a, at_ + 2 = a := ⟨_, rfl⟩
  obtain ⟨a3, ha3⟩ : ∃ a, at_ + 3 = a := ⟨_, rfl⟩
  obtain ⟨a4, ha4⟩ : ∃ a, at_ + 4 = a := ⟨_, rfl⟩
  obtain ⟨a8, ha8⟩ : ∃ a, at_ + 8 = a := ⟨_, rfl⟩
  obtain ⟨a12, ha12⟩ : ∃ a, at_ + 12 = a := ⟨_, rfl⟩
  have jj : ∀ j : Nat, (0 : Int) ≤ (j : Int) := fun j => by omega
  have k0 : (at_ : Int) < (n : Int) := by omega
  have k1 : (a1 : Int) < (n : Int) := by omega
  have k2 : (a2 : Int) < (n : Int) := by omega
  have k3 : (a3 : Int) < (n : Int) := by omega
  have m0 : at_ < n := by omega
  have m1 : a1 < n := by omega
  have m2 : a2 < n := by omega
  have m3 : a3 < n := by omega
  have m44 : 3 ≤ (b.drop at_).length := by rw [List.length_drop]; omega
  have b12 : at_ + 44 ≤ 1000000000 := by omega
  have y1 : (a4 : Int) ≤ (a8 : Int) := by omega
  have y2 : (a8 : Int) ≤ (c : Int) := by omega
  have y3 : (a8 : Int) ≤ (a12 : Int) := by omega
  have y4 : (a12 : Int) ≤ (c : Int) := by omega
  have y5 : (at_ : Int) ≤ (a8 : Int) := by omega
  have y6 : a8 - a4 = 4 := by omega
  have y7 : a12 - a8 = 4 := by omega
  have y8 : a8 - at_ = 8 := by omega
  have hR4 := reads_sub8 hr (lo := a4) (hi := a8) (cap := c) (by omega) (by omega) hc
  have hR8 := reads_sub8 hr (lo := a8) (hi := a12) (cap := c) (by omega) (by omega) hc
  have hR0 := reads_sub8 hr (lo := at_) (hi := a8) (cap := c) (by omega) (by omega) hc
  have l4 : ((b.drop a4).take 4).length = 4 := by rw [List.length_take, List.length_drop]; omega
  have l8 : ((b.drop a8).take 4).length = 4 := by rw [List.length_take, List.length_drop]; omega
  have l0 : ((b.drop at_).take 8).length = 8 := by rw [List.length_take, List.length_drop]; omega
  rw [y6] at hR4
  rw [y7] at hR8
  rw [y8] at hR0
  have hkl : hdLen (b.drop at_) = beVal ((b.drop a4).take 4) := by unfold hdLen; rw [List.drop_drop, ha4]
  have hkc : hdCrc (b.drop at_) = beVal ((b.drop a8).take 4) := by unfold hdCrc; rw [List.drop_drop, ha8]
  have w1 : IntKind.i64.wrap ((at_ : Int) + 44) = (at_ : Int) + 44 := (wrap_addN rfl b12).trans (by rw [Int.natCast_add]; rfl)
  have e1 : IntKind.i64.wrap ((at_ : Int) + 1) = (a1 : Int) := wrap_addN ha1 (Nat.le_trans (by rw [← ha1]; exact Nat.add_le_add_left (by decide) _) b12)
  have e2 : IntKind.i64.wrap ((at_ : Int) + 2) = (a2 : Int) := wrap_addN ha2 (Nat.le_trans (by rw [← ha2]; exact Nat.add_le_add_left (by decide) _) b12)
  have e3 : IntKind.i64.wrap ((at_ : Int) + 3) = (a3 : Int) := wrap_addN ha3 (Nat.le_trans (by rw [← ha3]; exact Nat.add_le_add_left (by decide) _) b12)
  have e4 : IntKind.i64.wrap ((at_ : Int) + 4) = (a4 : Int) := wrap_addN ha4 (Nat.le_trans (by rw [← ha4]; exact Nat.add_le_add_left (by decide) _) b12)
  have e8 : IntKind.i64.wrap ((at_ : Int) + 8) = (a8 : Int) := wrap_addN ha8 (Nat.le_trans (by rw [← ha8]; exact Nat.add_le_add_left (by decide) _) b12)
  have e12 : IntKind.i64.wrap ((at_ : Int) + 12) = (a12 : Int) := wrap_addN ha12 (Nat.le_trans (by rw [← ha12]; exact Nat.add_le_add_left (by decide) _) b12)
  have c0 := hcell at_ m0
  have c1 := hcell a1 m1
  have c2 := hcell a2 m2
  have c3 := hcell a3 m3
  have hm3 := take3_eq (b := b.drop at_) m44
  rw [drop_getD, drop_getD, drop_getD, Nat.add_zero, ha1, ha2] at hm3
  have hkd : hdKind (b.drop at_) = (b.getD a3 0).toNat := by unfold hdKind; rw [drop_getD, ha3]
  have lx3 := (b.getD a3 0).toNat_lt
  obtain ⟨x0, hx0⟩ : ∃ x, (b.getD at_ 0).toNat = x := ⟨_, rfl⟩
  obtain ⟨x1, hx1⟩ : ∃ x, (b.getD a1 0).toNat = x := ⟨_, rfl⟩
  obtain ⟨x2, hx2⟩ : ∃ x, (b.getD a2 0).toNat = x := ⟨_, rfl⟩
  obtain ⟨x3, hx3⟩ : ∃ x, (b.getD a3 0).toNat = x := ⟨_, rfl⟩
  rw [hx0] at c0 hm3
  rw [hx1] at c1 hm3
  rw [hx2] at c2 hm3
  rw [hx3] at c3 hkd lx3
  clear hx0 hx1 hx2 hx3 hcell
  refine calls_at 86 Tryz.func72 rfl rfl (Nat.le_of_ble_eq_true rfl) ?_
  intro a hA; replace hA := hA.norm
  refine wS (wR ?_)
  revert a; (iterate 3 refine wo rfl rfl (by decide) (fun ev e h => by simp [go_sem, h, w1, h1, e1, e2, c0, c1, c2, jj, k0, k1, k2] <;> rfl) ?_); intro a hA
  replace hA := hA.keepN [0, 1]
  refine wN (nT (wS (wS (wR ?_))))
  revert a; (iterate 6 refine wo rfl rfl (by decide) (fun ev e h => by simp [go_sem, h, w1, h1, e1, e2, c0, c1, c2, jj, k0, k1, k2] <;> rfl) ?_); (iterate 4 refine wg _ rfl rfl rfl rfl (by decide) (fun hq ev e h => by simp [go_sem, h, ↓gw_t (beq_t hq), w1, h1, e1, e2, c0, c1, c2, jj, k0, k1, k2] <;> rfl) ?_); intro a hA
  replace hA := hA.keepN [0, 1, 13, 17]
  revert a; refine wg _ rfl rfl rfl rfl (by decide) (fun hq ev e h => by simp [go_sem, h, ↓gw_t (beq_t hq), w1, h1, e1, e2, c0, c1, c2, jj, k0, k1, k2] <;> rfl) ?_; (first | refine wko rfl rfl (by decide) rfl rfl rfl ?_ | refine wo rfl rfl (by decide) (fun ev e h => by simp [go_sem, h, gv_or, gv_and, w1, h1, e1, e2, c0, c1, c2, jj, k0, k1, k2] <;> rfl) ?_); refine wo rfl rfl (by decide) (fun ev e h => by simp [go_sem, h, w1, h1, e1, e2, c0, c1, c2, jj, k0, k1, k2] <;> rfl) ?_; (iterate 6 refine wg _ rfl rfl rfl rfl (by decide) (fun hq ev e h => by simp [go_sem, h, ↓gw_t (beq_t hq), w1, h1, e1, e2, c0, c1, c2, jj, k0, k1, k2] <;> rfl) ?_); (first | refine wko rfl rfl (by decide) rfl rfl rfl ?_ | refine wo rfl rfl (by decide) (fun ev e h => by simp [go_sem, h, gv_or, gv_and, w1, h1, e1, e2, c0, c1, c2, jj, k0, k1, k2] <;> rfl) ?_); intro a hA
  replace hA := hA.keepN [0, 1, 27]
  revert a; refine wo rfl rfl (by decide) (fun ev e h => by simp [go_sem, h, w1, h1, e1, e2, c0, c1, c2, jj, k0, k1, k2] <;> rfl) ?_; (iterate 6 refine wg _ rfl rfl rfl rfl (by decide) (fun hq ev e h => by simp [go_sem, h, ↓gw_t (beq_t hq), w1, h1, e1, e2, c0, c1, c2, jj, k0, k1, k2] <;> rfl) ?_); (first | refine wko rfl rfl (by decide) rfl rfl rfl ?_ | refine wo rfl rfl (by decide) (fun ev e h => by simp [go_sem, h, gv_or, gv_and, w1, h1, e1, e2, c0, c1, c2, jj, k0, k1, k2] <;> rfl) ?_); intro a hA
  replace hA := hA.keepN [0, 1, 35]
  refine wN (nT ?_)
  obtain ⟨LN, hLN⟩ : ∃ q, beVal ((b.drop a4).take 4) = q := ⟨_, rfl⟩
  obtain ⟨CN, hCN⟩ : ∃ q, beVal ((b.drop a8).take 4) = q := ⟨_, rfl⟩
  have lLN : LN < 4294967296 := by
    have h1 := beVal_lt ((b.drop a4).take 4)
    rw [l4, hLN] at h1
    exact h1
  rw [hLN] at hkl
  rw [hCN] at hkc
  have hdr : b.drop at_ = b.drop at_ := rfl
  obtain ⟨B, hB⟩ : ∃ B, b.drop at_ = B := ⟨_, rfl⟩
  rw [hB] at hR0 l0 hkl hkc hm3 hkd ⊢
  have hB44 : 44 ≤ B.length := by rw [← hB, List.length_drop]; rw [hl]; exact Nat.le_sub_of_add_le (by rw [Nat.add_comm]; exact h44)
  obtain ⟨cr, hcr⟩ : ∃ q, crc (B.take 8) = q := ⟨_, rfl⟩
  have hcl := crc_bound (B.take 8)
  rw [hcr] at hcl
  have hok : headOk B = ((x0 == 99 && x1 == 117 && x2 == 98) && (decide (1 ≤ x3) && decide (x3 ≤ 3) && decide (LN ≤ 30000) && (CN == cr))) := by
    unfold headOk
    rw [hm3, hkd, hkl, hkc, hcr, show decide (44 ≤ B.length) = true by simpa using hB44, Bool.true_and]
  refine wp_if hA 35 _ rfl (fun hq => ?yA) (fun hq => ?nA)
  case yA =>
    have hno : headOk B = false := by
      rw [hok]
      have : (x0 == 99 && x1 == 117 && x2 == 98) = false := by
        rw [Bool.eq_false_iff]
        intro h
        simp only [Bool.and_eq_true, beq_iff_eq] at h
        obtain ⟨⟨rfl, rfl⟩, rfl⟩ := h
        exact absurd hq (by decide)
      rw [this, Bool.false_and]
    refine wS (wR ?_)
    revert a; (iterate 3 refine wo rfl rfl (by decide) (fun ev e h => by simp [go_sem, h, w1, h1, e1, e2, c0, c1, c2, jj, k0, k1, k2] <;> rfl) ?_); intro a hA
    replace hA := hA.keepN [4, 5, 6]
    refine wN (nT (wp_ret (rT ?_)))
    refine ret_3 hA 4 5 6 rfl rfl rfl rfl ?_
    exact ⟨0, 0, by rw [hno], fun h => (by rw [hno] at h; cases h), Below.refl _ _⟩
  case nA =>
    have hmg : (x0 == 99 && x1 == 117 && x2 == 98) = true := by
      simp only [Bool.or_eq_false_iff, bne_eq_false_iff_eq] at hq
      obtain ⟨⟨h0, h1⟩, h2⟩ := hq
      have h0 : x0 = 99 := by omega
      have h1 : x1 = 117 := by omega
      have h2 : x2 = 98 := by omega
      subst h0 h1 h2
      rfl
    have j4 := jj a4
    have j8 := jj a8
    have wLN := wrap_lt lLN
    refine wp_skip (nT (wS (wR ?_)))
    revert a; (iterate 6 refine wo rfl rfl (by decide) (fun ev e h => by simp [go_sem, h, e4, e8, j4, j8, y1, y2, y6, jj] <;> rfl) ?_); intro a hA
    refine wl_call hA rfl rfl (by decide) (fun ev h => exec_call Tryz.func66 (by kernel_rfl) rfl (h.f _) (by first | (simp only [mL, h.get 41 rfl, h.c] <;> rfl) | (simp [mL, h.get 41 rfl, h.c, e4, e8, j4, j8, y1, y2, y6, jj] <;> rfl))) (refNumber_any _ 4 _ ((b.drop a4).take 4) l4 (by decide) _ hR4) ?_
    rintro e wa ⟨rfl, rfl⟩
    refine ⟨_, rfl, fun a hA => ?_⟩
    rw [hLN] at hA
    refine wl_op hA rfl rfl (by decide) (fun ev h => by simp [go_sem, h.get 42 rfl, wLN]; try first | exact ⟨rfl, rfl⟩ | rfl) fun a hA => ?_
    revert a; refine wo rfl rfl (by decide) (fun ev e h => by simp [go_sem, h, wLN] <;> rfl) ?_; intro a hA
    replace hA := hA.keepN [0, 1, 7]
    refine wN (nT (wS (wS ?_)))
    have wcr := wrapu_lt hcl
    have pD := fun (wo : World) (hC : (fun wy => Below wa.heap.size wa wy) wo) => have q3 := (hC.cell (p := ad.add a3) (by rw [block_of_add]; exact had)).trans c3; (q3)
    refine wp_any_at hA ((.det ?dD0) :: (.det ?dD1) :: (.det ?dD2) :: (.det ?dD3) :: (.det ?dD4) :: (.det ?dD5) :: (.det ?dD6) :: (.det ?dD7) :: (.det ?dD8) :: (.det ?dD9) :: (.det ?dD10) :: (.det ?dD11) :: (.det ?dD12) :: (.det ?dD13) :: (.det ?dD14) :: (.det ?dD15) :: (.det ?dD16) :: (.det ?dD17) :: (.det ?dD18) :: (.det ?dD19) :: (.det ?dD20) :: (.det ?dD21) :: (.det ?dD22) :: (.det ?dD23) :: (.det ?dD24) :: (.det ?dD25) :: (.det ?dD26) :: (.det ?dD27) :: (.det ?dD28) :: (.det ?dD29) :: (.det ?dD30) :: (.det ?dD31) :: (.det ?dD32) :: (.det ?dD33) :: (.det ?dD34) :: []) [] (fun wy => Below wa.heap.size wa wy) (TSp [] Grows) (by kernel_rfl) rfl (by kernel_rfl) (by kernel_rfl) rfl ((Below.refl _ _).drew) (stab_sp [] (true :: true :: true :: true :: true :: true :: true :: true :: true :: true :: true :: true :: true :: true :: true :: true :: true :: true :: true :: true :: true :: true :: true :: true :: true :: true :: true :: true :: true :: true :: true :: true :: true :: true :: true :: []) (true :: true :: true :: true :: true :: true :: true :: true :: true :: true :: true :: true :: true :: true :: true :: true :: true :: true :: true :: true :: true :: true :: true :: true :: true :: true :: true :: true :: true :: true :: true :: true :: true :: true :: true :: []) [] rfl rfl rfl (by kernel_rfl) ⟨trivial, trivial, trivial, trivial, trivial, trivial, trivial, trivial, trivial, trivial, trivial, trivial, trivial, trivial, trivial, trivial, trivial, trivial, trivial, trivial, trivial, trivial, trivial, trivial, trivial, trivial, trivial, trivial, trivial, trivial, trivial, trivial, trivial, trivial, trivial, trivial⟩ trivial) (fun _ h => by cases h) (fun _ _ _ _ _ h => by cases h) (fun _ h => by cases h) ⟨?oD0, ?oD1, ?oD2, ?oD3, ?oD4, ?oD5, ?oD6, ?oD7, ?oD8, ?oD9, ?oD10, ?oD11, ?oD12, ?oD13, ?oD14, ?oD15, ?oD16, ?oD17, ?oD18, ?oD19, ?oD20, ?oD21, ?oD22, ?oD23, ?oD24, ?oD25, ?oD26, ?oD27, ?oD28, ?oD29, ?oD30, ?oD31, ?oD32, ?oD33, ?oD34, trivial⟩ (by kernel_rfl) ?fD
    case oD0 => intro ev wo hev hC hs hph; have x0 := se hA hs 0; exact od rfl rfl (by kernel_rfl) hC (TSp.of rfl (Grows.refl _)) (by simp [go_sem, x0, e3, e8, e12, jj, k3, y3, y4, y5, y2, y7, y8, wcr] <;> rfl)
    case oD1 => intro ev wo hev hC hs hph; have x0 := se hA hs 1; exact od rfl rfl (by kernel_rfl) hC (TSp.of rfl (Grows.refl _)) (by simp [go_sem, x0, e3, e8, e12, jj, k3, y3, y4, y5, y2, y7, y8, wcr] <;> rfl)
    case oD2 => intro ev wo hev hC hs hph; have x0 := sd hs 45 1; exact od rfl rfl (by kernel_rfl) hC (TSp.of rfl (Grows.refl _)) (by simp [go_sem, x0, hev.const, e3, e8, e12, jj, k3, y3, y4, y5, y2, y7, y8, wcr] <;> rfl)
    case oD3 => intro ev wo hev hC hs hph; have x0 := sd hs 44 0; have x1 := sd hs 46 2; exact od rfl rfl (by kernel_rfl) hC (TSp.of rfl (Grows.refl _)) (by simp [go_sem, x0, x1, e3, e8, e12, jj, k3, y3, y4, y5, y2, y7, y8, wcr] <;> rfl)
    case oD4 => intro ev wo hev hC hs hph; have x0 := sd hs 47 3; exact od rfl rfl (by kernel_rfl) hC (TSp.of rfl (Grows.refl _)) (by simp [go_sem, x0, pD _ hC, wLN, e3, e8, e12, jj, k3, y3, y4, y5, y2, y7, y8, wcr] <;> rfl)
    case oD5 => intro ev wo hev hC hs hph; have x0 := sd hs 48 4; exact od rfl rfl (by kernel_rfl) hC (TSp.of rfl (Grows.refl _)) (by simp [go_sem, x0, hev.const, e3, e8, e12, jj, k3, y3, y4, y5, y2, y7, y8, wcr] <;> rfl)
    case oD6 => intro ev wo hev hC hs hph; have x0 := sd hs 49 5; exact od rfl rfl (by kernel_rfl) hC (TSp.of rfl (Grows.refl _)) (by simp [go_sem, x0, e3, e8, e12, jj, k3, y3, y4, y5, y2, y7, y8, wcr] <;> rfl)
    case oD7 => intro ev wo hev hC hs hph; have x0 := se hA hs 0; have y := sd hs 50 6; exact ob_gv _ rfl rfl y rfl (by kernel_rfl) hC (TSp.of rfl (Grows.refl _)) (fun hq => by simp [go_sem, x0, e3, e8, e12, jj, k3, y3, y4, y5, y2, y7, y8, wcr] <;> rfl) (by rfl)
    case oD8 => intro ev wo hev hC hs hph; have x0 := se hA hs 1; have y := sd hs 50 6; exact ob_gv _ rfl rfl y rfl (by kernel_rfl) hC (TSp.of rfl (Grows.refl _)) (fun hq => by simp [go_sem, x0, e3, e8, e12, jj, k3, y3, y4, y5, y2, y7, y8, wcr] <;> rfl) (by rfl)
    case oD9 => intro ev wo hev hC hs hph; have x0 := sd hs 52 8; have y := sd hs 50 6; exact ob_gv _ rfl rfl y rfl (by kernel_rfl) hC (TSp.of rfl (Grows.refl _)) (fun hq => by simp [go_sem, (x0.trans (gw_t (beq_t hq))), hev.const, e3, e8, e12, jj, k3, y3, y4, y5, y2, y7, y8, wcr] <;> rfl) (by rfl)
    case oD10 => intro ev wo hev hC hs hph; have x0 := sd hs 51 7; have x1 := sd hs 53 9; have y := sd hs 50 6; exact ob_gv _ rfl rfl y rfl (by kernel_rfl) hC (TSp.of rfl (Grows.refl _)) (fun hq => by simp [go_sem, (x0.trans (gw_t (beq_t hq))), (x1.trans (gw_t (beq_t hq))), e3, e8, e12, jj, k3, y3, y4, y5, y2, y7, y8, wcr] <;> rfl) (by rfl)
    case oD11 => intro ev wo hev hC hs hph; have x0 := sd hs 54 10; have y := sd hs 50 6; exact ob_gv _ rfl rfl y rfl (by kernel_rfl) hC (TSp.of rfl (Grows.refl _)) (fun hq => by simp [go_sem, (x0.trans (gw_t (beq_t hq))), pD _ hC, wLN, e3, e8, e12, jj, k3, y3, y4, y5, y2, y7, y8, wcr] <;> rfl) (by rfl)
    case oD12 => intro ev wo hev hC hs hph; have x0 := sd hs 55 11; have y := sd hs 50 6; exact ob_gv _ rfl rfl y rfl (by kernel_rfl) hC (TSp.of rfl (Grows.refl _)) (fun hq => by simp [go_sem, (x0.trans (gw_t (beq_t hq))), hev.const, e3, e8, e12, jj, k3, y3, y4, y5, y2, y7, y8, wcr] <;> rfl) (by rfl)
    case oD13 => intro ev wo hev hC hs hph; have x0 := sd hs 50 6; have x1 := sd hs 56 12; exact od rfl rfl (by kernel_rfl) hC (TSp.of rfl (Grows.refl _)) (by rw [pick_or rfl x0 (hev.const _) x1] <;> rfl)
    case oD14 => intro ev wo hev hC hs hph; have x0 := sd hs 57 13; exact od rfl rfl (by kernel_rfl) hC (TSp.of rfl (Grows.refl _)) (by simp [go_sem, x0, e3, e8, e12, jj, k3, y3, y4, y5, y2, y7, y8, wcr] <;> rfl)
    case oD15 => intro ev wo hev hC hs hph; have x0 := se hA hs 7; have y := sd hs 58 14; exact ob_gv _ rfl rfl y rfl (by kernel_rfl) hC (TSp.of rfl (Grows.refl _)) (fun hq => by simp [go_sem, x0, e3, e8, e12, jj, k3, y3, y4, y5, y2, y7, y8, wcr] <;> rfl) (by rfl)
    case oD16 => intro ev wo hev hC hs hph; have x0 := sd hs 59 15; have y := sd hs 58 14; exact ob_gv _ rfl rfl y rfl (by kernel_rfl) hC (TSp.of rfl (Grows.refl _)) (fun hq => by simp [go_sem, (x0.trans (gw_t (beq_t hq))), hev.const, e3, e8, e12, jj, k3, y3, y4, y5, y2, y7, y8, wcr] <;> rfl) (by rfl)
    case oD17 => intro ev wo hev hC hs hph; have x0 := sd hs 58 14; have x1 := sd hs 60 16; exact od rfl rfl (by kernel_rfl) hC (TSp.of rfl (Grows.refl _)) (by rw [pick_or rfl x0 (hev.const _) x1] <;> rfl)
    case oD18 => intro ev wo hev hC hs hph; have x0 := sd hs 61 17; exact od rfl rfl (by kernel_rfl) hC (TSp.of rfl (Grows.refl _)) (by simp [go_sem, x0, e3, e8, e12, jj, k3, y3, y4, y5, y2, y7, y8, wcr] <;> rfl)
    case oD19 => intro ev wo hev hC hs hph; have x0 := se hA hs 0; have y := sd hs 62 18; exact ob_gv _ rfl rfl y rfl (by kernel_rfl) hC (TSp.of rfl (Grows.refl _)) (fun hq => by simp [go_sem, x0, e3, e8, e12, jj, k3, y3, y4, y5, y2, y7, y8, wcr] <;> rfl) (by rfl)
    case oD20 => intro ev wo hev hC hs hph; have x0 := se hA hs 1; have y := sd hs 62 18; exact ob_gv _ rfl rfl y rfl (by kernel_rfl) hC (TSp.of rfl (Grows.refl _)) (fun hq => by simp [go_sem, x0, e3, e8, e12, jj, k3, y3, y4, y5, y2, y7, y8, wcr] <;> rfl) (by rfl)
    case oD21 => intro ev wo hev hC hs hph; have x0 := sd hs 64 20; have y := sd hs 62 18; exact ob_gv _ rfl rfl y rfl (by kernel_rfl) hC (TSp.of rfl (Grows.refl _)) (fun hq => by simp [go_sem, (x0.trans (gw_t (beq_t hq))), hev.const, e3, e8, e12, jj, k3, y3, y4, y5, y2, y7, y8, wcr] <;> rfl) (by rfl)
    case oD22 => intro ev wo hev hC hs hph; have x0 := se hA hs 1; have y := sd hs 62 18; exact ob_gv _ rfl rfl y rfl (by kernel_rfl) hC (TSp.of rfl (Grows.refl _)) (fun hq => by simp [go_sem, x0, e3, e8, e12, jj, k3, y3, y4, y5, y2, y7, y8, wcr] <;> rfl) (by rfl)
    case oD23 => intro ev wo hev hC hs hph; have x0 := sd hs 66 22; have y := sd hs 62 18; exact ob_gv _ rfl rfl y rfl (by kernel_rfl) hC (TSp.of rfl (Grows.refl _)) (fun hq => by simp [go_sem, (x0.trans (gw_t (beq_t hq))), hev.const, e3, e8, e12, jj, k3, y3, y4, y5, y2, y7, y8, wcr] <;> rfl) (by rfl)
    case oD24 => intro ev wo hev hC hs hph; have x0 := sd hs 63 19; have x1 := sd hs 65 21; have x2 := sd hs 67 23; have y := sd hs 62 18; exact ob_gv _ rfl rfl y rfl (by kernel_rfl) hC (TSp.of rfl (Grows.refl _)) (fun hq => by simp [go_sem, (x0.trans (gw_t (beq_t hq))), (x1.trans (gw_t (beq_t hq))), (x2.trans (gw_t (beq_t hq))), e3, e8, e12, jj, k3, y3, y4, y5, y2, y7, y8, wcr] <;> rfl) (by rfl)
    case oD25 =>
      intro ev wo hev hC hs hph
      have e68 := sd hs 68 24
      have e62 := sd hs 62 18
      have q3 := (hC.cell (p := ad.add a3) (by rw [block_of_add]; exact had)).trans c3
      exact ob_gcall _ rfl rfl e62 rfl (by kernel_rfl) (by rfl) (fun hq => exec_call Tryz.func66 (by kernel_rfl) rfl (hev.func _) (by first | (simp only [mL, (e68.trans (gw_t (beq_t hq))), e62, hev.const] <;> rfl) | (simp [mL, (e68.trans (gw_t (beq_t hq))), e62, hev.const] <;> rfl))) (fun hq => (refNumber_any _ 4 _ ((b.drop a8).take 4) l8 (by decide) wo ((hR8.below hC).more hC.size)).mono fun e' w' h => ⟨by rw [h.1, hCN], h.2 ▸ Below.refl _ _⟩) (fun w3 hb3 => ⟨hC.trans (hb3.mono hC.size), TSp.of rfl hb3⟩)
    case oD26 => intro ev wo hev hC hs hph; have x0 := se hA hs 0; have y := sd hs 62 18; exact ob_gv _ rfl rfl y rfl (by kernel_rfl) hC (TSp.of rfl (Grows.refl _)) (fun hq => by simp [go_sem, x0, e3, e8, e12, jj, k3, y3, y4, y5, y2, y7, y8, wcr] <;> rfl) (by rfl)
    case oD27 => intro ev wo hev hC hs hph; have x0 := se hA hs 1; have y := sd hs 62 18; exact ob_gv _ rfl rfl y rfl (by kernel_rfl) hC (TSp.of rfl (Grows.refl _)) (fun hq => by simp [go_sem, x0, e3, e8, e12, jj, k3, y3, y4, y5, y2, y7, y8, wcr] <;> rfl) (by rfl)
    case oD28 => intro ev wo hev hC hs hph; have x0 := se hA hs 1; have y := sd hs 62 18; exact ob_gv _ rfl rfl y rfl (by kernel_rfl) hC (TSp.of rfl (Grows.refl _)) (fun hq => by simp [go_sem, x0, e3, e8, e12, jj, k3, y3, y4, y5, y2, y7, y8, wcr] <;> rfl) (by rfl)
    case oD29 => intro ev wo hev hC hs hph; have x0 := sd hs 72 28; have y := sd hs 62 18; exact ob_gv _ rfl rfl y rfl (by kernel_rfl) hC (TSp.of rfl (Grows.refl _)) (fun hq => by simp [go_sem, (x0.trans (gw_t (beq_t hq))), hev.const, e3, e8, e12, jj, k3, y3, y4, y5, y2, y7, y8, wcr] <;> rfl) (by rfl)
    case oD30 => intro ev wo hev hC hs hph; have x0 := sd hs 70 26; have x1 := sd hs 71 27; have x2 := sd hs 73 29; have y := sd hs 62 18; exact ob_gv _ rfl rfl y rfl (by kernel_rfl) hC (TSp.of rfl (Grows.refl _)) (fun hq => by simp [go_sem, (x0.trans (gw_t (beq_t hq))), (x1.trans (gw_t (beq_t hq))), (x2.trans (gw_t (beq_t hq))), e3, e8, e12, jj, k3, y3, y4, y5, y2, y7, y8, wcr] <;> rfl) (by rfl)
    case oD31 =>
      intro ev wo hev hC hs hph
      have e74 := sd hs 74 30
      have e62 := sd hs 62 18
      have q3 := (hC.cell (p := ad.add a3) (by rw [block_of_add]; exact had)).trans c3
      exact ob_gcall _ rfl rfl e62 rfl (by kernel_rfl) (by rfl) (fun hq => exec_call Tryz.func48 (by kernel_rfl) rfl (hev.func _) (by first | (simp only [mL, (e74.trans (gw_t (beq_t hq))), e62, hev.const] <;> rfl) | (simp [mL, (e74.trans (gw_t (beq_t hq))), e62, hev.const] <;> rfl))) (fun hq => (refCrc_any _ 8 _ (B.take 8) wo l0 (by decide) ((hR0.below hC).more hC.size)).mono fun e' w' h => ⟨by rw [h.1, hcr], h.2 ▸ Below.refl _ _⟩) (fun w3 hb3 => ⟨hC.trans (hb3.mono hC.size), TSp.of rfl hb3⟩)
    case oD32 => intro ev wo hev hC hs hph; have x0 := sd hs 75 31; have y := sd hs 62 18; exact ob_gv _ rfl rfl y rfl (by kernel_rfl) hC (TSp.of rfl (Grows.refl _)) (fun hq => by simp [go_sem, (x0.trans (gw_t (beq_t hq))), e3, e8, e12, jj, k3, y3, y4, y5, y2, y7, y8, wcr] <;> rfl) (by rfl)
    case oD33 => intro ev wo hev hC hs hph; have x0 := sd hs 69 25; have x1 := sd hs 76 32; have y := sd hs 62 18; exact ob_gv _ rfl rfl y rfl (by kernel_rfl) hC (TSp.of rfl (Grows.refl _)) (fun hq => by simp [go_sem, (x0.trans (gw_t (beq_t hq))), (x1.trans (gw_t (beq_t hq))), e3, e8, e12, jj, k3, y3, y4, y5, y2, y7, y8, wcr] <;> rfl) (by rfl)
    case oD34 => intro ev wo hev hC hs hph; have x0 := sd hs 62 18; have x1 := sd hs 77 33; exact od rfl rfl (by kernel_rfl) hC (TSp.of rfl (Grows.refl _)) (by rw [pick_or rfl x0 (hev.const _) x1] <;> rfl)
    intro sg wf hC hph
    intro a hA
    replace hA := hA.keepN [0, 1, 7, 78]
    refine nT ?_
    have hok2 : headOk B = !(decide ((x3 : Int) < 1) || decide ((3 : Int) < (x3 : Int)) || decide ((30000 : Int) < (LN : Int)) || (CN : Int) != (cr : Int)) := by
      rw [hok, hmg, Bool.true_and, int_ne]
      have u1 : decide ((x3 : Int) < 1) = !decide (1 ≤ x3) := by rw [Bool.eq_iff_iff]; simp; omega
      have u2 : decide ((3 : Int) < (x3 : Int)) = !decide (x3 ≤ 3) := by rw [Bool.eq_iff_iff]; simp; omega
      have u3 : decide ((30000 : Int) < (LN : Int)) = !decide (LN ≤ 30000) := by rw [Bool.eq_iff_iff]; simp; omega
      rw [u1, u2, u3]
      simp only [Bool.not_or, Bool.not_not]
    refine wp_if hA 78 _ rfl (fun hq2 => ?yE) (fun hq2 => ?nE)
    case yE =>
      have hno : headOk B = false := by rw [hok2, hq2]; rfl
      refine wS (wR ?_)
      revert a; (iterate 3 refine wo rfl rfl (by decide) (fun ev e h => by simp [go_sem, h, wLN] <;> rfl) ?_); intro a hA
      replace hA := hA.keepN [4, 5, 6]
      refine wN (nT (wp_ret (rT ?_)))
      refine ret_3 hA 4 5 6 rfl rfl rfl rfl ?_
      exact ⟨0, 0, by rw [hno], fun h => (by rw [hno] at h; cases h), hC⟩
    case nE =>
      have hyes : headOk B = true := by rw [hok2, hq2]; rfl
      have z3 : wf.cell? (ad.add a3) = some (.int .u8 (x3 : Nat)) := (hC.cell (p := ad.add a3) (by rw [block_of_add]; exact had)).trans c3
      have wx3 : IntKind.i64.wrap (x3 : Int) = (x3 : Int) := wrap_lt (Nat.lt_of_lt_of_le lx3 (by decide))
      refine wp_skip (nT (wS (wR ?_)))
      revert a; (iterate 5 refine wo rfl rfl (by decide) (fun ev e h => by simp [go_sem, h, e3, jj, k3, z3, wx3] <;> rfl) ?_); intro a hA
      refine wl_op hA rfl rfl (by decide) (fun ev h => by simp [go_sem, h.get 83 rfl, e3, jj, k3, z3, wx3]; try first | exact ⟨rfl, rfl⟩ | rfl) fun a hA => ?_
      revert a; (iterate 4 refine wo rfl rfl (by decide) (fun ev e h => by simp [go_sem, h, e3, jj, k3, z3, wx3] <;> rfl) ?_); intro a hA
      replace hA := hA.keepN [4, 5, 6]
      refine wN (nT (wp_ret ?_))
      refine ret_3 hA 4 5 6 rfl rfl rfl rfl ?_
      exact ⟨_, _, by rw [hyes], fun _ => ⟨by rw [hkd], by rw [hkl]⟩, hC⟩
theorem refHead_any (A : Option Addr) (n c at_ : Nat) (b : List UInt8) (hl : b.length = n) (hc : n ≤ c) (hn : n ≤ 1000000) (ha : at_ ≤ n) (w : World) (hr : Reads w w.heap.size 1 A n (u8s b)) :
    Calls Tryz.prog 72 #[.slice A n c, .int .i64 (at_ : Nat)] w fun ev w' => ∃ (k m : Int), ev = .returned (.tuple #[.int .i64 k, .int .i64 m, .bool (headOk (b.drop at_))]) ∧ (headOk (b.drop at_) = true → k = (hdKind (b.drop at_) : Nat) ∧ m = (hdLen (b.drop at_) : Nat)) ∧ Below w.heap.size w w' := by
  rcases Nat.lt_or_ge n (at_ + 44) with h | h
  · refine (refHead_short A n c at_ h (by omega) w).mono fun ev w' ⟨h1, h2⟩ => ?_
    have hno := headOk_short (b := b.drop at_) (by rw [List.length_drop]; omega)
    exact ⟨0, 0, by rw [h1, hno], fun h => (by rw [hno] at h; cases h), h2 ▸ Below.refl _ _⟩
  · exact refHead_long A n c at_ b hl hc h hn w hr
end Go.Proofs.YtmjikfeaopmejaaGreatDoor
/-
  Where three bytes stand in others: bytes.Index, by the shelf's contract.
-/
namespace Go.Proofs.YtmjikfeaopmejaaGreatDoor
open Go.RowKit
theorem ints8_range (l : List UInt8) : ∀ x ∈ ints8 l, 0 ≤ x ∧ x < 256 := fun x hx => by
  unfold ints8 at hx
  obtain ⟨b, _, rfl⟩ := List.mem_map.1 hx
  have := b.toNat_lt
  omega
theorem bindex_any (A : Option Addr) (n c : Nat) (b : List UInt8) (a2 : Addr) (k d : Nat) (m : List UInt8) (hl : b.length = n) (hm : m.length = k) (h1 : 0 < n) (h2 : 0 < k) (hc : n ≤ c) (hn : n ≤ 16000000) (hk : k ≤ 1000000) (w : World) (hM : MaxCell w)
    (hr : Reads w w.heap.size 1 A n (u8s b)) (hr2 : Reads w w.heap.size 1 (some a2) k (u8s m)) :
    Calls Tryz.prog 88 #[.slice A n c, .slice (some a2) k d] w fun ev w' => ev = .returned (.int .i64 (Lib.index b m)) ∧ Below w.heap.size w w' := by
  obtain ⟨mx, hmx⟩ := hM
  obtain ⟨ad, rfl, _, _⟩ := hr.2 h1
  have h := Tryz.bytes_Index_at ad a2 n c k d (ints8 b) (ints8 m) mx w (by simpa [ints8] using hl) (by simpa [ints8] using hm) (ints8_range b) (ints8_range m) (ints8_at hl hr) (ints8_at hm hr2) hc (by omega) (by omega) hmx
  rw [bytesOf_ints8, bytesOf_ints8] at h
  exact h.mono fun ev w' ⟨h1, q, h2⟩ => ⟨h1, by rw [h2]; exact below_drewN (Below.refl _ _) q⟩
end Go.Proofs.YtmjikfeaopmejaaGreatDoor
/-
  Walk: the next place at which a right head stands (frame.next).
-/
namespace Go.Proofs.YtmjikfeaopmejaaGreatDoor
open Go.RowKit
set_option linter.unusedSimpArgs false
set_option linter.unusedVariables false
theorem index_cases (s sub : List UInt8) : (Lib.index s sub = -1 ∧ ∀ j, j ≤ s.length → Lib.occAt s sub j = false) ∨ ∃ i : Nat, i ≤ s.length ∧ Lib.index s sub = i ∧ Lib.occAt s sub i = true ∧ ∀ j, j < i → Lib.occAt s sub j = false := by
  have key : ∀ k, (∀ j, j < k → Lib.occAt s sub j = false) ∨ ∃ i, i < k ∧ Lib.occAt s sub i = true ∧ ∀ j, j < i → Lib.occAt s sub j = false := by
    intro k
    induction k with
    | zero => exact .inl fun j hj => absurd hj (by omega)
    | succ k ih =>
      rcases ih with ih | ⟨i, hi, h1, h2⟩
      · cases hk : Lib.occAt s sub k with
        | true => exact .inr ⟨k, by omega, hk, ih⟩
        | false =>
          refine .inl fun j hj => ?_
          rcases Nat.lt_or_ge j k with h | h
          · exact ih j h
          · rw [show j = k by omega]; exact hk
      · exact .inr ⟨i, by omega, h1, h2⟩
  rcases key (s.length + 1) with h | ⟨i, hi, h1, h2⟩
  · exact .inl ⟨Lib.index_none fun j hj => h j (by omega), fun j hj => h j (by omega)⟩
  · exact .inr ⟨i, by omega, Lib.index_first (by omega) h1 h2, h1, h2⟩
theorem headOk_occ {b : List UInt8} {at_ j : Nat} (hj : at_ ≤ j) (h : headOk (b.drop j) = true) : Lib.occAt (b.drop at_) [99, 117, 98] (j - at_) = true := by
  unfold headOk at h
  simp only [Bool.and_eq_true, beq_iff_eq] at h
  have h3 := h.1.2
  unfold Lib.occAt
  rw [List.drop_drop, show at_ + (j - at_) = j by omega, List.isPrefixOf_iff_prefix, List.prefix_iff_eq_take]
  exact h3.symm
theorem cut_any {w : World} {B n q cap : Nat} {A : Option Addr} {l : List UInt8} (h : Reads w B 1 A n (u8s l)) (h2 : q ≤ n) (hc : n ≤ cap) : Reads w B 1 (if cap = q then A else Option.map (fun x => x.add q) A) (n - q) (u8s (l.drop q)) := by
  have := h.cut (k := q) h2 hc
  rw [Nat.mul_one, show (u8s l).drop q = u8s (l.drop q) by rw [u8s_map, u8s_map, List.map_drop]] at this
  exact this
theorem occ_len {s sub : List UInt8} {i : Nat} (h : Lib.occAt s sub i = true) (h0 : 0 < sub.length) : i + sub.length ≤ s.length := by
  unfold Lib.occAt at h
  have h1 := List.isPrefixOf_iff_prefix.1 h
  have h2 := h1.length_le
  rw [List.length_drop] at h2
  omega
theorem three_lit (w1 : World) : (convert 23 23 (.slice (some ⟨w1.heap.size, 0, none⟩) 3 3)).run Tryz.prog (w1.alloc (.cells #[.int .u8 99, .int .u8 117, .int .u8 98] 5)) = .ok (.slice (some ⟨w1.heap.size, 0, none⟩) 3 3) (w1.alloc (.cells #[.int .u8 99, .int .u8 117, .int .u8 98] 5 (3, 4))) := Lib.run_convert_bytes_const (P := Tryz.prog) w1 23 5 #[.int .u8 99, .int .u8 117, .int .u8 98] 3 3 Tryz.underlying23 Tryz.underlying5
theorem three_reads (w1 : World) : Below w1.heap.size w1 (w1.alloc (.cells #[.int .u8 99, .int .u8 117, .int .u8 98] 5 (3, 4))) ∧ Reads (w1.alloc (.cells #[.int .u8 99, .int .u8 117, .int .u8 98] 5 (3, 4))) (w1.alloc (.cells #[.int .u8 99, .int .u8 117, .int .u8 98] 5 (3, 4))).heap.size 1 (some ⟨w1.heap.size, 0, none⟩) 3 (u8s [99, 117, 98]) :=
  ⟨(Below.refl _ _).alloc (Nat.le_refl _) _, blk_reads8 (l := [99, 117, 98]) (heap_alloc_new w1 _)⟩
set_option maxRecDepth 100000 in
set_option maxHeartbeats 1000000 in
theorem next_any (A : Option Addr) (n c : Nat) (b : List UInt8) (hl : b.length = n) (hc : n ≤ c) (hn : n ≤ 16000000) (at0 : Nat) (h0 : at0 ≤ n) (w : World) (hm : MaxCell w) (hg : 0 < w.heap.size) (hr : Reads w w.heap.size 1 A n (u8s b)) :
    Calls Tryz.prog 69 #[.slice A n c, .int .i64 (at0 : Nat)] w fun ev w' => ∃ i : Int, ev = .returned (.int .i64 i) ∧ ((i = -1 ∧ ∀ j, at0 ≤ j → headOk (b.drop j) = false) ∨ ∃ q : Nat, i = (q : Int) ∧ at0 ≤ q ∧ q < n ∧ headOk (b.drop q) = true ∧ ∀ j, at0 ≤ j → j < q → headOk (b.drop j) = false) ∧ Below w.heap.size w w' := by
  have HB := Below.refl w.heap.size w
  refine calls_at 36 Tryz.func69 rfl rfl (Nat.le_of_ble_eq_true rfl) ?_
  intro a hA; replace hA := hA.norm
  refine wS (wR ?_)
  revert a; refine wo rfl rfl (by decide) (fun ev e h => by simp [go_sem, h] <;> rfl) ?_; intro a hA
  replace hA := hA.keepN [0, 1]
  refine wN (nT (wS (wB ?_)))
  refine wp_loop_at (fun k a wx => ∃ (q : Nat), at0 ≤ q ∧ q ≤ n ∧ k = n - q ∧ (∀ j, at0 ≤ j → j < q → headOk (b.drop j) = false) ∧ At 36 [(0, .slice A n c), (1, .int .i64 (q : Nat))] a ∧ Below w.heap.size w wx) (n - at0) ?_ ?_
  · exact ⟨at0, Nat.le_refl _, h0, rfl, fun j h1 h2 => absurd h2 (by omega), hA, HB⟩
  clear HB
  rintro k a wx ⟨q, hq0, hqn, hk, hno, hA, HB⟩
  refine wS (wS (wR ?_))
  revert a; (iterate 4 refine wo rfl rfl (by decide) (fun ev e h => by simp [go_sem, h] <;> rfl) ?_); intro a hA
  replace hA := hA.keepN [0, 1, 12]
  refine wN (nT ?_)
  refine wp_if hA 12 _ rfl (fun hq => ?yL) (fun hq => ?nL)
  case nL =>
    have hqe : q = n := by simp at hq; omega
    subst hqe
    replace hA := hA.keepN []
    refine wp_exit (xT (xT (xB (nT (wS (wR ?_))))))
    revert a; refine wo rfl rfl (by decide) (fun ev e h => by simp [go_sem, h] <;> rfl) ?_; intro a hA
    replace hA := hA.keepN [4]
    refine wN (nT (wp_ret ?_))
    refine ret_1 hA 4 rfl rfl ?_
    refine ⟨-1, rfl, .inl ⟨rfl, fun j hj => ?_⟩, HB⟩
    rcases Nat.lt_or_ge j q with h | h
    · exact hno j hj h
    · exact headOk_short (by rw [List.length_drop]; omega)
  case yL =>
    have hlt : q < n := by simp at hq; omega
    have hrx := (hr.below HB).more HB.size
    have jq : (0 : Int) ≤ (q : Int) := by omega
    have kq : (q : Int) ≤ (n : Int) := by omega
    have kc : (q : Int) ≤ (c : Int) := by omega
    refine wp_skip (nT (wB (wS (wR ?_))))
    revert a; (iterate 3 refine wo rfl rfl (by decide) (fun ev e h => by simp [go_sem, h, jq, kq, kc] <;> rfl) ?_); intro a hA
    have hcv := three_lit wx
    obtain ⟨hb2, hR2⟩ := three_reads wx
    have hrq := cut_any hrx (q := q) hqn hc
    refine wl_op hA rfl rfl (by decide) (fun ev h => by simp [go_sem, h.c, jq, kq, kc, Nat.zero_add]; try first | exact ⟨rfl, rfl⟩ | rfl) fun a hA => ?_
    refine wl_op hA rfl rfl (by decide) (fun ev h => by simp [go_sem, h.get 16 rfl, hcv]; try first | exact ⟨rfl, rfl⟩ | rfl) fun a hA => ?_
    obtain ⟨w2, hw2⟩ : ∃ w2, wx.alloc (.cells #[.int .u8 99, .int .u8 117, .int .u8 98] 5 (3, 4)) = w2 := ⟨_, rfl⟩
    rw [hw2] at hb2 hR2 ⊢
    clear hcv hw2
    have hdl : (b.drop q).length = n - q := by rw [List.length_drop, hl]
    have hB2 := HB.trans (hb2.mono HB.size)
    refine wl_call hA rfl rfl (by decide) (fun ev h => exec_call Tryz.func88 (by kernel_rfl) rfl (h.f _) (by first | (simp only [mL, h.get 15 rfl, h.get 17 rfl, h.c] <;> rfl) | (simp [mL, h.get 15 rfl, h.get 17 rfl, h.c] <;> rfl))) (bindex_any _ (n - q) (c - q) (b.drop q) _ 3 3 [99, 117, 98] hdl rfl (by omega) (by decide) (by omega) (by omega) (by decide) _ (hm.below hg hB2) ((hrq.below hb2).more hb2.size) hR2) ?_
    rintro e w3 ⟨rfl, hb3⟩
    refine ⟨_, rfl, fun a hA => ?_⟩
    replace HB := hB2.trans (hb3.mono hB2.size)
    clear hR2 hb2 hrq
    obtain ⟨z, hz⟩ : ∃ z, Lib.index (b.drop q) [99, 117, 98] = z := ⟨_, rfl⟩
    rw [hz] at hA
    have hcs := index_cases (b.drop q) [99, 117, 98]
    rw [hz, hdl] at hcs
    revert a; refine wo rfl rfl (by decide) (fun ev e h => by simp [go_sem, h] <;> rfl) ?_; intro a hA
    replace hA := hA.keepN [0, 1, 5]
    refine wN (nT (wS (wS (wR ?_))))
    revert a; (iterate 2 refine wo rfl rfl (by decide) (fun ev e h => by simp [go_sem, h] <;> rfl) ?_); intro a hA
    replace hA := hA.keepN [0, 1, 5, 20]
    refine wN (nT ?_)
    refine wp_if hA 20 _ rfl (fun hq2 => ?yR) (fun hq2 => ?nR)
    case yR =>
      have hneg : z = -1 ∧ ∀ j, j ≤ n - q → Lib.occAt (b.drop q) [99, 117, 98] j = false := by
        rcases hcs with h | ⟨i, _, h, _⟩
        · exact h
        · simp at hq2; omega
      refine wS (wR ?_)
      revert a; refine wo rfl rfl (by decide) (fun ev e h => by simp [go_sem, h] <;> rfl) ?_; intro a hA
      replace hA := hA.keepN [4]
      refine wN (nT (wp_ret (rT (rB (rT (rB (rT ?_)))))))
      refine ret_1 hA 4 rfl rfl ?_
      refine ⟨-1, rfl, .inl ⟨rfl, fun j hj => ?_⟩, HB⟩
      rcases Nat.lt_or_ge j q with h | h
      · exact hno j hj h
      · cases hh : headOk (b.drop j) with
        | false => rfl
        | true =>
          have h44 := headOk_len hh
          rw [List.length_drop] at h44
          have := headOk_occ h hh
          rw [hneg.2 (j - q) (by omega)] at this
          cases this
    case nR =>
      obtain ⟨i, hi, rfl, hocc, hfirst⟩ : ∃ i : Nat, i ≤ n - q ∧ z = (i : Int) ∧ Lib.occAt (b.drop q) [99, 117, 98] i = true ∧ ∀ j, j < i → Lib.occAt (b.drop q) [99, 117, 98] j = false := by
        rcases hcs with ⟨h, _⟩ | h
        · simp at hq2; omega
        · exact h
      have hil := occ_len hocc (by decide)
      rw [hdl] at hil
      have hil : i + 3 ≤ n - q := hil
      obtain ⟨p, hp⟩ : ∃ p, q + i = p := ⟨_, rfl⟩
      have hpn : p < n := by omega
      have jp : (0 : Int) ≤ (p : Int) := by omega
      have kp : (p : Int) ≤ (n : Int) := by omega
      have kpc : (p : Int) ≤ (c : Int) := by omega
      have b1 : p ≤ 1000000000 := by omega
      have b2 : p + 1 ≤ 1000000000 := by omega
      have hno2 : ∀ j, at0 ≤ j → j < p → headOk (b.drop j) = false := fun j h1 h2 => by
        rcases Nat.lt_or_ge j q with h | h
        · exact hno j h1 h
        · cases hh : headOk (b.drop j) with
          | false => rfl
          | true =>
            have := headOk_occ h hh
            rw [hfirst (j - q) (by omega)] at this
            cases this
      have hrp := cut_any ((hr.below HB).more HB.size) (q := p) (by omega) hc
      have hdp : (b.drop p).length = n - p := by rw [List.length_drop, hl]
      have m1 : n - p ≤ c - p := by omega
      have m2 : n - p ≤ 16000000 := by omega
      have wp := wrap_addN hp b1
      have wp1 : IntKind.i64.wrap ((p : Int) + 1) = ((p + 1 : Nat) : Int) := wrap_addN rfl b2
      refine wp_skip (nT (wS (wR ?_)))
      revert a; (iterate 4 refine wo rfl rfl (by decide) (fun ev e h => by simp [go_sem, h, wp, jp, kp, kpc] <;> rfl) ?_); intro a hA
      replace hA := hA.keepN [0, 1]
      refine wN (nT (wS (wS (wR ?_))))
      revert a; (iterate 3 refine wo rfl rfl (by decide) (fun ev e h => by simp [go_sem, h, wp, jp, kp, kpc] <;> rfl) ?_); intro a hA
      refine wl_call hA rfl rfl (by decide) (fun ev h => exec_call Tryz.func68 (by kernel_rfl) rfl (h.f _) (by first | (simp only [mL, h.get 27 rfl, h.c] <;> rfl) | (simp [mL, h.get 27 rfl, h.c, wp, jp, kp, kpc] <;> rfl))) (head_any _ (n - p) (c - p) (b.drop p) hdp m1 m2 _ hrp) ?_
      rintro e w4 ⟨kk, mm, rfl, _, hb4⟩
      refine ⟨_, rfl, fun a hA => ?_⟩
      replace HB := HB.trans (hb4.mono HB.size)
      revert a; (iterate 7 refine wo rfl rfl (by decide) (fun ev e h => by simp [go_sem, h, wp1] <;> rfl) ?_); intro a hA
      replace hA := hA.keepN [0, 1, 8]
      refine wN (nT (wS (wR ?_)))
      revert a; refine wo rfl rfl (by decide) (fun ev e h => by simp [go_sem, h, wp1] <;> rfl) ?_; intro a hA
      replace hA := hA.keepN [0, 1, 32]
      refine wN (nT ?_)
      refine wp_if hA 32 _ rfl (fun hq3 => ?yS) (fun hq3 => ?nS)
      case yS =>
        refine wS (wR ?_)
        revert a; (iterate 2 refine wo rfl rfl (by decide) (fun ev e h => by simp [go_sem, h, wp1] <;> rfl) ?_); intro a hA
        replace hA := hA.keepN [4]
        refine wN (nT (wp_ret (rT (rB (rT (rB (rT ?_)))))))
        refine ret_1 hA 4 rfl rfl ?_
        exact ⟨_, rfl, .inr ⟨p, rfl, by omega, hpn, hq3, hno2⟩, HB⟩
      case nS =>
        refine wp_skip (nT (wR ?_))
        revert a; (iterate 3 refine wo rfl rfl (by decide) (fun ev e h => by simp [go_sem, h, wp1] <;> rfl) ?_); intro a hA
        replace hA := hA.keepN [0, 1]
        refine wN (nB (nT ?_))
        refine ⟨n - (p + 1), by omega, p + 1, by omega, by omega, rfl, fun j h1 h2 => ?_, hA, HB⟩
        rcases Nat.lt_or_ge j p with h | h
        · exact hno2 j h1 h
        · rw [show j = p by omega]; exact hq3
end Go.Proofs.YtmjikfeaopmejaaGreatDoor
/-
  Walk: all records of bytes (frame.Scan).
-/
namespace Go.Proofs.YtmjikfeaopmejaaGreatDoor
open Go.RowKit
set_option linter.unusedSimpArgs false
set_option linter.unusedVariables false
theorem clone8_any (A : Option Addr) (n c : Nat) (l : List UInt8) (hl : l.length = n) (hn : n ≤ 100000000) (w : World) (hr : Reads w w.heap.size 1 A n (u8s l)) :
    Calls Tryz.prog 54 #[.slice A n c] w fun ev w' => ∃ r, ev = .returned r ∧ Own8 w.heap.size w' r l ∧ Below w.heap.size w w' := by
  have he := nil_eq (P := Tryz.prog) Tryz.underlying23 A n c w
  refine calls_at 8 Tryz.func54 rfl rfl (Nat.le_of_ble_eq_true rfl) ?_
  intro a hA; replace hA := hA.norm
  refine wS (wR ?_)
  revert a; refine wo rfl rfl (by decide) (fun ev e h => by simp [go_sem, h, he] <;> rfl) ?_; intro a hA
  replace hA := hA.keepN [0]
  refine wN (nT (wS (wS (wR ?_))))
  revert a; (iterate 2 refine wo rfl rfl (by decide) (fun ev e h => by simp [go_sem, h, he] <;> rfl) ?_); intro a hA
  replace hA := hA.keepN [0, 4]
  refine wN (nT ?_)
  refine wp_if hA 4 _ rfl (fun hq => ?yN) (fun hq => ?nN)
  case yN =>
    have hl0 : l = [] := by
      cases A with
      | none =>
        rcases Nat.eq_zero_or_pos n with h | h
        · exact List.length_eq_zero_iff.1 (hl.trans h)
        · obtain ⟨ad, e, _⟩ := hr.2 h; cases e
      | some a => cases hq
    subst hl0
    refine wS (wR ?_)
    revert a; refine wo rfl rfl (by decide) (fun ev e h => by simp [go_sem, h] <;> rfl) ?_; intro a hA
    replace hA := hA.keepN [2]
    refine wN (nT (wp_ret (rT ?_)))
    refine ret_1 hA 2 rfl rfl ?_
    exact ⟨_, rfl, Own8.nil _, Below.refl _ _⟩
  case nN =>
    refine wp_skip (nT (wS (wR ?_)))
    refine wl_new hA rfl rfl (by decide) (fun ev h => by simp [go_sem]; try first | exact ⟨rfl, rfl⟩ | rfl) fun w1 a (K : Blk _ _ _ _) hz hb hA => ?_
    have ho : Own8 w.heap.size w1 (.slice (some ⟨w.heap.size, 0, none⟩) 0 0) [] := ownsRow_empty K (Nat.le_refl _)
    revert a; refine wo rfl rfl (by decide) (fun ev e h => by simp [go_sem, h] <;> rfl) ?_; intro a hA
    obtain ⟨r, w2, hr2, ho2, hg2⟩ := run_app8 ho (u := .slice A n c) ⟨A, c, by rw [hl], by rw [hl]; exact (hr.below hb).more hb.size⟩ (by simp; omega) hb.size
    have hb2 := below_app8 hb ho hg2 (Nat.le_refl _) hb.size
    rw [List.nil_append] at ho2
    refine wl_op hA rfl rfl (by decide) (fun ev h => exec_append rfl (h.get 5 rfl) (h.get 6 rfl) hr2) fun a hA => ?_
    revert a; refine wo rfl rfl (by decide) (fun ev e h => by simp [go_sem, h] <;> rfl) ?_; intro a hA
    replace hA := hA.keepN [2]
    refine wN (nT (wp_ret ?_))
    refine ret_1 hA 2 rfl rfl ?_
    exact ⟨_, rfl, ho2, hb2⟩
structure RecV where
  at_ : Nat
  kind : Nat
  a : Option Addr
  c : Nat
  b : List UInt8
def recB (r : RecV) : RecB := ⟨r.at_, r.kind, r.b⟩
def recC (r : RecV) : List Value := [.int .i64 (r.at_ : Nat), .int .i64 (r.kind : Nat), .slice r.a r.b.length r.c]
theorem recC_one (r : RecV) : ∀ u ∈ recC r, u.oneCell' = true := by
  intro u hu
  unfold recC at hu
  simp only [List.mem_cons, List.not_mem_nil, or_false] at hu
  rcases hu with rfl | rfl | rfl <;> rfl
def recSh : Sh RecV := ⟨97, 93, 3, 40, .agg #[.int .i64 0, .int .i64 0, .slice none 0 0], recC, fun r => [(r.a, r.b)], fun _ => rfl, recC_one, Tryz.underlying93, by kernel_rfl, rfl, by decide, by decide⟩
set_option maxRecDepth 100000 in
set_option maxHeartbeats 2000000 in
theorem scan_any (A : Option Addr) (n c : Nat) (b : List UInt8) (hl : b.length = n) (hc : n ≤ c) (hn : n ≤ 16000000) (w : World) (hm : MaxCell w) (hg : 0 < w.heap.size) (hr : Reads w w.heap.size 1 A n (u8s b)) :
    Calls Tryz.prog 50 #[.slice A n c] w fun ev w' => ∃ v l, ev = .returned (.tuple #[v, .int .i64 ((scan b).2 : Nat)]) ∧ OwnR recSh w.heap.size w' v l ∧ l.map recB = (scan b).1 ∧ Below w.heap.size w w' := by
  have HB := Below.refl w.heap.size w
  refine calls_at 76 Tryz.func50 rfl rfl (Nat.le_of_ble_eq_true rfl) ?_
  intro a hA; replace hA := hA.norm
  refine wS (wR ?_)
  revert a; (iterate 2 refine wo rfl rfl (by decide) (fun ev e h => by simp [go_sem, h] <;> rfl) ?_); intro a hA
  replace hA := hA.keepN [0]
  refine wN (nT (wS (wR ?_)))
  revert a; refine wo rfl rfl (by decide) (fun ev e h => by simp [go_sem, h] <;> rfl) ?_; intro a hA
  replace hA := hA.keepN [0, 4]
  refine wN (nT (wS (wR ?_)))
  revert a; refine wo rfl rfl (by decide) (fun ev e h => by simp [go_sem, h] <;> rfl) ?_; intro a hA
  replace hA := hA.keepN [0, 4, 5]
  refine wN (nT (wS (wB ?_)))
  refine wp_loop_at (fun k a wx => ∃ (q t : Nat) (v : Value) (l : List RecV), k = n - q ∧ q ≤ n ∧ l.length ≤ q ∧ scan b = scanAt b q t (l.map recB) ∧ (t = q ∨ headOk (b.drop q) = true) ∧ At 76 [(0, .slice A n c), (4, v), (5, .int .i64 (q : Nat))] a ∧ OwnR recSh w.heap.size wx v l ∧ Below w.heap.size w wx) (n) ?_ ?_
  · exact ⟨0, 0, _, [], rfl, by omega, by simp, rfl, .inl rfl, hA, OwnR.nil _ _, HB⟩
  clear HB
  rintro k a wx ⟨q, t, v, l, hk, hqn, hlen, hsc, ht, hA, ho, HB⟩
  refine wS (wS (wR ?_))
  revert a; (iterate 4 refine wo rfl rfl (by decide) (fun ev e h => by simp [go_sem, h] <;> rfl) ?_); intro a hA
  replace hA := hA.keepN [0, 4, 5, 15]
  refine wN (nT ?_)
  refine wp_if hA 15 _ rfl (fun hq => ?yL) (fun hq => ?nL)
  case nL =>
    have hqe : q = n := by simp at hq; omega
    have htq : t = q := by
      rcases ht with h | h
      · exact h
      · have := headOk_len h
        rw [List.length_drop] at this
        omega
    rw [scan_end (by omega)] at hsc
    replace hA := hA.keepN [4, 5]
    refine wp_exit (xT (xT (xB (nT (wS (wR ?_))))))
    revert a; (iterate 4 refine wo rfl rfl (by decide) (fun ev e h => by simp [go_sem, h] <;> rfl) ?_); intro a hA
    replace hA := hA.keepN [2, 3]
    refine wN (nT (wp_ret ?_))
    refine ret_2 hA 2 3 rfl rfl rfl ?_
    exact ⟨v, l, by rw [hsc, htq], ho, by rw [hsc], HB⟩
  case yL =>
    have hlt : q < n := by simp at hq; omega
    have jq : (0 : Int) ≤ (q : Int) := by omega
    have kq : (q : Int) ≤ (n : Int) := by omega
    have kc : (q : Int) ≤ (c : Int) := by omega
    have m1 : n - q ≤ c - q := by omega
    have m2 : n - q ≤ 16000000 := by omega
    have hdl : (b.drop q).length = n - q := by rw [List.length_drop, hl]
    have hrq := cut_any ((hr.below HB).more HB.size) (q := q) hqn hc
    refine wp_skip (nT (wB (wS (wR ?_))))
    revert a; (iterate 3 refine wo rfl rfl (by decide) (fun ev e h => by simp [go_sem, h, jq, kq, kc] <;> rfl) ?_); intro a hA
    refine wl_call hA rfl rfl (by decide) (fun ev h => exec_call Tryz.func68 (by kernel_rfl) rfl (h.f _) (by first | (simp only [mL, h.get 19 rfl, h.c] <;> rfl) | (simp [mL, h.get 19 rfl, h.c, jq, kq, kc] <;> rfl))) (head_any _ (n - q) (c - q) (b.drop q) hdl m1 m2 _ hrq) ?_
    rintro e w2 ⟨kk, mm, rfl, hkm, hb2⟩
    refine ⟨_, rfl, fun a hA => ?_⟩
    have HB2 := HB.trans (hb2.mono HB.size)
    have ho2 := ho.below hb2
    revert a; (iterate 7 refine wo rfl rfl (by decide) (fun ev e h => by simp [go_sem, h] <;> rfl) ?_); intro a hA
    replace hA := hA.keepN [0, 4, 5, 6, 7, 8]
    refine wN (nT (wS (wS (wR ?_))))
    revert a; (iterate 2 refine wo rfl rfl (by decide) (fun ev e h => by simp [go_sem, h] <;> rfl) ?_); intro a hA
    replace hA := hA.keepN [0, 4, 5, 6, 7, 25]
    refine wN (nT ?_)
    refine wp_if hA 25 _ rfl (fun hq2 => ?yH) (fun hq2 => ?nH)
    case yH =>
      have hno : headOk (b.drop q) = false := by simpa using hq2
      obtain rfl : t = q := by
        rcases ht with h | h
        · exact h
        · rw [hno] at h; cases h
      refine wS (wR ?_)
      revert a; (iterate 2 refine wo rfl rfl (by decide) (fun ev e h => by simp [go_sem, h] <;> rfl) ?_); intro a hA
      refine wl_call hA rfl rfl (by decide) (fun ev h => exec_call Tryz.func69 (by kernel_rfl) rfl (h.f _) (by first | (simp only [mL, h.get 26 rfl, h.get 27 rfl, h.c] <;> rfl) | (simp [mL, h.get 26 rfl, h.get 27 rfl, h.c] <;> rfl))) (next_any A n c b hl hc hn t (by omega) _ (hm.below hg HB2) (Nat.lt_of_lt_of_le hg HB2.size) ((hr.below HB2).more HB2.size)) ?_
      rintro e w3 ⟨z, rfl, hz, hb3⟩
      refine ⟨_, rfl, fun a hA => ?_⟩
      replace ho2 := ho2.below hb3
      replace HB2 := HB2.trans (hb3.mono HB2.size)
      revert a; refine wo rfl rfl (by decide) (fun ev e h => by simp [go_sem, h] <;> rfl) ?_; intro a hA
      replace hA := hA.keepN [0, 4, 5, 9]
      refine wN (nT (wS (wS (wR ?_))))
      revert a; (iterate 2 refine wo rfl rfl (by decide) (fun ev e h => by simp [go_sem, h] <;> rfl) ?_); intro a hA
      replace hA := hA.keepN [0, 4, 5, 9, 30]
      refine wN (nT ?_)
      refine wp_if hA 30 _ rfl (fun hq3 => ?yI) (fun hq3 => ?nI)
      case yI =>
        have hnone : ∀ j, t ≤ j → headOk (b.drop j) = false := by
          rcases hz with ⟨_, h⟩ | ⟨p, rfl, _⟩
          · exact h
          · simp at hq3; omega
        rw [scan_none hnone] at hsc
        refine wS (wR ?_)
        revert a; (iterate 4 refine wo rfl rfl (by decide) (fun ev e h => by simp [go_sem, h] <;> rfl) ?_); intro a hA
        replace hA := hA.keepN [2, 3]
        refine wN (nT (wp_ret (rT (rT (rB (rT (rB (rT ?_))))))))
        refine ret_2 hA 2 3 rfl rfl rfl ?_
        exact ⟨v, l, by rw [hsc], ho2, by rw [hsc], HB2⟩
      case nI =>
        obtain ⟨p, rfl, hp1, hp2, hp3, hp4⟩ : ∃ p : Nat, z = (p : Int) ∧ t ≤ p ∧ p < n ∧ headOk (b.drop p) = true ∧ ∀ j, t ≤ j → j < p → headOk (b.drop j) = false := by
          rcases hz with ⟨rfl, _⟩ | h
          · simp at hq3
          · exact h
        have hne : p ≠ t := fun e => by rw [e, hno] at hp3; cases hp3
        have hskip := scan_skip (b := b) (torn := t) (l := l.map recB) (p - t) t (fun j h1 h2 => hp4 j h1 (by omega)) (by omega)
        rw [show t + (p - t) = p by omega, ← hsc] at hskip
        refine wp_skip (nT (wS (wR ?_)))
        revert a; (iterate 2 refine wo rfl rfl (by decide) (fun ev e h => by simp [go_sem, h] <;> rfl) ?_); intro a hA
        replace hA := hA.keepN [0, 4, 5]
        replace hA := hA.keepN [0, 4, 5]
        refine wN (nT (wp_exit (xT (xB (nT ?_)))))
        exact ⟨n - p, by omega, p, t, v, l, rfl, by omega, by omega, hskip, .inr hp3, hA, ho2, HB2⟩
    case nH =>
      have hyes : headOk (b.drop q) = true := by simpa using hq2
      obtain ⟨rfl, rfl⟩ := hkm hyes
      have h44 := headOk_len hyes
      rw [hdl] at h44
      obtain ⟨m, hme⟩ : ∃ m, hdLen (b.drop q) = m := ⟨_, rfl⟩
      rw [hme] at hA
      have hm30 : m ≤ 1000000 := by
        have hy := hyes
        unfold headOk at hy
        simp only [Bool.and_eq_true, decide_eq_true_eq] at hy
        have := hy.2.1.2
        omega
      have b0 : n - q - 44 ≤ 1000000000 := by omega
      have s1 : IntKind.i64.wrap ((n : Int) - (q : Int)) = ((n - q : Nat) : Int) := by rw [IntWalk.i64_in _ (by omega)]; omega
      obtain ⟨nq, hnq⟩ : ∃ x, n - q = x := ⟨_, rfl⟩
      rw [hnq] at s1
      have s2 : IntKind.i64.wrap ((nq : Int) - 44) = ((nq - 44 : Nat) : Int) := by clear s1; rw [IntWalk.i64_in _ (by omega)]; omega
      obtain ⟨r44, hr44⟩ : ∃ x, nq - 44 = x := ⟨_, rfl⟩
      rw [hr44] at s2
      refine wp_skip (nT (wS (wS (wR ?_))))
      revert a; (iterate 7 refine wo rfl rfl (by decide) (fun ev e h => by simp [go_sem, h, s1, s2] <;> rfl) ?_); intro a hA
      replace hA := hA.keepN [0, 4, 5, 6, 7, 40]
      refine wN (nT ?_)
      refine wp_if hA 40 _ rfl (fun hq3 => ?yT) (fun hq3 => ?nT)
      case yT =>
        have hgt : r44 < m := by clear s1 s2; simp at hq3; omega
        rw [scan_torn hyes (by clear s1 s2; omega)] at hsc
        refine wS (wR ?_)
        revert a; (iterate 4 refine wo rfl rfl (by decide) (fun ev e h => by simp [go_sem, h] <;> rfl) ?_); intro a hA
        replace hA := hA.keepN [2, 3]
        refine wN (nT (wp_ret (rT (rB (rT (rB (rT ?_)))))))
        refine ret_2 hA 2 3 rfl rfl rfl ?_
        exact ⟨v, l, by rw [hsc], ho2, by rw [hsc], HB2⟩
      case nT =>
        have hle : m ≤ r44 := by clear s1 s2; simp at hq3; omega
        clear s1 s2
        have g1 : q + 44 + m ≤ n := by omega
        have g2 : q + 44 + m ≤ 16000000 := by omega
        have p1 : q + 44 ≤ q + 44 + m := by omega
        have p2 : q + 12 ≤ q + 44 := by omega
        have p3 : q + 44 ≤ n := by omega
        have p4 : q + 44 ≤ 16000000 := by omega
        have hpl : (payOf (b.drop q)).length = m := by
          unfold payOf
          rw [hme, List.drop_drop, List.length_take, List.length_drop, hl]
          omega
        have hpe : (b.drop (q + 44)).take (q + 44 + m - (q + 44)) = payOf (b.drop q) := by
          unfold payOf
          rw [hme, List.drop_drop, show q + 44 + m - (q + 44) = m by omega]
        have hde : (b.drop (q + 12)).take (q + 44 - (q + 12)) = ((b.drop q).drop 12).take 32 := by
          rw [List.drop_drop, show q + 44 - (q + 12) = 32 by omega]
        have hdl2 : (((b.drop q).drop 12).take 32).length = 32 := by
          rw [List.drop_drop, List.length_take, List.length_drop, hl]
          omega
        have hrR := (hr.below HB2).more HB2.size
        have hR1 := reads_sub8 hrR p1 g1 hc
        have hR2 := reads_sub8 hrR p2 p3 hc
        rw [hpe, show q + 44 + m - (q + 44) = m by omega] at hR1
        rw [hde, show q + 44 - (q + 12) = 32 by omega] at hR2
        have hscr := scan_rec (b := b) (at_ := q) (torn := t) (l := l.map recB) hyes (by rw [hme, hl]; omega)
        rw [← hsc, hme] at hscr
        obtain ⟨q44, hq44⟩ : ∃ x, q + 44 = x := ⟨_, rfl⟩
        obtain ⟨q12, hq12⟩ : ∃ x, q + 12 = x := ⟨_, rfl⟩
        obtain ⟨qm, hqm⟩ : ∃ x, q + 44 + m = x := ⟨_, rfl⟩
        rw [hq44] at g1 g2 p1 p2 p3 p4 hR1 hqm hscr
        rw [hqm] at g1 g2 p1 hscr
        rw [hq12] at p2 hR2
        have i1 : (0 : Int) ≤ (q44 : Int) := by omega
        have i2 : (q44 : Int) ≤ (qm : Int) := by omega
        have i3 : (qm : Int) ≤ (c : Int) := by omega
        have i4 : (0 : Int) ≤ (q12 : Int) := by omega
        have i5 : (q12 : Int) ≤ (q44 : Int) := by omega
        have i6 : (q44 : Int) ≤ (c : Int) := by omega
        have d1 : qm - q44 = m := by omega
        have d2 : q44 - q12 = 32 := by omega
        have w1' : 44 + m ≤ 1000000000 := by omega
        have g3 : q44 ≤ 1000000000 := by omega
        have g4 : qm ≤ 1000000000 := by omega
        obtain ⟨m44, hm44⟩ : ∃ x, 44 + m = x := ⟨_, rfl⟩
        have hqm4 : q + m44 = qm := by omega
        rw [hm44] at w1'
        have f1 : IntKind.i64.wrap ((q : Int) + 44) = (q44 : Int) := wrap_addN (k := 44) hq44 g3
        have f2 : IntKind.i64.wrap ((q44 : Int) + (m : Int)) = (qm : Int) := wrap_addN hqm g4
        have f4 : IntKind.i64.wrap ((44 : Int) + (m : Int)) = (m44 : Int) := wrap_addN (a := 44) hm44 w1'
        have f5 : IntKind.i64.wrap ((q : Int) + (m44 : Int)) = (qm : Int) := wrap_addN hqm4 g4
        have f6 : IntKind.i64.wrap ((q44 : Int) - 32) = (q12 : Int) := by
          clear f1 f2 f4 f5
          rw [IntWalk.i64_in _ (by omega)]
          omega
        refine wp_skip (nT (wS (wR ?_)))
        revert a; (iterate 9 refine wo rfl rfl (by decide) (fun ev e h => by simp [go_sem, h, f1, f2, i1, i2, i3, d1] <;> rfl) ?_); intro a hA
        replace hA := hA.keepN [0, 4, 5, 6, 7, 10]
        refine wN (nT (wS (wS (wR ?_))))
        revert a; refine wo rfl rfl (by decide) (fun ev e h => by simp [go_sem, h, f1, f2, i1, i2, i3, d1] <;> rfl) ?_; intro a hA
        refine wl_call hA rfl rfl (by decide) (fun ev h => exec_call Tryz.func61 (by kernel_rfl) rfl (h.f _) (by first | (simp only [mL, h.get 51 rfl, h.c] <;> rfl) | (simp [mL, h.get 51 rfl, h.c, f1, f2, i1, i2, i3, d1] <;> rfl))) (digest_any _ m _ (payOf (b.drop q)) hpl hm30 _ hR1) ?_
        rintro e w3 ⟨rfl, hb3⟩
        refine ⟨_, rfl, fun a hA => ?_⟩
        have HB3 := HB2.trans (hb3.mono HB2.size)
        replace ho2 := ho2.below hb3
        replace hR1 := (hR1.below hb3).more hb3.size
        replace hR2 := (hR2.below hb3).more hb3.size
        refine wl_new hA rfl rfl (by decide) (fun ev h => by simp [go_sem, f1, f2, i1, i2, i3, d1]; try first | exact ⟨rfl, rfl⟩ | rfl) fun w4 a (K9 : Blk _ _ _ _) hz4 hb4 hA => ?_
        have hd32 := u8s_len32 (digest_length (payOf (b.drop q)))
        refine wl_setw (u8s (digest (payOf (b.drop q)))) hA rfl rfl K9 (by rfl) hd32 (by kernel_rfl) (u8s_one' _) rfl (fun ev h => ⟨h.get 11 rfl, h.get 52 rfl⟩) fun w5 (K9 : Blk _ _ _ _) hs5 => ?_
        have hb5 := hs5.below hb4 (Nat.le_refl _)
        replace HB3 := HB3.trans (hb5.mono HB3.size)
        replace ho2 := ho2.below hb5
        replace hR1 := (hR1.below hb5).more hb5.size
        replace hR2 := (hR2.below hb5).more hb5.size
        have hR9 := blk_reads8 (l := digest (payOf (b.drop q))) K9
        rw [digest_length] at hR9
        have hkb : hdKind (b.drop q) ≤ 3 := by
          unfold headOk at hyes
          simp only [Bool.and_eq_true, decide_eq_true_eq] at hyes
          exact hyes.2.1.1.2
        clear hb4 hb5 hs5 hb3
        replace hA := hA.keepN [0, 4, 5, 6, 7, 10, 11]
        refine wN (nT (wS ?_))
        refine wp_any_at hA [(.det ?dE0), (.det ?dE1), (.det ?dE2), (.det ?dE3), (.det ?dE4), (.det ?dE5), (.det ?dE6), (.det ?dE7), (.det ?dE8)] [] (fun wy => Below w5.heap.size w5 wy) (TSp [] Grows) (by kernel_rfl) rfl (by kernel_rfl) (by kernel_rfl) rfl ((Below.refl _ _).drew) (stab_sp [] [true, true, true, true, true, true, true, true, true] [true, true, true, true, true, true, true, true, true] [] rfl rfl rfl (by kernel_rfl) ⟨trivial, trivial, trivial, trivial, trivial, trivial, trivial, trivial, trivial, trivial⟩ trivial) (fun _ h => by cases h) (fun _ _ _ _ _ h => by cases h) (fun _ h => by cases h) ⟨?oE0, ?oE1, ?oE2, ?oE3, ?oE4, ?oE5, ?oE6, ?oE7, ?oE8, trivial⟩ (by kernel_rfl) ?fE
        case oE0 => intro ev wo hev hC hs hph; have x0 := se hA hs 11; exact od rfl rfl (by kernel_rfl) hC (TSp.of rfl (Grows.refl _)) (by simp [go_sem, x0, f1, f6, i4, i5, i6, d2] <;> rfl)
        case oE1 => intro ev wo hev hC hs hph; have x0 := se hA hs 0; exact od rfl rfl (by kernel_rfl) hC (TSp.of rfl (Grows.refl _)) (by simp [go_sem, x0, f1, f6, i4, i5, i6, d2] <;> rfl)
        case oE2 => intro ev wo hev hC hs hph; have x0 := se hA hs 5; exact od rfl rfl (by kernel_rfl) hC (TSp.of rfl (Grows.refl _)) (by simp [go_sem, x0, f1, f6, i4, i5, i6, d2] <;> rfl)
        case oE3 => intro ev wo hev hC hs hph; have x0 := sd hs 55 2; exact od rfl rfl (by kernel_rfl) hC (TSp.of rfl (Grows.refl _)) (by simp [go_sem, x0, hev.const, f1, f6, i4, i5, i6, d2] <;> rfl)
        case oE4 => intro ev wo hev hC hs hph; have x0 := sd hs 56 3; exact od rfl rfl (by kernel_rfl) hC (TSp.of rfl (Grows.refl _)) (by simp [go_sem, x0, hev.const, f1, f6, i4, i5, i6, d2] <;> rfl)
        case oE5 => intro ev wo hev hC hs hph; have x0 := se hA hs 5; exact od rfl rfl (by kernel_rfl) hC (TSp.of rfl (Grows.refl _)) (by simp [go_sem, x0, f1, f6, i4, i5, i6, d2] <;> rfl)
        case oE6 => intro ev wo hev hC hs hph; have x0 := sd hs 58 5; exact od rfl rfl (by kernel_rfl) hC (TSp.of rfl (Grows.refl _)) (by simp [go_sem, x0, hev.const, f1, f6, i4, i5, i6, d2] <;> rfl)
        case oE7 => intro ev wo hev hC hs hph; have x0 := sd hs 54 1; have x1 := sd hs 57 4; have x2 := sd hs 59 6; exact od rfl rfl (by kernel_rfl) hC (TSp.of rfl (Grows.refl _)) (by simp [go_sem, x0, x1, x2, f1, f6, i4, i5, i6, d2] <;> rfl)
        case oE8 =>
          intro ev wo hev hC hs hph
          have e53 := sd hs 53 0
          have e60 := sd hs 60 7
          exact ob_dcall (wanted_none rfl) rfl (by kernel_rfl) ((equal_any _ _ 32 _ 32 _ (digest (payOf (b.drop q))) (((b.drop q).drop 12).take 32) wo (digest_length _) hdl2 ((hR9.below hC).more hC.size) ((hR2.below hC).more hC.size)).mono fun e' w' h => ⟨h.1, h.2 ▸ Below.refl _ _⟩) (exec_call Tryz.func45 (by kernel_rfl) rfl (hev.func _) (by first | (simp only [mL, e53, e60, hev.const] <;> rfl) | (simp [mL, e53, e60, hev.const] <;> rfl))) (by rfl) (fun w3 hb3 => ⟨hC.trans (hb3.mono hC.size), TSp.of rfl hb3⟩)
        intro sg wf hC hph
        intro a hA
        replace hA := hA.keepN [0, 4, 5, 6, 7, 10, 61]
        refine nT ?_
        have HB4 := HB3.trans (hC.mono HB3.size)
        replace ho2 := ho2.below hC
        replace hR1 := (hR1.below hC).more hC.size
        clear hR9 hR2 hC K9
        have hrec : recsAt b q = bif (digest (payOf (b.drop q)) == ((b.drop q).drop 12).take 32) then [⟨q, hdKind (b.drop q), payOf (b.drop q)⟩] else [] := rfl
        have hk2 : n - qm < n - q := by clear f1 f2 f4 f5 f6; omega
        have hlq : l.length < qm := by clear f1 f2 f4 f5 f6; omega
        refine wp_if hA 61 _ rfl (fun hq4 => ?yG) (fun hq4 => ?nG)
        case nG =>
          rw [hrec, hq4, cond_false, List.append_nil] at hscr
          refine wp_skip (nT (wR ?_))
          revert a; (iterate 5 refine wo rfl rfl (by decide) (fun ev e h => by simp [go_sem, h, f4, f5] <;> rfl) ?_); intro a hA
          replace hA := hA.keepN [0, 4, 5]
          refine wN (nB (nT ?_))
          exact ⟨n - qm, by rw [hk]; exact hk2, qm, qm, v, l, rfl, g1, Nat.le_of_lt hlq, hscr, .inl rfl, hA, ho2, HB4⟩
        case yG =>
          rw [hrec, hq4, cond_true] at hscr
          refine wR ?_
          revert a; (iterate 4 refine wo rfl rfl (by decide) (fun ev e h => by simp [go_sem, h, f1, f6, i4, i5, i6, d2] <;> rfl) ?_); intro a hA
          refine wl_call hA rfl rfl (by decide) (fun ev h => exec_call Tryz.func54 (by kernel_rfl) rfl (h.f _) (by first | (simp only [mL, h.get 65 rfl, h.c] <;> rfl) | (simp [mL, h.get 65 rfl, h.c, f1, f6, i4, i5, i6, d2] <;> rfl))) (clone8_any _ m _ (payOf (b.drop q)) hpl (by clear f1 f2 f4 f5 f6; omega) _ hR1) ?_
          rintro e w7 ⟨cl, rfl, hcl, hb7⟩
          refine ⟨_, rfl, fun a hA => ?_⟩
          replace HB4 := HB4.trans (hb7.mono HB4.size)
          have hvlt := World.ownsRow.lt ho2.row
          replace ho2 := ho2.below hb7
          have hclt := World.ownsRow.lt hcl
          obtain ⟨A8, c8, rfl, hR8⟩ := hcl.took
          revert a; refine wo rfl rfl (by decide) (fun ev e h => by simp [go_sem, h, f1, f6, i4, i5, i6, d2] <;> rfl) ?_; intro a hA
          refine wl_new hA rfl rfl (by decide) (fun ev h => by simp [go_sem, h.get 67 rfl, f1, f6, i4, i5, i6, d2]; try first | exact ⟨rfl, rfl⟩ | rfl) fun w8 a (K8 : Blk _ _ _ _) hz8 hb8 hA => ?_
          replace HB4 := HB4.trans (hb8.mono HB4.size)
          replace ho2 := ho2.below hb8
          replace hR8 := (hR8.below hb8).more hb8.size
          have hrow : RowR recSh w8 _ [(⟨q, hdKind (b.drop q), A8, c8, payOf (b.drop q)⟩ : RecV)] := rowR_blk (s := recSh) (x := ⟨q, hdKind (b.drop q), A8, c8, payOf (b.drop q)⟩) K8 (fun p hp => by rw [List.mem_singleton.1 hp]; exact hR8)
          obtain ⟨r, w9, hr9, ho9, hgr, -⟩ := run_appR ho2 hrow (fun g hg x hx p hp => by
            rw [List.mem_singleton.1 hx] at hp
            rw [List.mem_singleton.1 hp]
            intro hn ad ha he
            replace ha : A8 = some ad := ha
            have h1 := (hvlt g hg).2
            have h2 := (hclt ad.block (by rw [ha]; rfl)).1
            omega) (by clear f1 f2 f4 f5 f6; simp; omega) HB4.size
          have HB9 := below_appR HB4 ho2 hgr (Nat.le_refl _) HB4.size
          refine wl_op hA rfl rfl (by decide) (fun ev h => exec_append rfl (h.get 62 rfl) (h.get 68 rfl) hr9) fun a hA => ?_
          revert a; refine wo rfl rfl (by decide) (fun ev e h => by simp [go_sem, h, f4, f5] <;> rfl) ?_; intro a hA
          replace hA := hA.keepN [0, 4, 5, 7]
          refine wN (nT (wR ?_))
          revert a; (iterate 5 refine wo rfl rfl (by decide) (fun ev e h => by simp [go_sem, h, f4, f5] <;> rfl) ?_); intro a hA
          replace hA := hA.keepN [0, 4, 5]
          refine wN (nB (nT ?_))
          exact ⟨n - qm, by rw [hk]; exact hk2, qm, qm, r, l ++ [⟨q, hdKind (b.drop q), A8, c8, payOf (b.drop q)⟩], rfl, g1, by rw [List.length_append]; exact hlq, by rw [List.map_append]; exact hscr, .inl rfl, hA, ho9, HB9⟩
end Go.Proofs.YtmjikfeaopmejaaGreatDoor
/-
  Walk: what bytes say as a log (log.Read).
-/
namespace Go.Proofs.YtmjikfeaopmejaaGreatDoor
open Go.RowKit
set_option linter.unusedSimpArgs false
set_option linter.unusedVariables false
/-- the note of a record, if it is one -/
def noteOf (k : Nat) (at_ : Nat) (p : List UInt8) : NoteB := ⟨(k : Int), (rd1 p).1, (rd4 (k : Int) p).1, (rd2 (k : Int) p).1, ((rd3 (k : Int) p).1.1 : Nat), ((rd3 (k : Int) p).1.2 : Nat), (rd5 (k : Int) p).1, at_⟩
def notesR (l : List RecB) : List NoteB := l.flatMap fun r => bif decOk (r.kind : Int) r.b then [noteOf r.kind r.at_ r.b] else []
/-- the notes of bytes -/
def notesB (b : List UInt8) : List NoteB := notesR (scan b).1
theorem notesR_succ {l : List RecB} {j : Nat} {r : RecB} (hx : l[j]? = some r) : notesR (l.take (j + 1)) = notesR (l.take j) ++ bif decOk (r.kind : Int) r.b then [noteOf r.kind r.at_ r.b] else [] := by
  unfold notesR
  rw [List.take_add_one, hx, List.flatMap_append]
  congr 1
  simp
theorem takeAll_snoc (l : List NoteB) (n : NoteB) : takeAll (l ++ [n]) = takeN (takeAll l) n := by unfold takeAll; rw [List.foldl_append]; rfl
theorem scanAt_len (b : List UInt8) : ∀ (f at_ torn : Nat) (l : List RecB), b.length - at_ ≤ f → (scanAt b at_ torn l).1.length ≤ l.length + (b.length - at_)
  | 0, at_, torn, l, h => by rw [scan_end (by omega)]; exact Nat.le_add_right _ _
  | f + 1, at_, torn, l, h => by
    rcases Nat.lt_or_ge at_ b.length with h1 | h1
    · cases hh : headOk (b.drop at_) with
      | false =>
        rw [scan_next hh h1]
        have := scanAt_len b f (at_ + 1) torn l (by omega)
        omega
      | true =>
        rcases Nat.lt_or_ge b.length (hdLen (b.drop at_) + 44 + at_) with h2 | h2
        · rw [scan_torn hh h2]
          exact Nat.le_add_right _ _
        · rw [scan_rec hh h2]
          have h3 := scanAt_len b f (at_ + 44 + hdLen (b.drop at_)) (at_ + 44 + hdLen (b.drop at_)) (l ++ recsAt b at_) (by omega)
          have h4 : (recsAt b at_).length ≤ 1 := by
            unfold recsAt
            cases digest (payOf (b.drop at_)) == ((b.drop at_).drop 12).take 32 <;> simp
          rw [List.length_append] at h3
          omega
    · rw [scan_end h1]; exact Nat.le_add_right _ _
theorem scan_len (b : List UInt8) : (scan b).1.length ≤ b.length := by
  have := scanAt_len b b.length 0 0 [] (by omega)
  unfold scan
  simpa using this
theorem scanAt_small (b : List UInt8) : ∀ (f at_ torn : Nat) (l : List RecB), b.length - at_ ≤ f → (∀ r ∈ l, r.b.length ≤ b.length) → ∀ r ∈ (scanAt b at_ torn l).1, r.b.length ≤ b.length
  | 0, at_, torn, l, h, hl => by rw [scan_end (by omega)]; exact hl
  | f + 1, at_, torn, l, h, hl => by
    rcases Nat.lt_or_ge at_ b.length with h1 | h1
    · cases hh : headOk (b.drop at_) with
      | false =>
        rw [scan_next hh h1]
        exact scanAt_small b f (at_ + 1) torn l (by omega) hl
      | true =>
        rcases Nat.lt_or_ge b.length (hdLen (b.drop at_) + 44 + at_) with h2 | h2
        · rw [scan_torn hh h2]
          exact hl
        · rw [scan_rec hh h2]
          refine scanAt_small b f (at_ + 44 + hdLen (b.drop at_)) (at_ + 44 + hdLen (b.drop at_)) (l ++ recsAt b at_) (by omega) fun r hr => ?_
          rcases List.mem_append.1 hr with hr | hr
          · exact hl r hr
          · unfold recsAt at hr
            have hp : (payOf (b.drop at_)).length ≤ b.length := by
              unfold payOf
              rw [List.length_take, List.length_drop, List.length_drop]
              omega
            cases hd : digest (payOf (b.drop at_)) == ((b.drop at_).drop 12).take 32 with
            | false => rw [hd] at hr; cases hr
            | true =>
              rw [hd] at hr
              rw [List.mem_singleton.1 hr]
              exact hp
    · rw [scan_end h1]; exact hl
theorem scan_small (b : List UInt8) : ∀ r ∈ (scan b).1, r.b.length ≤ b.length := scanAt_small b b.length 0 0 [] (by omega) fun r hr => (by cases hr)
theorem pay_len {b : List UInt8} (h : headOk b = true) : (payOf b).length ≤ 30000 := by
  unfold headOk at h
  simp only [Bool.and_eq_true, decide_eq_true_eq] at h
  unfold payOf
  rw [List.length_take]
  have := h.2.1.2
  omega
theorem scanAt_pay (b : List UInt8) : ∀ (f at_ torn : Nat) (l : List RecB), b.length - at_ ≤ f → (∀ r ∈ l, r.b.length ≤ 30000) → ∀ r ∈ (scanAt b at_ torn l).1, r.b.length ≤ 30000
  | 0, at_, torn, l, h, hl => by rw [scan_end (by omega)]; exact hl
  | f + 1, at_, torn, l, h, hl => by
    rcases Nat.lt_or_ge at_ b.length with h1 | h1
    · cases hh : headOk (b.drop at_) with
      | false =>
        rw [scan_next hh h1]
        exact scanAt_pay b f (at_ + 1) torn l (by omega) hl
      | true =>
        rcases Nat.lt_or_ge b.length (hdLen (b.drop at_) + 44 + at_) with h2 | h2
        · rw [scan_torn hh h2]
          exact hl
        · rw [scan_rec hh h2]
          refine scanAt_pay b f (at_ + 44 + hdLen (b.drop at_)) (at_ + 44 + hdLen (b.drop at_)) (l ++ recsAt b at_) (by omega) fun r hr => ?_
          rcases List.mem_append.1 hr with hr | hr
          · exact hl r hr
          · unfold recsAt at hr
            cases hd : digest (payOf (b.drop at_)) == ((b.drop at_).drop 12).take 32 with
            | false => rw [hd] at hr; cases hr
            | true =>
              rw [hd] at hr
              rw [List.mem_singleton.1 hr]
              exact pay_len hh
    · rw [scan_end h1]; exact hl
theorem scan_pay (b : List UInt8) : ∀ r ∈ (scan b).1, r.b.length ≤ 30000 := scanAt_pay b b.length 0 0 [] (by omega) fun r hr => (by cases hr)
theorem decOk_kind {k : Int} {p : List UInt8} (h : decOk k p = true) : (k = 1 ∨ k = 2 ∨ k = 3) ∧ (k = 2 → 1 ≤ (rd2 k p).1) := by
  unfold decOk at h
  simp only [Bool.and_eq_true] at h
  have hf := h.2.1
  unfold formedV at hf
  simp only [Bool.and_eq_true] at hf
  have hf := hf.2
  cases h1 : k == 1 with
  | true => have : k = 1 := by simpa using h1
            exact ⟨.inl this, fun h => by omega⟩
  | false =>
    rw [h1, cond_false] at hf
    cases h2 : k == 2 with
    | true =>
      have h2' : k = 2 := by simpa using h2
      rw [h2, cond_true] at hf
      simp only [Bool.and_eq_true] at hf
      have hf := hf.2
      unfold fullV at hf
      simp only [Bool.and_eq_true, decide_eq_true_eq] at hf
      exact ⟨.inr (.inl h2'), fun _ => hf.1⟩
    | false =>
      rw [h2, cond_false] at hf
      simp only [Bool.and_eq_true] at hf
      have : k = 3 := by simpa using hf.1.1.1
      exact ⟨.inr (.inr this), fun h => by omega⟩
theorem live_uid {s : LogS} {n : NoteB} (hs : ∀ x ∈ s.live, 1 ≤ x.u) (hn : n.k = 2 → 1 ≤ n.u) : ∀ x ∈ (takeN s n).live, 1 ≤ x.u := by
  intro x hx
  have hx : x ∈ liveN s.live n := hx
  unfold liveN at hx
  cases h2 : n.k == 2 with
  | true =>
    rw [h2, cond_true] at hx
    rcases List.mem_append.1 hx with h | h
    · exact hs x h
    · rw [List.mem_singleton.1 h]; exact hn (by simpa using h2)
  | false =>
    rw [h2, cond_false] at hx
    cases h3 : n.k == 3 with
    | true =>
      rw [h3, cond_true] at hx
      exact hs x (List.mem_filter.1 hx).1
    | false => rw [h3, cond_false] at hx; exact hs x hx
theorem live_len (s : LogS) (n : NoteB) : (takeN s n).live.length ≤ s.live.length + 1 := by
  show (liveN s.live n).length ≤ _
  unfold liveN
  cases n.k == 2
  · cases n.k == 3
    · simp
    · have := List.length_filter_le (fun x => !goneB n x) s.live
      simp only [cond_true, cond_false]
      omega
  · simp
set_option maxRecDepth 100000 in
set_option maxHeartbeats 2000000 in
theorem read_any (A : Option Addr) (n c : Nat) (b : List UInt8) (hl : b.length = n) (hc : n ≤ c) (hn : n ≤ 16000000) (w : World) (hm : MaxCell w) (hg : 0 < w.heap.size) (htab : Lib.TabIs Tryz.prog w "internal/strconv.uint64pow10" .u64 Lib.pow10Tab) (hr : Reads w w.heap.size 1 A n (u8s b)) :
    Calls Tryz.prog 19 #[.slice A n c] w fun ev w' => ∃ v L, ev = .returned (.agg #[.string (takeAll (notesB b)).nm, .int .u32 ((takeAll (notesB b)).ep : Nat), .int .u32 ((takeAll (notesB b)).nx : Nat), v, .int .i64 ((scan b).2 : Nat), .bool (cleanS (takeAll (notesB b)))]) ∧ OwnR liveSh w.heap.size w' v L ∧ L.map liveL = (takeAll (notesB b)).live.map noteL ∧ Below w.heap.size w w' := by
  have Ht := Lib.tabBelow_of_tabIs htab
  refine calls_at 41 Tryz.func19 rfl rfl (Nat.le_of_ble_eq_true rfl) ?_
  intro a hA; replace hA := hA.norm
  refine wS (wR ?_)
  refine wl_new hA rfl rfl (by decide) (fun ev h => by simp [go_sem]; try first | exact ⟨rfl, rfl⟩ | rfl) fun w1 a (K2 : Blk _ _ _ _) hz1 hb1 hA => ?_
  replace hA := hA.keepN [0, 2]
  refine wN (nT (wS (wR ?_)))
  revert a; refine wo rfl rfl (by decide) (fun ev e h => by simp [go_sem, h] <;> rfl) ?_; intro a hA
  refine wl_call hA rfl rfl (by decide) (fun ev h => exec_call Tryz.func50 (by kernel_rfl) rfl (h.f _) (by first | (simp only [mL, h.get 11 rfl, h.c] <;> rfl) | (simp [mL, h.get 11 rfl, h.c] <;> rfl))) (scan_any A n c b hl hc hn _ (hm.below hg hb1) (Nat.lt_of_lt_of_le hg hb1.size) ((hr.below hb1).more hb1.size)) ?_
  rintro e w2 ⟨vs, l, rfl, hos, hlm, hb2⟩
  refine ⟨_, rfl, fun a hA => ?_⟩
  replace K2 := K2.below hb2 K2.lt
  have HB := hb1.trans (hb2.mono hb1.size)
  have hosl := World.ownsRow.lt hos.row
  obtain ⟨As, cs, rfl, hrs, _⟩ := hos.reads
  obtain ⟨T, hT⟩ : ∃ T, (scan b).2 = T := ⟨_, rfl⟩
  rw [hT] at hA
  revert a; (iterate 5 refine wo rfl rfl (by decide) (fun ev e h => by simp [go_sem, h] <;> rfl) ?_); intro a hA
  replace hA := hA.keepN [2, 3, 4]
  refine wN (nT (wS (wR ?_)))
  revert a; (iterate 2 refine wo rfl rfl (by decide) (fun ev e h => by simp [go_sem, h] <;> rfl) ?_); intro a hA
  have K20 := K2
  refine wl_local [.string ⟨#[]⟩, .int .u32 0, .int .u32 1, .slice none 0 0, .int .i64 (T : Nat), .bool false] hA rfl rfl (by decide) (fun ev h => by simp [go_sem]; try first | exact ⟨rfl, rfl⟩ | rfl) rfl rfl (by rfl) (fun w1 g ev hb h => by simp [go_sem, h.get 5 rfl, h.get 16 rfl, setAll, hb.cell, hb.frozen]) fun w3 a (KL : Blk _ _ _ _) hz3 hb3 hA => ?_
  replace K2 := K2.below hb3 K2.lt
  replace HB := HB.trans (hb3.mono HB.size)
  replace hA := hA.keepN [2, 3, 5]
  refine wN (nT (wS (wS (wR ?_))))
  revert a; (iterate 3 refine wo rfl rfl (by decide) (fun ev e h => by simp [go_sem, h] <;> rfl) ?_); intro a hA
  replace hA := hA.keepN [2, 5, 17, 18, 19]
  refine wN (nT (wB ?_))
  obtain ⟨pl, hpl⟩ : ∃ x, w2.heap.size = x := ⟨_, rfl⟩
  rw [hpl] at KL hA
  have hpw : w.heap.size < pl := by have := K2.lt; have := hb1.size; have := hb2.size; omega
  have hb3' : Below pl w2 w3 := hpl ▸ hb3
  have hll : l.length ≤ n := by
    have := scan_len b
    rw [← hlm, List.length_map] at this
    omega
  refine wp_loop_at (fun kk a wx => ∃ (j : Nat) (v : Value) (L : List LiveV) (S : LogS), j + kk = l.length ∧ At 41 [(2, .pointer (some ⟨w.heap.size, 0, none⟩)), (5, .pointer (some ⟨pl, 0, none⟩)), (17, .slice As l.length cs), (18, .int .i64 (l.length : Nat)), (19, .int .i64 (j : Nat))] a ∧ S = takeAll (notesR ((l.map recB).take j)) ∧ Blk wx pl 42 #[.string S.nm, .int .u32 (S.ep : Nat), .int .u32 (S.nx : Nat), v, .int .i64 (T : Nat), .bool false] ∧ OwnR liveSh (pl + 1) wx v L ∧ L.map liveL = S.live.map noteL ∧ (∀ x ∈ S.live, 1 ≤ x.u) ∧ S.live.length ≤ j ∧ Below pl w2 wx ∧ pl < wx.heap.size) (l.length) ?_ ?_
  · exact ⟨0, _, [], log0, by omega, hA, rfl, KL, OwnR.nil _ _, rfl, fun x hx => (by cases hx), Nat.zero_le _, hb3', KL.lt⟩
  clear KL hb3 hb3'
  rintro kk a wx ⟨j, v, L, S, hjk, hA, hS, KL, ho, hlv, huid, hlen, HL, hplx⟩
  refine wS (wR ?_)
  revert a; refine wo rfl rfl (by decide) (fun ev e h => by simp [go_sem, h] <;> rfl) ?_; intro a hA
  replace hA := hA.keepN [2, 5, 17, 18, 19, 20]
  refine wN (nT (wS ?_))
  refine wp_if hA 20 _ rfl (fun hq => ?yI) (fun hq => ?nI)
  case nI =>
    have hjn : j = l.length := by simp at hq; omega
    have hSb : S = takeAll (notesB b) := by
      rw [hS, hjn, List.take_of_length_le (by simp), hlm]
      rfl
    rw [← hSb]
    have h1 : ∀ x ∈ L, 1 ≤ x.m.uid := fun x hx => by
      have h2 : liveL x ∈ S.live.map noteL := by rw [← hlv]; exact List.mem_map_of_mem hx
      obtain ⟨y, hy, e⟩ := List.mem_map.1 h2
      have h3 := congrArg (fun q => q.2.1) e
      have h4 : y.u = x.m.uid := h3
      rw [← h4]
      exact huid y hy
    have hLl : L.length = S.live.length := by have := congrArg List.length hlv; simpa using this
    have K2 := K20.below (hpl ▸ HL) K20.lt
    obtain ⟨A0, c0, rfl, hrr, _⟩ := ho.reads
    replace hA := hA.keepN [2, 5]
    refine wp_exit (xT (xT (xB (nT (wS (wR ?_))))))
    refine wl_call hA rfl rfl (by decide) (fun ev h => exec_call Tryz.func52 (by kernel_rfl) rfl (h.f _) (by first | (simp only [mL, h.get 5 rfl, h.c] <;> rfl) | (simp [mL, h.get 5 rfl, h.c] <;> rfl))) (clean_any pl S (T : Int) false A0 L.length c0 L _ KL hrr rfl (by omega) hlv h1) ?_
    rintro e w9 ⟨rfl, hb9⟩
    refine ⟨_, rfl, fun a hA => ?_⟩
    replace KL := KL.below hb9 KL.lt
    replace ho := ho.below hb9
    replace K2 := K2.below hb9 K2.lt
    replace HL := HL.trans (hb9.mono (Nat.le_of_lt hplx))
    have KL0 := KL
    revert a; refine wo rfl rfl (by decide) (fun ev e h => by simp [go_sem, h] <;> rfl) ?_; intro a hA
    refine wl_setf ([.string S.nm, .int .u32 (S.ep : Nat), .int .u32 (S.nx : Nat), .slice A0 L.length c0, .int .i64 (T : Nat), .bool (cleanS S)]) _ hA rfl rfl KL (j := 5) (by rfl) (fun ev h => by simp [go_sem, h.get 39 rfl, h.get 38 rfl, KL.cell, KL.frozen]; try first | exact ⟨rfl, rfl⟩ | rfl) fun w10 (KL : Blk _ _ _ _) hs10 => ?_
    replace HL := hs10.below HL (Nat.le_refl _)
    replace ho := ho.onlyK hs10 KL0 (by decide) rfl
    replace K2 := hs10.blk K2 (by omega)
    replace hA := hA.keepN [2, 5]
    refine wN (nT (wS (wR ?_)))
    revert a; refine wo rfl rfl (by decide) (fun ev e h => by simp [go_sem, h, KL.cell] <;> rfl) ?_; intro a hA
    have K29 := K2
    refine wl_set [.string S.nm, .int .u32 (S.ep : Nat), .int .u32 (S.nx : Nat), .slice A0 L.length c0, .int .i64 (T : Nat), .bool (cleanS S)] hA rfl rfl K2 (by rfl) (fun ev h => by simp [go_sem, h.get 2 rfl, h.get 40 rfl, KL.cell, setAll, K2.cell, K2.frozen]) fun w11 (K2 : Blk _ _ _ _) hs11 => ?_
    have HBB : Below w.heap.size w w10 := (hb1.trans (hb2.mono hb1.size)).trans (HL.mono (Nat.le_of_lt hpw))
    replace hA := hA.keepN [2]
    refine wN (nT (wp_ret ?_))
    refine bodyPost_ret (by simp [results, Tryz.results19, go_sem, hA.env 2 _ rfl, K2.cell]; try first | exact ⟨rfl, rfl⟩ | rfl) hA.defers ?_
    exact ⟨_, L, by rw [hT], (ho.onlyK hs11 K29 (by decide) rfl).mono (by omega), hlv, hs11.below HBB (Nat.le_refl _)⟩
  case yI =>
    have hlt : j < l.length := by simp at hq; omega
    obtain ⟨x, hx⟩ : ∃ x, l[j]? = some x := ⟨_, List.getElem?_eq_getElem (by omega)⟩
    have hxb : x.b.length ≤ 1000000 := by
      have h1 : recB x ∈ (scan b).1 := by rw [← hlm]; exact List.mem_map_of_mem (List.mem_of_getElem? hx)
      have := scan_pay b _ h1
      have h2 : (recB x).b.length = x.b.length := rfl
      omega
    have hxr0 := hrs.octs x (List.mem_of_getElem? hx) (x.a, x.b) (List.mem_singleton.2 rfl)
    obtain ⟨ad, rfl, hadl, kz, kk'⟩ := hrs.cell hx
    have hadp : ad.block < pl := hpl ▸ hadl
    have z0 : wx.cell? (ad.add (j * 3)) = some (.int .i64 (x.at_ : Nat)) := (HL.cell (by rw [block_of_add]; exact hadp)).trans (kz _ rfl)
    have z1 := (HL.cell (p := ⟨(ad.add (j * 3)).block, (ad.add (j * 3)).off + 1, none⟩) (by show (ad.add _).block < _; rw [block_of_add]; exact hadp)).trans (kk' 1 _ (by decide) rfl)
    have z2 := (HL.cell (p := ⟨(ad.add (j * 3)).block, (ad.add (j * 3)).off + 2, none⟩) (by show (ad.add _).block < _; rw [block_of_add]; exact hadp)).trans (kk' 2 _ (by decide) rfl)
    have jj0 : (0 : Int) ≤ (j : Int) := by omega
    have jj1 : (j : Int) < (l.length : Int) := by omega
    have hwj : IntKind.i64.wrap ((j : Int) + 1) = (j : Int) + 1 := IntWalk.i64_in _ (by omega)
    refine wp_skip (nT (wS (wB (wS (wR ?_)))))
    revert a; (iterate 2 refine wo rfl rfl (by decide) (fun ev e h => by simp [go_sem, h, z0, z1, z2, jj0, jj1] <;> rfl) ?_); intro a hA
    refine wl_local [.int .i64 (x.at_ : Nat), .int .i64 (x.kind : Nat), .slice x.a x.b.length x.c] hA rfl rfl (by decide) (fun ev h => by simp [go_sem, z0, z1, z2, jj0, jj1]; try first | exact ⟨rfl, rfl⟩ | rfl) rfl rfl (by rfl) (fun w1 g ev hb h => by simp [go_sem, h.get 7 rfl, h.get 22 rfl, z0, z1, z2, jj0, jj1, setAll, hb.cell, hb.frozen]) fun w5 a (K7 : Blk _ _ _ _) hz5 hb5 hA => ?_
    replace KL := KL.below hb5 KL.lt
    replace ho := ho.below hb5
    replace HL := HL.trans (hb5.mono (Nat.le_of_lt hplx))
    have hpl5 : pl < w5.heap.size := by omega
    clear z0 z1 z2 kz kk' hb5
    have HBB : Below w.heap.size w w5 := (hb1.trans (hb2.mono hb1.size)).trans (HL.mono (Nat.le_of_lt hpw))
    have hxr := hxr0.below (hpl ▸ HL)
    replace hA := hA.keepN [2, 5, 7, 17, 18, 19]
    refine wN (nT (wS (wR ?_)))
    revert a; (iterate 4 refine wo rfl rfl (by decide) (fun ev e h => by simp [go_sem, h, K7.cell] <;> rfl) ?_); intro a hA
    have hvlt := World.ownsRow.lt ho.row
    refine wl_call hA rfl rfl (by decide) (fun ev h => exec_call Tryz.func14 (by kernel_rfl) rfl (h.f _) (by first | (simp only [mL, h.get 25 rfl, h.get 27 rfl, h.c] <;> rfl) | (simp [mL, h.get 25 rfl, h.get 27 rfl, h.c, K7.cell] <;> rfl))) (decode_new (x.kind : Int) x.a x.b.length x.c x.b rfl hxb _ (hm.below hg HBB) (Nat.lt_of_lt_of_le hg HBB.size) (Ht _ HBB) hxr) ?_
    rintro e w6 ⟨na, nc, rfl, hoct, hb6⟩
    refine ⟨_, rfl, fun a hA => ?_⟩
    replace KL := KL.below hb6 KL.lt
    replace ho := ho.below hb6
    replace K7 := K7.below hb6 K7.lt
    replace HL := HL.trans (hb6.mono (Nat.le_of_lt hpl5))
    have hpl6 : pl < w6.heap.size := Nat.lt_of_lt_of_le hpl5 hb6.size
    have hsu := notesR_succ (l := l.map recB) (j := j) (r := recB x) (by rw [List.getElem?_map, hx]; rfl)
    obtain ⟨m, hme⟩ : ∃ m, rdM (x.kind : Int) x.b na nc = m := ⟨_, rfl⟩
    cases hd : decOk (x.kind : Int) x.b with
    | false =>
      rw [hd] at hA
      rw [show decOk ((recB x).kind : Int) (recB x).b = false from hd, cond_false, List.append_nil] at hsu
      unfold noteZ at hA
      rw [cond_false, cond_false] at hA
      revert a; (iterate 3 refine wo rfl rfl (by decide) (fun ev e h => by simp [go_sem, h, hwj] <;> rfl) ?_); intro a hA
      refine wl_local [.int .i64 0, .int .u32 0, .string ⟨#[]⟩, .int .u32 0, .int .i64 0, .int .i64 0, .slice none 0 0] hA rfl rfl (by decide) (fun ev h => by simp [go_sem, hwj]; try first | exact ⟨rfl, rfl⟩ | rfl) rfl rfl (by rfl) (fun w1 g ev hb h => by simp [go_sem, h.get 8 rfl, h.get 29 rfl, hwj, setAll, hb.cell, hb.frozen]) fun w7 a (K8 : Blk _ _ _ _) hz7 hb7 hA => ?_
      replace KL := KL.below hb7 KL.lt
      replace ho := ho.below hb7
      replace HL := HL.trans (hb7.mono (Nat.le_of_lt hpl6))
      have hpl7 : pl < w7.heap.size := by omega
      revert a; refine wo rfl rfl (by decide) (fun ev e h => by simp [go_sem, h, hwj] <;> rfl) ?_; intro a hA
      replace hA := hA.keepN [2, 5, 7, 8, 9, 17, 18, 19]
      refine wN (nT (wS (wR ?_)))
      revert a; (iterate 2 refine wo rfl rfl (by decide) (fun ev e h => by simp [go_sem, h, hwj] <;> rfl) ?_); intro a hA
      replace hA := hA.keepN [2, 5, 7, 8, 17, 18, 19, 32]
      refine wN (nT ?_)
      refine wp_if hA 32 _ rfl (fun hq2 => ?yE) (fun hq2 => ?nE)
      case yE => cases hq2
      case nE =>
        refine wp_skip (nB (nT (wR ?_)))
        revert a; (iterate 2 refine wo rfl rfl (by decide) (fun ev e h => by simp [go_sem, h, hwj] <;> rfl) ?_); intro a hA
        replace hA := hA.keepN [2, 5, 17, 18, 19]
        refine wN (nT ?_)
        rw [show ((j : Int) + 1) = ((j + 1 : Nat) : Int) by omega] at hA
        exact ⟨kk - 1, by omega, j + 1, v, L, S, by omega, hA, by rw [hsu]; exact hS, KL, ho, hlv, huid, by omega, HL, hpl7⟩
    | true =>
      rw [hd] at hA
      rw [show decOk ((recB x).kind : Int) (recB x).b = true from hd, cond_true] at hsu
      rw [cond_true, cond_true, hme] at hA
      unfold noteC at hA
      obtain ⟨ho1, ho2⟩ := hoct hd
      have hma : m.a = na := by rw [← hme]; rfl
      have hmb : m.b = (rd5 (x.kind : Int) x.b).1 := by rw [← hme]; rfl
      have hmu : m.uid < 4294967296 := by rw [← hme]; exact rd2_lt _ _
      have hmR : ReadsP w6 (m.a, m.b) := by
        show Reads w6 w6.heap.size 1 m.a m.b.length (u8s m.b)
        rw [hma, hmb]
        exact ho1
      revert a; (iterate 3 refine wo rfl rfl (by decide) (fun ev e h => by simp [go_sem, h, hwj] <;> rfl) ?_); intro a hA
      refine wl_local [.int .i64 (x.kind : Nat), .int .u32 ((rd1 x.b).1 : Nat), .string (rd4 (x.kind : Int) x.b).1, .int .u32 (m.uid : Nat), .int .i64 m.date, .int .i64 m.flags, .slice m.a m.b.length m.c] hA rfl rfl (by decide) (fun ev h => by simp [go_sem, hwj]; try first | exact ⟨rfl, rfl⟩ | rfl) rfl rfl (by rfl) (fun w1 g ev hb h => by simp [go_sem, h.get 8 rfl, h.get 29 rfl, hwj, setAll, hb.cell, hb.frozen]) fun w7 a (K8 : Blk _ _ _ _) hz7 hb7 hA => ?_
      replace KL := KL.below hb7 KL.lt
      replace ho := ho.below hb7
      replace K7 := K7.below hb7 K7.lt
      replace HL := HL.trans (hb7.mono (Nat.le_of_lt hpl6))
      replace hmR := hmR.below hb7
      have hpl7 : pl < w7.heap.size := by omega
      revert a; refine wo rfl rfl (by decide) (fun ev e h => by simp [go_sem, h, hwj] <;> rfl) ?_; intro a hA
      replace hA := hA.keepN [2, 5, 7, 8, 9, 17, 18, 19]
      refine wN (nT (wS (wR ?_)))
      revert a; (iterate 2 refine wo rfl rfl (by decide) (fun ev e h => by simp [go_sem, h, hwj] <;> rfl) ?_); intro a hA
      replace hA := hA.keepN [2, 5, 7, 8, 17, 18, 19, 32]
      refine wN (nT ?_)
      refine wp_if hA 32 _ rfl (fun hq2 => ?yE2) (fun hq2 => ?nE2)
      case nE2 => cases hq2
      case yE2 =>
        refine wR ?_
        revert a; (iterate 3 refine wo rfl rfl (by decide) (fun ev e h => by simp [go_sem, h, K8.cell, K7.cell] <;> rfl) ?_); intro a hA
        have hLl : L.length = S.live.length := by have := congrArg List.length hlv; simpa using this
        have hoffm : ∀ g, v.ownBlock = some g → OffP g (m.a, m.b) := fun g hg hn ad' ha he => by
          have h1 := (hvlt g hg).2
          have h2 := ho2 ad' (by rw [← hma]; exact ha)
          omega
        refine wl_call hA rfl rfl (by decide) (fun ev h => exec_call Tryz.func51 (by kernel_rfl) rfl (h.f _) (by first | (simp only [mL, h.get 5 rfl, h.get 33 rfl, h.get 35 rfl, h.c] <;> rfl) | (simp [mL, h.get 5 rfl, h.get 33 rfl, h.get 35 rfl, h.c, K8.cell, K7.cell] <;> rfl))) (take_any pl (pl + 1) (x.kind : Int) (rd1 x.b).1 (rd4 (x.kind : Int) x.b).1 m x.at_ S (T : Int) false v L _ (decOk_kind hd).1 (Nat.lt_succ_self _) hpl7 KL ho (by omega) hlv hmR hoffm hmu (noteOf x.kind x.at_ x.b) (by rw [← hme]; rfl)) ?_
        rintro e w8 ⟨rfl, v', L', KL', ho', hlv', hb8⟩
        refine ⟨_, rfl, fun a hA => ?_⟩
        have HL8 := HL.trans hb8
        have hlen8 := live_len S (noteOf x.kind x.at_ x.b)
        have hsz8 := hb8.size
        replace hA := hA.keepN [2, 5, 17, 18, 19]
        refine wN (nB (nT (wR ?_)))
        revert a; (iterate 2 refine wo rfl rfl (by decide) (fun ev e h => by simp [go_sem, h, hwj] <;> rfl) ?_); intro a hA
        replace hA := hA.keepN [2, 5, 17, 18, 19]
        refine wN (nT ?_)
        rw [show ((j : Int) + 1) = ((j + 1 : Nat) : Int) by omega] at hA
        exact ⟨kk - 1, by omega, j + 1, v', L', takeN S (noteOf x.kind x.at_ x.b), by omega, hA, by rw [hsu, takeAll_snoc, ← hS]; rfl, KL', ho', hlv', live_uid huid (decOk_kind hd).2, by omega, HL8, by omega⟩
end Go.Proofs.YtmjikfeaopmejaaGreatDoor
