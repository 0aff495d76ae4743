/-
  Walk: the page of an index.
-/
import Derived.Test.YtkljkbeahdipfaaGreatDoorLayd
import Derived.Deep.AppendSrc
import Derived.Lib.ConvBytes
import Derived.Lib.AppendIntMem
import Derived.Lib.AtoiAll
namespace Go.Proofs.YtkljkbeahdipfaaGreatDoor
open Go.RowKit
set_option linter.unusedSimpArgs false
set_option linter.unusedVariables false
def entB (q : MarkM) : List UInt8 := be 4 q.1 ++ be 4 q.2.toNat
def indexB (nm : ByteArray) (e nx : Nat) (u : Int) (l : List MarkM) : List UInt8 := textB nm ++ [e, nx, u.toNat].flatMap (be 4) ++ be 2 l.length ++ l.flatMap entB
def idxErr (nm : ByteArray) (e nx : Nat) (u : Int) (l : List MarkM) : Int := if rightIndexV nm e nx u l = true then 0 else 1
def idxPage (nm : ByteArray) (e nx : Nat) (u : Int) (l : List MarkM) : List UInt8 := if rightIndexV nm e nx u l = true then pageB 1 (indexB nm e nx u l) else []
theorem entFlat_len (l : List MarkM) : (l.flatMap entB).length = l.length * 8 := by
 induction l with
 | nil => simp
 | cons x r ih =>
   rw [List.flatMap_cons, List.length_append, List.length_cons, ih]
   have : (entB x).length = 8 := by unfold entB; simp [be_length]
   omega
theorem be4_len (xs : List Nat) : (xs.flatMap (be 4)).length = xs.length * 4 := by
 induction xs with
 | nil => simp
 | cons x r ih => rw [List.flatMap_cons, List.length_append, List.length_cons, ih, be_length]; omega
theorem textB_len (s : ByteArray) : (textB s).length = 2 + s.size := by unfold textB; simp [be_length]
theorem idx_parts {nm : ByteArray} {e nx : Nat} {u : Int} {l : List MarkM} (h : rightIndexV nm e nx u l = true) : nm.size ≤ 60 ∧ nameIs nm = true ∧ 1 ≤ e ∧ 1 ≤ nx ∧ 0 ≤ u ∧ u ≤ 4294967295 ∧ l.length ≤ 500 := by
 unfold rightIndexV at h
 simp only [Bool.and_eq_true, decide_eq_true_eq] at h
 exact ⟨nameIs_size h.1.1.1.1.1.2, h.1.1.1.1.1.2, h.1.1.1.1.2, h.1.1.1.2, h.1.1.2, h.1.2, h.2⟩
theorem idx_good {nm : ByteArray} {e nx : Nat} {u : Int} {l : List MarkM} (h : rightIndexV nm e nx u l = true) {j : Nat} {x : MarkM} (hx : l[j]? = some x) : 0 ≤ x.2 ∧ x.2 ≤ 4294967295 := by
 unfold rightIndexV at h
 simp only [Bool.and_eq_true] at h
 have := marks_at hx h.1.1.1.1.1.1
 unfold mstep goodE at this
 simp only [Bool.and_eq_true, decide_eq_true_eq] at this
 exact ⟨this.2.1.2, this.2.2⟩
theorem indexB_len {nm : ByteArray} {e nx : Nat} {u : Int} {l : List MarkM} (h : rightIndexV nm e nx u l = true) : (indexB nm e nx u l).length ≤ 5000 := by
 obtain ⟨h1, _, _, _, _, _, h2⟩ := idx_parts h
 unfold indexB
 rw [List.length_append, List.length_append, List.length_append, textB_len, be4_len, be_length, entFlat_len]
 simp
 omega
theorem flat_step {M : Type} {f : M → List UInt8} {l : List M} {j : Nat} {x : M} (hx : l[j]? = some x) : (l.take (j + 1)).flatMap f = (l.take j).flatMap f ++ f x := by
 rw [List.take_add_one, hx]
 simp [List.flatMap_append]
set_option maxRecDepth 100000 in
set_option maxHeartbeats 2000000 in
theorem putIndex_any (nm : ByteArray) (A : Option Addr) (c n e nx : Nat) (u : Int) (l : List MarkM) (w : World) (hm : MaxCell w) (hg : 0 < w.heap.size) (hs : nm.size ≤ 9223372036854775807) (hu : ∀ q ∈ l, q.1 < 4294967296) (he : e < 4294967296) (hnx : nx < 4294967296) (hl : l.length = n) (hn : n ≤ 9223372036854775807) (hr : Reads w w.heap.size 2 A n (mcells l)) :
 Calls Tryz.prog 66 #[.agg #[.string nm, .int .u32 (e : Nat), .int .u32 (nx : Nat), .int .i64 u, .slice A n c]] w fun ev w' => ∃ r, ev = .returned (.tuple #[r, .int .i64 (idxErr nm e nx u l)]) ∧ Own8 w.heap.size w' r (idxPage nm e nx u l) ∧ Below w.heap.size w w' := by
 refine calls_at 54 Tryz.func66 rfl rfl (Nat.le_of_ble_eq_true rfl) ?_
 intro a hA; replace hA := hA.norm
 refine wS (wR ?_)
 refine wl_new hA rfl rfl (by decide) (fun ev h => by simp [go_sem, h.get 0 rfl]; try first | exact ⟨rfl, rfl⟩ | rfl) fun w1 a (K : Blk _ _ _ _) hz hb0 hA => ?_
 replace hr := (hr.below hb0).more hb0.size
 replace hm := hm.below hg hb0; replace hg := Nat.lt_of_lt_of_le hg hb0.size
 have HB := Below.refl w1.heap.size w1
 revert a; (iterate 2 refine wo rfl rfl (by decide) (fun ev e h => by simp [go_sem, h, (K.below HB K.lt).cell] <;> rfl) ?_); intro a hA
 replace hA := hA.keepN [1]
 refine wN (nT (wS (wS (wR ?_))))
 revert a; refine wo rfl rfl (by decide) (fun ev e h => by simp [go_sem, h, (K.below HB K.lt).cell] <;> rfl) ?_; intro a hA
 refine wl_call hA rfl rfl (by decide) (fun ev h => exec_call Tryz.func127 (by kernel_rfl) rfl (h.f _) (by first | (simp only [mL, h.get 9 rfl, h.c] <;> rfl) | (simp [mL, h.get 9 rfl, h.c, (K.below HB K.lt).cell] <;> rfl))) (rightIndex_any nm A c n e nx u l _ (hm.below hg HB) (Nat.lt_of_lt_of_le hg HB.size) hs hu hnx hl hn ((hr.below HB).more HB.size)) ?_
 rintro e w2 ⟨rfl, hb⟩
 refine ⟨_, rfl, fun a hA => ?_⟩
 replace HB := HB.trans (hb.mono HB.size)
 revert a; refine wo rfl rfl (by decide) (fun ev e h => by simp [go_sem, h, (K.below HB K.lt).cell] <;> rfl) ?_; intro a hA
 replace hA := hA.keepN [1, 11]
 refine wN (nT ?_)
 unfold idxErr idxPage
 refine wp_if hA 11 _ rfl (fun hv => ?yA) (fun hv => ?nA)
 case yA =>
  have hv : rightIndexV nm e nx u l = false := by simpa using hv
  rw [hv, if_neg (by simp), if_neg (by simp)]
  refine wS (wR ?_)
  revert a; (iterate 2 refine wo rfl rfl (by decide) (fun ev e h => by simp [go_sem, h, (K.below HB K.lt).cell] <;> rfl) ?_); intro a hA
  replace hA := hA.keepN [2, 3]
  refine wN (nT (wp_ret (rT ?_)))
  refine ret_2 hA 2 3 rfl rfl rfl ?_
  exact ⟨_, rfl, Own8.nil _, hb0.trans (HB.mono hb0.size)⟩
 case nA =>
  have hv : rightIndexV nm e nx u l = true := by simpa using hv
  rw [hv, if_pos rfl, if_pos rfl]
  obtain ⟨h60, _, h1e, h1x, hu0, hu1, h500⟩ := idx_parts hv
  have hil := indexB_len hv
  obtain ⟨ut, rfl⟩ : ∃ ut : Nat, u = (ut : Nat) := ⟨u.toNat, by omega⟩
  refine wp_skip (nT (wS (wR ?_)))
  have hB2 := HB.size
  refine wl_new hA rfl rfl (by decide) (fun ev h => by simp [go_sem, (K.below HB K.lt).cell]; try first | exact ⟨rfl, rfl⟩ | rfl) fun w3 a (Ko : Blk _ _ _ _) hz hb hA => ?_
  replace HB := HB.trans (hb.mono HB.size)
  obtain ⟨o, hoe⟩ : ∃ o, w2.heap.size = o := ⟨_, rfl⟩
  rw [hoe] at Ko hA hB2
  have hO : OutAt w3 w1.heap.size o [] false (.slice none 0 0) := ⟨hB2, Ko, World.ownsRow_nil _ _ _ _⟩
  have K0 := K.below HB K.lt
  replace hA := hA.keepN [1, 4]
  refine wN (nT (wS (wR ?_)))
  revert a; (iterate 2 refine wo rfl rfl (by decide) (fun ev e h => by simp [go_sem, h, K0.cell] <;> rfl) ?_); intro a hA
  refine wl_call hA rfl rfl (by decide) (fun ev h => exec_call Tryz.func128 (by kernel_rfl) rfl (h.f _) (by first | (simp only [mL, h.get 4 rfl, h.get 13 rfl, h.c] <;> rfl) | (simp [mL, h.get 4 rfl, h.get 13 rfl, h.c, K0.cell] <;> rfl))) (out_Text hO HB.size (by simp) nm (by omega)) ?_
  rintro e w4 ⟨rfl, ⟨v4, hO⟩, hob⟩
  refine ⟨_, rfl, fun a hA => ?_⟩
  replace HB := HB.trans (hob.toBelow HB.size (Nat.le_refl _) hB2)
  have K0 := K.below HB K.lt
  have hwe : IntKind.i64.wrap (e : Int) = (e : Int) := IntWalk.i64_in _ (by omega)
  have hwx : IntKind.i64.wrap (nx : Int) = (nx : Int) := IntWalk.i64_in _ (by omega)
  replace hA := hA.keepN [1, 4]
  refine wN (nT (wS (wS (wR ?_))))
  revert a; (iterate 2 refine wo rfl rfl (by decide) (fun ev e h => by simp [go_sem, h, K0.cell, hwe, hwx] <;> rfl) ?_); intro a hA
  refine wl_op hA rfl rfl (by decide) (fun ev h => by simp [go_sem, h.get 16 rfl, K0.cell, hwe, hwx]; try first | exact ⟨rfl, rfl⟩ | rfl) fun a hA => ?_
  revert a; (iterate 2 refine wo rfl rfl (by decide) (fun ev e h => by simp [go_sem, h, K0.cell, hwe, hwx] <;> rfl) ?_); intro a hA
  refine wl_op hA rfl rfl (by decide) (fun ev h => by simp [go_sem, h.get 19 rfl, K0.cell, hwe, hwx]; try first | exact ⟨rfl, rfl⟩ | rfl) fun a hA => ?_
  revert a; (iterate 2 refine wo rfl rfl (by decide) (fun ev e h => by simp [go_sem, h, K0.cell, hwe, hwx] <;> rfl) ?_); intro a hA
  obtain ⟨ga, hga⟩ : ∃ ga, w4.heap.size = ga := ⟨_, rfl⟩
  have hgo : ga ≠ o := by have := hO.cells.lt; omega
  have hgB := HB.size
  refine wl_new hA rfl rfl (by decide) (fun ev h => by simp [go_sem, h.get 17 rfl, h.get 20 rfl, h.get 22 rfl, K0.cell, hwe, hwx]; try first | exact ⟨rfl, rfl⟩ | rfl) fun w5 a (Ka : Blk _ _ _ _) hz hb hA => ?_
  replace HB := HB.trans (hb.mono HB.size)
  replace hO := hO.below hb
  rw [hga] at Ka hA hgB
  revert a; (iterate 2 refine wo rfl rfl (by decide) (fun ev e h => by simp [go_sem, h, K0.cell, hwe, hwx] <;> rfl) ?_); intro a hA
  replace hA := hA.keepN [1, 4, 23, 24, 25]
  refine wN (nT (wB ?_))
  refine wp_loop_at (fun k a wx => ∃ (j : Nat) (v : Value), j + k = 3 ∧ At 54 [(1, .pointer (some ⟨w.heap.size, 0, none⟩)), (4, .pointer (some ⟨o, 0, none⟩)), (23, .slice (some ⟨ga, 0, none⟩) 3 3), (24, .int .i64 3), (25, .int .i64 (j : Nat))] a ∧ OutAt wx w1.heap.size o (textB nm ++ ([e, nx, ut].take j).flatMap (be 4)) false v ∧ Blk wx ga 2 #[.int .i64 (e : Nat), .int .i64 (nx : Nat), .int .i64 (ut : Nat)] ∧ Below w1.heap.size w1 wx) (3) ?_ ?_
  ·exact ⟨0, v4, by omega, hA, by simpa using hO, Ka, HB⟩
  rintro k a wx ⟨j, v, hjk, hA, hO, Ka, HB⟩
  refine wS (wR ?_)
  revert a; refine wo rfl rfl (by decide) (fun ev e h => by simp [go_sem, h, K0.cell, hwe, hwx] <;> rfl) ?_; intro a hA
  replace hA := hA.keepN [1, 4, 23, 24, 25, 26]
  refine wN (nT (wS ?_))
  refine wp_if hA 26 _ rfl (fun hq => ?yL) (fun hq => ?nL)
  case yL =>
   have hlt : j < 3 := by simp at hq; omega
   have jj0 : (0 : Int) ≤ (j : Int) := by omega
   have jj1 : (j : Int) < 3 := by omega
   obtain ⟨xj, hxj⟩ : ∃ xj, [e, nx, ut][j]? = some xj := ⟨_, List.getElem?_eq_getElem (by simpa using hlt)⟩
   have hcj : wx.cell? ⟨ga, j, none⟩ = some (.int .i64 (xj : Nat)) := by
    rw [Ka.cell]
    rcases j with _ | _ | _ | j <;> simp at hxj ⊢ <;> first | (subst hxj; rfl) | omega
   have hxl : xj < 4294967296 := by
    have := List.mem_of_getElem? hxj
    simp at this
    omega
   have hfl : (([e, nx, ut].take j).flatMap (be 4)).length ≤ 12 := by rw [be4_len, List.length_take]; simp; omega
   refine wp_skip (nT (wS (wB (wS (wR ?_)))))
   revert a; (iterate 3 refine wo rfl rfl (by decide) (fun ev e h => by simp [go_sem, h, jj0, jj1, hcj] <;> rfl) ?_); intro a hA
   replace hA := hA.keepN [1, 4, 6, 23, 24, 25]
   refine wN (nT (wR ?_))
   revert a; refine wo rfl rfl (by decide) (fun ev e h => by simp [go_sem, h, jj0, jj1, hcj] <;> rfl) ?_; intro a hA
   refine wl_call hA rfl rfl (by decide) (fun ev h => exec_call Tryz.func129 (by kernel_rfl) rfl (h.f _) (by first | (simp only [mL, h.get 4 rfl, h.get 29 rfl, h.c] <;> rfl) | (simp [mL, h.get 4 rfl, h.get 29 rfl, h.c, jj0, jj1, hcj] <;> rfl))) (out_N hO HB.size (by rw [List.length_append, textB_len]; omega) xj 4 (by omega) (by omega)) ?_
   rintro e w6 ⟨rfl, ⟨v6, hO⟩, hob⟩
   refine ⟨_, rfl, fun a hA => ?_⟩
   replace HB := HB.trans (hob.toBelow HB.size (Nat.le_refl _) hB2)
   have Ka := Ka.obut hob hgo (by decide)
   have hwj : IntKind.i64.wrap ((j : Int) + 1) = (j : Int) + 1 := IntWalk.i64_in _ (by omega)
   replace hA := hA.keepN [1, 4, 23, 24, 25]
   refine wN (nB (nT (wR ?_)))
   revert a; (iterate 2 refine wo rfl rfl (by decide) (fun ev e h => by simp [go_sem, h, hwj] <;> rfl) ?_); intro a hA
   replace hA := hA.keepN [1, 4, 23, 24, 25]
   refine wN (nT ?_)
   have hj1 : ((j : Int) + 1) = ((j + 1 : Nat) : Int) := by omega
   rw [hj1] at hA
   rw [List.append_assoc, ← flat_step hxj] at hO
   exact ⟨k - 1, by omega, j + 1, v6, by omega, hA, hO, Ka, HB⟩
  case nL =>
   have hj3 : j = 3 := by simp at hq; omega
   subst hj3
   have hO : OutAt wx w1.heap.size o (textB nm ++ [e, nx, ut].flatMap (be 4)) false v := hO
   have hx3 : ([e, nx, ut].flatMap (be 4)).length = 12 := by rw [be4_len]; rfl
   have K0 := K.below HB K.lt
   replace hA := hA.keepN [1, 4]
   refine wp_exit (xT (xT (xB (nT (wS (wR ?_))))))
   revert a; (iterate 3 refine wo rfl rfl (by decide) (fun ev e h => by simp [go_sem, h, K0.cell] <;> rfl) ?_); intro a hA
   refine wl_call hA rfl rfl (by decide) (fun ev h => exec_call Tryz.func129 (by kernel_rfl) rfl (h.f _) (by first | (simp only [mL, h.get 4 rfl, h.get 34 rfl, h.c] <;> rfl) | (simp [mL, h.get 4 rfl, h.get 34 rfl, h.c, K0.cell] <;> rfl))) (out_N hO HB.size (by rw [List.length_append, textB_len]; omega) n 2 (by omega) (by omega)) ?_
   rintro e w7 ⟨rfl, ⟨v7, hO⟩, hob⟩
   refine ⟨_, rfl, fun a hA => ?_⟩
   replace HB := HB.trans (hob.toBelow HB.size (Nat.le_refl _) hB2)
   replace K0 := K.below HB K.lt
   replace hA := hA.keepN [1, 4]
   refine wN (nT (wS (wS (wR ?_))))
   revert a; (iterate 4 refine wo rfl rfl (by decide) (fun ev e h => by simp [go_sem, h, K0.cell] <;> rfl) ?_); intro a hA
   replace hA := hA.keepN [4, 37, 38, 39]
   refine wN (nT (wB ?_))
   refine wp_loop_at (fun k a wx => ∃ (j : Nat) (v : Value), j + k = n ∧ At 54 [(4, .pointer (some ⟨o, 0, none⟩)), (37, .slice A n c), (38, .int .i64 (n : Nat)), (39, .int .i64 (j : Nat))] a ∧ OutAt wx w1.heap.size o (textB nm ++ [e, nx, ut].flatMap (be 4) ++ be 2 n ++ (l.take j).flatMap entB) false v ∧ Below w1.heap.size w1 wx) (n) ?_ ?_
   ·exact ⟨0, v7, by omega, hA, by simpa using hO, HB⟩
   clear HB hO K0 Ka
   rintro k a wx ⟨j, v, hjk, hA, hO, HB⟩
   refine wS (wR ?_)
   revert a; refine wo rfl rfl (by decide) (fun ev e h => by simp [go_sem, h] <;> rfl) ?_; intro a hA
   replace hA := hA.keepN [4, 37, 38, 39, 40]
   refine wN (nT (wS ?_))
   refine wp_if hA 40 _ rfl (fun hq => ?yM) (fun hq => ?nM)
   case yM =>
    have hlt : j < n := by simp at hq; omega
    obtain ⟨x, hx⟩ : ∃ x, l[j]? = some x := ⟨_, List.getElem?_eq_getElem (by omega)⟩
    obtain ⟨ad, rfl, hadl, hc⟩ := hr.2 (by omega)
    obtain ⟨k0, k1⟩ := mark_at hc hx
    have hadl' : (ad.add (j * 2)).block < w1.heap.size := by rw [block_of_add]; exact hadl
    obtain ⟨xu, xf⟩ := x
    have hxu := hu _ (List.mem_of_getElem? hx)
    obtain ⟨hf0, hf1⟩ := idx_good hv hx
    simp only at k0 k1 hxu hf0 hf1
    obtain ⟨xn, rfl⟩ : ∃ xn : Nat, xf = (xn : Nat) := ⟨xf.toNat, by omega⟩
    have z0 := (HB.cell hadl').trans k0
    have z1 := (HB.cell (p := ⟨(ad.add (j * 2)).block, (ad.add (j * 2)).off + 1, none⟩) hadl').trans k1
    have jj0 : (0 : Int) ≤ (j : Int) := by omega
    have jj1 : (j : Int) < (n : Int) := by omega
    have hwu : IntKind.i64.wrap (xu : Int) = (xu : Int) := IntWalk.i64_in _ (by omega)
    have hfl : ((l.take j).flatMap entB).length ≤ 4000 := by rw [entFlat_len, List.length_take]; omega
    refine wp_skip (nT (wS (wB (wS (wR ?_)))))
    revert a; (iterate 2 refine wo rfl rfl (by decide) (fun ev e h => by simp [go_sem, h, z0, z1, jj0, jj1, hwu] <;> rfl) ?_); intro a hA
    obtain ⟨g5, hg5⟩ : ∃ g5, wx.heap.size = g5 := ⟨_, rfl⟩
    have hgo5 : g5 ≠ o := by have := hO.cells.lt; omega
    refine wl_local [.int .u32 (xu : Nat), .int .i64 (xn : Nat)] hA rfl rfl (by decide) (fun ev h => by simp [go_sem, z0, z1, jj0, jj1, hwu]; try first | exact ⟨rfl, rfl⟩ | rfl) rfl rfl (by rfl) (fun w1 g ev hb h => by simp [go_sem, h.get 8 rfl, h.get 42 rfl, z0, z1, jj0, jj1, hwu, setAll, hb.cell, hb.frozen]) fun w8 a (Ke : Blk _ _ _ _) hz hb hA => ?_
    replace HB := HB.trans (hb.mono HB.size)
    replace hO := hO.below hb
    rw [hg5] at Ke hA
    replace hA := hA.keepN [4, 8, 37, 38, 39]
    refine wN (nT (wS (wR ?_)))
    revert a; (iterate 2 refine wo rfl rfl (by decide) (fun ev e h => by simp [go_sem, h, Ke.cell, hwu] <;> rfl) ?_); intro a hA
    refine wl_op hA rfl rfl (by decide) (fun ev h => by simp [go_sem, h.get 44 rfl, Ke.cell, hwu]; try first | exact ⟨rfl, rfl⟩ | rfl) fun a hA => ?_
    refine wl_call hA rfl rfl (by decide) (fun ev h => exec_call Tryz.func129 (by kernel_rfl) rfl (h.f _) (by first | (simp only [mL, h.get 4 rfl, h.get 45 rfl, h.c] <;> rfl) | (simp [mL, h.get 4 rfl, h.get 45 rfl, h.c, Ke.cell, hwu] <;> rfl))) (out_N hO HB.size (by simp only [List.length_append, textB_len, be_length]; omega) xu 4 (by omega) (by omega)) ?_
    rintro e w9 ⟨rfl, ⟨v9, hO⟩, hob⟩
    refine ⟨_, rfl, fun a hA => ?_⟩
    replace HB := HB.trans (hob.toBelow HB.size (Nat.le_refl _) hB2)
    replace Ke := Ke.obut hob hgo5 (by decide)
    replace hA := hA.keepN [4, 8, 37, 38, 39]
    refine wN (nT (wR ?_))
    revert a; (iterate 2 refine wo rfl rfl (by decide) (fun ev e h => by simp [go_sem, h, Ke.cell, hwu] <;> rfl) ?_); intro a hA
    refine wl_call hA rfl rfl (by decide) (fun ev h => exec_call Tryz.func129 (by kernel_rfl) rfl (h.f _) (by first | (simp only [mL, h.get 4 rfl, h.get 48 rfl, h.c] <;> rfl) | (simp [mL, h.get 4 rfl, h.get 48 rfl, h.c, Ke.cell, hwu] <;> rfl))) (out_N hO HB.size (by simp only [List.length_append, textB_len, be_length]; omega) xn 4 (by omega) (by omega)) ?_
    rintro e w10 ⟨rfl, ⟨v10, hO⟩, hob⟩
    refine ⟨_, rfl, fun a hA => ?_⟩
    replace HB := HB.trans (hob.toBelow HB.size (Nat.le_refl _) hB2)
    have hwj : IntKind.i64.wrap ((j : Int) + 1) = (j : Int) + 1 := IntWalk.i64_in _ (by omega)
    replace hA := hA.keepN [4, 37, 38, 39]
    refine wN (nB (nT (wR ?_)))
    revert a; (iterate 2 refine wo rfl rfl (by decide) (fun ev e h => by simp [go_sem, h, hwj] <;> rfl) ?_); intro a hA
    replace hA := hA.keepN [4, 37, 38, 39]
    refine wN (nT ?_)
    have hj1 : ((j : Int) + 1) = ((j + 1 : Nat) : Int) := by omega
    rw [hj1] at hA
    have hst : textB nm ++ [e, nx, ut].flatMap (be 4) ++ be 2 n ++ (l.take (j + 1)).flatMap entB = textB nm ++ [e, nx, ut].flatMap (be 4) ++ be 2 n ++ (l.take j).flatMap entB ++ be 4 xu ++ be 4 xn := by
     rw [flat_step hx]
     simp [entB]
    rw [← hst] at hO
    exact ⟨k - 1, by omega, j + 1, v10, by omega, hA, hO, HB⟩
   case nM =>
    have hjn : j = n := by simp at hq; omega
    subst hjn
    have hfin : textB nm ++ [e, nx, ut].flatMap (be 4) ++ be 2 j ++ (l.take j).flatMap entB = indexB nm e nx (ut : Nat) l := by
     unfold indexB
     rw [List.take_of_length_le (by omega), hl, Int.toNat_natCast]
    rw [hfin] at hO
    replace hA := hA.keepN [4]
    refine wp_exit (xT (xT (xB (nT (wS (wR ?_))))))
    have hwx := Nat.le_trans hb0.size HB.size
    refine wl_call hA rfl rfl (by decide) (fun ev h => exec_call Tryz.func130 (by kernel_rfl) rfl (h.f _) (by first | (simp only [mL, h.get 4 rfl, h.c] <;> rfl) | (simp [mL, h.get 4 rfl, h.c] <;> rfl))) (put_any hO (by omega) 1 (by omega)) ?_
    rintro e w11 ⟨r, rfl, ho, hb⟩
    refine ⟨_, rfl, fun a hA => ?_⟩
    replace HB := HB.trans (hb.mono HB.size)
    have he9 : errLong (indexB nm e nx (ut : Nat) l).length = 0 := by unfold errLong; rw [if_pos (by omega)]
    have hp9 : pageOr 1 (indexB nm e nx (ut : Nat) l) = pageB 1 (indexB nm e nx (ut : Nat) l) := by unfold pageOr; rw [if_pos (by omega)]
    rw [he9] at hA
    rw [hp9] at ho
    revert a; (iterate 4 refine wo rfl rfl (by decide) (fun ev e h => by simp [go_sem, h] <;> rfl) ?_); intro a hA
    replace hA := hA.keepN [2, 3]
    refine wN (nT (wp_ret ?_))
    refine ret_2 hA 2 3 rfl rfl rfl ?_
    exact ⟨r, rfl, (Own8.of ho).mono hwx, hb0.trans (HB.mono hb0.size)⟩
end Go.Proofs.YtkljkbeahdipfaaGreatDoor
/-
  Walk: a note's frame (body.Frame).
-/
namespace Go.Proofs.YtkljkbeahdipfaaGreatDoor
open Go.RowKit
set_option linter.unusedSimpArgs false
set_option linter.unusedVariables false
theorem encV_len {k : Int} {e : Nat} {nm : ByteArray} {m : MsgV} (h : formedV k e nm m = true) : (encV k e nm m).length ≤ 20100 := by
 obtain ⟨_, h60, h20, _, _⟩ := formed_parts h
 have l1 := enc1_len k m
 have l2 := enc2_len k m
 have l3 := enc3_len k nm
 unfold encV
 simp only [List.length_append, be_length]
 omega
theorem formed_kind {k : Int} {e : Nat} {nm : ByteArray} {m : MsgV} (h : formedV k e nm m = true) : ∃ q : Nat, k = (q : Int) ∧ 1 ≤ q ∧ q ≤ 3 := by
 obtain ⟨_, _, _, hk, _⟩ := formed_parts h
 rcases hk with rfl | rfl | rfl
 ·exact ⟨1, rfl, by decide, by decide⟩
 ·exact ⟨2, rfl, by decide, by decide⟩
 ·exact ⟨3, rfl, by decide, by decide⟩
/-- a note's frame -/
def frameV (k : Int) (e : Nat) (nm : ByteArray) (m : MsgV) : List UInt8 := frameB k.toNat (encV k e nm m)
set_option maxRecDepth 100000 in
theorem bodyFrame_any (k : Int) (e : Nat) (nm : ByteArray) (m : MsgV) (w : World) (hm : MaxCell w) (hg : 0 < w.heap.size) (htab : Lib.TabIs Tryz.prog w "internal/strconv.uint64pow10" .u64 Lib.pow10Tab) (hs : nm.size ≤ 9223372036854775807) (he : e < 4294967296) (hu : m.uid < 4294967296) (hr : Reads w w.heap.size 1 m.a m.b.length (u8s m.b)) :
 Calls Tryz.prog 125 #[.agg (noteC k e nm m)] w fun ev w' => ∃ r, ev = .returned (.tuple #[r, .int .i64 (bif formedV k e nm m then 0 else 1)]) ∧ Own8 w.heap.size w' r (bif formedV k e nm m then frameV k e nm m else []) ∧ Below w.heap.size w w' := by
 have Ht := Lib.tabBelow_of_tabIs htab
 refine calls_at 20 Tryz.func125 rfl rfl (Nat.le_of_ble_eq_true rfl) ?_
 intro a hA; replace hA := hA.norm
 refine wS (wR ?_)
 refine wl_new hA rfl rfl (by decide) (fun ev h => by simp [go_sem, h.get 0 rfl]; try first | exact ⟨rfl, rfl⟩ | rfl) fun w1 a (K : Blk _ _ _ _) hz hb0 hA => ?_
 unfold noteC at K
 have HB := hb0
 revert a; (iterate 2 refine wo rfl rfl (by decide) (fun ev e h => by simp [go_sem, h, K.cell] <;> rfl) ?_); intro a hA
 replace hA := hA.keepN [1]
 refine wN (nT (wS (wR ?_)))
 revert a; refine wo rfl rfl (by decide) (fun ev e h => by simp [go_sem, h, K.cell] <;> rfl) ?_; intro a hA
 refine wl_call hA rfl rfl (by decide) (fun ev h => exec_call Tryz.func117 (by kernel_rfl) rfl (h.f _) (by first | (simp only [mL, h.get 7 rfl, h.c] <;> rfl) | (simp [mL, h.get 7 rfl, h.c, K.cell] <;> rfl))) (encode_any k e nm m _ (hm.below hg hb0) (Nat.lt_of_lt_of_le hg hb0.size) (htab := Ht _ hb0) hs he hu ((hr.below hb0).more hb0.size)) ?_
 rintro e w2 ⟨r, rfl, ho, hb2⟩
 refine ⟨_, rfl, fun a hA => ?_⟩
 replace HB := HB.trans (hb2.mono HB.size)
 replace K := K.below hb2 K.lt
 cases hf : formedV k e nm m with
 | false =>
   rw [hf, cond_false] at hA
   revert a; (iterate 5 refine wo rfl rfl (by decide) (fun ev e h => by simp [go_sem, h] <;> rfl) ?_); intro a hA
   replace hA := hA.keepN [1, 4, 5]
   refine wN (nT (wS (wS (wR ?_))))
   revert a; (iterate 2 refine wo rfl rfl (by decide) (fun ev e h => by simp [go_sem, h] <;> rfl) ?_); intro a hA
   replace hA := hA.keepN [1, 4, 5, 12]
   refine wN (nT ?_)
   refine wp_if hA 12 _ rfl (fun hq => ?yA) (fun hq => ?nA)
   case yA =>
    refine wS (wR ?_)
    revert a; (iterate 3 refine wo rfl rfl (by decide) (fun ev e h => by simp [go_sem, h] <;> rfl) ?_); intro a hA
    replace hA := hA.keepN [2, 3]
    refine wN (nT (wp_ret (rT ?_)))
    refine ret_2 hA 2 3 rfl rfl rfl ?_
    exact ⟨_, rfl, Own8.nil _, HB⟩
   case nA => cases hq
 | true =>
   rw [hf, cond_true] at hA
   rw [hf, cond_true] at ho
   obtain ⟨q, rfl, hq1, hq3⟩ := formed_kind hf
   have hlen := encV_len hf
   obtain ⟨Ar, cr, e0, hR, _⟩ := own_reads ho
   subst e0
   revert a; (iterate 5 refine wo rfl rfl (by decide) (fun ev e h => by simp [go_sem, h, K.cell] <;> rfl) ?_); intro a hA
   replace hA := hA.keepN [1, 4, 5]
   refine wN (nT (wS (wS (wR ?_))))
   revert a; (iterate 2 refine wo rfl rfl (by decide) (fun ev e h => by simp [go_sem, h, K.cell] <;> rfl) ?_); intro a hA
   replace hA := hA.keepN [1, 4, 5, 12]
   refine wN (nT ?_)
   refine wp_if hA 12 _ rfl (fun hq => ?yB) (fun hq => ?nB)
   case yB => cases hq
   case nB =>
    refine wp_skip (nT (wS (wR ?_)))
    revert a; (iterate 3 refine wo rfl rfl (by decide) (fun ev e h => by simp [go_sem, h, K.cell] <;> rfl) ?_); intro a hA
    refine wl_call hA rfl rfl (by decide) (fun ev h => exec_call Tryz.func182 (by kernel_rfl) rfl (h.f _) (by first | (simp only [mL, h.get 15 rfl, h.get 16 rfl, h.c] <;> rfl) | (simp [mL, h.get 15 rfl, h.get 16 rfl, h.c, K.cell] <;> rfl))) (frame_any q hq1 hq3 Ar _ cr (encV q e nm m) rfl (by omega) _ hR) ?_
    rintro e w3 ⟨r3, rfl, ho3, hb3⟩
    refine ⟨_, rfl, fun a hA => ?_⟩
    replace HB := HB.trans (hb3.mono HB.size)
    replace K := K.below hb3 K.lt
    revert a; (iterate 4 refine wo rfl rfl (by decide) (fun ev e h => by simp [go_sem, h, K.cell] <;> rfl) ?_); intro a hA
    replace hA := hA.keepN [2, 3]
    refine wN (nT (wp_ret ?_))
    refine ret_2 hA 2 3 rfl rfl rfl ?_
    exact ⟨_, rfl, own_mono ho3 (Nat.le_trans hb0.size hb2.size), HB⟩
end Go.Proofs.YtkljkbeahdipfaaGreatDoor
/-
  Walks: messages that may be; mailboxes that are right.
-/
namespace Go.Proofs.YtkljkbeahdipfaaGreatDoor
open Go.RowKit
set_option linter.unusedSimpArgs false
set_option linter.unusedVariables false
theorem fits_any (u d f : Int) (A : Option Addr) (n c : Nat) (w : World) (htab : Lib.TabIs Tryz.prog w "internal/strconv.uint64pow10" .u64 Lib.pow10Tab) :
 Calls Tryz.prog 138 #[.agg #[.int .u32 u, .int .i64 d, .int .i64 f, .slice A n c]] w fun e w' => e = .returned (.bool (fitsDF d f)) ∧ Below w.heap.size w w' := by
 have Ht := Lib.tabBelow_of_tabIs htab
 refine calls_at 17 Tryz.func138 rfl rfl (Nat.le_of_ble_eq_true rfl) ?_
 intro a hA; replace hA := hA.norm
 refine wS (wR ?_)
 refine wl_new hA rfl rfl (by decide) (fun ev h => by simp [go_sem, h.get 0 rfl]; try first | exact ⟨rfl, rfl⟩ | rfl) fun w1 a (K : Blk _ _ _ _) hz hb hA => ?_
 revert a; refine wo rfl rfl (by decide) (fun ev e h => by simp [go_sem, h, K.cell] <;> rfl) ?_; intro a hA
 replace hA := hA.keepN [1]
 refine wN (nT (wS (wR ?_)))
 revert a; (iterate 2 refine wo rfl rfl (by decide) (fun ev e h => by simp [go_sem, h, K.cell] <;> rfl) ?_); intro a hA
 refine wl_call hA rfl rfl (by decide) (fun ev h => exec_call Tryz.func191 (by kernel_rfl) rfl (h.f _) (by first | (simp only [mL, h.get 4 rfl, h.c] <;> rfl) | (simp [mL, h.get 4 rfl, h.c, K.cell] <;> rfl))) (print_some d _ (Ht _ hb)) ?_
 rintro e w2 ⟨s, rfl, hs, hb1⟩
 refine ⟨_, rfl, fun a hA => ?_⟩
 have K2 := K.below hb1 K.lt
 have HB := hb.trans (hb1.mono hb.size)
 revert a; (iterate 2 refine wo rfl rfl (by decide) (fun ev e h => by simp [go_sem, h, K2.cell] <;> rfl) ?_); (iterate 3 refine wg _ rfl rfl rfl rfl (by decide) (fun hq ev e h => by simp [go_sem, h, ↓gw_t (beq_t hq), K2.cell] <;> rfl) ?_); refine wka rfl rfl (by decide) rfl rfl rfl ?_; refine wo rfl rfl (by decide) (fun ev e h => by simp [go_sem, h, K2.cell] <;> rfl) ?_; refine wg _ rfl rfl rfl rfl (by decide) (fun hq ev e h => by simp [go_sem, h, ↓gw_t (beq_t hq), K2.cell] <;> rfl) ?_; intro a hA
 replace hA := hA.keepN [12, 13]
 revert a; (iterate 2 refine wg _ rfl rfl rfl rfl (by decide) (fun hq ev e h => by simp [go_sem, h, ↓gw_t (beq_t hq), K2.cell] <;> rfl) ?_); refine wka rfl rfl (by decide) rfl rfl rfl ?_; refine wo rfl rfl (by decide) (fun ev e h => by simp [go_sem, h, K2.cell] <;> rfl) ?_; intro a hA
 replace hA := hA.keepN [2]
 refine wN (nT (wp_ret ?_))
 refine ret_1 hA 2 rfl rfl ?_
 exact ⟨ret_bool (by rw [hs]; unfold fitsDF; simp), HB⟩
end Go.Proofs.YtkljkbeahdipfaaGreatDoor
/-
  Walk: a mailbox that is right.
-/
namespace Go.Proofs.YtkljkbeahdipfaaGreatDoor
open Go.RowKit
set_option linter.unusedSimpArgs false
set_option linter.unusedVariables false
theorem msgStepE (nx : Nat) (l : List MsgV) (j : Nat) (m : MsgV) : msgStep nx l j m = !(decide (m.uid ≤ lastU l j) || decide (nx ≤ m.uid) || !fitsDF m.date m.flags || decide (20000 < m.b.length)) := by
 unfold msgStep fitsV
 rw [Bool.eq_iff_iff]
 simp
theorem headE (nm : ByteArray) (e nx n : Nat) : (!(normV nm).snd || !(normV nm).fst.toList == nm.toList || decide ((e : Int) < 1) || decide ((nx : Int) < 1) || decide ((500 : Int) < (n : Int))) = !(nameIs nm && decide (1 ≤ e) && decide (1 ≤ nx) && decide (n ≤ 500)) := by
 unfold nameIs
 rw [show decide ((e : Int) < 1) = !decide (1 ≤ e) by rw [Bool.eq_iff_iff]; simp; omega, show decide ((nx : Int) < 1) = !decide (1 ≤ nx) by rw [Bool.eq_iff_iff]; simp; omega, show decide ((500 : Int) < (n : Int)) = !decide (n ≤ 500) by rw [Bool.eq_iff_iff]; simp; omega]
 simp only [Bool.not_and]
theorem nat_lt20000 (n : Nat) : decide ((20000 : Int) < (n : Int)) = decide (20000 < n) := by rw [Bool.eq_iff_iff]; simp; omega
set_option maxRecDepth 100000 in
set_option maxHeartbeats 1000000 in
theorem right_any (nm : ByteArray) (A : Option Addr) (c n e nx : Nat) (l : List MsgV) (w : World) (hm : MaxCell w) (hg : 0 < w.heap.size) (htab : Lib.TabIs Tryz.prog w "internal/strconv.uint64pow10" .u64 Lib.pow10Tab) (hs : nm.size ≤ 9223372036854775807) (hn : n ≤ 9223372036854775807) (hr : Msgs w A n l) :
 Calls Tryz.prog 71 #[.agg (boxC nm e nx A n c)] w fun ev w' => ev = .returned (.bool (boxRight nm e nx l)) ∧ Below w.heap.size w w' := by
 have Ht := Lib.tabBelow_of_tabIs htab
 obtain ⟨mx, hmx⟩ := hm
 have hl := hr.len
 refine calls_at 70 Tryz.func71 rfl rfl (Nat.le_of_ble_eq_true rfl) ?_
 intro a hA; replace hA := hA.norm
 refine wS (wR ?_)
 refine wl_new hA rfl rfl (by decide) (fun ev h => by simp [go_sem, h.get 0 rfl]; try first | exact ⟨rfl, rfl⟩ | rfl) fun w1 a (K : Blk _ _ _ _) hz hb0 hA => ?_
 replace hr := hr.below hb0
 have HB := Below.refl w1.heap.size w1
 unfold boxC at K
 revert a; refine wo rfl rfl (by decide) (fun ev e h => by simp [go_sem, h, (K.below HB K.lt).cell] <;> rfl) ?_; intro a hA
 replace hA := hA.keepN [1]
 refine wN (nT (wS (wR ?_)))
 revert a; (iterate 2 refine wo rfl rfl (by decide) (fun ev e h => by simp [go_sem, h, (K.below HB K.lt).cell] <;> rfl) ?_); intro a hA
 refine wl_call hA rfl rfl (by decide) (fun ev h => exec_call Tryz.func137 (by kernel_rfl) rfl (h.f _) (by first | (simp only [mL, h.get 10 rfl, h.c] <;> rfl) | (simp [mL, h.get 10 rfl, h.c, (K.below HB K.lt).cell] <;> rfl))) (norm_all nm mx _ hs ((hb0.cell hg).trans hmx)) ?_
 rintro e w2 ⟨rfl, hb⟩
 refine ⟨_, rfl, fun a hA => ?_⟩
 replace HB := HB.trans (hb.mono HB.size)
 have K0 := K.below HB K.lt
 revert a; (iterate 5 refine wo rfl rfl (by decide) (fun ev e h => by simp [go_sem, h, K0.cell] <;> rfl) ?_); intro a hA
 replace hA := hA.keepN [1, 3, 4]
 refine wN (nT (wS (wS (wR ?_))))
 revert a; (iterate 3 refine wo rfl rfl (by decide) (fun ev e h => by simp [go_sem, h, K0.cell] <;> rfl) ?_); (iterate 4 refine wg _ rfl rfl rfl rfl (by decide) (fun hq ev e h => by simp [go_sem, h, ↓gw_t (beq_t hq), K0.cell] <;> rfl) ?_); refine wko rfl rfl (by decide) rfl rfl rfl ?_; refine wo rfl rfl (by decide) (fun ev e h => by simp [go_sem, h, K0.cell] <;> rfl) ?_; refine wg _ rfl rfl rfl rfl (by decide) (fun hq ev e h => by simp [go_sem, h, ↓gw_t (beq_t hq), K0.cell] <;> rfl) ?_; intro a hA
 replace hA := hA.keepN [1, 22, 23]
 revert a; (iterate 2 refine wg _ rfl rfl rfl rfl (by decide) (fun hq ev e h => by simp [go_sem, h, ↓gw_t (beq_t hq), K0.cell] <;> rfl) ?_); refine wko rfl rfl (by decide) rfl rfl rfl ?_; refine wo rfl rfl (by decide) (fun ev e h => by simp [go_sem, h, K0.cell] <;> rfl) ?_; (iterate 3 refine wg _ rfl rfl rfl rfl (by decide) (fun hq ev e h => by simp [go_sem, h, ↓gw_t (beq_t hq), K0.cell] <;> rfl) ?_); refine wko rfl rfl (by decide) rfl rfl rfl ?_; refine wo rfl rfl (by decide) (fun ev e h => by simp [go_sem, h, K0.cell] <;> rfl) ?_; refine wg _ rfl rfl rfl rfl (by decide) (fun hq ev e h => by simp [go_sem, h, ↓gw_t (beq_t hq), K0.cell] <;> rfl) ?_; intro a hA
 replace hA := hA.keepN [1, 32, 33]
 revert a; (iterate 3 refine wg _ rfl rfl rfl rfl (by decide) (fun hq ev e h => by simp [go_sem, h, ↓gw_t (beq_t hq), K0.cell] <;> rfl) ?_); refine wko rfl rfl (by decide) rfl rfl rfl ?_; intro a hA
 replace hA := hA.keepN [1, 37]
 refine wN (nT ?_)
 obtain ⟨q, hqe⟩ : ∃ q, (nameIs nm && decide (1 ≤ e) && decide (1 ≤ nx) && decide (n ≤ 500)) = q := ⟨_, rfl⟩
 rw [headE, hqe] at hA
 have hbr : boxRight nm e nx l = (q && msgsN nx l n) := by unfold boxRight; rw [hl, hqe]
 rw [hbr]
 refine wp_if hA 37 _ rfl (fun hq => ?yA) (fun hq => ?nA)
 case yA =>
  have hq : q = false := by simpa using hq
  subst hq
  refine wS (wR ?_)
  revert a; refine wo rfl rfl (by decide) (fun ev e h => by simp [go_sem, h, K0.cell] <;> rfl) ?_; intro a hA
  replace hA := hA.keepN [2]
  refine wN (nT (wp_ret (rT ?_)))
  refine ret_1 hA 2 rfl rfl ?_
  exact ⟨rfl, hb0.trans (HB.mono hb0.size)⟩
 case nA =>
  have hq : q = true := by simpa using hq
  subst hq
  rw [Bool.true_and]
  refine wp_skip (nT (wS (wR ?_)))
  revert a; refine wo rfl rfl (by decide) (fun ev e h => by simp [go_sem, h, K0.cell] <;> rfl) ?_; intro a hA
  replace hA := hA.keepN [1, 5]
  refine wN (nT (wS (wS (wR ?_))))
  revert a; (iterate 4 refine wo rfl rfl (by decide) (fun ev e h => by simp [go_sem, h, K0.cell] <;> rfl) ?_); intro a hA
  replace hA := hA.keepN [1, 5, 39, 40, 41]
  refine wN (nT (wB ?_))
  refine wp_loop_at (fun k a wx => ∃ (j : Nat), j + k = n ∧ At 70 [(1, .pointer (some ⟨w.heap.size, 0, none⟩)), (5, .int .u32 (lastU l j : Nat)), (39, .slice A n c), (40, .int .i64 (n : Nat)), (41, .int .i64 (j : Nat))] a ∧ msgsN nx l j = true ∧ Below w1.heap.size w1 wx) (n) ?_ ?_
  ·exact ⟨0, by omega, hA, rfl, HB⟩
  clear HB K0
  rintro k a wx ⟨j, hjk, hA, hall, HB⟩
  refine wS (wR ?_)
  revert a; refine wo rfl rfl (by decide) (fun ev e h => by simp [go_sem, h] <;> rfl) ?_; intro a hA
  replace hA := hA.keepN [1, 5, 39, 40, 41, 42]
  refine wN (nT (wS ?_))
  refine wp_if hA 42 _ rfl (fun hq => ?yL) (fun hq => ?nL)
  case yL =>
   have hlt : j < n := by simp at hq; omega
   obtain ⟨x, hx⟩ : ∃ x, l[j]? = some x := ⟨_, List.getElem?_eq_getElem (by omega)⟩
   obtain ⟨ad, rfl, hadl, k0, k1, k2, k3⟩ := hr.at_ hx
   have z0 := (HB.cell hadl).trans k0
   have z1 := (HB.cell (p := ⟨(ad.add (j * 4)).block, (ad.add (j * 4)).off + 1, none⟩) hadl).trans k1
   have z2 := (HB.cell (p := ⟨(ad.add (j * 4)).block, (ad.add (j * 4)).off + 2, none⟩) hadl).trans k2
   have z3 := (HB.cell (p := ⟨(ad.add (j * 4)).block, (ad.add (j * 4)).off + 3, none⟩) hadl).trans k3
   have jj0 : (0 : Int) ≤ (j : Int) := by omega
   have jj1 : (j : Int) < (n : Int) := by omega
   have hwj : IntKind.i64.wrap ((j : Int) + 1) = (j : Int) + 1 := IntWalk.i64_in _ (by omega)
   have K0 := K.below HB K.lt
   refine wp_skip (nT (wS (wB (wS (wR ?_)))))
   revert a; (iterate 2 refine wo rfl rfl (by decide) (fun ev e h => by simp [go_sem, h, K0.cell, z0, z1, z2, z3, jj0, jj1] <;> rfl) ?_); intro a hA
   refine wl_local [.int .u32 (x.uid : Nat), .int .i64 x.date, .int .i64 x.flags, .slice x.a x.b.length x.c] hA rfl rfl (by decide) (fun ev h => by simp [go_sem, K0.cell, z0, z1, z2, z3, jj0, jj1]; try first | exact ⟨rfl, rfl⟩ | rfl) rfl rfl (by rfl) (fun w1 g ev hb h => by simp [go_sem, h.get 7 rfl, h.get 44 rfl, K0.cell, z0, z1, z2, z3, jj0, jj1, setAll, hb.cell, hb.frozen]) fun w5 a (Ke : Blk _ _ _ _) hz5 hb hA => ?_
   replace K0 := K0.below hb K0.lt
   replace HB := HB.trans (hb.mono HB.size)
   replace hA := hA.keepN [1, 5, 7, 39, 40, 41]
   refine wN (nT (wS (wS (wR ?_))))
   revert a; (iterate 5 refine wo rfl rfl (by decide) (fun ev e h => by simp [go_sem, h, K0.cell, Ke.cell] <;> rfl) ?_); (iterate 5 refine wg _ rfl rfl rfl rfl (by decide) (fun hq ev e h => by simp [go_sem, h, ↓gw_t (beq_t hq), K0.cell, Ke.cell] <;> rfl) ?_); intro a hA
   replace hA := hA.keepN [1, 7, 39, 40, 41, 49, 54]
   revert a; refine wko rfl rfl (by decide) rfl rfl rfl ?_; refine wo rfl rfl (by decide) (fun ev e h => by simp [go_sem, h, K0.cell, Ke.cell] <;> rfl) ?_; refine wg _ rfl rfl rfl rfl (by decide) (fun hq ev e h => by simp [go_sem, h, ↓gw_t (beq_t hq), K0.cell, Ke.cell] <;> rfl) ?_; intro a hA
   refine wl_gcallv _ hA rfl rfl rfl rfl (by decide) (fun hq ev h => exec_call Tryz.func138 (by kernel_rfl) rfl (h.f _) (by first | (simp only [mL, ((h.get 57 rfl).trans (gw_t (beq_t hq))), h.c] <;> rfl) | (simp [mL, ((h.get 57 rfl).trans (gw_t (beq_t hq))), h.c, K0.cell, Ke.cell] <;> rfl))) (fun hq => fits_any (x.uid : Nat) x.date x.flags x.a x.b.length x.c _ (Ht _ (hb0.trans (HB.mono hb0.size)))) fun a w6 hb hA => ?_
   replace K0 := K0.below hb K0.lt
   replace HB := HB.trans (hb.mono HB.size)
   replace Ke := Ke.below hb Ke.lt
   revert a; refine wg _ rfl rfl rfl rfl (by decide) (fun hq ev e h => by simp [go_sem, h, ↓gw_t (beq_t hq), K0.cell, Ke.cell] <;> rfl) ?_; refine wko rfl rfl (by decide) rfl rfl rfl ?_; refine wo rfl rfl (by decide) (fun ev e h => by simp [go_sem, h, K0.cell, Ke.cell] <;> rfl) ?_; (iterate 4 refine wg _ rfl rfl rfl rfl (by decide) (fun hq ev e h => by simp [go_sem, h, ↓gw_t (beq_t hq), K0.cell, Ke.cell] <;> rfl) ?_); intro a hA
   replace hA := hA.keepN [1, 7, 39, 40, 41, 61, 65]
   revert a; refine wko rfl rfl (by decide) rfl rfl rfl ?_; intro a hA
   replace hA := hA.keepN [1, 7, 39, 40, 41, 66]
   refine wN (nT ?_)
   have hme := msgStepE nx l j x
   rw [nat_lt20000] at hA
   obtain ⟨q, hqe⟩ : ∃ q, (decide (x.uid ≤ lastU l j) || decide (nx ≤ x.uid) || !fitsDF x.date x.flags || decide (20000 < x.b.length)) = q := ⟨_, rfl⟩
   rw [hqe] at hme hA
   refine wp_if hA 66 _ rfl (fun hq2 => ?yR) (fun hq2 => ?nR)
   case yR =>
    subst hq2
    refine wS (wR ?_)
    revert a; refine wo rfl rfl (by decide) (fun ev e h => by simp [go_sem, h, K0.cell, Ke.cell] <;> rfl) ?_; intro a hA
    replace hA := hA.keepN [2]
    refine wN (nT (wp_ret (rT (rB (rT (rT (rB (rT ?_))))))))
    refine ret_1 hA 2 rfl rfl ?_
    exact ⟨ret_bool (by rw [← hl]; exact (msgs_no hx hme).symm), hb0.trans (HB.mono hb0.size)⟩
   case nR =>
    subst hq2
    refine wp_skip (nT (wR ?_))
    revert a; (iterate 3 refine wo rfl rfl (by decide) (fun ev e h => by simp [go_sem, h, K0.cell, Ke.cell, hwj] <;> rfl) ?_); intro a hA
    replace hA := hA.keepN [1, 5, 39, 40, 41]
    refine wN (nB (nT (wR ?_)))
    revert a; (iterate 2 refine wo rfl rfl (by decide) (fun ev e h => by simp [go_sem, h, K0.cell, Ke.cell, hwj] <;> rfl) ?_); intro a hA
    replace hA := hA.keepN [1, 5, 39, 40, 41]
    refine wN (nT ?_)
    have hj1 : ((j : Int) + 1) = ((j + 1 : Nat) : Int) := by omega
    rw [← lastU_succ hx, hj1] at hA
    exact ⟨k - 1, by omega, j + 1, by omega, hA, by rw [msgsN_succ hx, hall, hme]; rfl, HB⟩
  case nL =>
   have hjn : j = n := by simp at hq; omega
   subst hjn
   replace hA := hA.keepN []
   refine wp_exit (xT (xT (xB (nT (wS (wR ?_))))))
   revert a; refine wo rfl rfl (by decide) (fun ev e h => by simp [go_sem, h] <;> rfl) ?_; intro a hA
   replace hA := hA.keepN [2]
   refine wN (nT (wp_ret ?_))
   refine ret_1 hA 2 rfl rfl ?_
   exact ⟨ret_bool hall.symm, hb0.trans (HB.mono hb0.size)⟩
end Go.Proofs.YtkljkbeahdipfaaGreatDoor
/-
  Texts as rows of bytes: parts of them, and the bytes that a conversion copies.
-/
namespace Go.Proofs.YtkljkbeahdipfaaGreatDoor
open Go.RowKit
set_option linter.unusedSimpArgs false
set_option linter.unusedVariables false
/-- a text of bytes -/
abbrev St (l : List UInt8) : ByteArray := ⟨l.toArray⟩
theorem st_app (a b : List UInt8) : St a ++ St b = St (a ++ b) := by
 refine ByteArray.ext ?_
 simp [ByteArray.data_append]
end Go.Proofs.YtkljkbeahdipfaaGreatDoor
/-
  The store, plainly: what each function makes of a disk.
-/
namespace Go.Proofs.YtkljkbeahdipfaaGreatDoor
open Go.RowKit
def kLog : Key := [108, 111, 103]
def kIdx : Key := [105, 100, 120]
def kFlg : Key := [102, 108, 103]
def kNew : Key := [110, 101, 119]
def kTree : Key := [116, 114, 101, 101]
def fileK (kind : Key) (n : Nat) : Key := kind ++ [46] ++ Lib.decDigits n
/-- one thing behind another -/
def thenD (r : Int × DiskM) (f : DiskM → Int × DiskM) : Int × DiskM := if r.1 = 0 then f r.2 else r
/-- a file away, if it is there -/
def awayD (d : DiskM) (k : Key) : Int × DiskM := if (dRemove d k).1 = 7 then (0, (dRemove d k).2) else dRemove d k
def layD (d : DiskM) (k : Key) (b : List UInt8) : Int × DiskM :=
 thenD (awayD d kNew) fun d => thenD (dAppend d kNew b) fun d => thenD (dSync d kNew) fun d => dRename d kNew k
def hasD (d : DiskM) (k : Key) : Bool := (fget k d.files).isSome
def logsD (d : DiskM) : List Nat := (List.range 16).filter fun n => hasD d (fileK kLog n)
/-- what bytes say as a log -/
structure LogT where
 s : LogS
 torn : Nat
def readL (b : List UInt8) : LogT := ⟨takeAll (notesB b), (scan b).2⟩
/-- an index's parts, and flags' -/
structure IdxT where
 nm : ByteArray
 e : Nat
 nx : Nat
 u : Int
 l : List MarkM
def entN (n : NoteB) : MarkM := (n.u, (n.at_ : Int))
def mrkN (n : NoteB) : MarkM := (n.u, n.f)
def idxL (l : LogT) : IdxT := bif noIdx (cleanS l.s) l.s.nm then ⟨⟨#[]⟩, 0, 0, 0, []⟩ else ⟨l.s.nm, l.s.ep, l.s.nx, (l.torn : Int), l.s.live.map entN⟩
def flgL (l : LogT) : Nat × List MarkM := bif noIdx (cleanS l.s) l.s.nm then (0, []) else (l.s.ep, l.s.live.map mrkN)
def IdxT.err (x : IdxT) : Int := idxErr x.nm x.e x.nx x.u x.l
def IdxT.page (x : IdxT) : List UInt8 := idxPage x.nm x.e x.nx x.u x.l
/-- the flags that a mailbox has -/
def setF (ms : List MarkM) (q : MarkM) : MarkM := match ms.find? fun m => m.1 == q.1 with
 | some m => (q.1, m.2)
 | none => q
/-- a log's pages: flags, index, and what is wrong -/
structure PagesT where
 b : List UInt8
 c : List UInt8
 e : Int
def pagesL (l : LogT) (ms : List MarkM) : PagesT :=
 if flagsErr (flgL l).1 ((flgL l).2.map (setF ms)) = 0 then ⟨flagsPage (flgL l).1 ((flgL l).2.map (setF ms)), (idxL l).page, (idxL l).err⟩
 else ⟨[], [], flagsErr (flgL l).1 ((flgL l).2.map (setF ms))⟩
def pagesD (d : DiskM) (n : Nat) (l : LogT) (ms : List MarkM) : Int × DiskM :=
 if (pagesL l ms).e = 0 then thenD (layD d (fileK kFlg n) (pagesL l ms).b) fun d => layD d (fileK kIdx n) (pagesL l ms).c else ((pagesL l ms).e, d)
def fileD (d : DiskM) (kind : Key) (n : Nat) : List UInt8 × Int := dRead d (fileK kind n)
/-- are flags of just the messages of an index? -/
def uidsL (x : IdxT) (f : Nat × List MarkM) : Bool := x.e == f.1 && x.l.map (·.1) == f.2.map (·.1)
def boxZ : BoxB := ⟨⟨#[]⟩, 0, 0, []⟩
abbrev MsgP := Nat × Int × Int × List UInt8
def putF (fs : List MarkM) (ms : List MsgP) : List MsgP := List.zipWith (fun m (f : MarkM) => (m.1, m.2.1, f.2, m.2.2.2)) ms fs
def bareM (m : MsgP) : MsgV := ⟨m.1, m.2.1, m.2.2.1, none, m.2.2.2.length, m.2.2.2⟩
def rightB (b : BoxB) : Bool := boxRight b.nm b.ep b.nx (b.msgs.map bareM)
def flagsD (d : DiskM) (n : Nat) : Option (Nat × List MarkM) := getFlagsV (fileD d kFlg n).1
def wholeOk (d : DiskM) (n : Nat) : Bool :=
 (idxL (readL (fileD d kLog n).1)).err == 0 && cleanS (readL (fileD d kLog n).1).s && (readL (fileD d kLog n).1).torn == (fileD d kLog n).1.length
  && getErr (flagsD d n) == 0 && (idxL (readL (fileD d kLog n).1)).page == (fileD d kIdx n).1 && uidsL (idxL (readL (fileD d kLog n).1)) (flagsOr (flagsD d n))
/-- the mailbox of a log, with flags -/
def boxF (l : LogT) (fs : List MarkM) : BoxB := { boxS l.s with msgs := putF fs (boxS l.s).msgs }
def wholeD (d : DiskM) (n : Nat) : BoxB × Int :=
 if (fileD d kLog n).2 = 0 then
  if wholeOk d n = true ∧ rightB (boxF (readL (fileD d kLog n).1) (flagsOr (flagsD d n)).2) = true then (boxF (readL (fileD d kLog n).1) (flagsOr (flagsD d n)).2, 0) else (boxZ, 9)
 else (boxZ, (fileD d kLog n).2)
/-- a mailbox's first note -/
def firstV (nm : ByteArray) : List UInt8 := bif formedV 1 1 nm ⟨0, 0, 0, none, 0, []⟩ then frameV 1 1 nm ⟨0, 0, 0, none, 0, []⟩ else []
def firstOk (nm : ByteArray) : Bool := formedV 1 1 nm ⟨0, 0, 0, none, 0, []⟩
def beginD (d : DiskM) (n : Nat) (nm : ByteArray) : Int × DiskM :=
 if firstOk nm = true then thenD (dAppend d (fileK kLog n) (firstV nm)) fun d => thenD (dSync d (fileK kLog n)) fun d => pagesD d n (readL (firstV nm)) [] else (1, d)
def placesD (d : DiskM) : List PlaceM := (logsD d).map fun (n : Nat) => ((n : Int), (readL (fileD d kLog n).1).s.nm)
def plantD (d : DiskM) : Int × DiskM := if treeErr (placesD d) = 0 then layD d kTree (treePage (placesD d)) else (treeErr (placesD d), d)
def sInbox : ByteArray := ⟨#[73, 78, 66, 79, 88]⟩
def madeD (d : DiskM) : Int × DiskM := thenD (beginD d 0 sInbox) plantD
def strayD (d : DiskM) : Bool := ((List.range 16).any fun n => !hasD d (fileK kLog n) && (hasD d (fileK kIdx n) || hasD d (fileK kFlg n))) || hasD d kNew
/-- is a store there, and what are its names? -/
def openOk (d : DiskM) : Bool := (getTreeV (dRead d kTree).1).isSome && decide ((getTreeV (dRead d kTree).1).getD [] = placesD d) && !strayD d && (placesD d).all fun p => (wholeD d p.1.toNat).2 == 0
abbrev NamesM := List (Key × Nat)
def namesP (l : List PlaceM) : NamesM := l.foldl (fun m p => fput p.2.data.toList p.1.toNat m) []
def openD (d : DiskM) : Int × DiskM × NamesM :=
 if d.lost = true then (6, d, []) else
  if d.files = [] ∧ (madeD d).1 ≠ 0 then ((madeD d).1, (madeD d).2, [])
  else
   let d' := if d.files = [] then (madeD d).2 else d
   if openOk d' = true then (0, d', namesP (placesD d')) else (9, d', [])
theorem lay_stop {d : DiskM} {k : Key} {b : List UInt8} (h0 : ¬ (dRemove d kNew).1 = 0) (h7 : ¬ (dRemove d kNew).1 = 7) : layD d k b = dRemove d kNew := by
 unfold layD awayD thenD
 rw [if_neg h7, if_neg h0]
theorem lay_go {d : DiskM} {k : Key} {b : List UInt8} (h : (dRemove d kNew).1 = 0 ∨ (dRemove d kNew).1 = 7) : layD d k b = thenD (dAppend (dRemove d kNew).2 kNew b) fun d => thenD (dSync d kNew) fun d => dRename d kNew k := by
 unfold layD awayD
 by_cases h7 : (dRemove d kNew).1 = 7
 ·rw [if_pos h7]; rfl
 ·rw [if_neg h7]
  have h0 := h.resolve_right h7
  unfold thenD
  rw [if_pos h0]
theorem then_stop {r : Int × DiskM} {f : DiskM → Int × DiskM} (h : ¬ r.1 = 0) : thenD r f = r := by unfold thenD; rw [if_neg h]
theorem then_go {r : Int × DiskM} {f : DiskM → Int × DiskM} (h : r.1 = 0) : thenD r f = f r.2 := by unfold thenD; rw [if_pos h]
end Go.Proofs.YtkljkbeahdipfaaGreatDoor
/-
  Frames of formed notes, one behind the other: what is read back.
-/
namespace Go.Proofs.YtkljkbeahdipfaaGreatDoor
open Go.RowKit
def NoteV.frame (n : NoteV) : List UInt8 := frameV n.kind n.ep n.nm n.m
def NoteV.at_ (n : NoteV) (p : Nat) : NoteB := ⟨n.kind, n.ep, n.nm, n.m.uid, n.m.date, n.m.flags, n.m.b, p⟩
/-- a note that may be written -/
structure FormedN (n : NoteV) : Prop where
 ok : formedV n.kind n.ep n.nm n.m = true
 ep : n.ep < 4294967296
 uid : n.m.uid < 4294967296
def framesB (l : List NoteV) : List UInt8 := l.flatMap NoteV.frame
/-- the notes, each with the place of its record -/
def notesAt : Nat → List NoteV → List NoteB
 | _, [] => []
 | p, n :: r => n.at_ p :: notesAt (p + n.frame.length) r
def recOf (p : Nat) (n : NoteV) : RecB := ⟨p, n.kind.toNat, encV n.kind n.ep n.nm n.m⟩
def recsOf : Nat → List NoteV → List RecB
 | _, [] => []
 | p, n :: r => recOf p n :: recsOf (p + n.frame.length) r
theorem frame_len {n : NoteV} : n.frame.length = 44 + (encV n.kind n.ep n.nm n.m).length := frameB_length _ _
theorem scan_frames {b r : List UInt8} : ∀ (l : List NoteV) (at_ torn : Nat) (R : List RecB), (∀ n ∈ l, FormedN n) → b.drop at_ = framesB l ++ r → scanAt b at_ torn R = scanAt b (at_ + (framesB l).length) (if l = [] then torn else at_ + (framesB l).length) (R ++ recsOf at_ l)
 | [], at_, torn, R, _, _ => by
   unfold recsOf framesB
   simp
 | n :: l, at_, torn, R, hf, hb => by
   have hn := hf n List.mem_cons_self
   obtain ⟨q, hq, h1, h3⟩ := formed_kind hn.ok
   have hlen := encV_len hn.ok
   have e0 : framesB (n :: l) = n.frame ++ framesB l := by unfold framesB; rw [List.flatMap_cons]
   have hfr : n.frame = frameB q (encV n.kind n.ep n.nm n.m) := by
    unfold NoteV.frame frameV
    rw [hq]
    rfl
   rw [e0, List.append_assoc] at hb
   have hd : b.drop (at_ + n.frame.length) = framesB l ++ r := by
    rw [← List.drop_drop, hb, List.drop_left' rfl]
   rw [scan_frame (k := q) (p := encV n.kind n.ep n.nm n.m) (r := framesB l ++ r) (by rw [hb, hfr]) h1 h3 (by omega)]
   have ea : at_ + 44 + (encV n.kind n.ep n.nm n.m).length = at_ + n.frame.length := by rw [frame_len]; omega
   rw [ea, scan_frames l _ _ _ (fun m hm => hf m (List.mem_cons_of_mem _ hm)) hd]
   have er : recOf at_ n = ⟨at_, q, encV n.kind n.ep n.nm n.m⟩ := by unfold recOf; rw [hq]; rfl
   have et : (if l = [] then at_ + n.frame.length else at_ + n.frame.length + (framesB l).length) = at_ + (framesB (n :: l)).length := by
    rw [e0, List.length_append]
    split
    ·rename_i h; rw [h]; rfl
    ·omega
   rw [et, if_neg (by simp), e0, List.length_append, List.append_assoc]
   show scanAt b (at_ + n.frame.length + (framesB l).length) _ (R ++ ([(⟨at_, q, encV n.kind n.ep n.nm n.m⟩ : RecB)] ++ _)) = scanAt b _ _ (R ++ (recOf at_ n :: recsOf (at_ + n.frame.length) l))
   rw [er, Nat.add_assoc]
   rfl
theorem notesR_of : ∀ (l : List NoteV) (p : Nat), (∀ n ∈ l, FormedN n) → notesR (recsOf p l) = notesAt p l
 | [], _, _ => rfl
 | n :: l, p, hf => by
   have hn := hf n List.mem_cons_self
   obtain ⟨q, hq, h1, h3⟩ := formed_kind hn.ok
   have ih := notesR_of l (p + n.frame.length) fun m hm => hf m (List.mem_cons_of_mem _ hm)
   unfold notesR at ih ⊢
   unfold recsOf notesAt
   rw [List.flatMap_cons, ih]
   have hk : ((recOf p n).kind : Int) = n.kind := by unfold recOf; rw [hq]; rfl
   have hb : (recOf p n).b = encV n.kind n.ep n.nm n.m := rfl
   rw [hk, hb, decOk_enc hn.ok hn.ep hn.uid, cond_true]
   have e : noteOf (recOf p n).kind (recOf p n).at_ (encV n.kind n.ep n.nm n.m) = n.at_ p := by
    obtain ⟨_, _, _, d0, d1, f0, f1⟩ := formed_rest hn.ok
    unfold noteOf
    rw [hk, rd1_enc hn.ep, rd4_enc hn.ok hn.ep hn.uid, rd2_enc hn.ok hn.ep hn.uid, rd3_enc hn.ok hn.ep hn.uid, rd5_enc hn.ok hn.ep hn.uid]
    show NoteB.mk n.kind n.ep n.nm n.m.uid ((n.m.date.toNat : Nat) : Int) ((n.m.flags.toNat : Nat) : Int) n.m.b p = _
    rw [Int.toNat_of_nonneg d0, Int.toNat_of_nonneg f0]
    rfl
   rw [e]
   rfl
/-- all is read back; nothing is torn -/
theorem scan_all (l : List NoteV) (hf : ∀ n ∈ l, FormedN n) : notesB (framesB l) = notesAt 0 l ∧ (scan (framesB l)).2 = (framesB l).length := by
 have h := scan_frames (b := framesB l) (r := []) l 0 0 [] hf (by simp)
 rw [scan_end (at_ := 0 + (framesB l).length) (by omega)] at h
 unfold notesB scan
 rw [h]
 refine ⟨by rw [List.nil_append]; exact notesR_of l 0 hf, ?_⟩
 show (if l = [] then 0 else 0 + (framesB l).length) = _
 split
 ·rename_i h; rw [h]; rfl
 ·omega
end Go.Proofs.YtkljkbeahdipfaaGreatDoor
/-
  Walk of the law: what any bytes say as a log, and the mailbox that it is.
-/
namespace Go.Proofs.YtkljkbeahdipfaaGreatDoor
open Go.RowKit
set_option linter.unusedSimpArgs false
set_option linter.unusedVariables false
/-- what the notes of bytes are bounded by -/
theorem notesB_small (b : List UInt8) : ∀ y ∈ notesB b, y.o.length ≤ 20000 ∧ y.ep < 4294967296 ∧ y.u < 4294967296 := by
 intro x hx
 unfold notesB notesR at hx
 obtain ⟨r, _, hr⟩ := List.mem_flatMap.1 hx
 cases hd : decOk (r.kind : Int) r.b with
 | false => rw [hd] at hr; cases hr
 | true =>
   rw [hd, cond_true, List.mem_singleton] at hr
   subst hr
   refine ⟨?_, inN_lt _ 4, rd2_lt _ _⟩
   unfold decOk at hd
   simp only [Bool.and_eq_true] at hd
   exact (formed_parts hd.2.1).2.2.1
end Go.Proofs.YtkljkbeahdipfaaGreatDoor
/-
  Read, with the row's capacity.
-/
namespace Go.Proofs.YtkljkbeahdipfaaGreatDoor
open Go.RowKit Go.Maps
set_option maxRecDepth 100000 in
theorem read_atC {w : World} {p mb : Nat} {d : DiskM} (h : Disk w p mb d) (hf : WFD d) (s : ByteArray) (hs : s.size ≤ maxLen) :
 Calls Tryz.prog 29 #[.pointer (some ⟨p, 0, none⟩), .string s] w fun e w' => ∃ A c, e = .returned (.tuple #[.slice A (dRead d s.data.toList).1.length c, .int .i64 (dRead d s.data.toList).2]) ∧ Reads w' w'.heap.size 1 A (dRead d s.data.toList).1.length (u8s (dRead d s.data.toList).1) ∧ (dRead d s.data.toList).1.length ≤ c ∧ Below w.heap.size w w' := by
 have hrm := hf.room
 have hcp := hf.cap
 clear hf
 obtain ⟨cap, files, fuse, lost⟩ := d
 obtain ⟨es, hf, h⟩ := h
 obtain rfl : files = fmap FV.m es := hf
 have Ht := Lib.hid (there_at h s hs)
 have H := Lib.hid h
 unfold dRead
 simp only [fget_m] at hrm hcp ⊢
 cases lost with
 | true =>
   rw [if_pos rfl]
   clear h
   go_enter Tryz.func29, Tryz.ntmps29
   go_wp2_with fail
   refine Ht.out.mono ?_
   rintro e w1 ⟨rfl, hb⟩
   go_wp2
   go_ret2
   exact ⟨none, 0, rfl, Reads.none_, Nat.le_refl _, hb⟩
 | false =>
   rw [if_neg (by simp)]
   cases hg : fget s.data.toList es with
   | none =>
     rw [hg] at Ht
     dsimp only [Option.map_none]
     clear h hg
     go_enter Tryz.func29, Tryz.ntmps29
     go_wp2_with fail
     refine Ht.out.mono ?_
     rintro e w1 ⟨rfl, hb⟩
     go_wp2
     go_ret2
     exact ⟨none, 0, rfl, Reads.none_, Nat.le_refl _, hb⟩
   | some f =>
     have hle : f.m.b.length ≤ 4194304 := by
      have := used_get (k := s.data.toList) (f := f.m) (l := fmap FV.m es) (by rw [fget_m, hg]; rfl)
      omega
     obtain ⟨⟨b, sf, ev⟩, A, c⟩ := f
     rw [hg] at Ht
     dsimp only [Option.map_some] at hle ⊢
     have HG := Lib.hid hg
     clear h hg
     go_enter Tryz.func29, Tryz.ntmps29
     go_wp2_with fail
     refine Ht.out.mono ?_
     rintro e w1 ⟨rfl, hb⟩
     have h1 := H.out.below hb
     have HB := Lib.hid hb
     have c1 := h1.c1
     have hl := look1_some h1.map s hs HG.out
     have hr1 := (h1.bytes _ (fget_mem HG.out)).1
     have Hc := Lib.hid (clone_any_DiskLib A b.length c b w1 rfl (by omega) hr1)
     have hfr := field_run A b.length c (sf : Nat) ev w1
     clear h1 hb hr1
     go_wp2_with fail
     refine Hc.out.mono ?_
     rintro e w2 ⟨A', c', rfl, hr2, hcl, hb2⟩
     have HC := Lib.hid hcl
     clear hcl
     have HB2 := Lib.hid (HB.out.trans (hb2.mono HB.out.size))
     have HR := Lib.hid hr2
     clear hr2 hb2
     go_wp2
     go_ret2
     exact ⟨A', c', rfl, HR.out, HC.out, HB2.out⟩
end Go.Proofs.YtkljkbeahdipfaaGreatDoor
/-
  Walk of the disk's Rename.
-/
namespace Go.Proofs.YtkljkbeahdipfaaGreatDoor
open Go.RowKit Go.Maps
theorem str_ne {s t : ByteArray} (h : s.data.toList ≠ t.data.toList) : (s.toList == t.toList) = false := by
 rw [ByteArray.toList_eq, ByteArray.toList_eq]
 simpa using h
set_option maxRecDepth 100000 in
theorem rename_at {w : World} {p mb : Nat} {d : DiskM} (h : Disk w p mb d) (hf : WFD d) (hN : d.files.length < 1000000) (s t : ByteArray) (hs : s.size ≤ 1000000000) (ht : t.size ≤ 1000000000) :
 Calls Tryz.prog 77 #[.pointer (some ⟨p, 0, none⟩), .string s, .string t] w fun e w' => e = .returned (.int .i64 (dRename d s.data.toList t.data.toList).1) ∧ Disk w' p mb (dRename d s.data.toList t.data.toList).2 ∧ But p mb w w' := by
 have hsm : s.size ≤ maxLen := by unfold maxLen; omega
 have htm : t.size ≤ maxLen := by unfold maxLen; omega
 have hf0 := hf.fuse0
 have hf1 := hf.fuse1
 clear hf
 obtain ⟨cap, files, fuse, lost⟩ := d
 obtain ⟨es, hf, h⟩ := h
 obtain rfl : files = fmap FV.m es := hf
 have hN' : es.length < 1000000 := by simpa [fmap] using hN
 clear hN
 have Hg := Lib.hid (gone_at p lost w h.c3)
 have H := Lib.hid h
 unfold dRename
 simp only [fget_m] at hf0 hf1 ⊢
 cases lost with
 | true =>
   clear h
   go_enter Tryz.func77, Tryz.ntmps77
   go_wp2_with fail
   refine Hg.out.mono ?_
   rintro e w1 ⟨rfl, rfl⟩
   go_wp2
   go_ret
   exact ⟨rfl, ⟨es, rfl, H.out⟩, But.refl _ _ _⟩
 | false =>
   simp only [Bool.false_eq_true, if_false]
   have Hr := Lib.hid (dright_any t ht w)
   cases hrt : right t.data.toList with
   | false =>
     rw [hrt] at Hr
     rw [if_pos (.inl rfl)]
     clear h hrt
     go_enter Tryz.func77, Tryz.ntmps77
     go_wp2_with fail
     refine Hg.out.mono ?_
     rintro e w1 ⟨rfl, rfl⟩
     go_wp2_with fail
     refine Hr.out.mono ?_
     rintro e w1 ⟨rfl, rfl⟩
     go_wp2
     go_ret
     exact ⟨rfl, ⟨es, rfl, H.out⟩, But.refl _ _ _⟩
   | true =>
     rw [hrt] at Hr
     clear hrt
     by_cases hst : s.data.toList = t.data.toList
     ·have hst' : s = t := ByteArray.ext (Array.ext' hst)
      subst hst'
      rw [if_pos (.inr rfl)]
      clear h hst
      go_enter Tryz.func77, Tryz.ntmps77
      go_wp2_with fail
      refine Hg.out.mono ?_
      rintro e w1 ⟨rfl, rfl⟩
      go_wp2_with fail
      refine Hr.out.mono ?_
      rintro e w1 ⟨rfl, rfl⟩
      go_wp2
      go_ret
      exact ⟨rfl, ⟨es, rfl, H.out⟩, But.refl _ _ _⟩
     ·have hne := str_ne hst
      have Hst := Lib.hid hst
      have Ht := Lib.hid (there_at h s hsm)
      have e0 : ¬ (true = false ∨ s.data.toList = t.data.toList) := by simp [hst]
      rw [if_neg e0]
      clear hst e0
      cases hg : fget s.data.toList es with
      | none =>
        rw [hg] at Ht
        dsimp only [Option.map_none]
        clear h hg
        go_enter Tryz.func77, Tryz.ntmps77
        go_wp2_with fail
        refine Hg.out.mono ?_
        rintro e w1 ⟨rfl, rfl⟩
        go_wp2_with fail
        refine Hr.out.mono ?_
        rintro e w1 ⟨rfl, rfl⟩
        go_wp2_with fail
        refine Ht.out.mono ?_
        rintro e w1 ⟨rfl, hb⟩
        go_wp2
        go_ret
        exact ⟨rfl, ⟨es, rfl, H.out.below hb⟩, But.of_below hb⟩
      | some f =>
        obtain ⟨⟨b, sf, ev⟩, A, c⟩ := f
        rw [hg] at Ht
        have HG := Lib.hid hg
        clear h hg
        have hw : (FileM.whole ⟨b, sf, ev⟩) = (ev && decide (sf = b.length)) := rfl
        simp only [Option.map_some, hw]
        generalize hbw : (ev && decide (sf = b.length)) = bw
        have Hbw := Lib.hid hbw
        clear hbw hw
        cases bw with
        | false =>
          rw [if_pos rfl]
          go_enter Tryz.func77, Tryz.ntmps77
          go_wp2_with fail
          refine Hg.out.mono ?_
          rintro e w1 ⟨rfl, rfl⟩
          go_wp2_with fail
          refine Hr.out.mono ?_
          rintro e w1 ⟨rfl, rfl⟩
          go_wp2_with fail
          refine Ht.out.mono ?_
          rintro e w1 ⟨rfl, hb⟩
          have h1 := H.out.below hb
          have H1 := Lib.hid h1
          have HB := Lib.hid (But.of_below (p := p) (m := mb) hb)
          have c1 := h1.c1
          have hl := look1_some h1.map s hsm HG.out
          have Hw := Lib.hid (whole_any A b.length c sf ev w1)
          rw [Hbw.out] at Hw
          clear h1 hb
          go_wp2_with fail
          refine Hw.out.mono ?_
          rintro e w2 ⟨rfl, hb⟩
          have H2 := Lib.hid (H1.out.below hb)
          have HB2 := Lib.hid (HB.out.below hb)
          clear hb c1 hl
          go_wp2
          go_ret
          exact ⟨rfl, ⟨es, rfl, H2.out⟩, HB2.out⟩
        | true =>
          rw [if_neg (by simp)]
          by_cases hz : fuse = 0
          ·have hd : decide (fuse = 0) = true := by simp [hz]
           rw [if_pos hz]
           go_enter Tryz.func77, Tryz.ntmps77
           go_wp2_with fail
           refine Hg.out.mono ?_
           rintro e w1 ⟨rfl, rfl⟩
           go_wp2_with fail
           refine Hr.out.mono ?_
           rintro e w1 ⟨rfl, rfl⟩
           go_wp2_with fail
           refine Ht.out.mono ?_
           rintro e w1 ⟨rfl, hb⟩
           have h1 := H.out.below hb
           have H1 := Lib.hid h1
           have HB := Lib.hid (But.of_below (p := p) (m := mb) hb)
           have c1 := h1.c1
           have hl := look1_some h1.map s hsm HG.out
           have Hw := Lib.hid (whole_any A b.length c sf ev w1)
           rw [Hbw.out] at Hw
           clear h1 hb
           go_wp2_with fail
           refine Hw.out.mono ?_
           rintro e w2 ⟨rfl, hb⟩
           have H2 := Lib.hid (H1.out.below hb)
           have HB2 := Lib.hid (HB.out.below hb)
           clear hb c1 hl
           have Hu := Lib.hid (burns_at H2.out hf0 hf1)
           go_wp2_with fail
           refine Hu.out.mono ?_
           rintro e w3 ⟨rfl, h3, hb3⟩
           have H3 := Lib.hid h3
           have HB3 := Lib.hid (HB2.out.trans hb3)
           clear h3 hb3
           rw [hd] at H3 ⊢
           go_wp2
           go_ret
           subst hz
           exact ⟨rfl, ⟨es, rfl, H3.out⟩, HB3.out⟩
          ·have hd : decide (fuse = 0) = false := by simp [hz]
           rw [if_neg hz]
           go_enter Tryz.func77, Tryz.ntmps77
           go_wp2_with fail
           refine Hg.out.mono ?_
           rintro e w1 ⟨rfl, rfl⟩
           go_wp2_with fail
           refine Hr.out.mono ?_
           rintro e w1 ⟨rfl, rfl⟩
           go_wp2_with fail
           refine Ht.out.mono ?_
           rintro e w1 ⟨rfl, hb⟩
           have h1 := H.out.below hb
           have H1 := Lib.hid h1
           have HB := Lib.hid (But.of_below (p := p) (m := mb) hb)
           have c1 := h1.c1
           have hl := look1_some h1.map s hsm HG.out
           have Hw := Lib.hid (whole_any A b.length c sf ev w1)
           rw [Hbw.out] at Hw
           clear h1 hb
           go_wp2_with fail
           refine Hw.out.mono ?_
           rintro e w2 ⟨rfl, hb⟩
           have H2 := Lib.hid (H1.out.below hb)
           have HB2 := Lib.hid (HB.out.below hb)
           clear hb c1 hl
           have Hu := Lib.hid (burns_at H2.out hf0 hf1)
           go_wp2_with fail
           refine Hu.out.mono ?_
           rintro e w3 ⟨rfl, h3, hb3⟩
           have H3 := Lib.hid h3
           have HB3 := Lib.hid (HB2.out.trans hb3)
           clear h3 hb3
           have c1 := H3.out.c1
           have c1' : w3.drew.cell? ⟨p, 1, none⟩ = some (.map (some mb)) := c1
           have hl := look1_some (w := w3.drew) (H3.out.map.drew) s hsm HG.out
           obtain ⟨w4, hrun, hm, htn⟩ := store_some (w := w3.drew) H3.out.map.drew H3.out.up (by unfold maxLen; omega) t htm b sf ev A c
           have hb3 : But p mb w3 w3.drew := (But.refl _ _ _).drew
           have hk := H3.out.bytes _ (fget_mem HG.out)
           obtain ⟨hst4, hbt4⟩ := H3.out.store hb3 H3.out.cells.drew t.data.toList ⟨⟨b, sf, ev⟩, A, c⟩ hm htn ⟨H3.out.reads_but (hb3.turned htn) hk.1, hk.2⟩
           obtain ⟨w5, hrun5, hm5, ht5⟩ := drop_run hst4.map s hsm 0
           obtain ⟨hd5, hb5⟩ := hst4.drop s.data.toList hm5 ht5
           have c5 := hst4.c1
           have HD := Lib.hid hd5
           have HB5 := Lib.hid ((HB3.out.trans hbt4).trans hb5)
           rw [hd] at HD ⊢
           clear hm htn hb3 hk hst4 hbt4 hm5 ht5 hd5 hb5
           go_wp2
           go_region
           go_wp2
           go_ret
           exact ⟨rfl, ⟨fdel s.data.toList (fput t.data.toList ⟨⟨b, sf, ev⟩, A, c⟩ es), by show _ = fmap FV.m (fdel _ (fput _ ⟨⟨b, sf, ev⟩, A, c⟩ es)); rw [fdel_fmap, fput_fmap], by show DiskAt _ _ _ _ _ _ (decide (fuse = 0)); rw [hd]; exact HD.out⟩, HB5.out⟩
end Go.Proofs.YtkljkbeahdipfaaGreatDoor
/-
  The library on maps.Keys and slices.Sorted, at this program (after the kit's lay-iter).
-/
namespace Go.Proofs
open Go.RowKit Go.Maps Go.Sort Go.Shelf


theorem Tryz.sorts141 (m : Nat) : AnyZ.SortsIn Tryz.prog Tryz.sorted141_ren Fence.wide m :=
 ⟨fun blk off cap ss W hH hblk hsz => callsIn_wide.2 (AnyM.slices_Sort_string Tryz.sort104 blk off cap ss W hH hblk hsz),
  fun p cap W => callsIn_wide.2 (AnyM.slices_Sort_string_none Tryz.sort104 p cap W)⟩

theorem Tryz.maps_Keys_142 (mb : Option Nat) (W : World) : CallsIn Fence.wide 5 Tryz.prog 142 #[.map mb] W fun e w' => e = .returned (.func (.func 194) #[] #[.pointer (some ⟨W.heap.size, 0, none⟩)]) ∧ w' = W.alloc (.cells #[.map mb] 98) :=
 AnyZ.keys_in Tryz.keys142 Fence.wide 5 trivial rfl mb W

set_option maxHeartbeats 1000000 in
theorem Tryz.slices_Sorted_keys_141_142 {H : Type} (b nn : Nat) (D0 : DataW H) (R : Value → Option (DataW H × List MemPlace)) (w : World) (hown : w.ownsMap Tryz.prog 9 R b nn D0) (hmax : Maps.size D0 ≤ maxLen) (hbytes : Maps.size D0 * 16 ≤ 140737488355328) :
 CallsIn Fence.wide 5 Tryz.prog 141 #[.func (.func 194) #[] #[.pointer (some ⟨w.heap.size, 0, none⟩)]] (w.alloc (.cells #[.map (some b)] 98)) fun e w' => ∃ (v : Value) (ss : List (List UInt8)), e = .returned v ∧ ss.Perm (strKeys D0) ∧
  w'.ownsRow (w.alloc (.cells #[.map (some b)] 98)).heap.size 9 1 v ss.length ((ss.mergeSort (fun x y => decide (x ≤ y))).map encStr) ∧ (v = .slice none 0 0 ↔ ss = []) ∧ Below (w.alloc (.cells #[.map (some b)] 98)).heap.size (w.alloc (.cells #[.map (some b)] 98)) w' := by
 have hbl := hown.lt
 have hseq : SeqGives Fence.wide 2 Tryz.prog 194 #[.pointer (some ⟨w.heap.size, 0, none⟩)] encStr (fun ss => ss.Perm (strKeys D0)) (Maps.size D0) (w.alloc (.cells #[.map (some b)] 98)) :=
  AnyZ.keys_gives (ρ := Tryz.keys142_ren) { Tryz.keys142 with } Fence.wide _ trivial rfl (by omega) w.heap.size b nn D0 _ (by simp) (by simp) (by
   obtain ⟨es, clock, hb, Ft, hs, hD⟩ := hown
   exact ⟨es, clock, (Below.heap_alloc _ _ b hbl).trans hb, Ft, hs, hD⟩)
 exact AnyZ.sorted_in Tryz.sorted141 Fence.wide 5 trivial trivial trivial trivial rfl (by omega) (Tryz.sorts141 _) (enters_of Tryz.func104 (by kernel_rfl) rfl) 194 #[.pointer (some ⟨w.heap.size, 0, none⟩)] trivial (enters_of Tryz.func194 (by kernel_rfl) rfl) _ _ hmax hbytes _ hseq

end Go.Proofs
/-
  Walk of the disk's Names.
-/
namespace Go.Proofs.YtkljkbeahdipfaaGreatDoor
open Go.RowKit Go.Maps
/-- a row of names -/
def keyCells {V : Type} (l : List (Key × V)) : List Value := l.map fun q => encStr q.1
theorem keyCells_fmap {V U : Type} (g : V → U) (l : List (Key × V)) : keyCells (fmap g l) = keyCells l := by simp [keyCells, fmap]
set_option maxRecDepth 100000 in
theorem names_at {w : World} {p mb : Nat} {d : DiskM} (h : Disk w p mb d) (hN : d.files.length < 1000000) :
 Calls Tryz.prog 78 #[.pointer (some ⟨p, 0, none⟩)] w fun e w' => ∃ A c, e = .returned (.slice A d.files.length c) ∧ Reads w' w'.heap.size 1 A d.files.length (keyCells d.files) ∧ Below w.heap.size w w' := by
 obtain ⟨cap, files, fuse, lost⟩ := d
 obtain ⟨es, hfi, h⟩ := h
 obtain rfl : files = fmap FV.m es := hfi
 have e1 : (fmap FV.m es).length = es.length := by simp [fmap]
 simp only [e1, keyCells_fmap] at hN ⊢
 have c1 := h.c1
 have HU := Lib.hid h.up
 have HK := Lib.hid (callsIn_wide.1 (Tryz.maps_Keys_142 (some mb) w))
 have HS := Lib.hid (callsIn_wide.1 (Tryz.slices_Sorted_keys_141_142 mb es.length (dmap heldF es) heldR w h.map (by rw [dmap_size]; unfold maxLen; omega) (by rw [dmap_size]; omega)))
 clear h
 go_enter Tryz.func78, Tryz.ntmps78
 go_wp2_with fail
 refine HK.out.mono ?_
 rintro e w1 ⟨rfl, rfl⟩
 go_wp2_with fail
 refine HS.out.mono ?_
 rintro e w2 ⟨v, ss, rfl, hp, ho, _, hb⟩
 have hb2 : Below w.heap.size w w2 := ((Below.refl _ w).alloc (Nat.le_refl _) _).trans (hb.mono (by simp))
 rw [dmap_keys] at hp
 have hlen : ss.length = es.length := by have := hp.length_eq; simpa using this
 have hs := sorted_names HU.out hp
 rw [show ss.mergeSort (fun x y => decide (x ≤ y)) = es.map (·.1) from hs, hlen, List.map_map] at ho
 obtain ⟨A, c, rfl, hr, _⟩ := own_reads ho
 have HR := Lib.hid hr
 have HB := Lib.hid hb2
 clear hb hb2 hp hs ho hr hlen
 go_wp2
 go_ret
 exact ⟨A, c, rfl, HR.out, HB.out⟩
end Go.Proofs.YtkljkbeahdipfaaGreatDoor
/-
  A disk in memory, right, with few files, in a world whose tables stand below it: what each change makes of it.
-/
namespace Go.Proofs.YtkljkbeahdipfaaGreatDoor
open Go.RowKit
/-- what walks of the store ask of the world -/
structure EnvS (w : World) : Prop where
 tab : Lib.TabIs Tryz.prog w "internal/strconv.uint64pow10" .u64 Lib.pow10Tab
 max : MaxCell w
 e5 : ∃ ev, w.cell? ⟨3, 0, none⟩ = some ev ∧ (ev = .nilIface ∨ ∃ te pe, ev = .iface te pe)
 e6 : ∃ ev, w.cell? ⟨4, 0, none⟩ = some ev ∧ (ev = .nilIface ∨ ∃ te pe, ev = .iface te pe)
 big : 4 < w.heap.size ∧ 3 < w.heap.size ∧ 0 < w.heap.size
theorem EnvS.below {w w' : World} (h : EnvS w) (hb : Below w.heap.size w w') : EnvS w' := by
 have hbig := h.big
 exact ⟨Lib.tabBelow_of_tabIs h.tab _ hb, h.max.below hbig.2.2 hb, by rw [hb.cell hbig.2.1]; exact h.e5, by rw [hb.cell hbig.1]; exact h.e6, Nat.lt_of_lt_of_le hbig.1 hb.size, Nat.lt_of_lt_of_le hbig.2.1 hb.size, Nat.lt_of_lt_of_le hbig.2.2 hb.size⟩
/-- a world behind one in which the tables stood, whose disk is newer than these -/
def Ctx (w : World) (p mb : Nat) : Prop := ∃ W0, EnvS W0 ∧ Below W0.heap.size W0 w ∧ W0.heap.size ≤ p ∧ W0.heap.size ≤ mb
theorem Ctx.env {w : World} {p mb : Nat} (h : Ctx w p mb) : EnvS w := by
 obtain ⟨W0, h0, hb, _⟩ := h
 exact h0.below hb
theorem Ctx.below {w w' : World} {p mb : Nat} (h : Ctx w p mb) (hb : Below w.heap.size w w') : Ctx w' p mb := by
 obtain ⟨W0, h0, h1, h2⟩ := h
 exact ⟨W0, h0, h1.trans (hb.mono h1.size), h2⟩
theorem Ctx.but {w w' : World} {p mb : Nat} (h : Ctx w p mb) (hb : But p mb w w') : Ctx w' p mb := by
 obtain ⟨W0, h0, h1, h2, h3⟩ := h
 exact ⟨W0, h0, h1.trans (hb.toBelow h1.size h2 h3), h2, h3⟩
structure Dk (w : World) (p mb : Nat) (d : DiskM) (N : Nat) : Prop where
 disk : Disk w p mb d
 wf : WFD d
 few : d.files.length ≤ N
 ctx : Ctx w p mb
section
variable {w w' : World} {p mb N : Nat} {d : DiskM}
theorem Disk.belowD (h : Disk w p mb d) (hb : Below w.heap.size w w') : Disk w' p mb d := by
 obtain ⟨es, hfi, h⟩ := h
 exact ⟨es, hfi, h.below hb⟩
theorem Dk.below (h : Dk w p mb d N) (hb : Below w.heap.size w w') : Dk w' p mb d N := ⟨h.disk.belowD hb, h.wf, h.few, h.ctx.below hb⟩
theorem Dk.more {M : Nat} (h : Dk w p mb d N) (hm : N ≤ M) : Dk w p mb d M := ⟨h.disk, h.wf, Nat.le_trans h.few hm, h.ctx⟩
theorem Dk.env (h : Dk w p mb d N) : EnvS w := h.ctx.env
theorem Dk.cell (h : Dk w p mb d N) : Blk w p 100 (dcells mb d.cap d.fuse d.lost) := by
 obtain ⟨es, _, hd⟩ := h.disk
 exact hd.cells
theorem Dk.reads {A : Option Addr} {n : Nat} {l : List UInt8} (h : Dk w p mb d N) (hb : But p mb w w') (hr : Reads w w.heap.size 1 A n (u8s l)) : Reads w' w'.heap.size 1 A n (u8s l) := by
 obtain ⟨es, _, hd⟩ := h.disk
 exact hd.reads_but hb hr
theorem fput_lenD (k : Key) (v : FileM) : ∀ l : List (Key × FileM), (fput k v l).length ≤ l.length + 1
 | [] => Nat.le_refl _
 | (y, u) :: r => by
   rw [fput]
   split
   ·simp
   ·split
    ·simp
    ·have := fput_lenD k v r
     simp only [List.length_cons]
     omega
theorem append_lenD (d : DiskM) (k : Key) (b : List UInt8) : (dAppend d k b).2.files.length ≤ d.files.length + 1 := by
 unfold dAppend
 repeat' split
 all_goals first | (show d.files.length ≤ _; omega) | exact fput_lenD _ _ _
theorem sync_lenD (d : DiskM) (k : Key) : (dSync d k).2.files.length ≤ d.files.length + 1 := by
 unfold dSync
 repeat' split
 all_goals first | (show d.files.length ≤ _; omega) | exact fput_lenD _ _ _
theorem rename_lenD (d : DiskM) (k j : Key) : (dRename d k j).2.files.length ≤ d.files.length + 1 := by
 unfold dRename
 repeat' split
 all_goals first | (show d.files.length ≤ _; omega) | exact Nat.le_trans (length_fdel_le _ _) (fput_lenD _ _ _)
theorem remove_lenD (d : DiskM) (k : Key) : (dRemove d k).2.files.length ≤ d.files.length := by
 unfold dRemove
 repeat' split
 all_goals first | (show d.files.length ≤ _; omega) | exact length_fdel_le _ _
theorem Dk.append (h : Dk w p mb d N) (hN : N < 1000000) (k : Key) (hk : k.length ≤ 1000000) (A : Option Addr) (n c : Nat) (l : List UInt8) (hl : l.length = n) (hn : n ≤ 10000000) (hnc : n ≤ c) (hr : Reads w w.heap.size 1 A n (u8s l)) :
 Calls Tryz.prog 75 #[.pointer (some ⟨p, 0, none⟩), .string (St k), .slice A n c] w fun e w' => e = .returned (.int .i64 (dAppend d k l).1) ∧ Dk w' p mb (dAppend d k l).2 (N + 1) ∧ But p mb w w' :=
 (append_at h.disk h.wf (by have := h.few; omega) (St k) (by show k.length ≤ _; omega) A n c l hl hn hnc hr).mono fun e w' ⟨h1, h2, h3⟩ => ⟨h1, ⟨h2, h.wf.append k l, by have := append_lenD d k l; have := h.few; omega, h.ctx.but h3⟩, h3⟩
theorem Dk.sync (h : Dk w p mb d N) (hN : N < 1000000) (k : Key) (hk : k.length ≤ 1000000) :
 Calls Tryz.prog 76 #[.pointer (some ⟨p, 0, none⟩), .string (St k)] w fun e w' => e = .returned (.int .i64 (dSync d k).1) ∧ Dk w' p mb (dSync d k).2 (N + 1) ∧ But p mb w w' :=
 (sync_at h.disk h.wf (by have := h.few; omega) (St k) (by show k.length ≤ _; unfold maxLen; omega)).mono fun e w' ⟨h1, h2, h3⟩ => ⟨h1, ⟨h2, h.wf.sync k, by have := sync_lenD d k; have := h.few; omega, h.ctx.but h3⟩, h3⟩
theorem Dk.rename (h : Dk w p mb d N) (hN : N < 1000000) (k j : Key) (hk : k.length ≤ 1000000) (hj : j.length ≤ 1000000) :
 Calls Tryz.prog 77 #[.pointer (some ⟨p, 0, none⟩), .string (St k), .string (St j)] w fun e w' => e = .returned (.int .i64 (dRename d k j).1) ∧ Dk w' p mb (dRename d k j).2 (N + 1) ∧ But p mb w w' :=
 (rename_at h.disk h.wf (by have := h.few; omega) (St k) (St j) (by show k.length ≤ _; omega) (by show j.length ≤ _; omega)).mono fun e w' ⟨h1, h2, h3⟩ => ⟨h1, ⟨h2, h.wf.rename k j, by have := rename_lenD d k j; have := h.few; omega, h.ctx.but h3⟩, h3⟩
theorem Dk.remove (h : Dk w p mb d N) (k : Key) (hk : k.length ≤ 1000000) :
 Calls Tryz.prog 74 #[.pointer (some ⟨p, 0, none⟩), .string (St k)] w fun e w' => e = .returned (.int .i64 (dRemove d k).1) ∧ Dk w' p mb (dRemove d k).2 N ∧ But p mb w w' :=
 (remove_at h.disk h.wf (St k) (by show k.length ≤ _; unfold maxLen; omega)).mono fun e w' ⟨h1, h2, h3⟩ => ⟨h1, ⟨h2, h.wf.remove k, by have := remove_lenD d k; have := h.few; omega, h.ctx.but h3⟩, h3⟩
theorem Dk.read (h : Dk w p mb d N) (k : Key) (hk : k.length ≤ 1000000) :
 Calls Tryz.prog 29 #[.pointer (some ⟨p, 0, none⟩), .string (St k)] w fun e w' => ∃ A c, e = .returned (.tuple #[.slice A (dRead d k).1.length c, .int .i64 (dRead d k).2]) ∧ Reads w' w'.heap.size 1 A (dRead d k).1.length (u8s (dRead d k).1) ∧ (dRead d k).1.length ≤ c ∧ Below w.heap.size w w' :=
 read_atC h.disk h.wf (St k) (by show k.length ≤ _; unfold maxLen; omega)
theorem Dk.names (h : Dk w p mb d N) (hN : N < 1000000) :
 Calls Tryz.prog 78 #[.pointer (some ⟨p, 0, none⟩)] w fun e w' => ∃ A c, e = .returned (.slice A d.files.length c) ∧ Reads w' w'.heap.size 1 A d.files.length (keyCells d.files) ∧ Below w.heap.size w w' :=
 names_at h.disk (by have := h.few; omega)
theorem Dk.lost (h : Dk w p mb d N) :
 Calls Tryz.prog 81 #[.pointer (some ⟨p, 0, none⟩)] w fun e w' => e = .returned (.bool d.lost) ∧ Below w.heap.size w w' := by
 refine (lost_at p d.lost w ?_).mono fun e w' ⟨h1, h2⟩ => ⟨h1, h2 ▸ Below.refl _ _⟩
 exact h.cell.cell 3
/-- how big a file is that is read -/
theorem read_lenD (h : WFD d) (k : Key) : (dRead d k).1.length ≤ 4194304 := by
 have h1 := h.room
 have h2 := h.cap
 unfold dRead
 split
 ·exact Nat.zero_le _
 ·split
  ·exact Nat.zero_le _
  ·rename_i f hf
   have := used_get hf
   show f.b.length ≤ _
   omega
end
end Go.Proofs.YtkljkbeahdipfaaGreatDoor
/-
  A log in memory: what log.Read answers, and its bounds.
-/
namespace Go.Proofs.YtkljkbeahdipfaaGreatDoor
open Go.RowKit
theorem scanAt_len44 (b : List UInt8) : ∀ (f at_ torn : Nat) (l : List RecB), b.length - at_ ≤ f → (scanAt b at_ torn l).1.length * 44 ≤ l.length * 44 + (b.length - at_)
 | 0, at_, torn, l, h => by rw [scan_end (by omega)]; exact Nat.le_add_right _ _
 | f + 1, at_, torn, l, h => by
   rcases Nat.lt_or_ge at_ b.length with h1 | h1
   ·cases hh : headOk (b.drop at_) with
    | false =>
      rw [scan_next hh h1]
      have := scanAt_len44 b f (at_ + 1) torn l (by omega)
      omega
    | true =>
      rcases Nat.lt_or_ge b.length (hdLen (b.drop at_) + 44 + at_) with h2 | h2
      ·rw [scan_torn hh h2]
       exact Nat.le_add_right _ _
      ·rw [scan_rec hh h2]
       have h3 := scanAt_len44 b f (at_ + 44 + hdLen (b.drop at_)) (at_ + 44 + hdLen (b.drop at_)) (l ++ recsAt b at_) (by omega)
       have h4 : (recsAt b at_).length ≤ 1 := by
        unfold recsAt
        cases digest (payOf (b.drop at_)) == ((b.drop at_).drop 12).take 32 <;> simp
       rw [List.length_append] at h3
       omega
   ·rw [scan_end h1]; exact Nat.le_add_right _ _
theorem scan_len44 (b : List UInt8) : (scan b).1.length * 44 ≤ b.length := by
 have := scanAt_len44 b b.length 0 0 [] (by omega)
 unfold scan
 simpa using this
theorem notesR_len (l : List RecB) : (notesR l).length ≤ l.length := by
 induction l with
 | nil => exact Nat.le_refl _
 | cons r l ih =>
   unfold notesR at ih ⊢
   rw [List.flatMap_cons, List.length_append, List.length_cons]
   have : (bif decOk (r.kind : Int) r.b then [noteOf r.kind r.at_ r.b] else []).length ≤ 1 := by
    cases decOk (r.kind : Int) r.b
    ·exact Nat.zero_le _
    ·exact Nat.le_refl _
   omega
theorem liveN_mem {s : LogS} {n y : NoteB} (h : y ∈ (takeN s n).live) : y ∈ s.live ∨ y = n := by
 have h : y ∈ liveN s.live n := h
 unfold liveN at h
 cases h2 : n.k == 2
 ·cases h3 : n.k == 3
  ·rw [h2, h3] at h; exact .inl h
  ·rw [h2, h3] at h; exact .inl (List.mem_filter.1 h).1
 ·rw [h2] at h
  rcases List.mem_append.1 h with h | h
  ·exact .inl h
  ·exact .inr (List.mem_singleton.1 h)
/-- what notes one behind another say: its bounds -/
theorem takeAll_bd (l : List NoteB) : (takeAll l).live.length ≤ l.length ∧ (∀ y ∈ (takeAll l).live, y ∈ l) ∧ ((∀ y ∈ l, y.ep < 4294967296 ∧ y.u < 4294967296) → (takeAll l).ep < 4294967296 ∧ (takeAll l).nx < 4294967296) := by
 suffices H : ∀ (r : List NoteB), (takeAll r.reverse).live.length ≤ r.length ∧ (∀ y ∈ (takeAll r.reverse).live, y ∈ r) ∧ ((∀ y ∈ r, y.ep < 4294967296 ∧ y.u < 4294967296) → (takeAll r.reverse).ep < 4294967296 ∧ (takeAll r.reverse).nx < 4294967296) by
  have h := H l.reverse
  rw [List.reverse_reverse, List.length_reverse] at h
  exact ⟨h.1, fun y hy => List.mem_reverse.1 (h.2.1 y hy), fun hb => h.2.2 fun y hy => hb y (List.mem_reverse.1 hy)⟩
 intro r
 induction r with
 | nil => exact ⟨Nat.le_refl _, fun y hy => (by cases hy), fun _ => ⟨by decide, by decide⟩⟩
 | cons n r ih =>
   obtain ⟨h1, h2, h3⟩ := ih
   rw [List.reverse_cons, takeAll_snoc]
   refine ⟨?_, fun y hy => ?_, fun hb => ?_⟩
   ·have := live_len (takeAll r.reverse) n
    rw [List.length_cons]
    omega
   ·rcases liveN_mem hy with h | h
    ·exact List.mem_cons_of_mem _ (h2 y h)
    ·rw [h]; exact List.mem_cons_self
   ·obtain ⟨h4, h5⟩ := h3 fun y hy => hb y (List.mem_cons_of_mem _ hy)
    have h6 := hb n List.mem_cons_self
    have h7 : behindN n.u < 4294967296 := by unfold behindN; split <;> omega
    refine ⟨?_, ?_⟩
    ·show epN _ _ < _
     unfold epN
     split <;> omega
    ·show nxN _ _ < _
     unfold nxN
     repeat' split
     all_goals omega
theorem notesB_nm (b : List UInt8) : ∀ y ∈ notesB b, y.nm.size ≤ 60 := by
 intro x hx
 unfold notesB notesR at hx
 obtain ⟨r, _, hr⟩ := List.mem_flatMap.1 hx
 cases hd : decOk (r.kind : Int) r.b with
 | false => rw [hd] at hr; cases hr
 | true =>
   rw [hd, cond_true, List.mem_singleton] at hr
   subst hr
   unfold decOk at hd
   simp only [Bool.and_eq_true] at hd
   exact (formed_parts hd.2.1).2.1
theorem takeAll_nm (l : List NoteB) (h : ∀ y ∈ l, y.nm.size ≤ 60) : (takeAll l).nm.size ≤ 60 := by
 suffices H : ∀ (r : List NoteB), (∀ y ∈ r, y.nm.size ≤ 60) → (takeAll r.reverse).nm.size ≤ 60 by
  have h := H l.reverse fun y hy => h y (List.mem_reverse.1 hy)
  rwa [List.reverse_reverse] at h
 intro r
 induction r with
 | nil => intro _; decide
 | cons n r ih =>
   intro h
   rw [List.reverse_cons, takeAll_snoc]
   show (bif n.k == 3 then (takeAll r.reverse).nm else n.nm).size ≤ 60
   cases n.k == 3
   ·exact h n List.mem_cons_self
   ·exact ih fun y hy => h y (List.mem_cons_of_mem _ hy)
/-- a log in memory -/
structure LogAt (w : World) (v : Value) (l : LogT) : Prop where
 ex : ∃ A c L, v = .agg #[.string l.s.nm, .int .u32 (l.s.ep : Nat), .int .u32 (l.s.nx : Nat), .slice A L.length c, .int .i64 (l.torn : Nat), .bool (cleanS l.s)] ∧ RowR liveSh w A L ∧ L.map liveL = l.s.live.map noteL
 few : l.s.live.length ≤ 100000
 ep : l.s.ep < 4294967296
 nx : l.s.nx < 4294967296
 each : ∀ y ∈ l.s.live, y.o.length ≤ 20000 ∧ y.ep < 4294967296 ∧ y.u < 4294967296
 nm : l.s.nm.size ≤ 60
theorem LogAt.below {w w' : World} {v : Value} {l : LogT} (h : LogAt w v l) (hb : Below w.heap.size w w') : LogAt w' v l := by
 obtain ⟨A, c, L, e, hr, hl⟩ := h.ex
 exact ⟨⟨A, c, L, e, hr.below hb, hl⟩, h.few, h.ep, h.nx, h.each, h.nm⟩
theorem readL_bd {b : List UInt8} (hb : b.length ≤ 4194304) : (readL b).s.live.length ≤ 100000 ∧ (readL b).s.ep < 4294967296 ∧ (readL b).s.nx < 4294967296 ∧ ∀ y ∈ (readL b).s.live, y.o.length ≤ 20000 ∧ y.ep < 4294967296 ∧ y.u < 4294967296 := by
 obtain ⟨h1, h2, h3⟩ := takeAll_bd (notesB b)
 have h4 := notesR_len (scan b).1
 have h5 := scan_len44 b
 have h6 := h3 fun y hy => (notesB_small b y hy).2
 refine ⟨?_, h6.1, h6.2, fun y hy => notesB_small b y (h2 y hy)⟩
 show (takeAll (notesB b)).live.length ≤ _
 have h7 : (notesB b).length ≤ (scan b).1.length := h4
 omega
/-- log.Read, of what is no longer than a disk -/
theorem readL_any (A : Option Addr) (n c : Nat) (b : List UInt8) (hl : b.length = n) (hc : n ≤ c) (hn : n ≤ 4194304) (w : World) (he : EnvS w) (hr : Reads w w.heap.size 1 A n (u8s b)) :
 Calls Tryz.prog 59 #[.slice A n c] w fun ev w' => ∃ V, ev = .returned V ∧ LogAt w' V (readL b) ∧ Below w.heap.size w w' := by
 obtain ⟨h1, h2, h3, h4⟩ := readL_bd (b := b) (by omega)
 refine (read_any A n c b hl hc (by omega) w he.max he.big.2.2 he.tab hr).mono ?_
 rintro ev w' ⟨v, L, rfl, ho, hlv, hb⟩
 obtain ⟨A2, c2, rfl, hr2, _⟩ := ho.reads
 exact ⟨_, rfl, ⟨⟨A2, c2, L, rfl, hr2, hlv⟩, h1, h2, h3, h4, takeAll_nm _ (notesB_nm b)⟩, hb⟩
end Go.Proofs.YtkljkbeahdipfaaGreatDoor
/-
  New memory, under a guard that is known.
-/
namespace Go.Proofs.YtkljkbeahdipfaaGreatDoor
open Go Go.RowKit
/-- a call under a guard that is so -/
theorem wl_kcall {P : Program} {Q : Exit → Act → World → Prop} {a : Act} {w : World} {n : Nat} {Γ : Env} {l rest : List Oper} {o : Oper} {t gi gt : Nat} {b : Bool} {f : FuncId} {args : Array Value} {R : Ending → World → Prop} (hA : At n Γ a) (hg : o.guard = some (gi, b)) (hgd : (l[gi]?).bind (·.dst) = some gt) (hl : look Γ gt = some (.bool b)) (hd : o.dst = some t) (ht : t < n)
 (hrun : ∀ ev, EvIn Γ ev → (execOp ev o).run P w = .ok (.enter f args) w) (hc : Calls P f args w R)
 (hk : ∀ e w', R e w' → ∃ v, e = .returned v ∧ ∀ a', At n ((t, v) :: Γ) a' → wpList P l.toArray Q rest a' w') : wpList P l.toArray Q (o :: rest) a w := by
 have hw : Region.wanted o (yielded l.toArray a.tmps) = true := by
  rw [wanted_eq]
  exact wanted_bool (r := true) hg hgd (hA.evin.get gt hl) (by cases b <;> rfl)
 refine wpList_step fun K hK => ?_
 rw [hw, if_pos rfl]
 unfold Oper.wp
 rw [hrun _ hA.evin, Oper.upon_enter]
 refine Calls.mono hc fun e w' hR => ?_
 obtain ⟨v, rfl, h⟩ := hk e w' hR
 rw [hd]
 exact hK _ _ (h _ (hA.put ht v))
end Go.Proofs.YtkljkbeahdipfaaGreatDoor
/-
  Walks: rows of marks: the first of a UID, and are two rows of just the same UIDs? (store.uids)
-/
namespace Go.Proofs.YtkljkbeahdipfaaGreatDoor
open Go.RowKit
set_option linter.unusedSimpArgs false
set_option linter.unusedVariables false
set_option linter.unusedSimpArgs false
set_option linter.unusedVariables false
def mkSh : Sh MarkM := ⟨140, 120, 2, 16, .agg #[.int .u32 0, .int .i64 0], mcell, fun _ => [], fun _ => rfl, fun q u hu => by
 unfold mcell at hu
 simp only [List.mem_cons, List.not_mem_nil, or_false] at hu
 rcases hu with rfl | rfl <;> rfl, Tryz.underlying120, by kernel_rfl, rfl, by decide, by decide⟩
def enSh : Sh MarkM := ⟨203, 126, 2, 16, .agg #[.int .u32 0, .int .i64 0], mcell, fun _ => [], fun _ => rfl, fun q u hu => by
 unfold mcell at hu
 simp only [List.mem_cons, List.not_mem_nil, or_false] at hu
 rcases hu with rfl | rfl <;> rfl, Tryz.underlying126, by kernel_rfl, rfl, by decide, by decide⟩
/-- the first mark of a UID -/
def firstK (u : Nat) : List MarkM → Nat → Int
 | [], _ => -1
 | x :: r, j => bif x.1 == u then (j : Int) else firstK u r (j + 1)
theorem firstK_at {l : List MarkM} {j : Nat} {x : MarkM} (u : Nat) (hx : l[j]? = some x) : firstK u (l.drop j) j = bif x.1 == u then (j : Int) else firstK u (l.drop (j + 1)) (j + 1) := by
 have hj := (List.getElem?_eq_some_iff.1 hx).1
 rw [List.drop_eq_getElem_cons hj, (List.getElem?_eq_some_iff.1 hx).2]
 rfl
theorem firstK_spec (u : Nat) : ∀ (l : List MarkM) (j : Nat), (firstK u l j = -1 ∧ l.find? (fun m => m.1 == u) = none) ∨ ∃ k m, firstK u l j = ((j + k : Nat) : Int) ∧ l[k]? = some m ∧ l.find? (fun m => m.1 == u) = some m
 | [], j => .inl ⟨rfl, rfl⟩
 | x :: r, j => by
   unfold firstK
   rw [List.find?_cons]
   cases h : x.1 == u
   ·rw [cond_false]
    rcases firstK_spec u r (j + 1) with ⟨h1, h2⟩ | ⟨k, m, h1, h2, h3⟩
    ·exact .inl ⟨h1, h2⟩
    ·exact .inr ⟨k + 1, m, by rw [h1]; congr 1; omega, h2, h3⟩
   ·exact .inr ⟨0, x, rfl, rfl, rfl⟩
theorem nat_beqI (x y : Nat) : (((x : Nat) : Int) == ((y : Nat) : Int)) = (x == y) := by
 rw [Bool.eq_iff_iff]
 simp only [beq_iff_eq]
 omega
theorem pg1_any (q : MarkM) (u : Nat) (f : Int) (g : Nat) (w : World) (K : Blk w g 140 #[.int .u32 (u : Nat), .int .i64 f]) :
 Calls Tryz.prog 184 #[.agg #[.int .u32 (q.1 : Nat), .int .i64 q.2], .pointer (some ⟨g, 0, none⟩)] w fun ev w' => ev = .returned (.bool (q.1 == u)) ∧ Below w.heap.size w w' := by
 refine calls_at 9 Tryz.func184 rfl rfl (Nat.le_of_ble_eq_true rfl) ?_
 intro a hA; replace hA := hA.norm
 refine wS (wR ?_)
 refine wl_new hA rfl rfl (by decide) (fun ev h => by simp [go_sem, h.get 0 rfl]; try first | exact ⟨rfl, rfl⟩ | rfl) fun w1 a (K1 : Blk _ _ _ _) hz0 hb0 hA => ?_
 replace K := K.below hb0 K.lt
 revert a; refine wo rfl rfl (by decide) (fun ev e h => by simp [go_sem, h, K1.cell, K.cell] <;> rfl) ?_; intro a hA
 replace hA := hA.keepN [1, 2]
 refine wN (nT (wS (wR ?_)))
 revert a; (iterate 6 refine wo rfl rfl (by decide) (fun ev e h => by simp [go_sem, h, K1.cell, K.cell] <;> rfl) ?_); intro a hA
 replace hA := hA.keepN [3]
 refine wN (nT (wp_ret ?_))
 refine ret_1 hA 3 rfl rfl ?_
 exact ⟨ret_bool (nat_beqI _ _), hb0⟩
set_option maxRecDepth 100000 in
set_option maxHeartbeats 1000000 in
theorem idxK_any (A : Option Addr) (c u g : Nat) (f : Int) (l : List MarkM) (w : World) (hn : l.length ≤ 140737488355328) (hr : RowR mkSh w A l) (K : Blk w g 140 #[.int .u32 (u : Nat), .int .i64 f]) :
 Calls Tryz.prog 183 #[.slice A l.length c, .func (.func 184) #[] #[.pointer (some ⟨g, 0, none⟩)]] w fun ev w' => ev = .returned (.int .i64 (firstK u l 0)) ∧ Below w.heap.size w w' := by
 obtain ⟨n, hl⟩ : ∃ n, l.length = n := ⟨_, rfl⟩
 rw [hl] at hn ⊢
 have HB := Below.refl w.heap.size w
 refine calls_at 19 Tryz.func183 rfl rfl (Nat.le_of_ble_eq_true rfl) ?_
 intro a hA; replace hA := hA.norm
 refine wS (wR ?_)
 revert a; refine wo rfl rfl (by decide) (fun ev e h => by simp [go_sem, h] <;> rfl) ?_; intro a hA
 replace hA := hA.keepN [0, 1]
 refine wN (nT (wS (wS (wR ?_))))
 revert a; (iterate 3 refine wo rfl rfl (by decide) (fun ev e h => by simp [go_sem, h] <;> rfl) ?_); intro a hA
 replace hA := hA.keepN [0, 1, 7, 8]
 refine wN (nT (wB ?_))
 refine wp_loop_at (fun k a wx => ∃ (j : Nat), j + k = n ∧ At 19 [(0, .slice A n c), (1, .func (.func 184) #[] #[.pointer (some ⟨g, 0, none⟩)]), (7, .int .i64 (n : Nat)), (8, .int .i64 (j : Nat))] a ∧ firstK u l 0 = firstK u (l.drop j) j ∧ Below w.heap.size w wx) (n) ?_ ?_
 ·exact ⟨0, by omega, hA, rfl, HB⟩
 clear HB
 rintro k a wx ⟨j, hjk, hA, hall, HB⟩
 refine wS (wR ?_)
 revert a; refine wo rfl rfl (by decide) (fun ev e h => by simp [go_sem, h] <;> rfl) ?_; intro a hA
 replace hA := hA.keepN [0, 1, 7, 8, 9]
 refine wN (nT (wS ?_))
 refine wp_if hA 9 _ rfl (fun hq => ?yL) (fun hq => ?nL)
 case yL =>
  have hlt : j < n := by simp at hq; omega
  obtain ⟨x, hx⟩ : ∃ x, l[j]? = some x := ⟨_, List.getElem?_eq_getElem (by omega)⟩
  rw [firstK_at u hx] at hall
  obtain ⟨ad, rfl, hadl, k0, k1⟩ := (hr.below HB).cell hx
  have z0 : wx.cell? (ad.add (j * 2)) = some (.int .u32 (x.1 : Nat)) := k0 _ rfl
  have z1 : wx.cell? ⟨(ad.add (j * 2)).block, (ad.add (j * 2)).off + 1, none⟩ = some (.int .i64 x.2) := k1 1 _ (by decide) rfl
  have jj0 : (0 : Int) ≤ (j : Int) := by omega
  have jj1 : (j : Int) < (n : Int) := by omega
  have hwj : IntKind.i64.wrap ((j : Int) + 1) = (j : Int) + 1 := IntWalk.i64_in _ (by omega)
  refine wp_skip (nT (wS (wB (wS (wR ?_)))))
  revert a; (iterate 2 refine wo rfl rfl (by decide) (fun ev e h => by simp [go_sem, h, z0, z1, jj0, jj1, hwj, hlt] <;> rfl) ?_); intro a hA
  replace hA := hA.keepN [0, 1, 5, 7, 8]
  refine wN (nT (wS (wR ?_)))
  revert a; (iterate 5 refine wo rfl rfl (by decide) (fun ev e h => by simp [go_sem, h, z0, z1, jj0, jj1, hwj, hlt] <;> rfl) ?_); intro a hA
  refine wl_call hA rfl rfl (by decide) (fun ev h => by simp [go_sem, h.get 11 rfl, h.get 15 rfl, z0, z1, jj0, jj1, hwj, hlt]; try first | exact ⟨rfl, rfl⟩ | rfl) (pg1_any x u f g _ (K.below HB K.lt)) ?_
  rintro e w2 ⟨rfl, hb⟩
  refine ⟨_, rfl, fun a hA => ?_⟩
  replace HB := HB.trans (hb.mono HB.size)
  replace hA := hA.keepN [0, 1, 5, 7, 8, 16]
  refine wN (nT ?_)
  refine wp_if hA 16 _ rfl (fun hq2 => ?yR) (fun hq2 => ?nR)
  case yR =>
   rw [hq2, cond_true] at hall
   refine wS (wR ?_)
   revert a; (iterate 2 refine wo rfl rfl (by decide) (fun ev e h => by simp [go_sem, h, z0, z1, jj0, jj1, hwj, hlt] <;> rfl) ?_); intro a hA
   replace hA := hA.keepN [4]
   refine wN (nT (wp_ret (rB (rT (rT (rB (rT ?_)))))))
   refine ret_1 hA 4 rfl rfl ?_
   exact ⟨by rw [hall], HB⟩
  case nR =>
   rw [hq2, cond_false] at hall
   refine wp_skip (nB (nT (wR ?_)))
   revert a; (iterate 2 refine wo rfl rfl (by decide) (fun ev e h => by simp [go_sem, h, z0, z1, jj0, jj1, hwj, hlt] <;> rfl) ?_); intro a hA
   replace hA := hA.keepN [0, 1, 7, 8]
   refine wN (nT ?_)
   rw [show ((j : Int) + 1) = ((j + 1 : Nat) : Int) by omega] at hA
   exact ⟨k - 1, by omega, j + 1, by omega, hA, hall, HB⟩
 case nL =>
  have hjn : j = n := by simp at hq; omega
  subst hjn
  rw [List.drop_of_length_le (by omega)] at hall
  replace hA := hA.keepN []
  refine wp_exit (xT (xT (xB (nT (wS (wR ?_))))))
  revert a; refine wo rfl rfl (by decide) (fun ev e h => by simp [go_sem, h] <;> rfl) ?_; intro a hA
  replace hA := hA.keepN [4]
  refine wN (nT (wp_ret ?_))
  refine ret_1 hA 4 rfl rfl ?_
  exact ⟨by rw [hall]; rfl, HB⟩
/-- are two rows of just the same UIDs? -/
def sameK (l m : List MarkM) : Bool := l.map (·.1) == m.map (·.1)
theorem sameK_len {l m : List MarkM} (h : l.length ≠ m.length) : sameK l m = false := by
 unfold sameK
 rw [beq_eq_false_iff_ne]
 intro e
 have := congrArg List.length e
 simp at this
 exact h this
theorem sameK_at {l m : List MarkM} {j : Nat} {x y : MarkM} (hx : l[j]? = some x) (hy : m[j]? = some y) : sameK (l.drop j) (m.drop j) = (x.1 == y.1 && sameK (l.drop (j + 1)) (m.drop (j + 1))) := by
 have hj := (List.getElem?_eq_some_iff.1 hx).1
 have hj2 := (List.getElem?_eq_some_iff.1 hy).1
 unfold sameK
 rw [List.drop_eq_getElem_cons hj, (List.getElem?_eq_some_iff.1 hx).2, List.drop_eq_getElem_cons hj2, (List.getElem?_eq_some_iff.1 hy).2]
 rfl
theorem ui1_any (q p : MarkM) (w : World) :
 Calls Tryz.prog 135 #[.agg #[.int .u32 (q.1 : Nat), .int .i64 q.2], .agg #[.int .u32 (p.1 : Nat), .int .i64 p.2]] w fun ev w' => ev = .returned (.bool (q.1 == p.1)) ∧ Below w.heap.size w w' := by
 refine calls_at 10 Tryz.func135 rfl rfl (Nat.le_of_ble_eq_true rfl) ?_
 intro a hA; replace hA := hA.norm
 refine wS (wR ?_)
 refine wl_new hA rfl rfl (by decide) (fun ev h => by simp [go_sem, h.get 0 rfl]; try first | exact ⟨rfl, rfl⟩ | rfl) fun w1 a (K1 : Blk _ _ _ _) hz0 hb0 hA => ?_
 refine wl_new hA rfl rfl (by decide) (fun ev h => by simp [go_sem, h.get 1 rfl]; try first | exact ⟨rfl, rfl⟩ | rfl) fun w2 a (K2 : Blk _ _ _ _) hz2 hb2 hA => ?_
 replace K1 := K1.below hb2 K1.lt
 revert a; refine wo rfl rfl (by decide) (fun ev e h => by simp [go_sem, h, K1.cell, K2.cell] <;> rfl) ?_; intro a hA
 replace hA := hA.keepN [2, 3]
 refine wN (nT (wS (wR ?_)))
 revert a; (iterate 6 refine wo rfl rfl (by decide) (fun ev e h => by simp [go_sem, h, K1.cell, K2.cell] <;> rfl) ?_); intro a hA
 replace hA := hA.keepN [4]
 refine wN (nT (wp_ret ?_))
 refine ret_1 hA 4 rfl rfl ?_
 exact ⟨ret_bool (nat_beqI _ _), hb0.trans (hb2.mono hb0.size)⟩
set_option maxRecDepth 100000 in
set_option maxHeartbeats 2000000 in
theorem eqK_any (A A2 : Option Addr) (c c2 : Nat) (l l2 : List MarkM) (w : World) (hn : l.length ≤ 140737488355328) (hr : RowR enSh w A l) (hr2 : RowR mkSh w A2 l2) :
 Calls Tryz.prog 134 #[.slice A l.length c, .slice A2 l2.length c2, .func (.func 135) #[] #[]] w fun ev w' => ev = .returned (.bool (sameK l l2)) ∧ Below w.heap.size w w' := by
 obtain ⟨n, hl⟩ : ∃ n, l.length = n := ⟨_, rfl⟩
 obtain ⟨n2, hl2⟩ : ∃ n, l2.length = n := ⟨_, rfl⟩
 rw [hl] at hn ⊢
 rw [hl2]
 have HB := Below.refl w.heap.size w
 refine calls_at 32 Tryz.func134 rfl rfl (Nat.le_of_ble_eq_true rfl) ?_
 intro a hA; replace hA := hA.norm
 refine wS (wR ?_)
 revert a; refine wo rfl rfl (by decide) (fun ev e h => by simp [go_sem, h] <;> rfl) ?_; intro a hA
 replace hA := hA.keepN [0, 1, 2]
 refine wN (nT (wS (wS (wR ?_))))
 revert a; (iterate 5 refine wo rfl rfl (by decide) (fun ev e h => by simp [go_sem, h] <;> rfl) ?_); intro a hA
 replace hA := hA.keepN [0, 1, 2, 14]
 refine wN (nT ?_)
 refine wp_if hA 14 _ rfl (fun hq0 => ?yE) (fun hq0 => ?nE)
 case yE =>
  have hne : ¬ n = n2 := by simp at hq0; omega
  refine wS (wR ?_)
  revert a; refine wo rfl rfl (by decide) (fun ev e h => by simp [go_sem, h] <;> rfl) ?_; intro a hA
  replace hA := hA.keepN [6]
  refine wN (nT (wp_ret (rT ?_)))
  refine ret_1 hA 6 rfl rfl ?_
  exact ⟨ret_bool (sameK_len (by omega)).symm, HB⟩
 case nE =>
  obtain rfl : n = n2 := by simp at hq0; omega
  refine wp_skip (nT (wS (wS (wR ?_))))
  revert a; (iterate 3 refine wo rfl rfl (by decide) (fun ev e h => by simp [go_sem, h] <;> rfl) ?_); intro a hA
  replace hA := hA.keepN [1, 2, 15, 16, 17]
  refine wN (nT (wB ?_))
  refine wp_loop_at (fun k a wx => ∃ (j : Nat), j + k = n ∧ At 32 [(1, .slice A2 n c2), (2, .func (.func 135) #[] #[]), (15, .slice A n c), (16, .int .i64 (n : Nat)), (17, .int .i64 (j : Nat))] a ∧ sameK l l2 = sameK (l.drop j) (l2.drop j) ∧ Below w.heap.size w wx) (n) ?_ ?_
  ·exact ⟨0, by omega, hA, rfl, HB⟩
  clear HB
  rintro k a wx ⟨j, hjk, hA, hall, HB⟩
  refine wS (wR ?_)
  revert a; refine wo rfl rfl (by decide) (fun ev e h => by simp [go_sem, h] <;> rfl) ?_; intro a hA
  replace hA := hA.keepN [1, 2, 15, 16, 17, 18]
  refine wN (nT (wS ?_))
  refine wp_if hA 18 _ rfl (fun hq => ?yL) (fun hq => ?nL)
  case yL =>
   have hlt : j < n := by simp at hq; omega
   obtain ⟨x, hx⟩ : ∃ x, l[j]? = some x := ⟨_, List.getElem?_eq_getElem (by omega)⟩
   obtain ⟨y, hy⟩ : ∃ y, l2[j]? = some y := ⟨_, List.getElem?_eq_getElem (by omega)⟩
   rw [sameK_at hx hy] at hall
   obtain ⟨ad, rfl, hadl, k0, k1⟩ := (hr.below HB).cell hx
   have z0 : wx.cell? (ad.add (j * 2)) = some (.int .u32 (x.1 : Nat)) := k0 _ rfl
   have z1 : wx.cell? ⟨(ad.add (j * 2)).block, (ad.add (j * 2)).off + 1, none⟩ = some (.int .i64 x.2) := k1 1 _ (by decide) rfl
   have jj0 : (0 : Int) ≤ (j : Int) := by omega
   have jj1 : (j : Int) < (n : Int) := by omega
   have hwj : IntKind.i64.wrap ((j : Int) + 1) = (j : Int) + 1 := IntWalk.i64_in _ (by omega)
   refine wp_skip (nT (wS (wB (wS (wR ?_)))))
   revert a; (iterate 3 refine wo rfl rfl (by decide) (fun ev e h => by simp [go_sem, h, z0, z1, jj0, jj1, hwj, hlt] <;> rfl) ?_); intro a hA
   have hw0 := HB.size
   refine wl_new hA rfl rfl (by decide) (fun ev h => by simp [go_sem, z0, z1, jj0, jj1, hwj, hlt]; try first | exact ⟨rfl, rfl⟩ | rfl) fun w5 a (Kz : Blk _ _ _ _) hz5 hb5 hA => ?_
   replace HB := HB.trans (hb5.mono HB.size)
   revert a; refine wo rfl rfl (by decide) (fun ev e h => by simp [go_sem, h, z0, z1, jj0, jj1, hwj, hlt] <;> rfl) ?_; intro a hA
   refine wl_set [.int .u32 (x.1 : Nat), .int .i64 x.2] hA rfl rfl Kz (by rfl) (fun ev h => by simp [go_sem, h.get 8 rfl, h.get 21 rfl, z0, z1, jj0, jj1, hwj, hlt, setAll, Kz.cell, Kz.frozen]) fun w6 (Kz : Blk _ _ _ _) hs6 => ?_
   have HB6 := hs6.below HB hw0
   obtain ⟨ad2, rfl, hadl2, l0, l1⟩ := (hr2.below HB6).cell hy
   have y0 : w6.cell? (ad2.add (j * 2)) = some (.int .u32 (y.1 : Nat)) := l0 _ rfl
   have y1 : w6.cell? ⟨(ad2.add (j * 2)).block, (ad2.add (j * 2)).off + 1, none⟩ = some (.int .i64 y.2) := l1 1 _ (by decide) rfl
   replace hA := hA.keepN [1, 2, 7, 8, 15, 16, 17]
   refine wN (nT (wS (wR ?_)))
   revert a; (iterate 4 refine wo rfl rfl (by decide) (fun ev e h => by simp [go_sem, h, y0, y1, jj0, jj1, hlt] <;> rfl) ?_); intro a hA
   refine wl_local [.int .u32 (y.1 : Nat), .int .i64 y.2] hA rfl rfl (by decide) (fun ev h => by simp [go_sem, y0, y1, jj0, jj1, hlt]; try first | exact ⟨rfl, rfl⟩ | rfl) rfl rfl (by rfl) (fun w1 g ev hb h => by simp [go_sem, h.get 9 rfl, h.get 25 rfl, y0, y1, jj0, jj1, hlt, setAll, hb.cell, hb.frozen]) fun w7 a (Ky : Blk _ _ _ _) hz7 hb7 hA => ?_
   replace HB6 := HB6.trans (hb7.mono HB6.size)
   replace Kz := Kz.below hb7 Kz.lt
   replace hA := hA.keepN [1, 2, 8, 9, 15, 16, 17]
   refine wN (nT (wS (wR ?_)))
   revert a; (iterate 3 refine wo rfl rfl (by decide) (fun ev e h => by simp [go_sem, h, Kz.cell, Ky.cell, hwj] <;> rfl) ?_); intro a hA
   refine wl_call hA rfl rfl (by decide) (fun ev h => by simp [go_sem, h.get 26 rfl, h.get 27 rfl, h.get 28 rfl, Kz.cell, Ky.cell, hwj]; try first | exact ⟨rfl, rfl⟩ | rfl) (ui1_any x y _) ?_
   rintro e w8 ⟨rfl, hb8⟩
   refine ⟨_, rfl, fun a hA => ?_⟩
   replace HB6 := HB6.trans (hb8.mono HB6.size)
   revert a; refine wo rfl rfl (by decide) (fun ev e h => by simp [go_sem, h, Kz.cell, Ky.cell, hwj] <;> rfl) ?_; intro a hA
   replace hA := hA.keepN [1, 2, 15, 16, 17, 30]
   refine wN (nT ?_)
   refine wp_if hA 30 _ rfl (fun hq2 => ?yR) (fun hq2 => ?nR)
   case yR =>
    have hq2 : (x.1 == y.1) = false := by simpa using hq2
    rw [hq2, Bool.false_and] at hall
    refine wS (wR ?_)
    revert a; refine wo rfl rfl (by decide) (fun ev e h => by simp [go_sem, h, Kz.cell, Ky.cell, hwj] <;> rfl) ?_; intro a hA
    replace hA := hA.keepN [6]
    refine wN (nT (wp_ret (rB (rT (rT (rB (rT ?_)))))))
    refine ret_1 hA 6 rfl rfl ?_
    exact ⟨by rw [hall], HB6⟩
   case nR =>
    have hq2 : (x.1 == y.1) = true := by simpa using hq2
    rw [hq2, Bool.true_and] at hall
    refine wp_skip (nB (nT (wR ?_)))
    revert a; (iterate 2 refine wo rfl rfl (by decide) (fun ev e h => by simp [go_sem, h, hwj] <;> rfl) ?_); intro a hA
    replace hA := hA.keepN [1, 2, 15, 16, 17]
    refine wN (nT ?_)
    rw [show ((j : Int) + 1) = ((j + 1 : Nat) : Int) by omega] at hA
    exact ⟨k - 1, by omega, j + 1, by omega, hA, hall, HB6⟩
  case nL =>
   have hjn : j = n := by simp at hq; omega
   subst hjn
   rw [List.drop_of_length_le (by omega), List.drop_of_length_le (by omega)] at hall
   replace hA := hA.keepN []
   refine wp_exit (xT (xT (xB (nT (wS (wR ?_))))))
   revert a; refine wo rfl rfl (by decide) (fun ev e h => by simp [go_sem, h] <;> rfl) ?_; intro a hA
   replace hA := hA.keepN [6]
   refine wN (nT (wp_ret ?_))
   refine ret_1 hA 6 rfl rfl ?_
   exact ⟨by rw [hall]; rfl, HB⟩
set_option maxRecDepth 100000 in
theorem uids_any (nm : ByteArray) (e nx : Nat) (z : Int) (A A2 : Option Addr) (c c2 e2 : Nat) (l l2 : List MarkM) (w : World) (hn : l.length ≤ 140737488355328) (hr : RowR enSh w A l) (hr2 : RowR mkSh w A2 l2) :
 Calls Tryz.prog 69 #[.agg #[.string nm, .int .u32 (e : Nat), .int .u32 (nx : Nat), .int .i64 z, .slice A l.length c], .agg #[.int .u32 (e2 : Nat), .slice A2 l2.length c2]] w fun ev w' => ev = .returned (.bool (e == e2 && sameK l l2)) ∧ Below w.heap.size w w' := by
 have HB := Below.refl w.heap.size w
 refine calls_at 17 Tryz.func69 rfl rfl (Nat.le_of_ble_eq_true rfl) ?_
 intro a hA; replace hA := hA.norm
 refine wS (wR ?_)
 refine wl_new hA rfl rfl (by decide) (fun ev h => by simp [go_sem, h.get 0 rfl]; try first | exact ⟨rfl, rfl⟩ | rfl) fun w1 a (K1 : Blk _ _ _ _) hz1 hb1 hA => ?_
 refine wl_new hA rfl rfl (by decide) (fun ev h => by simp [go_sem, h.get 1 rfl]; try first | exact ⟨rfl, rfl⟩ | rfl) fun w2 a (K2 : Blk _ _ _ _) hz2 hb2 hA => ?_
 replace K1 := K1.below hb2 K1.lt
 have HB2 := hb1.trans (hb2.mono hb1.size)
 revert a; refine wo rfl rfl (by decide) (fun ev e h => by simp [go_sem, h, K1.cell, K2.cell] <;> rfl) ?_; intro a hA
 replace hA := hA.keepN [2, 3]
 refine wN (nT (wS (wR ?_)))
 revert a; (iterate 6 refine wo rfl rfl (by decide) (fun ev e h => by simp [go_sem, h, K1.cell, K2.cell] <;> rfl) ?_); (iterate 4 refine wg _ rfl rfl rfl rfl (by decide) (fun hq ev e h => by simp [go_sem, h, ↓gw_t (beq_t hq), K1.cell, K2.cell] <;> rfl) ?_); intro a hA
 replace hA := hA.keepN [10, 12, 14]
 refine wl_gcallv _ hA rfl rfl rfl rfl (by decide) (fun hq ev h => exec_call Tryz.func134 (by kernel_rfl) rfl (h.f _) (by first | (simp only [mL, ((h.get 12 rfl).trans (gw_t (beq_t hq))), ((h.get 14 rfl).trans (gw_t (beq_t hq))), h.c, h.f] <;> rfl) | (simp [mL, ((h.get 12 rfl).trans (gw_t (beq_t hq))), ((h.get 14 rfl).trans (gw_t (beq_t hq))), h.c, h.f, K1.cell, K2.cell] <;> rfl))) (fun hq => eqK_any A A2 c c2 l l2 _ hn (hr.below (hb1.trans (hb2.mono hb1.size))) (hr2.below (hb1.trans (hb2.mono hb1.size)))) fun a w3 hb3 hA => ?_
 replace HB2 := HB2.trans (hb3.mono HB2.size)
 revert a; refine wka rfl rfl (by decide) rfl rfl rfl ?_; refine wo rfl rfl (by decide) (fun ev e h => by simp [go_sem, h, K1.cell, K2.cell] <;> rfl) ?_; intro a hA
 replace hA := hA.keepN [4]
 refine wN (nT (wp_ret ?_))
 refine ret_1 hA 4 rfl rfl ?_
 exact ⟨ret_bool (by rw [nat_beqI]), HB2⟩
end Go.Proofs.YtkljkbeahdipfaaGreatDoor
/-
  Walks: store.file, store.Lay.
-/
namespace Go.Proofs.YtkljkbeahdipfaaGreatDoor
open Go.RowKit
set_option linter.unusedSimpArgs false
set_option linter.unusedVariables false
set_option linter.unusedSimpArgs false
set_option linter.unusedVariables false
theorem digits_two {n : Nat} (hn : n < 100) : (Lib.decDigits n).length ≤ 2 := by
 have : ∀ k : Fin 100, (Lib.decDigits k.1).length ≤ 2 := by decide +kernel
 exact this ⟨n, hn⟩
theorem fileK_len (kind : Key) {n : Nat} (hn : n < 100) : (fileK kind n).length ≤ kind.length + 3 := by
 have := digits_two hn
 unfold fileK
 simp only [List.length_append, List.length_cons, List.length_nil]
 omega
theorem itoaT_any (n : Nat) (hn : n < 100) (w : World) : Calls Tryz.prog 106 #[.int .i64 (n : Nat)] w fun ev w' => ev = .returned (.string (St (Lib.decDigits n))) ∧ Below w.heap.size w w' := by
 refine (Tryz.strconv_Itoa_small n hn w).mono ?_
 rintro e w' ⟨rfl, rfl⟩
 exact ⟨rfl, Below.refl _ _⟩
set_option maxRecDepth 100000 in
theorem file_any (kind : Key) (hk : kind.length ≤ 1000) (n : Nat) (hn : n < 100) (w : World) : Calls Tryz.prog 64 #[.string (St kind), .int .i64 (n : Nat)] w fun ev w' => ev = .returned (.string (St (fileK kind n))) ∧ Below w.heap.size w w' := by
 have hdl := digits_two hn
 obtain ⟨dg, hdg⟩ : ∃ x, Lib.decDigits n = x := ⟨_, rfl⟩
 have ka := st_app kind [46]
 have kb := st_app (kind ++ [46]) dg
 have kz : ¬ 9223372036854775807 < kind.length + 1 := by omega
 rw [hdg] at hdl
 have kz2 : ¬ 9223372036854775807 < kind.length + 1 + dg.length := by omega
 refine calls_at 10 Tryz.func64 rfl rfl (Nat.le_of_ble_eq_true rfl) ?_
 intro a hA; replace hA := hA.norm
 refine wS (wR ?_)
 revert a; refine wo rfl rfl (by decide) (fun ev e h => by simp [go_sem, h, ka, kz] <;> rfl) ?_; intro a hA
 replace hA := hA.keepN [0, 1]
 refine wN (nT (wS (wR ?_)))
 revert a; (iterate 3 refine wo rfl rfl (by decide) (fun ev e h => by simp [go_sem, h, ka, kz] <;> rfl) ?_); intro a hA
 refine wl_call hA rfl rfl (by decide) (fun ev h => exec_call Tryz.func106 (by kernel_rfl) rfl (h.f _) (by first | (simp only [mL, h.get 7 rfl, h.c] <;> rfl) | (simp [mL, h.get 7 rfl, h.c, ka, kz] <;> rfl))) (itoaT_any n hn w) ?_
 rintro e w1 ⟨rfl, hb1⟩
 refine ⟨_, rfl, fun a hA => ?_⟩
 rw [hdg] at hA
 revert a; (iterate 2 refine wo rfl rfl (by decide) (fun ev e h => by simp [go_sem, h, kb, kz2] <;> rfl) ?_); intro a hA
 replace hA := hA.keepN [4]
 refine wN (nT (wp_ret ?_))
 refine ret_1 hA 4 rfl rfl ?_
 exact ⟨by unfold fileK; rw [hdg]; simp, hb1⟩
set_option maxRecDepth 100000 in
set_option maxHeartbeats 4000000 in
theorem lay_at {w : World} {p mb N : Nat} {d : DiskM} (h : Dk w p mb d N) (hN : N < 900000) (k : Key) (hk : k.length ≤ 1000000) (A : Option Addr) (n c : Nat) (b : List UInt8) (hl : b.length = n) (hn : n ≤ 10000000) (hnc : n ≤ c) (hr : Reads w w.heap.size 1 A n (u8s b)) :
 Calls Tryz.prog 26 #[.pointer (some ⟨p, 0, none⟩), .string (St k), .slice A n c] w fun ev w' => ev = .returned (.int .i64 (layD d k b).1) ∧ Dk w' p mb (layD d k b).2 (N + 3) ∧ But p mb w w' := by
 refine calls_at 35 Tryz.func26 rfl rfl (Nat.le_of_ble_eq_true rfl) ?_
 intro a hA; replace hA := hA.norm
 refine wS (wR ?_)
 revert a; refine wo rfl rfl (by decide) (fun ev e h => by simp [go_sem, h] <;> rfl) ?_; intro a hA
 replace hA := hA.keepN [0, 1, 2]
 refine wN (nT (wS (wS (wR ?_))))
 revert a; (iterate 2 refine wo rfl rfl (by decide) (fun ev e h => by simp [go_sem, h] <;> rfl) ?_); intro a hA
 replace hA := hA.keepN [0, 1, 2, 11]
 refine wN (nT ?_)
 refine wp_if hA 11 _ rfl (fun hq => ?yA) (fun hq => ?nA)
 case yA => cases hq
 case nA =>
  refine wp_skip (nT (wS (wS (wR ?_))))
  revert a; refine wo rfl rfl (by decide) (fun ev e h => by simp [go_sem, h] <;> rfl) ?_; intro a hA
  refine wl_call hA rfl rfl (by decide) (fun ev h => exec_call Tryz.func74 (by kernel_rfl) rfl (h.f _) (by first | (simp only [mL, h.get 12 rfl, h.c] <;> rfl) | (simp [mL, h.get 12 rfl, h.c] <;> rfl))) (h.remove kNew (by decide)) ?_
  rintro e w1 ⟨rfl, h1, hb1⟩
  refine ⟨_, rfl, fun a hA => ?_⟩
  have hr1 := h.reads hb1 hr
  obtain ⟨e1, he1⟩ : ∃ x, (dRemove d kNew).1 = x := ⟨_, rfl⟩
  obtain ⟨d1, hd1⟩ : ∃ x, (dRemove d kNew).2 = x := ⟨_, rfl⟩
  rw [he1] at hA
  rw [hd1] at h1
  revert a; refine wo rfl rfl (by decide) (fun ev e h => by simp [go_sem, h] <;> rfl) ?_; intro a hA
  replace hA := hA.keepN [0, 1, 2, 7]
  refine wN (nT (wS (wR ?_)))
  revert a; (iterate 3 refine wo rfl rfl (by decide) (fun ev e h => by simp [go_sem, h] <;> rfl) ?_); (iterate 2 refine wg _ rfl rfl rfl rfl (by decide) (fun hq ev e h => by simp [go_sem, h, ↓gw_t (beq_t hq)] <;> rfl) ?_); refine wka rfl rfl (by decide) rfl rfl rfl ?_; intro a hA
  replace hA := hA.keepN [0, 1, 2, 7, 19]
  refine wN (nT ?_)
  refine wp_if hA 19 _ rfl (fun hq1 => ?yB) (fun hq1 => ?nB)
  case yB =>
   have hh : ¬ e1 = 0 ∧ ¬ e1 = 7 := by simpa using hq1
   refine wS (wR ?_)
   revert a; (iterate 2 refine wo rfl rfl (by decide) (fun ev e h => by simp [go_sem, h] <;> rfl) ?_); intro a hA
   replace hA := hA.keepN [6]
   refine wN (nT (wp_ret (rT ?_)))
   refine ret_1 hA 6 rfl rfl ?_
   rw [lay_stop (by rw [he1]; exact hh.1) (by rw [he1]; exact hh.2), he1, hd1]
   exact ⟨rfl, h1.more (by omega), hb1⟩
  case nB =>
   have hh : e1 = 0 ∨ e1 = 7 := by
    by_cases h0 : e1 = 0
    ·exact .inl h0
    ·exact .inr (by simpa [h0] using hq1)
   rw [lay_go (by rw [he1]; exact hh), hd1]
   refine wp_skip (nT (wS (wS (wR ?_))))
   revert a; (iterate 2 refine wo rfl rfl (by decide) (fun ev e h => by simp [go_sem, h] <;> rfl) ?_); intro a hA
   refine wl_call hA rfl rfl (by decide) (fun ev h => exec_call Tryz.func75 (by kernel_rfl) rfl (h.f _) (by first | (simp only [mL, h.get 21 rfl, h.get 22 rfl, h.c] <;> rfl) | (simp [mL, h.get 21 rfl, h.get 22 rfl, h.c] <;> rfl))) (h1.append (by omega) kNew (by decide) A n c b hl hn hnc hr1) ?_
   rintro e w2 ⟨rfl, h2, hb2⟩
   refine ⟨_, rfl, fun a hA => ?_⟩
   obtain ⟨r2, hr2⟩ : ∃ x, dAppend d1 kNew b = x := ⟨_, rfl⟩
   obtain ⟨e2, d2⟩ := r2
   rw [hr2] at hA h2 ⊢
   simp only at h2
   revert a; refine wo rfl rfl (by decide) (fun ev e h => by simp [go_sem, h] <;> rfl) ?_; intro a hA
   replace hA := hA.keepN [0, 1, 8]
   refine wN (nT (wS (wR ?_)))
   revert a; (iterate 2 refine wo rfl rfl (by decide) (fun ev e h => by simp [go_sem, h] <;> rfl) ?_); intro a hA
   replace hA := hA.keepN [0, 1, 8, 25]
   refine wN (nT ?_)
   refine wp_if hA 25 _ rfl (fun hq2 => ?yC) (fun hq2 => ?nC)
   case yC =>
    have hh2 : ¬ e2 = 0 := by simpa using hq2
    refine wS (wR ?_)
    revert a; (iterate 2 refine wo rfl rfl (by decide) (fun ev e h => by simp [go_sem, h] <;> rfl) ?_); intro a hA
    replace hA := hA.keepN [6]
    refine wN (nT (wp_ret (rT ?_)))
    refine ret_1 hA 6 rfl rfl ?_
    rw [then_stop hh2]
    exact ⟨rfl, h2.more (by omega), hb1.trans hb2⟩
   case nC =>
    have hh2 : e2 = 0 := by simpa using hq2
    rw [then_go hh2]
    refine wp_skip (nT (wS (wS (wR ?_))))
    revert a; refine wo rfl rfl (by decide) (fun ev e h => by simp [go_sem, h] <;> rfl) ?_; intro a hA
    refine wl_call hA rfl rfl (by decide) (fun ev h => exec_call Tryz.func76 (by kernel_rfl) rfl (h.f _) (by first | (simp only [mL, h.get 27 rfl, h.c] <;> rfl) | (simp [mL, h.get 27 rfl, h.c] <;> rfl))) (h2.sync (by omega) kNew (by decide)) ?_
    rintro e w3 ⟨rfl, h3, hb3⟩
    refine ⟨_, rfl, fun a hA => ?_⟩
    obtain ⟨r3, hr3⟩ : ∃ x, dSync d2 kNew = x := ⟨_, rfl⟩
    obtain ⟨e3, d3⟩ := r3
    rw [hr3] at hA h3 ⊢
    simp only at h3
    revert a; refine wo rfl rfl (by decide) (fun ev e h => by simp [go_sem, h] <;> rfl) ?_; intro a hA
    replace hA := hA.keepN [0, 1, 9]
    refine wN (nT (wS (wR ?_)))
    revert a; (iterate 2 refine wo rfl rfl (by decide) (fun ev e h => by simp [go_sem, h] <;> rfl) ?_); intro a hA
    replace hA := hA.keepN [0, 1, 9, 30]
    refine wN (nT ?_)
    refine wp_if hA 30 _ rfl (fun hq3 => ?yD) (fun hq3 => ?nD)
    case yD =>
     have hh3 : ¬ e3 = 0 := by simpa using hq3
     refine wS (wR ?_)
     revert a; (iterate 2 refine wo rfl rfl (by decide) (fun ev e h => by simp [go_sem, h] <;> rfl) ?_); intro a hA
     replace hA := hA.keepN [6]
     refine wN (nT (wp_ret (rT ?_)))
     refine ret_1 hA 6 rfl rfl ?_
     rw [then_stop hh3]
     exact ⟨rfl, h3.more (by omega), (hb1.trans hb2).trans hb3⟩
    case nD =>
     have hh3 : e3 = 0 := by simpa using hq3
     rw [then_go hh3]
     refine wp_skip (nT (wS (wR ?_)))
     revert a; (iterate 2 refine wo rfl rfl (by decide) (fun ev e h => by simp [go_sem, h] <;> rfl) ?_); intro a hA
     refine wl_call hA rfl rfl (by decide) (fun ev h => exec_call Tryz.func77 (by kernel_rfl) rfl (h.f _) (by first | (simp only [mL, h.get 32 rfl, h.get 33 rfl, h.c] <;> rfl) | (simp [mL, h.get 32 rfl, h.get 33 rfl, h.c] <;> rfl))) (h3.rename (by omega) kNew k (by decide) hk) ?_
     rintro e w4 ⟨rfl, h4, hb4⟩
     refine ⟨_, rfl, fun a hA => ?_⟩
     revert a; refine wo rfl rfl (by decide) (fun ev e h => by simp [go_sem, h] <;> rfl) ?_; intro a hA
     replace hA := hA.keepN [6]
     refine wN (nT (wp_ret ?_))
     refine ret_1 hA 6 rfl rfl ?_
     exact ⟨rfl, h4, ((hb1.trans hb2).trans hb3).trans hb4⟩
end Go.Proofs.YtkljkbeahdipfaaGreatDoor
/-
  Walks: index.Of of a log in memory; store.pages, store.Pages.
-/
namespace Go.Proofs.YtkljkbeahdipfaaGreatDoor
open Go.RowKit
set_option linter.unusedSimpArgs false
set_option linter.unusedVariables false
set_option linter.unusedSimpArgs false
set_option linter.unusedVariables false
theorem own_cast {M K : Type} {s : Sh M} {t : Sh K} {B : Nat} {w : World} {v : Value} {l : List M} {m : List K} (h : OwnR s B w v l) (hT : s.T = t.T) (hk : s.k = t.k) (hl : l.length = m.length) (hf : l.flatMap s.f = m.flatMap t.f) (hp : ∀ x ∈ m, t.parts x = []) : OwnR t B w v m := by
 refine ⟨?_, fun x hx p hp' => (by rw [hp x hx] at hp'; cases hp'), fun _ _ x hx p hp' => (by rw [hp x hx] at hp'; cases hp')⟩
 have := h.row
 rw [hT, hk, hl, hf] at this
 exact this
theorem live_ent {L : List LiveV} {N : List NoteB} (h : L.map liveL = N.map noteL) : L.map (fun x => ((x.m.uid, ((x.at_ : Nat) : Int)) : MarkM)) = N.map entN ∧ L.map markV = N.map mrkN := by
 have h1 := congrArg (List.map fun q : Nat × Nat × Int × Int × List UInt8 × Nat => ((q.2.1, ((q.2.2.2.2.2 : Nat) : Int)) : MarkM)) h
 have h2 := congrArg (List.map fun q : Nat × Nat × Int × Int × List UInt8 × Nat => ((q.2.1, q.2.2.2.1) : MarkM)) h
 rw [List.map_map, List.map_map] at h1 h2
 exact ⟨h1, h2⟩
/-- index.Of -/
theorem ofL_any {V : Value} {l : LogT} {w : World} (h : LogAt w V l) : Calls Tryz.prog 65 #[V] w fun ev w' => ∃ v u, ev = .returned (.tuple #[.agg #[.string (idxL l).nm, .int .u32 ((idxL l).e : Nat), .int .u32 ((idxL l).nx : Nat), .int .i64 (idxL l).u, v], .agg #[.int .u32 ((flgL l).1 : Nat), u]]) ∧ OwnR enSh w.heap.size w' v (idxL l).l ∧ OwnR mkSh w.heap.size w' u (flgL l).2 ∧ Below w.heap.size w w' := by
 obtain ⟨A, c, L, rfl, hr, hlv⟩ := h.ex
 have hLl : L.length = l.s.live.length := by have := congrArg List.length hlv; rw [List.length_map, List.length_map] at this; exact this
 have hfew := h.few
 refine (idxOf_any l.s.nm l.s.ep l.s.nx (l.torn : Nat) (cleanS l.s) A c L.length L w (by omega) rfl hr).mono ?_
 rintro ev w' ⟨h1, h2, hb⟩
 obtain ⟨e1, e2⟩ := live_ent hlv
 unfold idxL flgL
 cases hno : noIdx (cleanS l.s) l.s.nm with
 | true =>
   rw [cond_true, cond_true]
   exact ⟨_, _, h1 hno, OwnR.nil _ _, OwnR.nil _ _, hb⟩
 | false =>
   rw [cond_false, cond_false]
   obtain ⟨v, u, he, ho1, ho2⟩ := h2 hno
   refine ⟨v, u, he, own_cast ho1 rfl rfl ?_ ?_ fun _ _ => rfl, own_cast ho2 rfl rfl ?_ ?_ fun _ _ => rfl, hb⟩
   ·rw [List.length_map, List.length_map, hLl]
   ·show _ = (l.s.live.map entN).flatMap mcell
    rw [← e1, List.flatMap_map, List.flatMap_map]
    rfl
   ·rw [List.length_map, List.length_map, hLl]
   ·show _ = (l.s.live.map mrkN).flatMap mcell
    rw [← e2]
    rfl
theorem idxL_bd {l : LogT} (hf : l.s.live.length ≤ 100000) (he : l.s.ep < 4294967296) (hx : l.s.nx < 4294967296) (hy : ∀ y ∈ l.s.live, y.u < 4294967296) : (idxL l).e < 4294967296 ∧ (idxL l).nx < 4294967296 ∧ (idxL l).l.length ≤ 100000 ∧ (∀ q ∈ (idxL l).l, q.1 < 4294967296) ∧ (flgL l).1 < 4294967296 ∧ (flgL l).2.length ≤ 100000 ∧ ∀ q ∈ (flgL l).2, q.1 < 4294967296 := by
 unfold idxL flgL
 cases noIdx (cleanS l.s) l.s.nm with
 | true => exact ⟨(by show 0 < _; omega), (by show 0 < _; omega), Nat.zero_le _, fun q hq => (by cases hq), (by show 0 < _; omega), Nat.zero_le _, fun q hq => (by cases hq)⟩
 | false =>
   refine ⟨he, hx, ?_, fun q hq => ?_, he, ?_, fun q hq => ?_⟩
   ·show (l.s.live.map entN).length ≤ _
    rw [List.length_map]; exact hf
   ·obtain ⟨y, hm, rfl⟩ := List.mem_map.1 (show q ∈ l.s.live.map entN from hq)
    exact hy y hm
   ·show (l.s.live.map mrkN).length ≤ _
    rw [List.length_map]; exact hf
   ·obtain ⟨y, hm, rfl⟩ := List.mem_map.1 (show q ∈ l.s.live.map mrkN from hq)
    exact hy y hm
theorem setF_uid (ms : List MarkM) (q : MarkM) : (setF ms q).1 = q.1 := by
 unfold setF
 split <;> rfl
theorem setF_none {ms : List MarkM} {q : MarkM} (h : ms.find? (fun m => m.1 == q.1) = none) : setF ms q = q := by
 unfold setF
 rw [h]
theorem setF_some {ms : List MarkM} {q m : MarkM} (h : ms.find? (fun m => m.1 == q.1) = some m) : setF ms q = (q.1, m.2) := by
 unfold setF
 rw [h]
theorem take_drop_step {α : Type} {l : List α} {j : Nat} {x : α} (f : α → α) (hx : l[j]? = some x) : (l.take j).map f ++ l.drop j = ((l.take j).map f ++ (x :: l.drop (j + 1))) ∧ (l.take (j + 1)).map f ++ l.drop (j + 1) = (l.take j).map f ++ (f x :: l.drop (j + 1)) := by
 have hj := (List.getElem?_eq_some_iff.1 hx).1
 have he := (List.getElem?_eq_some_iff.1 hx).2
 refine ⟨by rw [List.drop_eq_getElem_cons hj, he], ?_⟩
 rw [List.take_add_one, hx, List.map_append]
 simp
theorem mid_get {α : Type} {l : List α} {j : Nat} {x : α} (f : α → α) (hx : l[j]? = some x) : ((l.take j).map f ++ l.drop j)[j]? = some x ∧ ((l.take j).map f ++ l.drop j).set j (f x) = (l.take (j + 1)).map f ++ l.drop (j + 1) := by
 have hj := (List.getElem?_eq_some_iff.1 hx).1
 obtain ⟨h1, h2⟩ := take_drop_step f hx
 have hl : ((l.take j).map f).length = j := by rw [List.length_map, List.length_take]; omega
 rw [h2, h1]
 refine ⟨?_, ?_⟩
 ·rw [List.getElem?_append_right (by omega), hl, Nat.sub_self]; rfl
 ·rw [List.set_append_right _ _ (by omega), hl, Nat.sub_self]; rfl
theorem fileK_small {kind : Key} {n : Nat} (hk : kind.length ≤ 10) (hn : n < 100) : (fileK kind n).length ≤ 1000000 := by
 have := fileK_len kind hn
 omega
theorem own8_cap {B : Nat} {w : World} {v : Value} {l : List UInt8} (h : Own8 B w v l) : ∃ A c, v = .slice A l.length c ∧ Reads w w.heap.size 1 A l.length (u8s l) ∧ l.length ≤ c := by
 obtain ⟨A, c, rfl, hr⟩ := own8_reads h
 refine ⟨A, c, rfl, hr, ?_⟩
 rcases h.2 with ⟨h1, h2⟩ | ⟨g, cap, cur, hv, -, -, hn, -⟩
 ·have : l.length = 0 := by simpa using h2
  omega
 ·injection hv with _ _ hc
  omega
theorem pageB_len (k : Nat) (p : List UInt8) : (pageB k p).length = p.length + 12 := by
 unfold pageB pageHead
 simp only [List.length_append, be_length, List.length_cons, List.length_nil]
 omega
theorem pagesL_len (l : LogT) (ms : List MarkM) : (pagesL l ms).b.length ≤ 1000000 ∧ (pagesL l ms).c.length ≤ 1000000 := by
 have h1 : ∀ (e : Nat) (m : List MarkM), (flagsPage e m).length ≤ 1000000 := fun e m => by
  unfold flagsPage
  split
  ·rename_i h
   unfold rightFlagsV at h
   simp only [Bool.and_eq_true, decide_eq_true_eq] at h
   rw [pageB_len]
   unfold flagsB
   have hm : (m.flatMap markB).length ≤ 5 * m.length := by
    clear h
    induction m with
    | nil => exact Nat.zero_le _
    | cons x r ih =>
      rw [List.flatMap_cons, List.length_append, List.length_cons]
      have : (markB x).length = 5 := by unfold markB; simp [be_length]
      omega
   simp only [List.length_append, be_length]
   omega
  ·exact Nat.zero_le _
 have h2 : ∀ x : IdxT, x.page.length ≤ 1000000 := fun x => by
  unfold IdxT.page idxPage
  split
  ·rename_i h
   unfold rightIndexV at h
   simp only [Bool.and_eq_true, decide_eq_true_eq] at h
   have hn := nameIs_size h.1.1.1.1.1.2
   rw [pageB_len]
   unfold indexB textB
   have hm : (x.l.flatMap entB).length ≤ 8 * x.l.length := by
    clear h
    induction x.l with
    | nil => exact Nat.zero_le _
    | cons y r ih =>
      rw [List.flatMap_cons, List.length_append, List.length_cons]
      have : (entB y).length = 8 := by unfold entB; simp [be_length]
      omega
   have hsz : x.nm.data.toList.length = x.nm.size := rfl
   simp only [List.length_append, be_length, List.flatMap_cons, List.flatMap_nil, List.length_nil]
   omega
  ·exact Nat.zero_le _
 unfold pagesL
 split
 ·exact ⟨h1 _ _, h2 _⟩
 ·exact ⟨Nat.zero_le _, Nat.zero_le _⟩
set_option maxRecDepth 100000 in
set_option maxHeartbeats 8000000 in
theorem pages_any {V : Value} {l : LogT} (A2 : Option Addr) (c2 : Nat) (ms : List MarkM) (w : World) (h : LogAt w V l) (he : EnvS w) (hms : RowR mkSh w A2 ms) (hml : ms.length ≤ 1000000) :
 Calls Tryz.prog 126 #[V, .slice A2 ms.length c2] w fun ev w' => ∃ b c, ev = .returned (.tuple #[b, c, .int .i64 (pagesL l ms).e]) ∧ Own8 w.heap.size w' b (pagesL l ms).b ∧ Own8 w.heap.size w' c (pagesL l ms).c ∧ Below w.heap.size w w' := by
 have HB := Below.refl w.heap.size w
 have h0 := h
 obtain ⟨A, c, L, rfl, hr, hlv⟩ := h.ex
 obtain ⟨b1, b2, b3, b4, b5, b6, b7⟩ := idxL_bd h.few h.ep h.nx fun y hy => (h.each y hy).2.2
 obtain ⟨q2, hq2⟩ : ∃ q, ms.length = q := ⟨_, rfl⟩
 rw [hq2]
 refine calls_at 60 Tryz.func126 rfl rfl (Nat.le_of_ble_eq_true rfl) ?_
 intro a hA; replace hA := hA.norm
 refine wS (wR ?_)
 refine wl_new hA rfl rfl (by decide) (fun ev h => by simp [go_sem, h.get 0 rfl]; try first | exact ⟨rfl, rfl⟩ | rfl) fun w1 a (K1 : Blk _ _ _ _) hz1 hb1 hA => ?_
 replace HB := HB.trans (hb1.mono HB.size)
 revert a; (iterate 3 refine wo rfl rfl (by decide) (fun ev e h => by simp [go_sem, h, K1.cell] <;> rfl) ?_); intro a hA
 replace hA := hA.keepN [1, 2]
 refine wN (nT (wS (wR ?_)))
 revert a; refine wo rfl rfl (by decide) (fun ev e h => by simp [go_sem, h, K1.cell] <;> rfl) ?_; intro a hA
 refine wl_call hA rfl rfl (by decide) (fun ev h => exec_call Tryz.func65 (by kernel_rfl) rfl (h.f _) (by first | (simp only [mL, h.get 16 rfl, h.c] <;> rfl) | (simp [mL, h.get 16 rfl, h.c, K1.cell] <;> rfl))) (ofL_any (h0.below HB)) ?_
 rintro e w2 ⟨v, u, rfl, hov, hou, hb2⟩
 refine ⟨_, rfl, fun a hA => ?_⟩
 replace HB := HB.trans (hb2.mono HB.size)
 revert a; (iterate 3 refine wo rfl rfl (by decide) (fun ev e h => by simp [go_sem, h, K1.cell] <;> rfl) ?_); intro a hA
 refine wl_new hA rfl rfl (by decide) (fun ev h => by simp [go_sem, K1.cell]; try first | exact ⟨rfl, rfl⟩ | rfl) fun w3 a (K3 : Blk _ _ _ _) hz3 hb3 hA => ?_
 refine wl_new hA rfl rfl (by decide) (fun ev h => by simp [go_sem, K1.cell]; try first | exact ⟨rfl, rfl⟩ | rfl) fun w4 a (K4 : Blk _ _ _ _) hz4 hb4 hA => ?_
 replace K3 := K3.below hb4 K3.lt
 have hxnm : (idxL l).nm.size ≤ 60 := by
  unfold idxL
  cases noIdx (cleanS l.s) l.s.nm with
  | true => exact Nat.zero_le _
  | false => exact h0.nm
 replace hov := (hov.below hb3).below hb4
 replace hou := (hou.below hb3).below hb4
 replace HB := (HB.trans (hb3.mono HB.size)).trans (hb4.mono (HB.trans (hb3.mono HB.size)).size)
 have hpl : pagesL l ms = if flagsErr (flgL l).1 ((flgL l).2.map (setF ms)) = 0 then ⟨flagsPage (flgL l).1 ((flgL l).2.map (setF ms)), (idxL l).page, (idxL l).err⟩ else ⟨[], [], flagsErr (flgL l).1 ((flgL l).2.map (setF ms))⟩ := rfl
 obtain ⟨Av, cv, rfl, -, -⟩ := hov.reads
 obtain ⟨Au, cu, rfl, -, -⟩ := hou.reads
 obtain ⟨X, hX⟩ : ∃ X, idxL l = X := ⟨_, rfl⟩
 obtain ⟨F, hF⟩ : ∃ F, flgL l = F := ⟨_, rfl⟩
 rw [hX] at hov hxnm b1 b2 b3 b4 hpl hA
 rw [hF] at hou b5 b6 b7 hpl hA
 obtain ⟨nx9, hnx⟩ : ∃ n, X.l.length = n := ⟨_, rfl⟩
 obtain ⟨nf, hnf⟩ : ∃ n, F.2.length = n := ⟨_, rfl⟩
 rw [hnx] at hA hov
 rw [hnf] at hA hou
 have hk78 : w2.heap.size < w3.heap.size := by omega
 have hw2 : w.heap.size ≤ w2.heap.size := by have := hb1.size; have := hb2.size; omega
 have K30 := K3
 refine wl_set [.string X.nm, .int .u32 (X.e : Nat), .int .u32 (X.nx : Nat), .int .i64 X.u, .slice Av nx9 cv] hA rfl rfl K3 (by rfl) (fun ev h => by simp [go_sem, h.get 7 rfl, h.get 18 rfl, K1.cell, setAll, K3.cell, K3.frozen]) fun w5 (K3 : Blk _ _ _ _) hs5 => ?_
 replace hov := hov.onlyK hs5 K30 (by decide) rfl
 replace hou := hou.onlyK hs5 K30 (by decide) rfl
 replace K4 := hs5.blk K4 (by omega)
 replace HB := hs5.below HB hw2
 have K40 := K4
 refine wl_set [.int .u32 (F.1 : Nat), .slice Au nf cu] hA rfl rfl K4 (by rfl) (fun ev h => by simp [go_sem, h.get 8 rfl, h.get 19 rfl, K1.cell, setAll, K4.cell, K4.frozen]) fun w6 (K4 : Blk _ _ _ _) hs6 => ?_
 replace hov := hov.onlyK hs6 K40 (by decide) rfl
 replace hou := hou.onlyK hs6 K40 (by decide) rfl
 replace K3 := hs6.blk K3 (by omega)
 replace HB := hs6.below HB (by omega)
 replace hA := hA.keepN [1, 7, 8]
 refine wN (nT (wS (wS (wR ?_))))
 revert a; (iterate 4 refine wo rfl rfl (by decide) (fun ev e h => by simp [go_sem, h, K4.cell] <;> rfl) ?_); intro a hA
 replace hA := hA.keepN [1, 7, 8, 21, 22, 23]
 refine wN (nT (wB ?_))
 refine wp_loop_at (fun f a wx => ∃ (j : Nat), j + f = nf ∧ OwnR enSh w1.heap.size wx (.slice Av nx9 cv) X.l ∧ OwnR mkSh w1.heap.size wx (.slice Au nf cu) ((F.2.take j).map (setF ms) ++ F.2.drop j) ∧ Blk wx w2.heap.size 128 #[.string X.nm, .int .u32 (X.e : Nat), .int .u32 (X.nx : Nat), .int .i64 X.u, .slice Av nx9 cv] ∧ Blk wx w3.heap.size 130 #[.int .u32 (F.1 : Nat), .slice Au nf cu] ∧ Below w.heap.size w wx ∧ At 60 [(1, .slice A2 q2 c2), (7, .pointer (some ⟨w2.heap.size, 0, none⟩)), (8, .pointer (some ⟨w3.heap.size, 0, none⟩)), (21, .slice Au nf cu), (22, .int .i64 (nf : Nat)), (23, .int .i64 (j : Nat))] a) (nf) ?_ ?_
 ·exact ⟨0, by omega, hov, by simpa using hou, K3, K4, HB, hA⟩
 clear hA hov hou K3 K4 HB
 rintro f a wx ⟨j, hjf, hov, hou, K3, K4, HB, hA⟩
 have jw : IntKind.i64.wrap ((j : Int) + 1) = ((j + 1 : Nat) : Int) := IntWalk.i64_in _ (by omega)
 refine wS (wR ?_)
 revert a; refine wo rfl rfl (by decide) (fun ev e h => by simp [go_sem, h] <;> rfl) ?_; intro a hA
 replace hA := hA.keepN [1, 7, 8, 21, 22, 23, 24]
 refine wN (nT (wS ?_))
 refine wp_if hA 24 _ rfl (fun hq => ?yA) (fun hq => ?nA)
 case nA =>
  have hj : j = nf := by simp at hq; omega
  rw [hj, ← hnf, List.take_length, List.drop_length, List.append_nil, hnf] at hou
  obtain ⟨G, hG⟩ : ∃ G, F.2.map (setF ms) = G := ⟨_, rfl⟩
  have hGl : G.length = nf := by rw [← hG, List.length_map, hnf]
  have hGu : ∀ q ∈ G, q.1 < 4294967296 := fun q hq => by
   rw [← hG] at hq
   obtain ⟨y, hy, rfl⟩ := List.mem_map.1 hq
   rw [setF_uid]
   exact b7 y hy
  rw [hG] at hou hpl
  have hru : Reads wx wx.heap.size 2 Au nf (mcells G) := by
   obtain ⟨A9, c9, e9, hr9, -⟩ := hou.reads
   injection e9 with e1 e2 e3
   rw [e1, e2]
   exact hr9.row
  have hrv : Reads wx wx.heap.size 2 Av nx9 (mcells X.l) := by
   obtain ⟨A9, c9, e9, hr9, -⟩ := hov.reads
   injection e9 with e1 e2 e3
   rw [e1, e2]
   exact hr9.row
  replace hA := hA.keepN [7, 8]
  refine wp_exit (xT (xT (xB (nT (wS (wR ?_))))))
  revert a; refine wo rfl rfl (by decide) (fun ev e h => by simp [go_sem, h, K4.cell] <;> rfl) ?_; intro a hA
  refine wl_call hA rfl rfl (by decide) (fun ev h => exec_call Tryz.func132 (by kernel_rfl) rfl (h.f _) (by first | (simp only [mL, h.get 45 rfl, h.c] <;> rfl) | (simp [mL, h.get 45 rfl, h.c, K4.cell] <;> rfl))) (putFlags_any Au cu nf F.1 G wx hGu b5 hGl (by omega) hru) ?_
  rintro e w7 ⟨r, rfl, hor, hb7⟩
  refine ⟨_, rfl, fun a hA => ?_⟩
  obtain ⟨fe, hfe⟩ : ∃ x, flagsErr F.1 G = x := ⟨_, rfl⟩
  rw [hfe] at hA hpl
  revert a; (iterate 5 refine wo rfl rfl (by decide) (fun ev e h => by simp [go_sem, h, K4.cell] <;> rfl) ?_); intro a hA
  replace hA := hA.keepN [7, 12, 13]
  refine wN (nT (wS (wS (wR ?_))))
  revert a; (iterate 2 refine wo rfl rfl (by decide) (fun ev e h => by simp [go_sem, h, K4.cell] <;> rfl) ?_); intro a hA
  replace hA := hA.keepN [7, 12, 13, 50]
  refine wN (nT ?_)
  refine wp_if hA 50 _ rfl (fun hq3 => ?yC) (fun hq3 => ?nC)
  case yC =>
   have hne : ¬ fe = 0 := by simpa using hq3
   refine wS (wR ?_)
   revert a; (iterate 4 refine wo rfl rfl (by decide) (fun ev e h => by simp [go_sem, h, K4.cell] <;> rfl) ?_); intro a hA
   replace hA := hA.keepN [4, 5, 6]
   refine wN (nT (wp_ret (rT ?_)))
   refine ret_3 hA 4 5 6 rfl rfl rfl rfl ?_
   rw [hpl, if_neg hne]
   exact ⟨_, _, rfl, World.ownsRow_nil _ _ _ _, World.ownsRow_nil _ _ _ _, HB.trans (hb7.mono HB.size)⟩
  case nC =>
   have hne : fe = 0 := by simpa using hq3
   rw [if_pos hne] at hpl
   have K37 := K3.below hb7 K3.lt
   have HB7 := HB.trans (hb7.mono HB.size)
   have he7 := he.below HB7
   refine wp_skip (nT (wS (wR ?_)))
   revert a; refine wo rfl rfl (by decide) (fun ev e h => by simp [go_sem, h, K37.cell] <;> rfl) ?_; intro a hA
   refine wl_call hA rfl rfl (by decide) (fun ev h => exec_call Tryz.func66 (by kernel_rfl) rfl (h.f _) (by first | (simp only [mL, h.get 53 rfl, h.c] <;> rfl) | (simp [mL, h.get 53 rfl, h.c, K37.cell] <;> rfl))) (putIndex_any X.nm Av cv nx9 X.e X.nx X.u X.l w7 he7.max he7.big.2.2 (by omega) b4 b1 b2 hnx (by omega) ((hrv.below hb7).more hb7.size)) ?_
   rintro e w8 ⟨r2, rfl, hor2, hb8⟩
   refine ⟨_, rfl, fun a hA => ?_⟩
   revert a; (iterate 5 refine wo rfl rfl (by decide) (fun ev e h => by simp [go_sem, h, K37.cell] <;> rfl) ?_); intro a hA
   replace hA := hA.keepN [12, 13, 14]
   refine wN (nT (wS (wR ?_)))
   revert a; (iterate 6 refine wo rfl rfl (by decide) (fun ev e h => by simp [go_sem, h, K37.cell] <;> rfl) ?_); intro a hA
   replace hA := hA.keepN [4, 5, 6]
   refine wN (nT (wp_ret ?_))
   refine ret_3 hA 4 5 6 rfl rfl rfl rfl ?_
   rw [hpl]
   exact ⟨r, r2, rfl, own_mono (own_below hor hb8) HB.size, own_mono hor2 HB7.size, HB7.trans (hb8.mono HB7.size)⟩
 case yA =>
  have hj : j < nf := by simp at hq; omega
  have jj0 : (0 : Int) ≤ (j : Int) := by omega
  have jj1 : (j : Int) < (nf : Int) := by omega
  obtain ⟨x, hx⟩ : ∃ x, F.2[j]? = some x := ⟨_, List.getElem?_eq_getElem (by omega)⟩
  obtain ⟨hmx, hset⟩ := mid_get (setF ms) hx
  have hMl : ((F.2.take j).map (setF ms) ++ F.2.drop j).length = nf := by
   rw [List.length_append, List.length_map, List.length_take, List.length_drop]
   omega
  obtain ⟨M, hM⟩ : ∃ M, (F.2.take j).map (setF ms) ++ F.2.drop j = M := ⟨_, rfl⟩
  rw [hM] at hmx hset hMl hou
  obtain ⟨g, c9, hv9, hgB, hglt⟩ := hou.at_ (by omega)
  have hAu : Au = some ⟨g, 0, none⟩ := by injection hv9
  rw [hAu] at hou
  have z0 : wx.cell? ⟨g, j * 2, none⟩ = some (.int .u32 (x.1 : Nat)) := hou.cellAt (j := 0) hmx rfl
  have z1 : wx.cell? ⟨g, j * 2 + 1, none⟩ = some (.int .i64 x.2) := hou.cellAt (j := 1) hmx rfl
  refine wp_skip (nT (wS (wB (wS (wR ?_)))))
  revert a; (iterate 3 refine wo rfl rfl (by decide) (fun ev e h => by simp [go_sem, h, hAu, add0, z0, z1, jj0, jj1, hj] <;> rfl) ?_); intro a hA
  refine wl_new hA rfl rfl (by decide) (fun ev h => by simp [go_sem, hAu, add0, z0, z1, jj0, jj1, hj]; try first | exact ⟨rfl, rfl⟩ | rfl) fun w7 a (K7 : Blk _ _ _ _) hz7 hb7 hA => ?_
  revert a; refine wo rfl rfl (by decide) (fun ev e h => by simp [go_sem, h, hAu, add0, z0, z1, jj0, jj1, hj] <;> rfl) ?_; intro a hA
  refine wl_set [.int .u32 (x.1 : Nat), .int .i64 x.2] hA rfl rfl K7 (by rfl) (fun ev h => by simp [go_sem, h.get 10 rfl, h.get 27 rfl, hAu, add0, z0, z1, jj0, jj1, hj, setAll, K7.cell, K7.frozen]) fun w8 (K7 : Blk _ _ _ _) hs8 => ?_
  have hb8 := hs8.below hb7 (Nat.le_refl _)
  have HB8 := HB.trans (hb8.mono HB.size)
  replace hov := hov.below hb8
  replace hou := hou.below hb8
  replace K3 := K3.below hb8 K3.lt
  replace K4 := K4.below hb8 K4.lt
  replace hA := hA.keepN [1, 7, 8, 9, 10, 21, 22, 23]
  refine wN (nT (wS (wR ?_)))
  revert a; (iterate 2 refine wo rfl rfl (by decide) (fun ev e h => by simp [go_sem, h, hAu, add0, z0, z1, jj0, jj1, hj] <;> rfl) ?_); intro a hA
  have hix := idxK_any A2 c2 x.1 wx.heap.size x.2 ms w8 (by omega) (hms.below HB8) K7
  rw [hq2] at hix
  refine wl_call hA rfl rfl (by decide) (fun ev h => exec_call Tryz.func183 (by kernel_rfl) rfl (h.f _) (by first | (simp only [mL, h.get 28 rfl, h.get 29 rfl, h.c] <;> rfl) | (simp [mL, h.get 28 rfl, h.get 29 rfl, h.c, hAu, add0, z0, z1, jj0, jj1, hj] <;> rfl))) (hix) ?_
  rintro e w9 ⟨rfl, hb9⟩
  refine ⟨_, rfl, fun a hA => ?_⟩
  have HB9 := HB8.trans (hb9.mono HB8.size)
  replace hov := hov.below hb9
  replace hou := hou.below hb9
  replace K3 := K3.below hb9 K3.lt
  replace K4 := K4.below hb9 K4.lt
  rcases firstK_spec x.1 ms 0 with ⟨h1, h2⟩ | ⟨k, m, h1, h2, h3⟩
  ·rw [h1] at hA
   revert a; refine wo rfl rfl (by decide) (fun ev e h => by simp [go_sem, h, hAu, add0, z0, z1, jj0, jj1, hj] <;> rfl) ?_; intro a hA
   replace hA := hA.keepN [1, 7, 8, 9, 11, 21, 22, 23]
   refine wN (nT (wS (wR ?_)))
   revert a; (iterate 2 refine wo rfl rfl (by decide) (fun ev e h => by simp [go_sem, h, hAu, add0, z0, z1, jj0, jj1, hj] <;> rfl) ?_); intro a hA
   replace hA := hA.keepN [1, 7, 8, 9, 11, 21, 22, 23, 32]
   refine wN (nT ?_)
   refine wp_if hA 32 _ rfl (fun hq4 => ?yB) (fun hq4 => ?nB)
   case yB => cases hq4
   case nB =>
    refine wp_skip (nB (nT (wR ?_)))
    revert a; (iterate 2 refine wo rfl rfl (by decide) (fun ev e h => by simp [go_sem, h, jw] <;> rfl) ?_); intro a hA
    replace hA := hA.keepN [1, 7, 8, 21, 22, 23]
    refine wN (nT ?_)
    refine ⟨f - 1, by omega, j + 1, by omega, hov, ?_, K3, K4, HB9, hA⟩
    rw [← hset, setF_none h2, hAu]
    have hs9 : M.set j x = M := by
     apply List.ext_getElem?
     intro i
     rw [List.getElem?_set]
     split
     ·rename_i h9
      subst h9
      rw [if_pos (by omega), hmx]
     ·rfl
    rw [hs9]
    exact hou
  ·rw [h1, Nat.zero_add] at hA
   have hkl := (List.getElem?_eq_some_iff.1 h2).1
   have kk0 : (0 : Int) ≤ (k : Int) := by omega
   have kk1 : (k : Int) < (q2 : Int) := by omega
   have kk2 : k < q2 := by omega
   revert a; refine wo rfl rfl (by decide) (fun ev e h => by simp [go_sem, h, jw] <;> rfl) ?_; intro a hA
   replace hA := hA.keepN [1, 7, 8, 9, 11, 21, 22, 23]
   refine wN (nT (wS (wR ?_)))
   revert a; (iterate 2 refine wo rfl rfl (by decide) (fun ev e h => by simp [go_sem, h, jw] <;> rfl) ?_); intro a hA
   replace hA := hA.keepN [1, 7, 8, 9, 11, 21, 22, 23, 32]
   refine wN (nT ?_)
   refine wp_if hA 32 _ rfl (fun hq4 => ?yB2) (fun hq4 => ?nB2)
   case nB2 => simp at hq4
   case yB2 =>
    obtain ⟨am, hA2, hamb, -, q1⟩ := (hms.below HB9).cell h2
    have y1 : w9.cell? ⟨(am.add (k * 2)).block, (am.add (k * 2)).off + 1, none⟩ = some (.int .i64 m.2) := q1 1 _ (by decide) rfl
    have hgne : g ≠ w2.heap.size := own_ne hou.row K3 (by decide) g rfl
    have hgne2 : g ≠ w3.heap.size := own_ne hou.row K4 (by decide) g rfl
    have pR7 := fun (wo : World) (hC : (fun wy => Below w9.heap.size w9 wy) wo) => have Ky := K4.below hC K4.lt; have yy := (hC.cell (p := ⟨(am.add (k * 2)).block, (am.add (k * 2)).off + 1, none⟩) (by show (am.add (k * 2)).block < _; rw [block_of_add]; exact hamb)).trans y1; And.intro (Ky.cell) (yy)
    refine wp_region_split 8 ?_
    simp only [List.take_succ_cons, List.take_zero, List.drop_succ_cons, List.drop_zero]
    refine wp_any_split_at hA [(.det ?dR70), (.det ?dR71), (.det ?dR72), (.det ?dR73), (.det ?dR74), (.det ?dR75), (.det ?dR76), (.det ?dR77)] [] (fun wy => Below w9.heap.size w9 wy) (TSp [] Grows) (by kernel_rfl) rfl (by kernel_rfl) (by kernel_rfl) rfl (by kernel_rfl) (by kernel_rfl) (by kernel_rfl) (by kernel_rfl) ((Below.refl _ _).drew) (stab_sp [] [true, true, true, true, true, true, true, true] [true, true, true, true, true, true, true, true] [] rfl rfl rfl (by kernel_rfl) ⟨trivial, trivial, trivial, trivial, trivial, trivial, trivial, trivial, trivial⟩ trivial) (fun _ h => by cases h) (fun _ _ _ _ _ h => by cases h) (fun _ h => by cases h) ⟨?oR70, ?oR71, ?oR72, ?oR73, ?oR74, ?oR75, ?oR76, ?oR77, trivial⟩ (by kernel_rfl) ?fR7
    case oR70 => intro ev wo hev hC hs hph; have x0 := se hA hs 8; exact od rfl rfl (by kernel_rfl) hC (TSp.of rfl (Grows.refl _)) (by simp [go_sem, x0] <;> rfl)
    case oR71 => intro ev wo hev hC hs hph; have x0 := sd hs 33 0; exact od rfl rfl (by kernel_rfl) hC (TSp.of rfl (Grows.refl _)) (by simp [go_sem, x0, pR7 _ hC, jw] <;> rfl)
    case oR72 => intro ev wo hev hC hs hph; have x0 := se hA hs 9; exact od rfl rfl (by kernel_rfl) hC (TSp.of rfl (Grows.refl _)) (by simp [go_sem, x0] <;> rfl)
    case oR73 => intro ev wo hev hC hs hph; have x0 := se hA hs 1; exact od rfl rfl (by kernel_rfl) hC (TSp.of rfl (Grows.refl _)) (by simp [go_sem, x0] <;> rfl)
    case oR74 => intro ev wo hev hC hs hph; have x0 := se hA hs 11; exact od rfl rfl (by kernel_rfl) hC (TSp.of rfl (Grows.refl _)) (by simp [go_sem, x0] <;> rfl)
    case oR75 => intro ev wo hev hC hs hph; have x0 := sd hs 36 3; have x1 := sd hs 37 4; exact od rfl rfl (by kernel_rfl) hC (TSp.of rfl (Grows.refl _)) (by simp [go_sem, x0, x1, hA2, kk0, kk1, kk2] <;> rfl)
    case oR76 => intro ev wo hev hC hs hph; have x0 := sd hs 38 5; exact od rfl rfl (by kernel_rfl) hC (TSp.of rfl (Grows.refl _)) (by simp [go_sem, x0] <;> rfl)
    case oR77 => intro ev wo hev hC hs hph; have x0 := sd hs 39 6; exact od rfl rfl (by kernel_rfl) hC (TSp.of rfl (Grows.refl _)) (by simp [go_sem, x0, pR7 _ hC, jw] <;> rfl)
    intro sg wf hC hph
    intro a hA
    replace hA := hA.keepN [1, 7, 8, 21, 22, 23, 34, 35, 40]
    have HB10 := HB9.trans (hC.mono HB9.size)
    replace hov := hov.below hC
    replace hou := hou.below hC
    replace K3 := K3.below hC K3.lt
    replace K4 := K4.below hC K4.lt
    obtain ⟨h8, h9⟩ := hou.put1 (j := 1) (x := ((x.1, m.2) : MarkM)) (u := .int .i64 m.2) hmx (by decide) rfl rfl
    have z2 : wf.cell? ⟨g, j * 2 + 1, none⟩ = some (.int .i64 x.2) := hou.cellAt (j := 1) hmx rfl
    revert a; (iterate 2 refine wo rfl rfl (by decide) (fun ev e h => by simp [go_sem, h, hAu, add0, jj0, jj1, hj, z2, hou.frozenAt] <;> rfl) ?_); intro a hA
    refine wl_skip hA rfl rfl (fun ev h => by simp [go_sem, h.get 42 rfl, h.get 40 rfl, hAu, add0, jj0, jj1, hj, z2, hou.frozenAt]; try first | exact ⟨rfl, rfl⟩ | rfl) ?_
    replace hA := hA.keepN [1, 7, 8, 21, 22, 23]
    refine wN (nB (nT (wR ?_)))
    revert a; (iterate 2 refine wo rfl rfl (by decide) (fun ev e h => by simp [go_sem, h, jw] <;> rfl) ?_); intro a hA
    replace hA := hA.keepN [1, 7, 8, 21, 22, 23]
    refine wN (nT ?_)
    refine ⟨f - 1, by omega, j + 1, by omega, hov.grown h9 (fun g' e e2 => ?_) (fun _ _ _ _ p hp => by cases hp), ?_, K3.grown h9 (fun e => ?_), K4.grown h9 (fun e => ?_), HB10.grown h9 HB10.size (fun k e => ?_), hA⟩
    ·exact hov.ne hou (by decide) e (by rw [← e2]; rfl)
    ·rw [← hset, setF_some h3, hAu]
     exact h8
    ·injection e with e
     exact hgne e.symm
    ·injection e with e
     exact hgne2 e.symm
    ·injection e with e
     have := hb1.size
     omega
set_option maxRecDepth 100000 in
set_option maxHeartbeats 4000000 in
theorem pagesD_at {w : World} {p mb N : Nat} {d : DiskM} {V : Value} {l : LogT} (h : Dk w p mb d N) (hN : N < 800000) (n : Nat) (hn : n < 100) (hV : LogAt w V l) (A2 : Option Addr) (c2 : Nat) (ms : List MarkM) (hms : RowR mkSh w A2 ms) (hml : ms.length ≤ 1000000) :
 Calls Tryz.prog 63 #[.pointer (some ⟨p, 0, none⟩), .int .i64 (n : Nat), V, .slice A2 ms.length c2] w fun ev w' => ev = .returned (.int .i64 (pagesD d n l ms).1) ∧ Dk w' p mb (pagesD d n l ms).2 (N + 6) ∧ But p mb w w' := by
 have hV0 := hV
 obtain ⟨A, c, L, rfl, -, -⟩ := hV.ex
 obtain ⟨q2, hq2⟩ : ∃ q, ms.length = q := ⟨_, rfl⟩
 rw [hq2]
 refine calls_at 38 Tryz.func63 rfl rfl (Nat.le_of_ble_eq_true rfl) ?_
 intro a hA; replace hA := hA.norm
 refine wS (wR ?_)
 refine wl_new hA rfl rfl (by decide) (fun ev h => by simp [go_sem, h.get 2 rfl]; try first | exact ⟨rfl, rfl⟩ | rfl) fun w1 a (K1 : Blk _ _ _ _) hz1 hb1 hA => ?_
 revert a; refine wo rfl rfl (by decide) (fun ev e h => by simp [go_sem, h] <;> rfl) ?_; intro a hA
 replace hA := hA.keepN [0, 1, 3, 6]
 refine wN (nT (wS (wS (wR ?_))))
 revert a; (iterate 2 refine wo rfl rfl (by decide) (fun ev e h => by simp [go_sem, h] <;> rfl) ?_); intro a hA
 replace hA := hA.keepN [0, 1, 3, 6, 14]
 refine wN (nT ?_)
 refine wp_if hA 14 _ rfl (fun hq => ?yA) (fun hq => ?nA)
 case yA => cases hq
 case nA =>
  refine wp_skip (nT (wS (wR ?_)))
  revert a; (iterate 2 refine wo rfl rfl (by decide) (fun ev e h => by simp [go_sem, h, K1.cell] <;> rfl) ?_); intro a hA
  have hpg := pages_any A2 c2 ms w1 (hV0.below hb1) (h.env.below hb1) (hms.below hb1) hml
  rw [hq2] at hpg
  refine wl_call hA rfl rfl (by decide) (fun ev h => exec_call Tryz.func126 (by kernel_rfl) rfl (h.f _) (by first | (simp only [mL, h.get 16 rfl, h.get 17 rfl, h.c] <;> rfl) | (simp [mL, h.get 16 rfl, h.get 17 rfl, h.c, K1.cell] <;> rfl))) (hpg) ?_
  rintro e w2 ⟨b, c9, rfl, hob, hoc, hb2⟩
  refine ⟨_, rfl, fun a hA => ?_⟩
  obtain ⟨P, hP⟩ : ∃ P, pagesL l ms = P := ⟨_, rfl⟩
  have hpd : pagesD d n l ms = if P.e = 0 then thenD (layD d (fileK kFlg n) P.b) fun d => layD d (fileK kIdx n) P.c else (P.e, d) := by rw [← hP]; rfl
  rw [hP] at hA hob hoc
  obtain ⟨pe, hpe⟩ : ∃ e, P.e = e := ⟨_, rfl⟩
  rw [hpe] at hA hpd
  have HB := hb1.trans (hb2.mono hb1.size)
  have hD := h.below HB
  revert a; (iterate 7 refine wo rfl rfl (by decide) (fun ev e h => by simp [go_sem, h, K1.cell] <;> rfl) ?_); intro a hA
  replace hA := hA.keepN [0, 1, 9, 10, 11]
  refine wN (nT (wS (wS (wR ?_))))
  revert a; (iterate 2 refine wo rfl rfl (by decide) (fun ev e h => by simp [go_sem, h, K1.cell] <;> rfl) ?_); intro a hA
  replace hA := hA.keepN [0, 1, 9, 10, 11, 23]
  refine wN (nT ?_)
  refine wp_if hA 23 _ rfl (fun hq1 => ?yB) (fun hq1 => ?nB)
  case yB =>
   have hne : ¬ pe = 0 := by simpa using hq1
   refine wS (wR ?_)
   revert a; (iterate 2 refine wo rfl rfl (by decide) (fun ev e h => by simp [go_sem, h, K1.cell] <;> rfl) ?_); intro a hA
   replace hA := hA.keepN [8]
   refine wN (nT (wp_ret (rT ?_)))
   refine ret_1 hA 8 rfl rfl ?_
   rw [hpd, if_neg hne]
   exact ⟨rfl, hD.more (by omega), But.of_below HB⟩
  case nB =>
   have hne : pe = 0 := by simpa using hq1
   rw [if_pos hne] at hpd
   obtain ⟨Ab, cb, rfl, hrb, hcb⟩ := own8_cap hob
   obtain ⟨Ac, cc, rfl, hrc, hcc⟩ := own8_cap hoc
   have hbl := (pagesL_len l ms).1
   have hcl := (pagesL_len l ms).2
   rw [hP] at hbl hcl
   refine wp_skip (nT (wS (wS (wR ?_))))
   revert a; (iterate 2 refine wo rfl rfl (by decide) (fun ev e h => by simp [go_sem, h, K1.cell] <;> rfl) ?_); intro a hA
   refine wl_call hA rfl rfl (by decide) (fun ev h => exec_call Tryz.func64 (by kernel_rfl) rfl (h.f _) (by first | (simp only [mL, h.get 26 rfl, h.c] <;> rfl) | (simp [mL, h.get 26 rfl, h.c, K1.cell] <;> rfl))) (file_any kFlg (by decide) n hn _) ?_
   rintro e w3 ⟨rfl, hb3⟩
   refine ⟨_, rfl, fun a hA => ?_⟩
   have hD3 := hD.below hb3
   revert a; refine wo rfl rfl (by decide) (fun ev e h => by simp [go_sem, h, K1.cell] <;> rfl) ?_; intro a hA
   refine wl_call hA rfl rfl (by decide) (fun ev h => exec_call Tryz.func26 (by kernel_rfl) rfl (h.f _) (by first | (simp only [mL, h.get 25 rfl, h.get 27 rfl, h.get 28 rfl, h.c] <;> rfl) | (simp [mL, h.get 25 rfl, h.get 27 rfl, h.get 28 rfl, h.c, K1.cell] <;> rfl))) (lay_at hD3 (by omega) (fileK kFlg n) (fileK_small (by decide) hn) Ab _ cb P.b rfl (by omega) hcb ((hrb.below hb3).more hb3.size)) ?_
   rintro e w4 ⟨rfl, h4, hb4⟩
   refine ⟨_, rfl, fun a hA => ?_⟩
   have hrc4 := hD3.reads hb4 ((hrc.below hb3).more hb3.size)
   have HB3 := HB.trans (hb3.mono HB.size)
   have HB4 := (But.of_below HB3 (p := p) (m := mb)).trans hb4
   obtain ⟨r4, hr4⟩ : ∃ r, layD d (fileK kFlg n) P.b = r := ⟨_, rfl⟩
   obtain ⟨e4, d4⟩ := r4
   rw [hr4] at hA h4 hpd
   simp only at h4
   revert a; refine wo rfl rfl (by decide) (fun ev e h => by simp [go_sem, h, K1.cell] <;> rfl) ?_; intro a hA
   replace hA := hA.keepN [0, 1, 10, 12]
   refine wN (nT (wS (wR ?_)))
   revert a; (iterate 2 refine wo rfl rfl (by decide) (fun ev e h => by simp [go_sem, h, K1.cell] <;> rfl) ?_); intro a hA
   replace hA := hA.keepN [0, 1, 10, 12, 31]
   refine wN (nT ?_)
   refine wp_if hA 31 _ rfl (fun hq2' => ?yC) (fun hq2' => ?nC)
   case yC =>
    have hne4 : ¬ e4 = 0 := by simpa using hq2'
    refine wS (wR ?_)
    revert a; (iterate 2 refine wo rfl rfl (by decide) (fun ev e h => by simp [go_sem, h, K1.cell] <;> rfl) ?_); intro a hA
    replace hA := hA.keepN [8]
    refine wN (nT (wp_ret (rT ?_)))
    refine ret_1 hA 8 rfl rfl ?_
    rw [hpd, then_stop hne4]
    exact ⟨rfl, h4.more (by omega), HB4⟩
   case nC =>
    have hne4 : e4 = 0 := by simpa using hq2'
    rw [then_go hne4] at hpd
    refine wp_skip (nT (wS (wR ?_)))
    revert a; (iterate 2 refine wo rfl rfl (by decide) (fun ev e h => by simp [go_sem, h, K1.cell] <;> rfl) ?_); intro a hA
    refine wl_call hA rfl rfl (by decide) (fun ev h => exec_call Tryz.func64 (by kernel_rfl) rfl (h.f _) (by first | (simp only [mL, h.get 34 rfl, h.c] <;> rfl) | (simp [mL, h.get 34 rfl, h.c, K1.cell] <;> rfl))) (file_any kIdx (by decide) n hn _) ?_
    rintro e w5 ⟨rfl, hb5⟩
    refine ⟨_, rfl, fun a hA => ?_⟩
    have hD5 := h4.below hb5
    revert a; refine wo rfl rfl (by decide) (fun ev e h => by simp [go_sem, h, K1.cell] <;> rfl) ?_; intro a hA
    refine wl_call hA rfl rfl (by decide) (fun ev h => exec_call Tryz.func26 (by kernel_rfl) rfl (h.f _) (by first | (simp only [mL, h.get 33 rfl, h.get 35 rfl, h.get 36 rfl, h.c] <;> rfl) | (simp [mL, h.get 33 rfl, h.get 35 rfl, h.get 36 rfl, h.c, K1.cell] <;> rfl))) (lay_at hD5 (by omega) (fileK kIdx n) (fileK_small (by decide) hn) Ac _ cc P.c rfl (by omega) hcc ((hrc4.below hb5).more hb5.size)) ?_
    rintro e w6 ⟨rfl, h6, hb6⟩
    refine ⟨_, rfl, fun a hA => ?_⟩
    revert a; refine wo rfl rfl (by decide) (fun ev e h => by simp [go_sem, h, K1.cell] <;> rfl) ?_; intro a hA
    replace hA := hA.keepN [8]
    refine wN (nT (wp_ret ?_))
    refine ret_1 hA 8 rfl rfl ?_
    rw [hpd]
    exact ⟨rfl, h6, (HB4.below hb5).trans hb6⟩
end Go.Proofs.YtkljkbeahdipfaaGreatDoor
/-
  Walk: the mailbox of a log (log.Box), with its octets' capacities.
-/
namespace Go.Proofs.YtkljkbeahdipfaaGreatDoor
open Go.RowKit
set_option linter.unusedSimpArgs false
set_option linter.unusedVariables false
def CapOk (m : MsgV) : Prop := m.b.length ≤ m.c ∧ m.c ≤ 9223372036854775807
theorem own8_caps {B n : Nat} {w : World} {A : Option Addr} {c : Nat} {l : List UInt8} (h : Own8 B w (.slice A n c) l) : l.length ≤ c ∧ c ≤ 9223372036854775807 := by
 rcases h.2 with ⟨h1, h2⟩ | ⟨g, cap, cur, hv, -, -, hn, hm, -⟩
 ·injection h1 with _ _ hc
  have : l.length = 0 := by simpa using h2
  omega
 ·injection hv with _ _ hc
  unfold maxLen at hm
  omega
set_option maxRecDepth 100000 in
set_option maxHeartbeats 2000000 in
theorem box_anyC (s : LogS) (z : Int) (A : Option Addr) (c n : Nat) (L : List LiveV) (w : World) (hn : n ≤ 16000000) (hl : L.length = n) (hr : RowR liveSh w A L) (hsm : ∀ x ∈ L, x.m.b.length ≤ 1000000) (hlv : L.map liveL = s.live.map noteL) (hep : s.ep < 4294967296) :
 Calls Tryz.prog 70 #[.agg #[.string s.nm, .int .u32 (s.ep : Nat), .int .u32 (s.nx : Nat), .slice A n c, .int .i64 z, .bool (cleanS s)]] w
  fun ev w' => ∃ v M, ev = .returned (.agg #[.string (boxS s).nm, .int .u32 ((boxS s).ep : Nat), .int .u32 ((boxS s).nx : Nat), v]) ∧ OwnR msgSh w.heap.size w' v M ∧ M.map msgB = (boxS s).msgs ∧ (∀ m ∈ M, CapOk m) ∧ Below w.heap.size w w' := by
 refine calls_at 64 Tryz.func70 rfl rfl (Nat.le_of_ble_eq_true rfl) ?_
 intro a hA; replace hA := hA.norm
 refine wS (wR ?_)
 refine wl_new hA rfl rfl (by decide) (fun ev h => by simp [go_sem, h.get 0 rfl]; try first | exact ⟨rfl, rfl⟩ | rfl) fun w1 a (K1 : Blk _ _ _ _) hz1 hb1 hA => ?_
 refine wl_new hA rfl rfl (by decide) (fun ev h => by simp [go_sem]; try first | exact ⟨rfl, rfl⟩ | rfl) fun w2 a (K2 : Blk _ _ _ _) hz2 hb2 hA => ?_
 replace K1 := K1.below hb2 K1.lt
 replace hA := hA.keepN [1, 2]
 refine wN (nT (wS (wR ?_)))
 revert a; (iterate 7 refine wo rfl rfl (by decide) (fun ev e h => by simp [go_sem, h, K1.cell] <;> rfl) ?_); intro a hA
 refine wl_local [.string s.nm, .int .u32 (s.ep : Nat), .int .u32 (s.nx : Nat), .slice none 0 0] hA rfl rfl (by decide) (fun ev h => by simp [go_sem, K1.cell]; try first | exact ⟨rfl, rfl⟩ | rfl) rfl rfl (by rfl) (fun w1 g ev hb h => by simp [go_sem, h.get 3 rfl, h.get 14 rfl, K1.cell, setAll, hb.cell, hb.frozen]) fun w3 a (K3 : Blk _ _ _ _) hz3 hb3 hA => ?_
 replace K1 := K1.below hb3 K1.lt
 replace K2 := K2.below hb3 K2.lt
 replace hA := hA.keepN [1, 2, 3]
 refine wN (nT (wS (wS (wR ?_))))
 revert a; (iterate 4 refine wo rfl rfl (by decide) (fun ev e h => by simp [go_sem, h, K1.cell] <;> rfl) ?_); intro a hA
 replace hA := hA.keepN [1, 2, 3, 16, 17, 18]
 refine wN (nT (wB ?_))
 obtain ⟨pb, hpb⟩ : ∃ x, w2.heap.size = x := ⟨_, rfl⟩
 rw [hpb] at K3 hA
 have HB := hb1.trans ((hb2.mono hb1.size).trans (hb3.mono (by omega)))
 have hpw : w.heap.size < pb := by omega
 have hp1 : w1.heap.size < pb := by omega
 refine wp_loop_at (fun kk a wx => ∃ (j : Nat) (v : Value) (M : List MsgV), j + kk = n ∧ At 64 [(1, .pointer (some ⟨w.heap.size, 0, none⟩)), (2, .pointer (some ⟨w1.heap.size, 0, none⟩)), (3, .pointer (some ⟨pb, 0, none⟩)), (16, .slice A n c), (17, .int .i64 (n : Nat)), (18, .int .i64 (j : Nat))] a ∧ Blk wx pb 41 #[.string s.nm, .int .u32 (s.ep : Nat), .int .u32 (s.nx : Nat), v] ∧ OwnR msgSh (pb + 1) wx v M ∧ M.map msgB = (L.take j).map (fun x => msgB x.m) ∧ (∀ m ∈ M, CapOk m) ∧ Below pb w3 wx ∧ pb < wx.heap.size) (n) ?_ ?_
 ·exact ⟨0, _, [], by omega, hA, K3, OwnR.nil _ _, rfl, (fun _ h => (by cases h)), (Below.refl _ _).mono (Nat.le_of_lt K3.lt), K3.lt⟩
 clear K3
 rintro kk a wx ⟨j, v, M, hjk, hA, K3, ho, hM, hcp, HL, hpx⟩
 refine wS (wR ?_)
 revert a; refine wo rfl rfl (by decide) (fun ev e h => by simp [go_sem, h] <;> rfl) ?_; intro a hA
 replace hA := hA.keepN [1, 2, 3, 16, 17, 18, 19]
 refine wN (nT (wS ?_))
 refine wp_if hA 19 _ rfl (fun hq => ?yI) (fun hq => ?nI)
 case yI =>
  have hlt : j < n := by simp at hq; omega
  obtain ⟨x, hx⟩ : ∃ x, L[j]? = some x := ⟨_, List.getElem?_eq_getElem (by omega)⟩
  obtain ⟨Av, cv, rfl, _⟩ := ho.reads
  have HBx : Below w.heap.size w wx := HB.trans (HL.mono (Nat.le_of_lt hpw))
  have hxs := hsm x (List.mem_of_getElem? hx)
  have hxr := (hr.octs x (List.mem_of_getElem? hx) (x.m.a, x.m.b) (List.mem_singleton.2 rfl)).below HBx
  obtain ⟨ad, rfl, hadl, kz, kk'⟩ := hr.cell hx
  have z0 : wx.cell? (ad.add (j * 6)) = some (.int .u32 (x.m.uid : Nat)) := (HBx.cell (by rw [block_of_add]; exact hadl)).trans (kz _ rfl)
  have zz : ∀ d u, 0 < d → (liveC x)[d]? = some u → wx.cell? ⟨(ad.add (j * 6)).block, (ad.add (j * 6)).off + d, none⟩ = some u := fun d u hd hu => (HBx.cell (by show (ad.add _).block < _; rw [block_of_add]; exact hadl)).trans (kk' d _ hd hu)
  have z1 := zz 1 _ (by decide) rfl
  have z2 := zz 2 _ (by decide) rfl
  have z3 := zz 3 _ (by decide) rfl
  have z4 := zz 4 _ (by decide) rfl
  have z5 := zz 5 _ (by decide) rfl
  have jj0 : (0 : Int) ≤ (j : Int) := by omega
  have jj1 : (j : Int) < (n : Int) := by omega
  have hwj : IntKind.i64.wrap ((j : Int) + 1) = (j : Int) + 1 := IntWalk.i64_in _ (by omega)
  refine wp_skip (nT (wS (wB (wS (wR ?_)))))
  revert a; (iterate 2 refine wo rfl rfl (by decide) (fun ev e h => by simp [go_sem, h, z0, z1, z2, z3, z4, z5, jj0, jj1] <;> rfl) ?_); intro a hA
  refine wl_local [.int .u32 (x.m.uid : Nat), .int .i64 x.m.date, .int .i64 x.m.flags, .slice x.m.a x.m.b.length x.m.c, .int .u32 (x.ep : Nat), .int .i64 (x.at_ : Nat)] hA rfl rfl (by decide) (fun ev h => by simp [go_sem, z0, z1, z2, z3, z4, z5, jj0, jj1]; try first | exact ⟨rfl, rfl⟩ | rfl) rfl rfl (by rfl) (fun w1 g ev hb h => by simp [go_sem, h.get 5 rfl, h.get 21 rfl, z0, z1, z2, z3, z4, z5, jj0, jj1, setAll, hb.cell, hb.frozen]) fun w5 a (K5 : Blk _ _ _ _) hz5 hb5 hA => ?_
  replace K3 := K3.below hb5 K3.lt
  replace ho := ho.below hb5
  replace hxr := hxr.below hb5
  replace HL := HL.trans (hb5.mono (Nat.le_of_lt hpx))
  clear z0 z1 z2 z3 z4 z5 zz kz kk'
  replace hA := hA.keepN [1, 2, 3, 5, 16, 17, 18]
  refine wN (nT (wS (wR ?_)))
  revert a; (iterate 2 refine wo rfl rfl (by decide) (fun ev e h => by simp [go_sem, h, K5.cell] <;> rfl) ?_); intro a hA
  have hvlt := World.ownsRow.lt ho.row
  refine wl_local [.int .u32 (x.m.uid : Nat), .int .i64 x.m.date, .int .i64 x.m.flags, .slice x.m.a x.m.b.length x.m.c] hA rfl rfl (by decide) (fun ev h => by simp [go_sem, K5.cell]; try first | exact ⟨rfl, rfl⟩ | rfl) rfl rfl (by rfl) (fun w1 g ev hb h => by simp [go_sem, h.get 6 rfl, h.get 23 rfl, K5.cell, setAll, hb.cell, hb.frozen]) fun w6 a (K6 : Blk _ _ _ _) hz6 hb6 hA => ?_
  replace K3 := K3.below hb6 K3.lt
  replace ho := ho.below hb6
  replace hxr := hxr.below hb6
  replace HL := HL.trans (hb6.mono (by omega))
  replace hA := hA.keepN [1, 2, 3, 6, 16, 17, 18]
  refine wN (nT (wS (wR ?_)))
  revert a; (iterate 2 refine wo rfl rfl (by decide) (fun ev e h => by simp [go_sem, h, K6.cell] <;> rfl) ?_); intro a hA
  refine wl_call hA rfl rfl (by decide) (fun ev h => exec_call Tryz.func136 (by kernel_rfl) rfl (h.f _) (by first | (simp only [mL, h.get 25 rfl, h.c] <;> rfl) | (simp [mL, h.get 25 rfl, h.c, K6.cell] <;> rfl))) (clone8_any x.m.a x.m.b.length x.m.c x.m.b rfl (by omega) _ hxr) ?_
  rintro e w7 ⟨cl, rfl, hcl, hb7⟩
  refine ⟨_, rfl, fun a hA => ?_⟩
  replace K3 := K3.below hb7 K3.lt
  replace ho := ho.below hb7
  replace K6 := K6.below hb7 K6.lt
  replace HL := HL.trans (hb7.mono (by omega))
  obtain ⟨A8, c8, rfl, hR8⟩ := hcl.took
  have hcap8 := own8_caps hcl
  have hclt := World.ownsRow.lt hcl
  have K60 := K6
  have hz7 := hb7.size
  revert a; refine wo rfl rfl (by decide) (fun ev e h => by simp [go_sem, h, K6.cell] <;> rfl) ?_; intro a hA
  refine wl_setf ([.int .u32 (x.m.uid : Nat), .int .i64 x.m.date, .int .i64 x.m.flags, .slice A8 x.m.b.length c8]) _ hA rfl rfl K6 (j := 3) (by rfl) (fun ev h => by simp [go_sem, h.get 27 rfl, h.get 26 rfl, K6.cell, K6.cell, K6.frozen]; try first | exact ⟨rfl, rfl⟩ | rfl) fun w8 (K6 : Blk _ _ _ _) hs8 => ?_
  replace HL := hs8.below HL (by omega)
  replace ho := ho.only hs8 (fun g hg => by have := (hvlt g hg).2; omega) (fun y hy p hp => readsP_blk (ho.octs y hy p hp) K60 rfl)
  replace K3 := hs8.blk K3 (by omega)
  replace hR8 := reads_only hR8 hs8 K60 rfl
  replace hA := hA.keepN [1, 2, 3, 6, 16, 17, 18]
  refine wN (nT (wR ?_))
  revert a; (iterate 3 refine wo rfl rfl (by decide) (fun ev e h => by simp [go_sem, h, K6.cell, K3.cell] <;> rfl) ?_); intro a hA
  refine wl_new hA rfl rfl (by decide) (fun ev h => by simp [go_sem, h.get 30 rfl, K6.cell, K3.cell]; try first | exact ⟨rfl, rfl⟩ | rfl) fun w9 a (K9 : Blk _ _ _ _) hz9 hb9 hA => ?_
  replace K3 := K3.below hb9 K3.lt
  replace ho := ho.below hb9
  replace HL := HL.trans (hb9.mono (by have := hs8.size; omega))
  replace hR8 := (hR8.below hb9).more hb9.size
  have hrow : RowR msgSh w9 _ [(⟨x.m.uid, x.m.date, x.m.flags, A8, c8, x.m.b⟩ : MsgV)] := rowR_blk (s := msgSh) (x := ⟨x.m.uid, x.m.date, x.m.flags, A8, c8, x.m.b⟩) K9 (fun p hp => by rw [List.mem_singleton.1 hp]; exact hR8)
  have hML : M.length = j := by
   have := congrArg List.length hM
   rw [List.length_map, List.length_map, List.length_take] at this
   omega
  obtain ⟨r, w10, hr10, ho10, hgr, -⟩ := run_appR ho hrow (fun g hg y hy p hp => by
   rw [List.mem_singleton.1 hy] at hp
   rw [List.mem_singleton.1 hp]
   intro hn' ad' ha he
   replace ha : A8 = some ad' := ha
   have h1 := (hvlt g hg).2
   have h2 := (hclt ad'.block (by rw [ha]; rfl)).1
   omega) (by simp; omega) (by have := hs8.size; omega)
  refine wl_op hA rfl rfl (by decide) (fun ev h => exec_append rfl (h.get 29 rfl) (h.get 31 rfl) hr10) fun a hA => ?_
  have K310 := K3.grown hgr (fun e => by have := (hvlt pb e.symm).1; omega)
  have hHL := below_appR HL ho hgr (by omega) (by have := hs8.size; omega)
  obtain ⟨A11, c11, rfl, _⟩ := ho10.reads
  have K3a := K310
  revert a; refine wo rfl rfl (by decide) (fun ev e h => by simp [go_sem, h, K6.cell, K3.cell] <;> rfl) ?_; intro a hA
  refine wl_setf ([.string s.nm, .int .u32 (s.ep : Nat), .int .u32 (s.nx : Nat), .slice A11 (M ++ [(⟨x.m.uid, x.m.date, x.m.flags, A8, c8, x.m.b⟩ : MsgV)]).length c11]) _ hA rfl rfl K310 (j := 3) (by rfl) (fun ev h => by simp [go_sem, h.get 33 rfl, h.get 32 rfl, K6.cell, K3.cell, K310.cell, K310.frozen]; try first | exact ⟨rfl, rfl⟩ | rfl) fun w11 (K310 : Blk _ _ _ _) hs11 => ?_
  replace hA := hA.keepN [1, 2, 3, 16, 17, 18]
  refine wN (nB (nT (wR ?_)))
  revert a; (iterate 2 refine wo rfl rfl (by decide) (fun ev e h => by simp [go_sem, h, hwj] <;> rfl) ?_); intro a hA
  replace hA := hA.keepN [1, 2, 3, 16, 17, 18]
  refine wN (nT ?_)
  rw [show ((j : Int) + 1) = ((j + 1 : Nat) : Int) by omega] at hA
  exact ⟨kk - 1, by omega, j + 1, _, _, by omega, hA, K310, ho10.onlyK hs11 K3a (by decide) rfl, by rw [List.map_append, hM, List.take_add_one, hx, List.map_append]; rfl, (fun m hm9 => (by
   rcases List.mem_append.1 hm9 with h9 | h9
   ·exact hcp m h9
   ·rw [List.mem_singleton.1 h9]; exact hcap8)), hs11.below hHL (Nat.le_refl _), K310.lt⟩
 case nI =>
  have hjn : j = n := by simp at hq; omega
  rw [hjn, ← hl, List.take_length] at hM
  obtain ⟨Av, cv, rfl, _⟩ := ho.reads
  have K1x := K1.below HL hpw
  have K2x := K2.below HL hp1
  have HBx : Below w.heap.size w wx := HB.trans (HL.mono (Nat.le_of_lt hpw))
  replace hA := hA.keepN [1, 2, 3]
  refine wp_exit (xT (xT (xB (nT (wS (wS (wR ?_)))))))
  revert a; (iterate 2 refine wo rfl rfl (by decide) (fun ev e h => by simp [go_sem, h, K1x.cell] <;> rfl) ?_); intro a hA
  replace hA := hA.keepN [2, 3, 36]
  refine wN (nT ?_)
  refine wp_if hA 36 _ rfl (fun hq2 => ?yC) (fun hq2 => ?nC)
  case yC =>
   have hbx : boxS s = ⟨s.nm, s.ep, s.nx, s.live.map bare4⟩ := by unfold boxS; rw [hq2]; rfl
   rw [hbx]
   refine wS (wR ?_)
   revert a; refine wo rfl rfl (by decide) (fun ev e h => by simp [go_sem, h, K3.cell] <;> rfl) ?_; intro a hA
   have K20 := K2x
   refine wl_set [.string s.nm, .int .u32 (s.ep : Nat), .int .u32 (s.nx : Nat), .slice Av M.length cv] hA rfl rfl K2x (by rfl) (fun ev h => by simp [go_sem, h.get 2 rfl, h.get 37 rfl, K3.cell, setAll, K2x.cell, K2x.frozen]) fun w12 (K2x : Blk _ _ _ _) hs12 => ?_
   replace hA := hA.keepN [2]
   refine wN (nT (wp_ret (rT ?_)))
   refine bodyPost_ret (by simp [results, Tryz.results70, go_sem, hA.env 2 _ rfl, K2x.cell]; try first | exact ⟨rfl, rfl⟩ | rfl) hA.defers ?_
   refine ⟨_, M, rfl, (ho.onlyK hs12 K20 (by decide) rfl).mono (by omega), ?_, hcp, hs12.below HBx (by omega)⟩
   rw [hM]
   have := congrArg (List.map fun q : Nat × Nat × Int × Int × List UInt8 × Nat => (q.2.1, q.2.2.1, q.2.2.2.1, q.2.2.2.2.1)) hlv
   rw [List.map_map, List.map_map] at this
   exact this
  case nC =>
   have hbx : boxS s = ⟨s.nm, behindN s.ep, (s.live.length + 1) % 4294967296, renum 0 s.live⟩ := by unfold boxS; rw [hq2]; rfl
   rw [hbx]
   refine wp_skip (nT (wS (wR ?_)))
   revert a; (iterate 2 refine wo rfl rfl (by decide) (fun ev e h => by simp [go_sem, h, K3.cell] <;> rfl) ?_); intro a hA
   refine wl_call hA rfl rfl (by decide) (fun ev h => exec_call Tryz.func124 (by kernel_rfl) rfl (h.f _) (by first | (simp only [mL, h.get 39 rfl, h.c] <;> rfl) | (simp [mL, h.get 39 rfl, h.c, K3.cell] <;> rfl))) (behind_any s.ep hep _) ?_
   rintro e w12 ⟨rfl, rfl⟩
   refine ⟨_, rfl, fun a hA => ?_⟩
   have K30 := K3
   revert a; refine wo rfl rfl (by decide) (fun ev e h => by simp [go_sem, h, K3.cell] <;> rfl) ?_; intro a hA
   refine wl_setf ([.string s.nm, .int .u32 (behindN s.ep : Nat), .int .u32 (s.nx : Nat), .slice Av M.length cv]) _ hA rfl rfl K3 (j := 1) (by rfl) (fun ev h => by simp [go_sem, h.get 41 rfl, h.get 40 rfl, K3.cell, K3.cell, K3.frozen]; try first | exact ⟨rfl, rfl⟩ | rfl) fun w13 (K3 : Blk _ _ _ _) hs13 => ?_
   replace ho := ho.onlyK hs13 K30 (by decide) rfl
   replace HL := hs13.below HL (Nat.le_refl _)
   have hMn : M.length = n := by
    have := congrArg List.length hM
    rw [List.length_map, List.length_map] at this
    omega
   rw [hMn] at K3 ho
   have hLn : s.live.length = n := by have := congrArg List.length hlv; rw [List.length_map, List.length_map] at this; omega
   replace hA := hA.keepN [2, 3]
   refine wN (nT (wS (wS (wR ?_))))
   revert a; (iterate 4 refine wo rfl rfl (by decide) (fun ev e h => by simp [go_sem, h, K3.cell] <;> rfl) ?_); intro a hA
   replace hA := hA.keepN [2, 3, 44, 45]
   refine wN (nT (wB ?_))
   have hpl : pb < w13.heap.size := K3.lt
   refine wp_loop_at (fun kk a wy => ∃ (j : Nat) (M' : List MsgV), j + kk = n ∧ At 64 [(2, .pointer (some ⟨w1.heap.size, 0, none⟩)), (3, .pointer (some ⟨pb, 0, none⟩)), (44, .int .i64 (n : Nat)), (45, .int .i64 (j : Nat))] a ∧ Blk wy pb 41 #[.string s.nm, .int .u32 (behindN s.ep : Nat), .int .u32 (s.nx : Nat), .slice Av n cv] ∧ OwnR msgSh (pb + 1) wy (.slice Av n cv) M' ∧ (∀ i, M'[i]? = (M[i]?).map fun x => if i < j then (⟨i + 1, x.date, x.flags, x.a, x.c, x.b⟩ : MsgV) else x) ∧ Below pb w3 wy) (n) ?_ ?_
   ·exact ⟨0, M, by omega, hA, K3, ho, fun i => by cases M[i]? <;> simp, HL⟩
   clear K3 ho HL hs13 K30 K2x K1x
   rintro kk a wy ⟨j, M', hjk, hA, K3, ho, hMi, HL⟩
   have hlen' : M'.length = n := by
    obtain ⟨A', c', e, _⟩ := ho.reads
    injection e with _ e _
    exact e.symm
   refine wS (wR ?_)
   revert a; refine wo rfl rfl (by decide) (fun ev e h => by simp [go_sem, h] <;> rfl) ?_; intro a hA
   replace hA := hA.keepN [2, 3, 44, 45, 46]
   refine wN (nT (wS ?_))
   refine wp_if hA 46 _ rfl (fun hq3 => ?yJ) (fun hq3 => ?nJ)
   case yJ =>
    have hlt : j < n := by simp at hq3; omega
    obtain ⟨y, hy⟩ : ∃ y, M'[j]? = some y := ⟨_, List.getElem?_eq_getElem (by omega)⟩
    obtain ⟨g, c', hv, hgB, hglt⟩ := ho.at_ (by omega)
    injection hv with hv1 _ hv3
    subst hv1
    have z0 : wy.cell? ⟨g, j * 4, none⟩ = some (.int .u32 (y.uid : Nat)) := ho.cellAt (j := 0) hy rfl
    have jj0 : (0 : Int) ≤ (j : Int) := by omega
    have jj1 : (j : Int) < (n : Int) := by omega
    have hwu : IntKind.u32.wrap (j : Int) = (j : Int) := IntWalk.u32_in _ (by omega)
    have hwv : IntKind.u32.wrap ((j : Int) + 1) = ((j + 1 : Nat) : Int) := by rw [IntWalk.u32_in _ (by omega)]; omega
    have hwj : IntKind.i64.wrap ((j : Int) + 1) = (j : Int) + 1 := IntWalk.i64_in _ (by omega)
    obtain ⟨h8, h9⟩ := ho.put1 (j := 0) (x := (⟨j + 1, y.date, y.flags, y.a, y.c, y.b⟩ : MsgV)) (u := .int .u32 ((j + 1 : Nat) : Int)) hy (by decide) rfl rfl
    refine wp_skip (nT (wS (wB (wS (wR ?_)))))
    revert a; (iterate 2 refine wo rfl rfl (by decide) (fun ev e h => by simp [go_sem, h, K3.cell, add0, jj0, jj1, hwu, hwv, z0, ho.frozenAt] <;> rfl) ?_); intro a hA
    replace hA := hA.keepN [2, 3, 7, 44, 45]
    refine wN (nT (wR ?_))
    revert a; (iterate 4 refine wo rfl rfl (by decide) (fun ev e h => by simp [go_sem, h, K3.cell, add0, jj0, jj1, hwu, hwv, z0, ho.frozenAt] <;> rfl) ?_); intro a hA
    refine wl_op hA rfl rfl (by decide) (fun ev h => by simp [go_sem, h.get 51 rfl, K3.cell, add0, jj0, jj1, hwu, hwv, z0, ho.frozenAt]; try first | exact ⟨rfl, rfl⟩ | rfl) fun a hA => ?_
    revert a; (iterate 3 refine wo rfl rfl (by decide) (fun ev e h => by simp [go_sem, h, K3.cell, add0, jj0, jj1, hwu, hwv, z0, ho.frozenAt] <;> rfl) ?_); intro a hA
    refine wl_skip hA rfl rfl (fun ev h => by simp [go_sem, h.get 55 rfl, h.get 53 rfl, K3.cell, add0, jj0, jj1, hwu, hwv, z0, ho.frozenAt]; try first | exact ⟨rfl, rfl⟩ | rfl) ?_
    replace hA := hA.keepN [2, 3, 44, 45]
    refine wN (nB (nT (wR ?_)))
    revert a; (iterate 2 refine wo rfl rfl (by decide) (fun ev e h => by simp [go_sem, h, hwj] <;> rfl) ?_); intro a hA
    replace hA := hA.keepN [2, 3, 44, 45]
    refine wN (nT ?_)
    rw [show ((j : Int) + 1) = ((j + 1 : Nat) : Int) by omega] at hA
    refine ⟨kk - 1, by omega, j + 1, _, by omega, hA, K3.grown h9 (fun e => by injection e with e; omega), h8, ?_, HL.grown h9 (by have := HL.size; have := hb3.size; omega) (fun k e => by injection e with e; omega)⟩
    intro i
    rw [List.getElem?_set]
    by_cases hij : j = i
    ·subst hij
     rw [if_pos rfl, if_pos (by omega)]
     have := hMi j
     rw [hy] at this
     cases hm : M[j]? with
     | none => rw [hm] at this; cases this
     | some x =>
       rw [hm, Option.map_some, if_neg (by omega)] at this
       injection this with this
       subst this
       rw [Option.map_some, if_pos (by omega)]
    ·rw [if_neg hij, hMi i]
     cases M[i]? with
     | none => rfl
     | some x =>
       rw [Option.map_some, Option.map_some]
       by_cases h : i < j
       ·rw [if_pos h, if_pos (by omega)]
       ·rw [if_neg h, if_neg (by omega)]
   case nJ =>
    have hjn : j = n := by simp at hq3; omega
    subst hjn
    have hwu : IntKind.u32.wrap (j : Int) = (j : Int) := IntWalk.u32_in _ (by omega)
    have hwv : IntKind.u32.wrap ((j : Int) + 1) = (((s.live.length + 1) % 4294967296 : Nat) : Int) := by rw [IntWalk.u32_in _ (by omega), hLn]; omega
    have K2x := K2.below HL hp1
    have HBx : Below w.heap.size w wy := HB.trans (HL.mono (Nat.le_of_lt hpw))
    replace hA := hA.keepN [2, 3]
    refine wp_exit (xT (xT (xB (nT (wS (wR ?_))))))
    revert a; (iterate 3 refine wo rfl rfl (by decide) (fun ev e h => by simp [go_sem, h, K3.cell, hwu, hwv] <;> rfl) ?_); intro a hA
    refine wl_op hA rfl rfl (by decide) (fun ev h => by simp [go_sem, h.get 59 rfl, K3.cell, hwu, hwv]; try first | exact ⟨rfl, rfl⟩ | rfl) fun a hA => ?_
    revert a; (iterate 2 refine wo rfl rfl (by decide) (fun ev e h => by simp [go_sem, h, K3.cell, hwu, hwv] <;> rfl) ?_); intro a hA
    have K30 := K3
    refine wl_setf ([.string s.nm, .int .u32 (behindN s.ep : Nat), .int .u32 ((s.live.length + 1) % 4294967296 : Nat), .slice Av j cv]) _ hA rfl rfl K3 (j := 2) (by rfl) (fun ev h => by simp [go_sem, h.get 62 rfl, h.get 61 rfl, K3.cell, hwu, hwv, K3.cell, K3.frozen]; try first | exact ⟨rfl, rfl⟩ | rfl) fun w14 (K3 : Blk _ _ _ _) hs14 => ?_
    replace ho := ho.onlyK hs14 K30 (by decide) rfl
    replace HBx := hs14.below HBx (by omega)
    replace K2x := hs14.blk K2x (by omega)
    replace hA := hA.keepN [2, 3]
    refine wN (nT (wS (wR ?_)))
    revert a; refine wo rfl rfl (by decide) (fun ev e h => by simp [go_sem, h, K3.cell] <;> rfl) ?_; intro a hA
    have K20 := K2x
    refine wl_set [.string s.nm, .int .u32 (behindN s.ep : Nat), .int .u32 ((s.live.length + 1) % 4294967296 : Nat), .slice Av j cv] hA rfl rfl K2x (by rfl) (fun ev h => by simp [go_sem, h.get 2 rfl, h.get 63 rfl, K3.cell, setAll, K2x.cell, K2x.frozen]) fun w15 (K2x : Blk _ _ _ _) hs15 => ?_
    replace hA := hA.keepN [2]
    refine wN (nT (wp_ret ?_))
    refine bodyPost_ret (by simp [results, Tryz.results70, go_sem, hA.env 2 _ rfl, K2x.cell]; try first | exact ⟨rfl, rfl⟩ | rfl) hA.defers ?_
    have hcp' : ∀ m ∈ M', CapOk m := fun m hm9 => by
     obtain ⟨i, hi, he⟩ := List.getElem_of_mem hm9
     have h9 := hMi i
     rw [List.getElem?_eq_getElem hi, he] at h9
     cases hMx : M[i]? with
     | none => rw [hMx] at h9; cases h9
     | some y =>
       have hy9 := hcp y (List.mem_of_getElem? hMx)
       rw [hMx, Option.map_some] at h9
       injection h9 with h9
       rw [h9]
       split
       ·exact hy9
       ·exact hy9
    refine ⟨_, M', rfl, (ho.onlyK hs15 K20 (by decide) rfl).mono (by omega), ?_, hcp', hs15.below HBx (by omega)⟩
    refine List.ext_getElem? fun i => ?_
    rw [renum_get, List.getElem?_map, hMi i]
    have e1 : (M[i]?).map msgB = (s.live[i]?).map bare4 := by
     rw [← List.getElem?_map, ← List.getElem?_map, hM]
     congr 1
     have := congrArg (List.map fun q : Nat × Nat × Int × Int × List UInt8 × Nat => (q.2.1, q.2.2.1, q.2.2.2.1, q.2.2.2.2.1)) hlv
     rw [List.map_map, List.map_map] at this
     exact this
    cases hm : M[i]? with
    | none =>
      rw [hm] at e1
      cases hn2 : s.live[i]? with
      | none => rfl
      | some q => rw [hn2] at e1; cases e1
    | some x =>
      rw [hm] at e1
      have hi : i < j := by have := (List.getElem?_eq_some_iff.1 hm).1; omega
      cases hn2 : s.live[i]? with
      | none => rw [hn2] at e1; cases e1
      | some q =>
        rw [hn2] at e1
        injection e1 with e1
        unfold msgB bare4 at e1
        simp only [Prod.mk.injEq] at e1
        rw [Option.map_some, Option.map_some, Option.map_some, if_pos hi]
        unfold msgB
        rw [show (0 + i + 1) % 4294967296 = i + 1 by omega]
        simp [e1]
end Go.Proofs.YtkljkbeahdipfaaGreatDoor
/-
  Walk: store.Whole.
-/
namespace Go.Proofs.YtkljkbeahdipfaaGreatDoor
open Go.RowKit
set_option linter.unusedSimpArgs false
set_option linter.unusedVariables false
set_option linter.unusedSimpArgs false
set_option linter.unusedVariables false
theorem whole_noread {d : DiskM} {n : Nat} (h : ¬ (fileD d kLog n).2 = 0) : wholeD d n = (boxZ, (fileD d kLog n).2) := by unfold wholeD; rw [if_neg h]
theorem whole_bad {d : DiskM} {n : Nat} (h : (fileD d kLog n).2 = 0) (hw : wholeOk d n = false) : wholeD d n = (boxZ, 9) := by
 unfold wholeD
 rw [if_pos h, if_neg (fun hh => by rw [hw] at hh; cases hh.1)]
theorem whole_wrong {d : DiskM} {n : Nat} (h : (fileD d kLog n).2 = 0) (hw : rightB (boxF (readL (fileD d kLog n).1) (flagsOr (flagsD d n)).2) = false) : wholeD d n = (boxZ, 9) := by
 unfold wholeD
 rw [if_pos h, if_neg (fun hh => by rw [hw] at hh; cases hh.2)]
theorem whole_fine {d : DiskM} {n : Nat} (h : (fileD d kLog n).2 = 0) (hw : wholeOk d n = true) (hr : rightB (boxF (readL (fileD d kLog n).1) (flagsOr (flagsD d n)).2) = true) : wholeD d n = (boxF (readL (fileD d kLog n).1) (flagsOr (flagsD d n)).2, 0) := by
 unfold wholeD
 rw [if_pos h, if_pos ⟨hw, hr⟩]
/-- a mailbox in memory -/
structure BoxAt (B : Nat) (w : World) (v : Value) (b : BoxB) : Prop where
 ex : ∃ V M, v = .agg #[.string b.nm, .int .u32 (b.ep : Nat), .int .u32 (b.nx : Nat), V] ∧ OwnR msgSh B w V M ∧ M.map msgB = b.msgs ∧ ∀ m ∈ M, CapOk m
theorem BoxAt.zero (B : Nat) (w : World) : BoxAt B w (.agg #[.string ⟨#[]⟩, .int .u32 0, .int .u32 0, .slice none 0 0]) boxZ := ⟨_, [], rfl, OwnR.nil _ _, rfl, fun _ h => (by cases h)⟩
theorem idx_named {l : LogT} (h : (idxL l).err = 0) : noIdx (cleanS l.s) l.s.nm = false := by
 cases hn : noIdx (cleanS l.s) l.s.nm with
 | false => rfl
 | true =>
   exfalso
   unfold IdxT.err idxL at h
   rw [hn, cond_true] at h
   revert h
   decide
theorem boxF_clean {l : LogT} (h : cleanS l.s = true) (fs : List MarkM) : boxF l fs = ⟨l.s.nm, l.s.ep, l.s.nx, putF fs (l.s.live.map bare4)⟩ := by
 unfold boxF boxS
 rw [h]
 rfl
theorem zip_step {M : List MsgV} {fs : List MarkM} {j : Nat} {m : MsgV} {f : MarkM} (hm : M[j]? = some m) (hf : fs[j]? = some f) (hl : fs.length = M.length) :
 let g := fun (m : MsgV) (f : MarkM) => (⟨m.uid, m.date, f.2, m.a, m.c, m.b⟩ : MsgV)
 (List.zipWith g (M.take j) (fs.take j) ++ M.drop j)[j]? = some m ∧ (List.zipWith g (M.take j) (fs.take j) ++ M.drop j).set j (g m f) = List.zipWith g (M.take (j + 1)) (fs.take (j + 1)) ++ M.drop (j + 1) := by
 intro g
 have hj := (List.getElem?_eq_some_iff.1 hm).1
 have he := (List.getElem?_eq_some_iff.1 hm).2
 have hl2 : (List.zipWith g (M.take j) (fs.take j)).length = j := by rw [List.length_zipWith, List.length_take, List.length_take]; omega
 have hd : M.drop j = m :: M.drop (j + 1) := by rw [List.drop_eq_getElem_cons hj, he]
 have ht : List.zipWith g (M.take (j + 1)) (fs.take (j + 1)) = List.zipWith g (M.take j) (fs.take j) ++ [g m f] := by
  rw [List.take_add_one, List.take_add_one, hm, hf]
  rw [List.zipWith_append (by rw [List.length_take, List.length_take]; omega)]
  rfl
 rw [ht, hd]
 refine ⟨?_, ?_⟩
 ·rw [List.getElem?_append_right (by omega), hl2, Nat.sub_self]; rfl
 ·rw [List.set_append_right _ _ (by omega), hl2, Nat.sub_self]
  simp
theorem zip_msgB (M : List MsgV) (fs : List MarkM) (N : List NoteB) (h : M.map msgB = N.map bare4) : (List.zipWith (fun (m : MsgV) (f : MarkM) => (⟨m.uid, m.date, f.2, m.a, m.c, m.b⟩ : MsgV)) M fs).map msgB = putF fs (N.map bare4) := by
 rw [← h]
 unfold putF
 rw [List.map_zipWith, List.zipWith_map_left]
 rfl
theorem cap_zip {M : List MsgV} {fs : List MarkM} (h : ∀ m ∈ M, CapOk m) : ∀ m ∈ List.zipWith (fun (m : MsgV) (f : MarkM) => (⟨m.uid, m.date, f.2, m.a, m.c, m.b⟩ : MsgV)) M fs, CapOk m := fun m hm => by
 obtain ⟨i, hi, he⟩ := List.getElem_of_mem hm
 rw [List.getElem_zipWith] at he
 rw [← he]
 have hi2 : i < M.length := by rw [List.length_zipWith] at hi; omega
 exact h M[i] (List.getElem_mem hi2)
theorem right_bare (nm : ByteArray) (e nx : Nat) : ∀ (M : List MsgV) (ms : List MsgP), M.map msgB = ms → boxRight nm e nx (ms.map bareM) = boxRight nm e nx M := by
 intro M ms h
 subst h
 unfold boxRight msgsN
 rw [List.length_map, List.length_map]
 congr 1
 have hlast : ∀ j, lastU (List.map bareM (List.map msgB M)) j = lastU M j := fun j => by
  cases j with
  | zero => rfl
  | succ k =>
    show (match (List.map bareM (List.map msgB M))[k]? with | some y => y.uid | none => 0) = (match M[k]? with | some y => y.uid | none => 0)
    rw [List.getElem?_map, List.getElem?_map]
    cases M[k]? <;> rfl
 refine List.all_congr rfl fun j => ?_
 unfold msgAt
 rw [List.getElem?_map, List.getElem?_map]
 cases M[j]? with
 | none => rfl
 | some m =>
   show msgStep nx _ j (bareM (msgB m)) = msgStep nx M j m
   unfold msgStep
   rw [hlast]
   rfl
theorem own_msgs {B : Nat} {w : World} {A : Option Addr} {n c : Nat} {M : List MsgV} (h : OwnR msgSh B w (.slice A n c) M) (hu : ∀ m ∈ M, m.uid < 4294967296) (hc : ∀ m ∈ M, CapOk m) : Msgs w A n M := by
 obtain ⟨A9, c9, e9, hr9, -⟩ := h.reads
 injection e9 with e1 e2 e3
 subst e1 e2
 exact ⟨rfl, hr9.row, fun m hm => hr9.octs m hm (m.a, m.b) (List.mem_singleton.2 rfl), hu, hc⟩
set_option maxRecDepth 100000 in
set_option maxHeartbeats 16000000 in
theorem whole_at {w : World} {p mb N : Nat} {d : DiskM} (h : Dk w p mb d N) (n : Nat) (hn : n < 100) :
 Calls Tryz.prog 22 #[.pointer (some ⟨p, 0, none⟩), .int .i64 (n : Nat)] w fun ev w' => ∃ v, ev = .returned (.tuple #[v, .int .i64 (wholeD d n).2]) ∧ BoxAt w.heap.size w' v (wholeD d n).1 ∧ Below w.heap.size w w' := by
 have hwf := h.wf
 refine calls_at 119 Tryz.func22 rfl rfl (Nat.le_of_ble_eq_true rfl) ?_
 intro a hA; replace hA := hA.norm
 refine wS (wR ?_)
 refine wl_new hA rfl rfl (by decide) (fun ev h => by simp [go_sem]; try first | exact ⟨rfl, rfl⟩ | rfl) fun w1 a (K1 : Blk _ _ _ _) hz1 hb1 hA => ?_
 have HB := hb1
 revert a; refine wo rfl rfl (by decide) (fun ev e h => by simp [go_sem, h] <;> rfl) ?_; intro a hA
 replace hA := hA.keepN [0, 1, 4]
 refine wN (nT (wS (wS (wR ?_))))
 revert a; (iterate 2 refine wo rfl rfl (by decide) (fun ev e h => by simp [go_sem, h] <;> rfl) ?_); intro a hA
 replace hA := hA.keepN [0, 1, 4, 20]
 refine wN (nT ?_)
 refine wp_if hA 20 _ rfl (fun hq => ?yA) (fun hq => ?nA)
 case yA => cases hq
 case nA =>
  refine wp_skip (nT (wS (wR ?_)))
  revert a; (iterate 2 refine wo rfl rfl (by decide) (fun ev e h => by simp [go_sem, h] <;> rfl) ?_); intro a hA
  refine wl_call hA rfl rfl (by decide) (fun ev h => exec_call Tryz.func64 (by kernel_rfl) rfl (h.f _) (by first | (simp only [mL, h.get 24 rfl, h.c] <;> rfl) | (simp [mL, h.get 24 rfl, h.c] <;> rfl))) (file_any kLog (by decide) n hn _) ?_
  rintro e w2 ⟨rfl, hb2⟩
  refine ⟨_, rfl, fun a hA => ?_⟩
  replace K1 := K1.below hb2 K1.lt
  replace HB := HB.trans (hb2.mono HB.size)
  refine wl_call hA rfl rfl (by decide) (fun ev h => exec_call Tryz.func29 (by kernel_rfl) rfl (h.f _) (by first | (simp only [mL, h.get 23 rfl, h.get 25 rfl, h.c] <;> rfl) | (simp [mL, h.get 23 rfl, h.get 25 rfl, h.c] <;> rfl))) ((h.below HB).read (fileK kLog n) (fileK_small (by decide) hn)) ?_
  rintro e w3 ⟨Ab, cb, rfl, hrb, hcb, hb3⟩
  refine ⟨_, rfl, fun a hA => ?_⟩
  replace K1 := K1.below hb3 K1.lt
  replace HB := HB.trans (hb3.mono HB.size)
  have hblen := read_lenD hwf (fileK kLog n)
  obtain ⟨bl, hbl⟩ : ∃ x, (dRead d (fileK kLog n)).1 = x := ⟨_, rfl⟩
  obtain ⟨be, hbe⟩ : ∃ x, (dRead d (fileK kLog n)).2 = x := ⟨_, rfl⟩
  have hfl : (fileD d kLog n).1 = bl := hbl
  have hfe : (fileD d kLog n).2 = be := hbe
  rw [hbl] at hA hrb hcb hblen
  rw [hbe] at hA
  obtain ⟨q, hbq⟩ : ∃ x, bl.length = x := ⟨_, rfl⟩
  rw [hbq] at hA hrb hcb hblen
  revert a; (iterate 5 refine wo rfl rfl (by decide) (fun ev e h => by simp [go_sem, h] <;> rfl) ?_); intro a hA
  replace hA := hA.keepN [0, 1, 4, 6, 7]
  refine wN (nT (wS (wS (wR ?_))))
  revert a; (iterate 2 refine wo rfl rfl (by decide) (fun ev e h => by simp [go_sem, h] <;> rfl) ?_); intro a hA
  replace hA := hA.keepN [0, 1, 4, 6, 7, 30]
  refine wN (nT ?_)
  refine wp_if hA 30 _ rfl (fun hq1 => ?yB) (fun hq1 => ?nB)
  case yB =>
   have hne : ¬ be = 0 := by simpa using hq1
   refine wS (wR ?_)
   revert a; (iterate 2 refine wo rfl rfl (by decide) (fun ev e h => by simp [go_sem, h] <;> rfl) ?_); intro a hA
   refine wl_set [.string ⟨#[]⟩, .int .u32 0, .int .u32 0, .slice none 0 0] hA rfl rfl K1 (by rfl) (fun ev h => by simp [go_sem, h.get 4 rfl, h.get 31 rfl, setAll, K1.cell, K1.frozen]) fun w4 (K1 : Blk _ _ _ _) hs4 => ?_
   revert a; refine wo rfl rfl (by decide) (fun ev e h => by simp [go_sem, h, K1.cell] <;> rfl) ?_; intro a hA
   replace hA := hA.keepN [4, 5]
   refine wN (nT (wp_ret (rT ?_)))
   refine bodyPost_ret (by simp [results, Tryz.results22, go_sem, hA.env 4 _ rfl, hA.env 5 _ rfl, K1.cell]; try first | exact ⟨rfl, rfl⟩ | rfl) hA.defers ?_
   rw [whole_noread (by rw [hfe]; exact hne), hfe]
   exact ⟨_, rfl, BoxAt.zero _ _, hs4.below HB (Nat.le_refl _)⟩
  case nB =>
   have hbe0 : be = 0 := by simpa using hq1
   have hok : (fileD d kLog n).2 = 0 := by rw [hfe, hbe0]
   refine wp_skip (nT (wS (wR ?_)))
   revert a; refine wo rfl rfl (by decide) (fun ev e h => by simp [go_sem, h] <;> rfl) ?_; intro a hA
   refine wl_call hA rfl rfl (by decide) (fun ev h => exec_call Tryz.func59 (by kernel_rfl) rfl (h.f _) (by first | (simp only [mL, h.get 33 rfl, h.c] <;> rfl) | (simp [mL, h.get 33 rfl, h.c] <;> rfl))) (readL_any Ab q cb bl hbq hcb hblen _ (h.below HB).env hrb) ?_
   rintro e w4 ⟨V, rfl, hV, hb4⟩
   refine ⟨_, rfl, fun a hA => ?_⟩
   replace K1 := K1.below hb4 K1.lt
   replace HB := HB.trans (hb4.mono HB.size)
   have HL := Below.refl w4.heap.size w4
   have hV0 := hV
   obtain ⟨l, hl⟩ : ∃ l, readL bl = l := ⟨_, rfl⟩
   rw [hl] at hV hV0
   obtain ⟨A, c, L, rfl, hrL, hlv⟩ := hV.ex
   obtain ⟨b1, b2, b3, b4, b5, b6, b7⟩ := idxL_bd hV0.few hV0.ep hV0.nx fun y hy => (hV0.each y hy).2.2
   obtain ⟨cl, hcl⟩ : ∃ b, cleanS l.s = b := ⟨_, rfl⟩
   obtain ⟨tn, htn⟩ : ∃ t, l.torn = t := ⟨_, rfl⟩
   rw [hcl, htn] at hA
   refine wl_local [.string l.s.nm, .int .u32 (l.s.ep : Nat), .int .u32 (l.s.nx : Nat), .slice A L.length c, .int .i64 (tn : Nat), .bool cl] hA rfl rfl (by decide) (fun ev h => by simp [go_sem]; try first | exact ⟨rfl, rfl⟩ | rfl) rfl rfl (by rfl) (fun w1 g ev hb h => by simp [go_sem, h.get 8 rfl, h.get 34 rfl, setAll, hb.cell, hb.frozen]) fun w5 a (K5 : Blk _ _ _ _) hz5 hb5 hA => ?_
   replace K1 := K1.below hb5 K1.lt
   replace hV0 := hV0.below hb5
   replace HB := HB.trans (hb5.mono HB.size)
   replace HL := HL.trans (hb5.mono HL.size)
   replace hA := hA.keepN [0, 1, 4, 6, 8]
   refine wN (nT (wS (wR ?_)))
   revert a; refine wo rfl rfl (by decide) (fun ev e h => by simp [go_sem, h, K5.cell] <;> rfl) ?_; intro a hA
   have hof := ofL_any hV0
   rw [hcl, htn] at hof
   refine wl_call hA rfl rfl (by decide) (fun ev h => exec_call Tryz.func65 (by kernel_rfl) rfl (h.f _) (by first | (simp only [mL, h.get 36 rfl, h.c] <;> rfl) | (simp [mL, h.get 36 rfl, h.c, K5.cell] <;> rfl))) (hof) ?_
   rintro e w6 ⟨v, u, rfl, hov, hou, hb6⟩
   refine ⟨_, rfl, fun a hA => ?_⟩
   replace K1 := K1.below hb6 K1.lt
   replace K5 := K5.below hb6 K5.lt
   replace HB := HB.trans (hb6.mono HB.size)
   replace HL := HL.trans (hb6.mono HL.size)
   revert a; (iterate 3 refine wo rfl rfl (by decide) (fun ev e h => by simp [go_sem, h, K5.cell] <;> rfl) ?_); intro a hA
   refine wl_new hA rfl rfl (by decide) (fun ev h => by simp [go_sem, K5.cell]; try first | exact ⟨rfl, rfl⟩ | rfl) fun w7 a (K7 : Blk _ _ _ _) hz7 hb7 hA => ?_
   refine wl_new hA rfl rfl (by decide) (fun ev h => by simp [go_sem, K5.cell]; try first | exact ⟨rfl, rfl⟩ | rfl) fun w8 a (K8 : Blk _ _ _ _) hz8 hb8 hA => ?_
   replace K7 := K7.below hb8 K7.lt
   have hb78 := hb7.trans (hb8.mono hb7.size)
   have hxnm : (idxL l).nm.size ≤ 60 := by
    unfold idxL
    cases noIdx (cleanS l.s) l.s.nm with
    | true => exact Nat.zero_le _
    | false => exact hV0.nm
   replace hov := hov.below hb78
   replace K1 := K1.below hb78 K1.lt
   replace K5 := K5.below hb78 K5.lt
   replace HB := HB.trans (hb78.mono HB.size)
   replace HL := HL.trans (hb78.mono HL.size)
   obtain ⟨Av, cv, rfl, -, -⟩ := hov.reads
   obtain ⟨Au, cu, rfl, -, -⟩ := hou.reads
   obtain ⟨X, hX⟩ : ∃ X, idxL l = X := ⟨_, rfl⟩
   obtain ⟨F, hF⟩ : ∃ F, flgL l = F := ⟨_, rfl⟩
   have hnm0 := fun h => idx_named (l := l) h
   rw [hX] at hov hxnm b1 b2 b3 b4 hnm0 hA
   rw [hF] at hA
   obtain ⟨nx9, hnx⟩ : ∃ n, X.l.length = n := ⟨_, rfl⟩
   rw [hnx] at hA hov
   obtain ⟨nf9, hnf9⟩ : ∃ n, F.2.length = n := ⟨_, rfl⟩
   rw [hnf9] at hA
   have s1 := hb1.size
   have s2 := hb2.size
   have s3 := hb3.size
   have s4 := hb4.size
   have s5 := hb5.size
   have s6 := hb6.size
   have K70 := K7
   refine wl_set [.string X.nm, .int .u32 (X.e : Nat), .int .u32 (X.nx : Nat), .int .i64 X.u, .slice Av nx9 cv] hA rfl rfl K7 (by rfl) (fun ev h => by simp [go_sem, h.get 9 rfl, h.get 38 rfl, K5.cell, setAll, K7.cell, K7.frozen]) fun w9 (K7 : Blk _ _ _ _) hs9 => ?_
   replace hov := hov.onlyK hs9 K70 (by decide) rfl
   replace K8 := hs9.blk K8 (by omega)
   replace K1 := hs9.blk K1 (by omega)
   replace K5 := hs9.blk K5 (by omega)
   replace HB := hs9.below HB (by omega)
   replace HL := hs9.below HL (by omega)
   have K80 := K8
   refine wl_set [.int .u32 (F.1 : Nat), .slice Au nf9 cu] hA rfl rfl K8 (by rfl) (fun ev h => by simp [go_sem, h.get 10 rfl, h.get 39 rfl, K5.cell, setAll, K8.cell, K8.frozen]) fun w10 (K8 : Blk _ _ _ _) hs10 => ?_
   replace hov := hov.onlyK hs10 K80 (by decide) rfl
   replace K7 := hs10.blk K7 (by omega)
   replace K1 := hs10.blk K1 (by omega)
   replace K5 := hs10.blk K5 (by omega)
   replace HB := hs10.below HB (by omega)
   replace HL := hs10.below HL (by omega)
   have hrv : RowR enSh w10 Av X.l := by
    obtain ⟨A9, c9, e9, hr9, -⟩ := hov.reads
    injection e9 with e1 e2 e3
    rw [e1]
    exact hr9
   replace hA := hA.keepN [0, 1, 4, 6, 8, 9]
   refine wN (nT (wS (wR ?_)))
   revert a; refine wo rfl rfl (by decide) (fun ev e h => by simp [go_sem, h, K7.cell] <;> rfl) ?_; intro a hA
   have hD10 := h.below HB
   refine wl_call hA rfl rfl (by decide) (fun ev h => exec_call Tryz.func66 (by kernel_rfl) rfl (h.f _) (by first | (simp only [mL, h.get 41 rfl, h.c] <;> rfl) | (simp [mL, h.get 41 rfl, h.c, K7.cell] <;> rfl))) (putIndex_any X.nm Av cv nx9 X.e X.nx X.u X.l w10 hD10.env.max hD10.env.big.2.2 (by omega) b4 b1 b2 hnx (by omega) (by rw [← hnx]; exact hrv.row)) ?_
   rintro e w11 ⟨r, rfl, hor, hb11⟩
   refine ⟨_, rfl, fun a hA => ?_⟩
   replace K1 := K1.below hb11 K1.lt
   replace K5 := K5.below hb11 K5.lt
   replace K7 := K7.below hb11 K7.lt
   replace hrv := hrv.below hb11
   replace HB := HB.trans (hb11.mono HB.size)
   replace HL := HL.trans (hb11.mono HL.size)
   obtain ⟨ie, hie⟩ : ∃ x, X.err = x := ⟨_, rfl⟩
   obtain ⟨ip, hip⟩ : ∃ x, X.page = x := ⟨_, rfl⟩
   rw [show idxErr X.nm X.e X.nx X.u X.l = ie from hie] at hA
   rw [show idxPage X.nm X.e X.nx X.u X.l = ip from hip] at hor
   have hwo : wholeOk d n = ((ie == 0) && cl && (tn == q) && getErr (flagsD d n) == 0 && (ip == (fileD d kIdx n).1) && uidsL X (flagsOr (flagsD d n))) := by
    unfold wholeOk
    rw [hfl, hl, hX, hie, hip, hcl, htn, hbq]
   revert a; (iterate 5 refine wo rfl rfl (by decide) (fun ev e h => by simp [go_sem, h, K5.cell] <;> rfl) ?_); intro a hA
   replace hA := hA.keepN [0, 1, 4, 6, 7, 8, 9, 11]
   refine wN (nT (wS (wS (wR ?_))))
   revert a; (iterate 3 refine wo rfl rfl (by decide) (fun ev e h => by simp [go_sem, h, K5.cell] <;> rfl) ?_); (iterate 3 refine wg _ rfl rfl rfl rfl (by decide) (fun hq ev e h => by simp [go_sem, h, ↓gw_t (beq_t hq), K5.cell] <;> rfl) ?_); refine wko rfl rfl (by decide) rfl rfl rfl ?_; refine wo rfl rfl (by decide) (fun ev e h => by simp [go_sem, h, K5.cell] <;> rfl) ?_; (iterate 2 refine wg _ rfl rfl rfl rfl (by decide) (fun hq ev e h => by simp [go_sem, h, ↓gw_t (beq_t hq), K5.cell] <;> rfl) ?_); intro a hA
   replace hA := hA.keepN [0, 1, 4, 6, 8, 9, 11, 52, 54]
   revert a; (iterate 3 refine wg _ rfl rfl rfl rfl (by decide) (fun hq ev e h => by simp [go_sem, h, ↓gw_t (beq_t hq), K5.cell] <;> rfl) ?_); refine wko rfl rfl (by decide) rfl rfl rfl ?_; intro a hA
   replace hA := hA.keepN [0, 1, 4, 8, 9, 11, 58]
   refine wN (nT ?_)
   refine wp_if hA 58 _ rfl (fun hq2 => ?yC) (fun hq2 => ?nC)
   case yC =>
    have hbad : wholeOk d n = false := by
     rw [hwo, Bool.eq_false_iff]
     intro hw
     simp only [Bool.and_eq_true, beq_iff_eq] at hw
     obtain ⟨⟨⟨⟨⟨a1, a2⟩, a3⟩, a4⟩, a5⟩, a6⟩ := hw
     rw [a1, a2, a3] at hq2
     simp at hq2
    refine wS (wR ?_)
    revert a; refine wo rfl rfl (by decide) (fun ev e h => by simp [go_sem, h, K5.cell] <;> rfl) ?_; intro a hA
    refine wl_set [.string ⟨#[]⟩, .int .u32 0, .int .u32 0, .slice none 0 0] hA rfl rfl K1 (by rfl) (fun ev h => by simp [go_sem, h.get 4 rfl, h.get 59 rfl, K5.cell, setAll, K1.cell, K1.frozen]) fun w12 (K1 : Blk _ _ _ _) hs12 => ?_
    revert a; refine wo rfl rfl (by decide) (fun ev e h => by simp [go_sem, h, K1.cell] <;> rfl) ?_; intro a hA
    replace hA := hA.keepN [4, 5]
    refine wN (nT (wp_ret (rT ?_)))
    refine bodyPost_ret (by simp [results, Tryz.results22, go_sem, hA.env 4 _ rfl, hA.env 5 _ rfl, K1.cell]; try first | exact ⟨rfl, rfl⟩ | rfl) hA.defers ?_
    rw [whole_bad hok hbad]
    exact ⟨_, rfl, BoxAt.zero _ _, hs12.below HB (Nat.le_refl _)⟩
   case nC =>
    have hgood : ie = 0 ∧ cl = true ∧ tn = q := by
     simp at hq2
     refine ⟨hq2.1.1, hq2.1.2, ?_⟩
     have := hq2.2
     omega
    obtain ⟨hie0, hclt, htq⟩ := hgood
    refine wp_skip (nT (wS (wR ?_)))
    revert a; (iterate 2 refine wo rfl rfl (by decide) (fun ev e h => by simp [go_sem, h, K5.cell] <;> rfl) ?_); intro a hA
    refine wl_call hA rfl rfl (by decide) (fun ev h => exec_call Tryz.func64 (by kernel_rfl) rfl (h.f _) (by first | (simp only [mL, h.get 62 rfl, h.c] <;> rfl) | (simp [mL, h.get 62 rfl, h.c, K5.cell] <;> rfl))) (file_any kIdx (by decide) n hn _) ?_
    rintro e w12 ⟨rfl, hb12⟩
    refine ⟨_, rfl, fun a hA => ?_⟩
    have HB12 := HB.trans (hb12.mono HB.size)
    refine wl_call hA rfl rfl (by decide) (fun ev h => exec_call Tryz.func29 (by kernel_rfl) rfl (h.f _) (by first | (simp only [mL, h.get 61 rfl, h.get 63 rfl, h.c] <;> rfl) | (simp [mL, h.get 61 rfl, h.get 63 rfl, h.c, K5.cell] <;> rfl))) ((h.below HB12).read (fileK kIdx n) (fileK_small (by decide) hn)) ?_
    rintro e w13 ⟨Ap, cp, rfl, hrp, hcp, hb13⟩
    refine ⟨_, rfl, fun a hA => ?_⟩
    have hb123 := hb12.trans (hb13.mono hb12.size)
    replace hor := own_below hor hb123
    replace K1 := K1.below hb123 K1.lt
    replace K5 := K5.below hb123 K5.lt
    replace K7 := K7.below hb123 K7.lt
    replace hrv := hrv.below hb123
    replace HB := HB.trans (hb123.mono HB.size)
    replace HL := HL.trans (hb123.mono HL.size)
    obtain ⟨pl, hpl⟩ : ∃ x, (dRead d (fileK kIdx n)).1 = x := ⟨_, rfl⟩
    obtain ⟨pe, hpe⟩ : ∃ x, (dRead d (fileK kIdx n)).2 = x := ⟨_, rfl⟩
    have hfp : (fileD d kIdx n).1 = pl := hpl
    rw [hpl] at hA hrp
    rw [hpe] at hA
    rw [hfp] at hwo
    revert a; (iterate 5 refine wo rfl rfl (by decide) (fun ev e h => by simp [go_sem, h, K5.cell] <;> rfl) ?_); intro a hA
    replace hA := hA.keepN [0, 1, 4, 8, 9, 11, 12]
    refine wN (nT (wS (wR ?_)))
    revert a; (iterate 2 refine wo rfl rfl (by decide) (fun ev e h => by simp [go_sem, h, K5.cell] <;> rfl) ?_); intro a hA
    refine wl_call hA rfl rfl (by decide) (fun ev h => exec_call Tryz.func64 (by kernel_rfl) rfl (h.f _) (by first | (simp only [mL, h.get 69 rfl, h.c] <;> rfl) | (simp [mL, h.get 69 rfl, h.c, K5.cell] <;> rfl))) (file_any kFlg (by decide) n hn _) ?_
    rintro e w14 ⟨rfl, hb14⟩
    refine ⟨_, rfl, fun a hA => ?_⟩
    have HB14 := HB.trans (hb14.mono HB.size)
    refine wl_call hA rfl rfl (by decide) (fun ev h => exec_call Tryz.func29 (by kernel_rfl) rfl (h.f _) (by first | (simp only [mL, h.get 68 rfl, h.get 70 rfl, h.c] <;> rfl) | (simp [mL, h.get 68 rfl, h.get 70 rfl, h.c, K5.cell] <;> rfl))) ((h.below HB14).read (fileK kFlg n) (fileK_small (by decide) hn)) ?_
    rintro e w15 ⟨Ag, cg, rfl, hrg, hcg, hb15⟩
    refine ⟨_, rfl, fun a hA => ?_⟩
    have hb145 := hb14.trans (hb15.mono hb14.size)
    replace hor := own_below hor hb145
    replace hrp := (hrp.below hb145).more hb145.size
    replace K1 := K1.below hb145 K1.lt
    replace K5 := K5.below hb145 K5.lt
    replace K7 := K7.below hb145 K7.lt
    replace hrv := hrv.below hb145
    replace HB := HB.trans (hb145.mono HB.size)
    replace HL := HL.trans (hb145.mono HL.size)
    have hglen := read_lenD hwf (fileK kFlg n)
    obtain ⟨gl, hgl⟩ : ∃ x, (dRead d (fileK kFlg n)).1 = x := ⟨_, rfl⟩
    obtain ⟨ge, hge⟩ : ∃ x, (dRead d (fileK kFlg n)).2 = x := ⟨_, rfl⟩
    have hfg : flagsD d n = getFlagsV gl := by show getFlagsV (dRead d (fileK kFlg n)).1 = _; rw [hgl]
    rw [hgl] at hA hrg hcg hglen
    rw [hge] at hA
    rw [hfg] at hwo
    revert a; (iterate 5 refine wo rfl rfl (by decide) (fun ev e h => by simp [go_sem, h, K5.cell] <;> rfl) ?_); intro a hA
    replace hA := hA.keepN [4, 8, 9, 11, 12, 14]
    refine wN (nT (wS (wR ?_)))
    revert a; refine wo rfl rfl (by decide) (fun ev e h => by simp [go_sem, h, K5.cell] <;> rfl) ?_; intro a hA
    refine wl_call hA rfl rfl (by decide) (fun ev h => exec_call Tryz.func67 (by kernel_rfl) rfl (h.f _) (by first | (simp only [mL, h.get 75 rfl, h.c] <;> rfl) | (simp [mL, h.get 75 rfl, h.c, K5.cell] <;> rfl))) (getFlags_any Ag cg gl.length gl _ rfl (by omega) hcg hrg) ?_
    rintro e w16 ⟨rg, rfl, horg, hb16⟩
    refine ⟨_, rfl, fun a hA => ?_⟩
    replace hor := own_below hor hb16
    replace hrp := (hrp.below hb16).more hb16.size
    replace K1 := K1.below hb16 K1.lt
    replace K5 := K5.below hb16 K5.lt
    replace K7 := K7.below hb16 K7.lt
    replace hrv := hrv.below hb16
    replace HB := HB.trans (hb16.mono HB.size)
    replace HL := HL.trans (hb16.mono HL.size)
    obtain ⟨G, hG⟩ : ∃ G, flagsOr (getFlagsV gl) = G := ⟨_, rfl⟩
    obtain ⟨fe, hfe9⟩ : ∃ x, getErr (getFlagsV gl) = x := ⟨_, rfl⟩
    rw [hG, hfe9] at hA
    rw [hG] at horg
    rw [hG, hfe9] at hwo
    have hoG : OwnR mkSh w15.heap.size w16 rg G.2 := ⟨horg, fun _ _ p hp => (by cases hp), fun _ _ _ _ p hp => (by cases hp)⟩
    obtain ⟨Ar, cr, rfl, hrG, -⟩ := hoG.reads
    obtain ⟨ng, hng⟩ : ∃ n, G.2.length = n := ⟨_, rfl⟩
    rw [hng] at hA
    revert a; (iterate 3 refine wo rfl rfl (by decide) (fun ev e h => by simp [go_sem, h, K5.cell] <;> rfl) ?_); intro a hA
    refine wl_local [.int .u32 (G.1 : Nat), .slice Ar ng cr] hA rfl rfl (by decide) (fun ev h => by simp [go_sem, K5.cell]; try first | exact ⟨rfl, rfl⟩ | rfl) rfl rfl (by rfl) (fun w1 g ev hb h => by simp [go_sem, h.get 16 rfl, h.get 77 rfl, K5.cell, setAll, hb.cell, hb.frozen]) fun w17 a (K17 : Blk _ _ _ _) hz17 hb17 hA => ?_
    replace hor := own_below hor hb17
    replace hrp := (hrp.below hb17).more hb17.size
    replace K1 := K1.below hb17 K1.lt
    replace K5 := K5.below hb17 K5.lt
    replace K7 := K7.below hb17 K7.lt
    replace hrv := hrv.below hb17
    replace hrG := hrG.below hb17
    replace HB := HB.trans (hb17.mono HB.size)
    replace HL := HL.trans (hb17.mono HL.size)
    obtain ⟨Ax, cx, rfl, hrx, hcx⟩ := own8_cap hor
    revert a; refine wo rfl rfl (by decide) (fun ev e h => by simp [go_sem, h, K5.cell] <;> rfl) ?_; intro a hA
    replace hA := hA.keepN [4, 7, 8, 9, 11, 12, 16]
    refine wN (nT (wS (wS (wR ?_))))
    revert a; (iterate 3 refine wo rfl rfl (by decide) (fun ev e h => by simp [go_sem, h, K5.cell] <;> rfl) ?_); (iterate 2 refine wg _ rfl rfl rfl rfl (by decide) (fun hq ev e h => by simp [go_sem, h, ↓gw_t (beq_t hq), K5.cell] <;> rfl) ?_); intro a hA
    refine wl_gcallv _ hA rfl rfl rfl rfl (by decide) (fun hq ev h => exec_call Tryz.func68 (by kernel_rfl) rfl (h.f _) (by first | (simp only [mL, ((h.get 82 rfl).trans (gw_t (beq_t hq))), ((h.get 83 rfl).trans (gw_t (beq_t hq))), h.c] <;> rfl) | (simp [mL, ((h.get 82 rfl).trans (gw_t (beq_t hq))), ((h.get 83 rfl).trans (gw_t (beq_t hq))), h.c, K5.cell] <;> rfl))) (fun hq => (equal_any Ax Ap ip.length cx pl.length cp ip pl _ rfl rfl hrx hrp).mono fun e w9 ⟨h1, h2⟩ => ⟨h1, h2 ▸ Below.refl _ _⟩) fun a w18 hb18 hA => ?_
    replace K1 := K1.below hb18 K1.lt
    replace K5 := K5.below hb18 K5.lt
    replace K7 := K7.below hb18 K7.lt
    replace K17 := K17.below hb18 K17.lt
    replace hrv := hrv.below hb18
    replace hrG := hrG.below hb18
    replace HB := HB.trans (hb18.mono HB.size)
    replace HL := HL.trans (hb18.mono HL.size)
    obtain ⟨eq1, heq1⟩ : ∃ b, (ip == pl) = b := ⟨_, rfl⟩
    rw [heq1] at hA hwo
    revert a; refine wg _ rfl rfl rfl rfl (by decide) (fun hq ev e h => by simp [go_sem, h, ↓gw_t (beq_t hq), K7.cell, K17.cell] <;> rfl) ?_; refine wko rfl rfl (by decide) rfl rfl rfl ?_; refine wo rfl rfl (by decide) (fun ev e h => by simp [go_sem, h, K7.cell, K17.cell] <;> rfl) ?_; (iterate 2 refine wg _ rfl rfl rfl rfl (by decide) (fun hq ev e h => by simp [go_sem, h, ↓gw_t (beq_t hq), K7.cell, K17.cell] <;> rfl) ?_); intro a hA
    replace hA := hA.keepN [4, 8, 16, 87, 88, 89]
    have hui := uids_any X.nm X.e X.nx X.u Av Ar cv cr G.1 X.l G.2 w18 (by omega) hrv hrG
    rw [hnx, hng] at hui
    refine wl_gcallv _ hA rfl rfl rfl rfl (by decide) (fun hq ev h => exec_call Tryz.func69 (by kernel_rfl) rfl (h.f _) (by first | (simp only [mL, ((h.get 88 rfl).trans (gw_t (beq_t hq))), ((h.get 89 rfl).trans (gw_t (beq_t hq))), h.c] <;> rfl) | (simp [mL, ((h.get 88 rfl).trans (gw_t (beq_t hq))), ((h.get 89 rfl).trans (gw_t (beq_t hq))), h.c, K7.cell, K17.cell] <;> rfl))) (fun hq => hui) fun a w19 hb19 hA => ?_
    replace K1 := K1.below hb19 K1.lt
    replace K5 := K5.below hb19 K5.lt
    replace K17 := K17.below hb19 K17.lt
    replace hrG := hrG.below hb19
    replace HB := HB.trans (hb19.mono HB.size)
    replace HL := HL.trans (hb19.mono HL.size)
    obtain ⟨ud, hud⟩ : ∃ b, (X.e == G.1 && sameK X.l G.2) = b := ⟨_, rfl⟩
    have hud2 : uidsL X G = ud := hud
    rw [hud] at hA
    rw [hud2] at hwo
    revert a; refine wg _ rfl rfl rfl rfl (by decide) (fun hq ev e h => by simp [go_sem, h, ↓gw_t (beq_t hq), K7.cell, K17.cell] <;> rfl) ?_; refine wko rfl rfl (by decide) rfl rfl rfl ?_; intro a hA
    replace hA := hA.keepN [4, 8, 16, 92]
    refine wN (nT ?_)
    refine wp_if hA 92 _ rfl (fun hq3 => ?yD) (fun hq3 => ?nD)
    case yD =>
     have hbad : wholeOk d n = false := by
      rw [hwo, Bool.eq_false_iff]
      intro hw
      simp only [Bool.and_eq_true, beq_iff_eq] at hw
      obtain ⟨⟨⟨⟨⟨a1, a2⟩, a3⟩, a4⟩, a5⟩, a6⟩ := hw
      rw [a4, a5, a6] at hq3
      simp at hq3
     refine wS (wR ?_)
     revert a; refine wo rfl rfl (by decide) (fun ev e h => by simp [go_sem, h, K7.cell, K17.cell] <;> rfl) ?_; intro a hA
     refine wl_set [.string ⟨#[]⟩, .int .u32 0, .int .u32 0, .slice none 0 0] hA rfl rfl K1 (by rfl) (fun ev h => by simp [go_sem, h.get 4 rfl, h.get 93 rfl, K7.cell, K17.cell, setAll, K1.cell, K1.frozen]) fun w20 (K1 : Blk _ _ _ _) hs20 => ?_
     revert a; refine wo rfl rfl (by decide) (fun ev e h => by simp [go_sem, h, K1.cell] <;> rfl) ?_; intro a hA
     replace hA := hA.keepN [4, 5]
     refine wN (nT (wp_ret (rT ?_)))
     refine bodyPost_ret (by simp [results, Tryz.results22, go_sem, hA.env 4 _ rfl, hA.env 5 _ rfl, K1.cell]; try first | exact ⟨rfl, rfl⟩ | rfl) hA.defers ?_
     rw [whole_bad hok hbad]
     exact ⟨_, rfl, BoxAt.zero _ _, hs20.below HB (Nat.le_refl _)⟩
    case nD =>
     have hgood : fe = 0 ∧ eq1 = true ∧ ud = true := by
      simp at hq3
      exact ⟨hq3.1.1, hq3.1.2, hq3.2⟩
     have hall : wholeOk d n = true := by
      rw [hwo, hie0, hclt, htq, hgood.1, hgood.2.1, hgood.2.2]
      simp
     have hie9 : (idxL l).err = 0 := by rw [hX, hie, hie0]
     have hno := idx_named hie9
     have hXl : X.l = l.s.live.map entN := by rw [← hX]; unfold idxL; rw [hno]; rfl
     have hclean : cleanS l.s = true := by rw [hcl, hclt]
     have hud9 : (X.e == G.1 && sameK X.l G.2) = true := by rw [hud, hgood.2.2]
     have hlenG : G.2.length = l.s.live.length := by
      simp only [Bool.and_eq_true] at hud9
      have h1 := hud9.2
      unfold sameK at h1
      have h2 := congrArg List.length (beq_iff_eq.1 h1)
      rw [List.length_map, List.length_map, hXl, List.length_map] at h2
      exact h2.symm
     have hLl : L.length = l.s.live.length := by have := congrArg List.length hlv; rw [List.length_map, List.length_map] at this; exact this
     have hfew9 := hV0.few
     have hbx := box_anyC l.s (tn : Nat) A c L.length L w19 (by omega) rfl (hrL.below HL) (fun x hx => by
      have h2 : liveL x ∈ l.s.live.map noteL := by rw [← hlv]; exact List.mem_map_of_mem hx
      obtain ⟨y, hy, e⟩ := List.mem_map.1 h2
      have h3 := congrArg (fun q : Nat × Nat × Int × Int × List UInt8 × Nat => q.2.2.2.2.1) e
      have h4 : y.o = x.m.b := h3
      have := (hV0.each y hy).1
      rw [← h4]
      omega) hlv hV0.ep
     have hbS : boxS l.s = ⟨l.s.nm, l.s.ep, l.s.nx, l.s.live.map bare4⟩ := by unfold boxS; rw [hclean]; rfl
     rw [hcl, hbS] at hbx
     refine wp_skip (nT (wS (wR ?_)))
     revert a; refine wo rfl rfl (by decide) (fun ev e h => by simp [go_sem, h, K5.cell] <;> rfl) ?_; intro a hA
     refine wl_call hA rfl rfl (by decide) (fun ev h => exec_call Tryz.func70 (by kernel_rfl) rfl (h.f _) (by first | (simp only [mL, h.get 94 rfl, h.c] <;> rfl) | (simp [mL, h.get 94 rfl, h.c, K5.cell] <;> rfl))) (hbx) ?_
     rintro e w20 ⟨vM, M, rfl, hoM, hM, hcap, hb20⟩
     refine ⟨_, rfl, fun a hA => ?_⟩
     have hM : M.map msgB = l.s.live.map bare4 := hM
     have hMl : M.length = l.s.live.length := by have := congrArg List.length hM; rw [List.length_map, List.length_map] at this; exact this
     obtain ⟨Am, cm, rfl, -, -⟩ := hoM.reads
     obtain ⟨mq, hmq⟩ : ∃ x, M.length = x := ⟨_, rfl⟩
     rw [hmq] at hA hoM
     have s19 := HB.size
     refine wl_local [.string l.s.nm, .int .u32 (l.s.ep : Nat), .int .u32 (l.s.nx : Nat), .slice Am mq cm] hA rfl rfl (by decide) (fun ev h => by simp [go_sem, K5.cell]; try first | exact ⟨rfl, rfl⟩ | rfl) rfl rfl (by rfl) (fun w1 g ev hb h => by simp [go_sem, h.get 17 rfl, h.get 95 rfl, K5.cell, setAll, hb.cell, hb.frozen]) fun w21 a (K21 : Blk _ _ _ _) hz21 hb21 hA => ?_
     replace hoM := hoM.below hb21
     have H19 := hb20.trans (hb21.mono hb20.size)
     replace hA := hA.keepN [4, 16, 17]
     refine wN (nT (wS (wS (wR ?_))))
     revert a; (iterate 4 refine wo rfl rfl (by decide) (fun ev e h => by simp [go_sem, h, K21.cell] <;> rfl) ?_); intro a hA
     replace hA := hA.keepN [4, 16, 17, 98, 99]
     refine wN (nT (wB ?_))
     refine wp_loop_at (fun f a wx => ∃ (j : Nat), j + f = mq ∧ OwnR msgSh w19.heap.size wx (.slice Am mq cm) (List.zipWith (fun (m : MsgV) (f : MarkM) => (⟨m.uid, m.date, f.2, m.a, m.c, m.b⟩ : MsgV)) (M.take j) (G.2.take j) ++ M.drop j) ∧ Blk wx w20.heap.size 41 #[.string l.s.nm, .int .u32 (l.s.ep : Nat), .int .u32 (l.s.nx : Nat), .slice Am mq cm] ∧ Below w19.heap.size w19 wx ∧ At 119 [(4, .pointer (some ⟨w.heap.size, 0, none⟩)), (16, .pointer (some ⟨w16.heap.size, 0, none⟩)), (17, .pointer (some ⟨w20.heap.size, 0, none⟩)), (98, .int .i64 (mq : Nat)), (99, .int .i64 (j : Nat))] a) (mq) ?_ ?_
     ·exact ⟨0, by omega, by simpa using hoM, K21, H19, hA⟩
     clear hA hoM K21 H19
     rintro f a wx ⟨j, hjf, hoM, K21, H19, hA⟩
     have K1x := K1.below H19 K1.lt
     have K17x := K17.below H19 K17.lt
     have hrGx := hrG.below H19
     have HBx := HB.trans (H19.mono HB.size)
     have jw : IntKind.i64.wrap ((j : Int) + 1) = ((j + 1 : Nat) : Int) := IntWalk.i64_in _ (by omega)
     refine wS (wR ?_)
     revert a; refine wo rfl rfl (by decide) (fun ev e h => by simp [go_sem, h] <;> rfl) ?_; intro a hA
     replace hA := hA.keepN [4, 16, 17, 98, 99, 100]
     refine wN (nT (wS ?_))
     refine wp_if hA 100 _ rfl (fun hq4 => ?yE) (fun hq4 => ?nE)
     case yE =>
      have hj : j < mq := by simp at hq4; omega
      have jj0 : (0 : Int) ≤ (j : Int) := by omega
      have jj1 : (j : Int) < (mq : Int) := by omega
      have jj2 : (j : Int) < (ng : Int) := by omega
      have jj3 : j < ng := by omega
      obtain ⟨m, hm⟩ : ∃ m, M[j]? = some m := ⟨_, List.getElem?_eq_getElem (by omega)⟩
      obtain ⟨g9, hg9⟩ : ∃ g9, G.2[j]? = some g9 := ⟨_, List.getElem?_eq_getElem (by omega)⟩
      obtain ⟨hmx, hset⟩ := zip_step hm hg9 (by omega)
      obtain ⟨M9, hM9⟩ : ∃ M9, List.zipWith (fun (m : MsgV) (f : MarkM) => (⟨m.uid, m.date, f.2, m.a, m.c, m.b⟩ : MsgV)) (M.take j) (G.2.take j) ++ M.drop j = M9 := ⟨_, rfl⟩
      rw [hM9] at hmx hset hoM
      obtain ⟨g, c9, hv9, hgB, hglt⟩ := hoM.at_ (by have := (List.getElem?_eq_some_iff.1 hmx).1; omega)
      have hAm : Am = some ⟨g, 0, none⟩ := by injection hv9
      rw [hAm] at hoM
      obtain ⟨ag, hAr, hagb, -, q1⟩ := hrGx.cell hg9
      have y1 : wx.cell? ⟨(ag.add (j * 2)).block, (ag.add (j * 2)).off + 1, none⟩ = some (.int .i64 g9.2) := q1 1 _ (by decide) rfl
      have hgne : g ≠ w20.heap.size := own_ne hoM.row K21 (by decide) g rfl
      refine wp_skip (nT (wS (wB (wS (wR ?_)))))
      revert a; (iterate 2 refine wo rfl rfl (by decide) (fun ev e h => by simp [go_sem, h] <;> rfl) ?_); intro a hA
      replace hA := hA.keepN [4, 16, 17, 18, 98, 99]
      have pR20 := fun (wo : World) (hC : (fun wy => Below wx.heap.size wx wy) wo) => have Ky := K21.below hC K21.lt; have Kz := K17x.below hC K17x.lt; have yy := (hC.cell (p := ⟨(ag.add (j * 2)).block, (ag.add (j * 2)).off + 1, none⟩) (by show (ag.add (j * 2)).block < _; rw [block_of_add]; exact hagb)).trans y1; And.intro (Ky.cell) (And.intro (Kz.cell) (yy))
      refine wN (nT ?_)
      refine wp_region_split 9 ?_
      simp only [List.take_succ_cons, List.take_zero, List.drop_succ_cons, List.drop_zero]
      refine wp_any_split_at hA [(.det ?dR200), (.det ?dR201), (.det ?dR202), (.det ?dR203), (.det ?dR204), (.det ?dR205), (.det ?dR206), (.det ?dR207), (.det ?dR208)] [] (fun wy => Below wx.heap.size wx wy) (TSp [] Grows) (by kernel_rfl) rfl (by kernel_rfl) (by kernel_rfl) rfl (by kernel_rfl) (by kernel_rfl) (by kernel_rfl) (by kernel_rfl) ((Below.refl _ _).drew) (stab_sp [] [true, true, true, true, true, true, true, true, true] [true, true, true, true, true, true, true, true, true] [] rfl rfl rfl (by kernel_rfl) ⟨trivial, trivial, trivial, trivial, trivial, trivial, trivial, trivial, trivial, trivial⟩ trivial) (fun _ h => by cases h) (fun _ _ _ _ _ h => by cases h) (fun _ h => by cases h) ⟨?oR200, ?oR201, ?oR202, ?oR203, ?oR204, ?oR205, ?oR206, ?oR207, ?oR208, trivial⟩ (by kernel_rfl) ?fR20
      case oR200 => intro ev wo hev hC hs hph; have x0 := se hA hs 17; exact od rfl rfl (by kernel_rfl) hC (TSp.of rfl (Grows.refl _)) (by simp [go_sem, x0] <;> rfl)
      case oR201 => intro ev wo hev hC hs hph; have x0 := sd hs 102 0; exact od rfl rfl (by kernel_rfl) hC (TSp.of rfl (Grows.refl _)) (by simp [go_sem, x0, pR20 _ hC] <;> rfl)
      case oR202 => intro ev wo hev hC hs hph; have x0 := se hA hs 18; exact od rfl rfl (by kernel_rfl) hC (TSp.of rfl (Grows.refl _)) (by simp [go_sem, x0] <;> rfl)
      case oR203 => intro ev wo hev hC hs hph; have x0 := se hA hs 16; exact od rfl rfl (by kernel_rfl) hC (TSp.of rfl (Grows.refl _)) (by simp [go_sem, x0] <;> rfl)
      case oR204 => intro ev wo hev hC hs hph; have x0 := sd hs 105 3; exact od rfl rfl (by kernel_rfl) hC (TSp.of rfl (Grows.refl _)) (by simp [go_sem, x0, pR20 _ hC] <;> rfl)
      case oR205 => intro ev wo hev hC hs hph; have x0 := se hA hs 18; exact od rfl rfl (by kernel_rfl) hC (TSp.of rfl (Grows.refl _)) (by simp [go_sem, x0] <;> rfl)
      case oR206 => intro ev wo hev hC hs hph; have x0 := sd hs 106 4; have x1 := sd hs 107 5; exact od rfl rfl (by kernel_rfl) hC (TSp.of rfl (Grows.refl _)) (by simp [go_sem, x0, x1, hAr, jj0, jj2, jj3] <;> rfl)
      case oR207 => intro ev wo hev hC hs hph; have x0 := sd hs 108 6; exact od rfl rfl (by kernel_rfl) hC (TSp.of rfl (Grows.refl _)) (by simp [go_sem, x0] <;> rfl)
      case oR208 => intro ev wo hev hC hs hph; have x0 := sd hs 109 7; exact od rfl rfl (by kernel_rfl) hC (TSp.of rfl (Grows.refl _)) (by simp [go_sem, x0, pR20 _ hC] <;> rfl)
      intro sg wf hC hph
      intro a hA
      replace hA := hA.keepN [4, 16, 17, 98, 99, 103, 104, 110]
      replace hoM := hoM.below hC
      replace K21 := K21.below hC K21.lt
      replace H19 := H19.trans (hC.mono H19.size)
      obtain ⟨h8, h9⟩ := hoM.put1 (j := 2) (x := (⟨m.uid, m.date, g9.2, m.a, m.c, m.b⟩ : MsgV)) (u := .int .i64 g9.2) hmx (by decide) rfl rfl
      have z2 : wf.cell? ⟨g, j * 4 + 2, none⟩ = some (.int .i64 m.flags) := hoM.cellAt (j := 2) hmx rfl
      revert a; (iterate 2 refine wo rfl rfl (by decide) (fun ev e h => by simp [go_sem, h, hAm, add0, jj0, jj1, hj, z2, hoM.frozenAt] <;> rfl) ?_); intro a hA
      refine wl_skip hA rfl rfl (fun ev h => by simp [go_sem, h.get 112 rfl, h.get 110 rfl, hAm, add0, jj0, jj1, hj, z2, hoM.frozenAt]; try first | exact ⟨rfl, rfl⟩ | rfl) ?_
      replace hA := hA.keepN [4, 16, 17, 98, 99]
      refine wN (nB (nT (wR ?_)))
      revert a; (iterate 2 refine wo rfl rfl (by decide) (fun ev e h => by simp [go_sem, h, jw] <;> rfl) ?_); intro a hA
      replace hA := hA.keepN [4, 16, 17, 98, 99]
      refine wN (nT ?_)
      refine ⟨f - 1, by omega, j + 1, by omega, ?_, K21.grown h9 (fun e => ?_), H19.grown h9 H19.size (fun k e => ?_), hA⟩
      ·rw [← hset, hAm]
       exact h8
      ·injection e with e
       exact hgne e.symm
      ·injection e with e
       omega
     case nE =>
      have hj : j = mq := by simp at hq4; omega
      rw [hj, ← hmq, List.take_length, List.drop_length, List.append_nil, hmq, List.take_of_length_le (by omega)] at hoM
      obtain ⟨M2, hM2⟩ : ∃ M2, List.zipWith (fun (m : MsgV) (f : MarkM) => (⟨m.uid, m.date, f.2, m.a, m.c, m.b⟩ : MsgV)) M G.2 = M2 := ⟨_, rfl⟩
      have hcap2 := cap_zip (fs := G.2) hcap
      have hB2 := zip_msgB M G.2 l.s.live hM
      rw [hM2] at hoM hcap2 hB2
      have hM2l : M2.length = mq := by rw [← hM2, List.length_zipWith]; omega
      have hu2 : ∀ m ∈ M2, m.uid < 4294967296 := fun m hm => by
       rw [← hM2] at hm
       obtain ⟨i, hi, he⟩ := List.getElem_of_mem hm
       rw [List.getElem_zipWith] at he
       have hi2 : i < M.length := by rw [List.length_zipWith] at hi; omega
       have h3 : (msgB M[i]) ∈ M.map msgB := List.mem_map_of_mem (List.getElem_mem hi2)
       rw [hM] at h3
       obtain ⟨y, hy, e⟩ := List.mem_map.1 h3
       have h4 : y.u = M[i].uid := congrArg (fun q : Nat × Int × Int × List UInt8 => q.1) e
       have h5 := (hV0.each y hy).2.2
       rw [← he]
       show M[i].uid < _
       omega
      have hms := own_msgs hoM hu2 hcap2
      have hrb : rightB (boxF (readL (fileD d kLog n).1) (flagsOr (flagsD d n)).2) = boxRight l.s.nm l.s.ep l.s.nx M2 := by
       rw [hfl, hl, hfg, hG, boxF_clean hclean]
       exact right_bare l.s.nm l.s.ep l.s.nx M2 _ hB2
      have hfin : boxF (readL (fileD d kLog n).1) (flagsOr (flagsD d n)).2 = ⟨l.s.nm, l.s.ep, l.s.nx, putF G.2 (l.s.live.map bare4)⟩ := by
       rw [hfl, hl, hfg, hG, boxF_clean hclean]
      have hEx := (h.below HBx).env
      replace hA := hA.keepN [4, 17]
      refine wp_exit (xT (xT (xB (nT (wS (wS (wR ?_)))))))
      revert a; refine wo rfl rfl (by decide) (fun ev e h => by simp [go_sem, h, K21.cell] <;> rfl) ?_; intro a hA
      refine wl_call hA rfl rfl (by decide) (fun ev h => exec_call Tryz.func71 (by kernel_rfl) rfl (h.f _) (by first | (simp only [mL, h.get 114 rfl, h.c] <;> rfl) | (simp [mL, h.get 114 rfl, h.c, K21.cell] <;> rfl))) (right_any l.s.nm Am cm mq l.s.ep l.s.nx M2 wx hEx.max hEx.big.2.2 hEx.tab (by have := hV0.nm; omega) (by omega) hms) ?_
      rintro e w22 ⟨rfl, hb22⟩
      refine ⟨_, rfl, fun a hA => ?_⟩
      replace K1x := K1x.below hb22 K1x.lt
      replace K21 := K21.below hb22 K21.lt
      replace hoM := hoM.below hb22
      replace HBx := HBx.trans (hb22.mono HBx.size)
      obtain ⟨br, hbr⟩ : ∃ b, boxRight l.s.nm l.s.ep l.s.nx M2 = b := ⟨_, rfl⟩
      rw [hbr] at hA hrb
      revert a; refine wo rfl rfl (by decide) (fun ev e h => by simp [go_sem, h, K21.cell] <;> rfl) ?_; intro a hA
      replace hA := hA.keepN [4, 17, 116]
      refine wN (nT ?_)
      refine wp_if hA 116 _ rfl (fun hq5 => ?yI) (fun hq5 => ?nI)
      case yI =>
       have hb0 : br = false := by simpa using hq5
       refine wS (wR ?_)
       revert a; refine wo rfl rfl (by decide) (fun ev e h => by simp [go_sem, h, K21.cell] <;> rfl) ?_; intro a hA
       refine wl_set [.string ⟨#[]⟩, .int .u32 0, .int .u32 0, .slice none 0 0] hA rfl rfl K1x (by rfl) (fun ev h => by simp [go_sem, h.get 4 rfl, h.get 117 rfl, K21.cell, setAll, K1x.cell, K1x.frozen]) fun w23 (K1x : Blk _ _ _ _) hs23 => ?_
       revert a; refine wo rfl rfl (by decide) (fun ev e h => by simp [go_sem, h, K1x.cell] <;> rfl) ?_; intro a hA
       replace hA := hA.keepN [4, 5]
       refine wN (nT (wp_ret (rT ?_)))
       refine bodyPost_ret (by simp [results, Tryz.results22, go_sem, hA.env 4 _ rfl, hA.env 5 _ rfl, K1x.cell]; try first | exact ⟨rfl, rfl⟩ | rfl) hA.defers ?_
       rw [whole_wrong hok (by rw [hrb, hb0])]
       exact ⟨_, rfl, BoxAt.zero _ _, hs23.below HBx (Nat.le_refl _)⟩
      case nI =>
       have hb1t : br = true := by simpa using hq5
       refine wp_skip (nT (wS (wR ?_)))
       revert a; refine wo rfl rfl (by decide) (fun ev e h => by simp [go_sem, h, K21.cell] <;> rfl) ?_; intro a hA
       have K1o := K1x
       refine wl_set [.string l.s.nm, .int .u32 (l.s.ep : Nat), .int .u32 (l.s.nx : Nat), .slice Am mq cm] hA rfl rfl K1x (by rfl) (fun ev h => by simp [go_sem, h.get 4 rfl, h.get 118 rfl, K21.cell, setAll, K1x.cell, K1x.frozen]) fun w23 (K1x : Blk _ _ _ _) hs23 => ?_
       revert a; refine wo rfl rfl (by decide) (fun ev e h => by simp [go_sem, h, K1x.cell] <;> rfl) ?_; intro a hA
       replace hA := hA.keepN [4, 5]
       refine wN (nT (wp_ret ?_))
       refine bodyPost_ret (by simp [results, Tryz.results22, go_sem, hA.env 4 _ rfl, hA.env 5 _ rfl, K1x.cell]; try first | exact ⟨rfl, rfl⟩ | rfl) hA.defers ?_
       rw [whole_fine hok hall (by rw [hrb, hb1t]), hfin]
       exact ⟨_, rfl, ⟨⟨_, M2, rfl, (hoM.onlyK hs23 K1o (by decide) rfl).mono s19, hB2, hcap2⟩⟩, hs23.below HBx (Nat.le_refl _)⟩
end Go.Proofs.YtkljkbeahdipfaaGreatDoor
/-
  Plainly: the numbers of the logs that a disk has.
-/
namespace Go.Proofs.YtkljkbeahdipfaaGreatDoor
open Go.RowKit
def kLogDot : Key := [108, 111, 103, 46]
/-- the number that a log's name says -/
def logNum (s : Key) : Option Nat := if Lib.hasPrefix s kLogDot = true then (match Lib.atoiAll (Lib.trimPrefix s kLogDot) with
    | .ok n => if 0 ≤ n ∧ n < 16 ∧ Lib.decDigits n.toNat = Lib.trimPrefix s kLogDot then some n.toNat else none
    | _ => none) else none
theorem atoi_16 : ∀ k : Fin 16, Lib.atoiAll (Lib.decDigits k.1) = .ok (k.1 : Int) := by decide +kernel
theorem prefix_iff (s p : Key) : Lib.hasPrefix s p = true ↔ ∃ t, s = p ++ t := by
 unfold Lib.hasPrefix
 rw [List.isPrefixOf_iff_prefix]
 exact ⟨fun ⟨t, h⟩ => ⟨t, h.symm⟩, fun ⟨t, h⟩ => ⟨t, h.symm⟩⟩
theorem trim_app (p t : Key) : Lib.trimPrefix (p ++ t) p = t := by
 unfold Lib.trimPrefix
 rw [(prefix_iff (p ++ t) p).2 ⟨t, rfl⟩]
 simp
theorem fileK_log (n : Nat) : fileK kLog n = kLogDot ++ Lib.decDigits n := rfl
theorem logNum_iff (s : Key) (n : Nat) : logNum s = some n ↔ n < 16 ∧ s = fileK kLog n := by
 constructor
 ·intro h
  unfold logNum at h
  split at h
  ·rename_i hp
   obtain ⟨t, rfl⟩ := (prefix_iff _ _).1 hp
   rw [trim_app] at h
   split at h
   ·split at h
    ·rename_i v _ hv
     injection h with h
     obtain ⟨h1, h2, h3⟩ := hv
     refine ⟨by omega, ?_⟩
     rw [fileK_log, ← h, h3]
    ·cases h
   ·cases h
  ·cases h
 ·rintro ⟨hn, rfl⟩
  unfold logNum
  rw [fileK_log, if_pos ((prefix_iff _ _).2 ⟨_, rfl⟩), trim_app, atoi_16 ⟨n, hn⟩]
  show (if 0 ≤ (n : Int) ∧ (n : Int) < 16 ∧ Lib.decDigits (n : Int).toNat = Lib.decDigits n then some (n : Int).toNat else none) = some n
  rw [if_pos ⟨by omega, by omega, by rw [Int.toNat_natCast]⟩, Int.toNat_natCast]
theorem logNum_ok {s : Key} {v : Int} (h : Lib.atoiAll (Lib.trimPrefix s kLogDot) = .ok v) : logNum s = if (Lib.hasPrefix s kLogDot && decide (0 ≤ v) && decide (v < 16) && decide (Lib.decDigits v.toNat = Lib.trimPrefix s kLogDot)) = true then some v.toNat else none := by
 unfold logNum
 rw [h]
 cases Lib.hasPrefix s kLogDot with
 | false => rfl
 | true =>
   simp only [if_true, Bool.true_and, Bool.and_eq_true, decide_eq_true_eq, and_assoc]
theorem logNum_bad {s : Key} (h : ∀ v, Lib.atoiAll (Lib.trimPrefix s kLogDot) ≠ .ok v) : logNum s = none := by
 unfold logNum
 split
 ·split
  ·rename_i v hv; exact absurd hv (h v)
  ·rfl
 ·rfl
theorem asc_ext : ∀ {a b : List Nat}, a.Pairwise (· < ·) → b.Pairwise (· < ·) → (∀ x, x ∈ a ↔ x ∈ b) → a = b
 | [], [], _, _, _ => rfl
 | [], y :: b, _, _, h => by have := (h y).2 List.mem_cons_self; cases this
 | x :: a, [], _, _, h => by have := (h x).1 List.mem_cons_self; cases this
 | x :: a, y :: b, ha, hb, h => by
   obtain ⟨a1, a2⟩ := List.pairwise_cons.1 ha
   obtain ⟨b1, b2⟩ := List.pairwise_cons.1 hb
   have hxy : x = y := by
    rcases List.mem_cons.1 ((h x).1 List.mem_cons_self) with e | e
    ·exact e
    ·rcases List.mem_cons.1 ((h y).2 List.mem_cons_self) with e2 | e2
     ·exact e2.symm
     ·have h1 := b1 x e
      have h2 := a1 y e2
      omega
   subst hxy
   congr 1
   refine asc_ext a2 b2 fun z => ?_
   constructor
   ·intro hz
    rcases List.mem_cons.1 ((h z).1 (List.mem_cons_of_mem _ hz)) with e | e
    ·have := a1 z hz; omega
    ·exact e
   ·intro hz
    rcases List.mem_cons.1 ((h z).2 (List.mem_cons_of_mem _ hz)) with e | e
    ·have := b1 z hz; omega
    ·exact e
/-- the numbers of names, in their order -/
def numsOf (l : List Key) : List Nat := l.filterMap logNum
theorem numsOf_snoc (l : List Key) (x : Key) : numsOf (l ++ [x]) = numsOf l ++ (logNum x).toList := by
 unfold numsOf
 rw [List.filterMap_append]
 cases h : logNum x <;> simp [List.filterMap, h]
theorem mem_names {k : Key} : ∀ {l : List (Key × FileM)}, k ∈ l.map (·.1) ↔ (fget k l).isSome = true
 | [] => by simp [fget]
 | (y, u) :: r => by
   rw [fget_cons, List.map_cons, List.mem_cons]
   by_cases h : y = k
   ·rw [if_pos h]; simp [h]
   ·rw [if_neg h, ← mem_names (l := r)]
    constructor
    ·rintro (e | e)
     ·exact absurd e.symm h
     ·exact e
    ·exact .inr
theorem nums_asc (d : DiskM) : (logsD d).Pairwise (· < ·) := by
 unfold logsD
 exact List.Pairwise.filter _ List.pairwise_lt_range
theorem nums_nodup {l : List (Key × FileM)} (h : Up l) : (numsOf (l.map (·.1))).Pairwise (· ≠ ·) := by
 induction l with
 | nil => exact List.Pairwise.nil
 | cons q r ih =>
   obtain ⟨h1, h2⟩ := up_cons.1 h
   have ih := ih h2
   unfold numsOf at ih ⊢
   rw [List.map_cons, List.filterMap_cons]
   cases hq : logNum q.1 with
   | none => exact ih
   | some n =>
     refine List.pairwise_cons.2 ⟨fun m hm => ?_, ih⟩
     obtain ⟨k, hk, hkm⟩ := List.mem_filterMap.1 hm
     obtain ⟨p, hp, rfl⟩ := List.mem_map.1 hk
     have hlt := h1 p hp
     obtain ⟨hn, hqn⟩ := (logNum_iff q.1 n).1 hq
     obtain ⟨hm2, hpm⟩ := (logNum_iff p.1 m).1 hkm
     rintro rfl
     rw [hqn, hpm, before_irrefl] at hlt
     cases hlt
/-- sorted, they are just the disk's logs -/
theorem nums_sorted (d : DiskM) (hup : Up d.files) : ((numsOf (d.files.map (·.1))).map fun n => ((n : Nat) : Int)).mergeSort (fun x y => decide (x ≤ y)) = (logsD d).map fun n => ((n : Nat) : Int) := by
 have hperm := List.mergeSort_perm ((numsOf (d.files.map (·.1))).map fun n => ((n : Nat) : Int)) (fun x y => decide (x ≤ y))
 have hsort : (((numsOf (d.files.map (·.1))).map fun n => ((n : Nat) : Int)).mergeSort (fun x y => decide (x ≤ y))).Pairwise fun a b => decide (a ≤ b) = true :=
  List.pairwise_mergeSort (fun a b c h1 h2 => by simp only [decide_eq_true_eq] at h1 h2 ⊢; omega) (fun a b => by simp only [Bool.or_eq_true, decide_eq_true_eq]; omega) _
 have hnn : ((numsOf (d.files.map (·.1))).map fun n => ((n : Nat) : Int)).Pairwise (· ≠ ·) := by
  rw [List.pairwise_map]
  exact (nums_nodup hup).imp fun h e => h (by omega)
 have hnd := (hperm.pairwise_iff (fun {a b} (h : a ≠ b) => h.symm)).2 hnn
 obtain ⟨S, hS⟩ : ∃ S : List Int, ((numsOf (d.files.map (·.1))).map fun n => ((n : Nat) : Int)).mergeSort (fun x y => decide (x ≤ y)) = S := ⟨_, rfl⟩
 rw [hS] at hperm hsort hnd ⊢
 have hmem : ∀ x, x ∈ S ↔ x ∈ (logsD d).map fun n => ((n : Nat) : Int) := fun x => by
  rw [hperm.mem_iff, List.mem_map, List.mem_map]
  have hm : ∀ n, n ∈ numsOf (d.files.map (·.1)) ↔ n ∈ logsD d := fun n => by
   unfold numsOf logsD hasD
   rw [List.mem_filterMap, List.mem_filter, List.mem_range]
   constructor
   ·rintro ⟨k, hk, hkn⟩
    obtain ⟨h1, rfl⟩ := (logNum_iff k n).1 hkn
    exact ⟨h1, mem_names.1 hk⟩
   ·rintro ⟨h1, h2⟩
    exact ⟨_, mem_names.2 h2, (logNum_iff _ n).2 ⟨h1, rfl⟩⟩
  constructor
  ·rintro ⟨n, h, rfl⟩; exact ⟨n, (hm n).1 h, rfl⟩
  ·rintro ⟨n, h, rfl⟩; exact ⟨n, (hm n).2 h, rfl⟩
 have hnat : ∃ T : List Nat, S = T.map fun n => ((n : Nat) : Int) := by
  refine ⟨S.map Int.toNat, ?_⟩
  rw [List.map_map]
  conv => lhs; rw [← List.map_id S]
  refine List.map_congr_left fun x hx => ?_
  obtain ⟨n, _, rfl⟩ := List.mem_map.1 ((hmem x).1 hx)
  simp
 obtain ⟨T, rfl⟩ := hnat
 congr 1
 refine asc_ext ?_ (nums_asc d) fun x => ?_
 ·have h1 := List.pairwise_map.1 hsort
  have h2 := List.pairwise_map.1 hnd
  exact (h1.and h2).imp fun {a b} h => by
   have h3 := of_decide_eq_true h.1
   have h4 := h.2
   omega
 ·have := hmem (x : Int)
  rw [List.mem_map, List.mem_map] at this
  constructor
  ·intro hx
   obtain ⟨n, hn, e⟩ := this.1 ⟨x, hx, rfl⟩
   have : n = x := by omega
   rwa [← this]
  ·intro hx
   obtain ⟨n, hn, e⟩ := this.2 ⟨x, hx, rfl⟩
   have : n = x := by omega
   rwa [← this]
end Go.Proofs.YtkljkbeahdipfaaGreatDoor
