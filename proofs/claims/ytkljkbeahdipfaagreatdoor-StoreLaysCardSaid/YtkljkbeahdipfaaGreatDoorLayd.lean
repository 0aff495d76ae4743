/-
  Walks: a payload's frame, by both sides (frame.Frame, cubbyref01.Frame).
-/
import Derived.Test.YtkljkbeahdipfaaGreatDoorLayc
import Derived.Lib.SlBytesConst
import Derived.Lib.QuietBelow
import Derived.BigRegion
import Derived.Deep.Cut
import Derived.IntWalk
namespace Go.Proofs.YtkljkbeahdipfaaGreatDoor
open Go.RowKit
set_option linter.unusedSimpArgs false
set_option linter.unusedVariables false
theorem blk_reads8 {w : World} {g : Nat} {T : TypeId} {p : Nat × Nat} {l : List UInt8} (h : w.heap[g]? = some (.cells (u8s l).toArray T p)) : Reads w w.heap.size 1 (some ⟨g, 0, none⟩) l.length (u8s l) := by
 refine ⟨by rw [u8s_length, Nat.mul_one], fun _ => ⟨_, rfl, (Array.getElem?_eq_some_iff.1 h).1, fun j u hu => ?_⟩⟩
 have ha : (⟨g, 0, none⟩ : Addr).add j = ⟨g, j, none⟩ := by unfold Addr.add; split <;> simp_all
 rw [ha, cell_of_row w g j _ _ p h]
 simpa using hu
theorem u8s_one' (l : List UInt8) : (u8s l).all (·.oneCell') = true := by
 rw [u8s_map, List.all_map, List.all_eq_true]
 intro x _
 rfl
theorem u8s_len32 {l : List UInt8} (h : l.length = 32) : (u8s l).length = 32 := by rw [u8s_length, h]
set_option maxRecDepth 100000 in
set_option maxHeartbeats 1000000 in
theorem frame_any (k : Nat) (hk1 : 1 ≤ k) (hk3 : k ≤ 3) (A : Option Addr) (n c : Nat) (p : List UInt8) (hl : p.length = n) (hn : n ≤ 30000) (w : World) (hr : Reads w w.heap.size 1 A n (u8s p)) :
 Calls Tryz.prog 182 #[.int .i64 (k : Nat), .slice A n c] w fun ev w' => ∃ v, ev = .returned (.tuple #[v, .int .i64 0]) ∧ Own8 w.heap.size w' v (frameB k p) ∧ Below w.heap.size w w' := by
 have f1 : decide ((k : Int) < 1) = false := by simp; omega
 have f2 : decide ((3 : Int) < (k : Int)) = false := by simp; omega
 have f3 : decide ((30000 : Int) < (n : Int)) = false := by simp; omega
 refine calls_at 46 Tryz.func182 rfl rfl (Nat.le_of_ble_eq_true rfl) ?_
 intro a hA; replace hA := hA.norm
 refine wS (wR ?_)
 revert a; (iterate 2 refine wo rfl rfl (by decide) (fun ev e h => by simp [go_sem, h, f1, f2, f3] <;> rfl) ?_); intro a hA
 replace hA := hA.keepN [0, 1]
 refine wN (nT (wS (wB (wS (wR ?_)))))
 revert a; (iterate 3 refine wo rfl rfl (by decide) (fun ev e h => by simp [go_sem, h, f1, f2, f3] <;> rfl) ?_); (iterate 2 refine wg _ rfl rfl rfl rfl (by decide) (fun hq ev e h => by simp [go_sem, h, ↓gw_t (beq_t hq), f1, f2, f3] <;> rfl) ?_); refine wko rfl rfl (by decide) rfl rfl rfl ?_; refine wo rfl rfl (by decide) (fun ev e h => by simp [go_sem, h, f1, f2, f3] <;> rfl) ?_; intro a hA
 replace hA := hA.keepN [0, 1, 10]
 refine wN (nT ?_)
 refine wp_if hA 10 _ rfl (fun hq => ?yA) (fun hq => ?nA)
 case yA => cases hq
 case nA =>
  refine wS (wR ?_)
  revert a; (iterate 4 refine wo rfl rfl (by decide) (fun ev e h => by simp [go_sem, h, f3] <;> rfl) ?_); intro a hA
  replace hA := hA.keepN [0, 1, 17]
  refine wN (nT ?_)
  refine wp_if hA 17 _ rfl (fun hq2 => ?yB) (fun hq2 => ?nB)
  case yB => cases hq2
  case nB =>
   refine wp_skip (nB (nT (wS (wR ?_))))
   refine wl_new hA rfl rfl (by decide) (fun ev h => by simp [go_sem, f3]; try first | exact ⟨rfl, rfl⟩ | rfl) fun w1 a (Ko : Blk _ _ _ _) hz1 hb1 hA => ?_
   obtain ⟨o, ho⟩ : ∃ o, w.heap.size = o := ⟨_, rfl⟩
   have hO : OutAt w1 w.heap.size o [] false (.slice none 0 0) := ⟨by omega, by rw [← ho]; exact Ko, World.ownsRow_nil _ _ _ _⟩
   rw [ho] at hA
   have hoB : w.heap.size ≤ o := by omega
   clear Ko
   replace hA := hA.keepN [0, 1, 6]
   refine wN (nT (wS (wR ?_)))
   have hcv : (convert 22 22 (.slice (some ⟨w1.heap.size, 0, none⟩) 3 3)).run Tryz.prog (w1.alloc (.cells #[.int .u8 99, .int .u8 117, .int .u8 98] 5)) = .ok (.slice (some ⟨w1.heap.size, 0, none⟩) 3 3) (w1.alloc (.cells #[.int .u8 99, .int .u8 117, .int .u8 98] 5 (3, 4))) := Lib.run_convert_bytes_const (P := Tryz.prog) w1 22 5 #[.int .u8 99, .int .u8 117, .int .u8 98] 3 3 Tryz.underlying22 Tryz.underlying5
   refine wl_op hA rfl rfl (by decide) (fun ev h => by simp [go_sem, h.c, f3, Nat.zero_add]; try first | exact ⟨rfl, rfl⟩ | rfl) fun a hA => ?_
   refine wl_op hA rfl rfl (by decide) (fun ev h => by simp [go_sem, h.get 21 rfl, hcv]; try first | exact ⟨rfl, rfl⟩ | rfl) fun a hA => ?_
   have hb2 : Below w1.heap.size w1 (w1.alloc (.cells #[.int .u8 99, .int .u8 117, .int .u8 98] 5 (3, 4))) := (Below.refl _ _).alloc (Nat.le_refl _) _
   have hR2 : Reads (w1.alloc (.cells #[.int .u8 99, .int .u8 117, .int .u8 98] 5 (3, 4))) (w1.alloc (.cells #[.int .u8 99, .int .u8 117, .int .u8 98] 5 (3, 4))).heap.size 1 (some ⟨w1.heap.size, 0, none⟩) 3 (u8s [99, 117, 98]) := blk_reads8 (l := [99, 117, 98]) (heap_alloc_new w1 _)
   generalize w1.alloc (.cells #[.int .u8 99, .int .u8 117, .int .u8 98] 5 (3, 4)) = w2 at *
   obtain ⟨L0, hL0⟩ : ∃ L0, w1.heap.size = L0 := ⟨_, rfl⟩
   have HB := hb1.trans (hb2.mono hb1.size)
   refine wl_call hA rfl rfl (by decide) (fun ev h => exec_call Tryz.func176 (by kernel_rfl) rfl (h.f _) (by first | (simp only [mL, h.get 6 rfl, h.get 22 rfl, h.c] <;> rfl) | (simp [mL, h.get 6 rfl, h.get 22 rfl, h.c, hcv] <;> rfl))) (out_Raw (hO.below hb2) HB.size (by simp) _ 3 3 [99, 117, 98] rfl (by decide) hR2) ?_
   rintro e w3 ⟨rfl, ⟨v3, hO⟩, hob⟩
   refine ⟨_, rfl, fun a hA => ?_⟩
   replace HB := HB.trans (hob.toBelow HB.size (Nat.le_refl _) hoB)
   clear hR2 hb2 hcv
   replace hA := hA.keepN [0, 1, 6]
   refine wN (nT (wS (wR ?_)))
   revert a; refine wo rfl rfl (by decide) (fun ev e h => by simp [go_sem, h] <;> rfl) ?_; intro a hA
   refine wl_call hA rfl rfl (by decide) (fun ev h => exec_call Tryz.func129 (by kernel_rfl) rfl (h.f _) (by first | (simp only [mL, h.get 6 rfl, h.get 24 rfl, h.c] <;> rfl) | (simp [mL, h.get 6 rfl, h.get 24 rfl, h.c] <;> rfl))) (out_N hO HB.size (by simp) k 1 (by omega) (show k < 256 ^ 1 by omega)) ?_
   rintro e w4 ⟨rfl, ⟨v4, hO⟩, hob⟩
   refine ⟨_, rfl, fun a hA => ?_⟩
   replace HB := HB.trans (hob.toBelow HB.size (Nat.le_refl _) hoB)
   replace hA := hA.keepN [1, 6]
   refine wN (nT (wS (wR ?_)))
   revert a; (iterate 2 refine wo rfl rfl (by decide) (fun ev e h => by simp [go_sem, h] <;> rfl) ?_); intro a hA
   refine wl_call hA rfl rfl (by decide) (fun ev h => exec_call Tryz.func129 (by kernel_rfl) rfl (h.f _) (by first | (simp only [mL, h.get 6 rfl, h.get 27 rfl, h.c] <;> rfl) | (simp [mL, h.get 6 rfl, h.get 27 rfl, h.c] <;> rfl))) (out_N hO HB.size (by simp [be_length]) n 4 (by omega) (show n < 256 ^ 4 by omega)) ?_
   rintro e w5 ⟨rfl, ⟨v5, hO⟩, hob⟩
   refine ⟨_, rfl, fun a hA => ?_⟩
   replace HB := HB.trans (hob.toBelow HB.size (Nat.le_refl _) hoB)
   have eh : [] ++ [99, 117, 98] ++ be 1 k ++ be 4 n = frameHd k p := by unfold frameHd; rw [hl]; simp [be]
   rw [eh] at hO
   have hdl := frameHd_length k p
   replace hA := hA.keepN [1, 6]
   refine wN (nT (wS (wR ?_)))
   refine wl_call hA rfl rfl (by decide) (fun ev h => exec_call Tryz.func177 (by kernel_rfl) rfl (h.f _) (by first | (simp only [mL, h.get 6 rfl, h.c] <;> rfl) | (simp [mL, h.get 6 rfl, h.c] <;> rfl))) (out_End hO (by omega)) ?_
   rintro e w6 ⟨r6, rfl, ho6, hb6⟩
   refine ⟨_, rfl, fun a hA => ?_⟩
   replace HB := HB.trans (hb6.mono HB.size)
   replace hO := hO.below hb6
   obtain ⟨A6, c6, e6, hR6, _⟩ := own_reads ho6
   subst e6
   revert a; (iterate 5 refine wo rfl rfl (by decide) (fun ev e h => by simp [go_sem, h] <;> rfl) ?_); intro a hA
   replace hA := hA.keepN [1, 6, 7]
   refine wN (nT (wS (wR ?_)))
   revert a; refine wo rfl rfl (by decide) (fun ev e h => by simp [go_sem, h] <;> rfl) ?_; intro a hA
   refine wl_call hA rfl rfl (by decide) (fun ev h => exec_call Tryz.func226 (by kernel_rfl) rfl (h.f _) (by first | (simp only [mL, h.get 33 rfl, h.c] <;> rfl) | (simp [mL, h.get 33 rfl, h.c] <;> rfl))) (crc_any A6 _ c6 (frameHd k p) _ rfl (by omega) hR6) ?_
   rintro e w7 ⟨rfl, rfl⟩
   refine ⟨_, rfl, fun a hA => ?_⟩
   have hcl := crc_bound (frameHd k p)
   obtain ⟨cr, hcr⟩ : ∃ cr, crc (frameHd k p) = cr := ⟨_, rfl⟩
   rw [hcr] at hA hcl
   have hwc : IntKind.i64.wrap (cr : Int) = (cr : Int) := IntWalk.i64_in _ (by omega)
   refine wl_op hA rfl rfl (by decide) (fun ev h => by simp [go_sem, h.get 34 rfl, hwc]; try first | exact ⟨rfl, rfl⟩ | rfl) fun a hA => ?_
   refine wl_call hA rfl rfl (by decide) (fun ev h => exec_call Tryz.func129 (by kernel_rfl) rfl (h.f _) (by first | (simp only [mL, h.get 6 rfl, h.get 35 rfl, h.c] <;> rfl) | (simp [mL, h.get 6 rfl, h.get 35 rfl, h.c, hwc] <;> rfl))) (out_N hO HB.size (by omega) cr 4 (by omega) (show cr < 256 ^ 4 by omega)) ?_
   rintro e w8 ⟨rfl, ⟨v8, hO⟩, hob⟩
   refine ⟨_, rfl, fun a hA => ?_⟩
   replace HB := HB.trans (hob.toBelow HB.size (Nat.le_refl _) hoB)
   clear hR6 ho6
   replace hA := hA.keepN [1, 6]
   refine wN (nT (wS (wR ?_)))
   revert a; refine wo rfl rfl (by decide) (fun ev e h => by simp [go_sem, h] <;> rfl) ?_; intro a hA
   refine wl_call hA rfl rfl (by decide) (fun ev h => exec_call Tryz.func145 (by kernel_rfl) rfl (h.f _) (by first | (simp only [mL, h.get 37 rfl, h.c] <;> rfl) | (simp [mL, h.get 37 rfl, h.c] <;> rfl))) (digest_any A n c p hl (by omega) _ ((hr.below HB).more HB.size)) ?_
   rintro e w9 ⟨rfl, hb9⟩
   refine ⟨_, rfl, fun a hA => ?_⟩
   replace HB := HB.trans (hb9.mono HB.size)
   replace hO := hO.below hb9
   refine wl_new hA rfl rfl (by decide) (fun ev h => by simp [go_sem]; try first | exact ⟨rfl, rfl⟩ | rfl) fun w10 a (K9 : Blk _ _ _ _) hz10 hb10 hA => ?_
   have hd32 := u8s_len32 (digest_length p)
   refine wl_setw (u8s (digest p)) hA rfl rfl K9 (by rfl) hd32 (by kernel_rfl) (u8s_one' _) rfl (fun ev h => ⟨h.get 9 rfl, h.get 38 rfl⟩) fun w11 (K9 : Blk _ _ _ _) hs => ?_
   have hb11 := hs.below hb10 (Nat.le_refl _)
   replace HB := HB.trans (hb11.mono HB.size)
   replace hO := hO.below hb11
   have hR9 := blk_reads8 (l := digest p) K9
   rw [digest_length] at hR9
   clear hb10 hb11 hs hb9
   replace hA := hA.keepN [1, 6, 9]
   refine wN (nT (wS (wR ?_)))
   revert a; refine wo rfl rfl (by decide) (fun ev e h => by simp [go_sem, h] <;> rfl) ?_; intro a hA
   refine wl_call hA rfl rfl (by decide) (fun ev h => exec_call Tryz.func176 (by kernel_rfl) rfl (h.f _) (by first | (simp only [mL, h.get 6 rfl, h.get 39 rfl, h.c] <;> rfl) | (simp [mL, h.get 6 rfl, h.get 39 rfl, h.c] <;> rfl))) (out_Raw hO HB.size (by simp [be_length]; omega) _ 32 _ (digest p) (digest_length p) (by decide) hR9) ?_
   rintro e w12 ⟨rfl, ⟨v12, hO⟩, hob⟩
   refine ⟨_, rfl, fun a hA => ?_⟩
   replace HB := HB.trans (hob.toBelow HB.size (Nat.le_refl _) hoB)
   have hdg := digest_length p
   replace hA := hA.keepN [1, 6]
   refine wN (nT (wS (wR ?_)))
   revert a; refine wo rfl rfl (by decide) (fun ev e h => by simp [go_sem, h] <;> rfl) ?_; intro a hA
   refine wl_call hA rfl rfl (by decide) (fun ev h => exec_call Tryz.func176 (by kernel_rfl) rfl (h.f _) (by first | (simp only [mL, h.get 6 rfl, h.get 41 rfl, h.c] <;> rfl) | (simp [mL, h.get 6 rfl, h.get 41 rfl, h.c] <;> rfl))) (out_Raw hO HB.size (by simp [be_length]; omega) A n c p hl (by omega) ((hr.below HB).more HB.size)) ?_
   rintro e w13 ⟨rfl, ⟨v13, hO⟩, hob⟩
   refine ⟨_, rfl, fun a hA => ?_⟩
   replace HB := HB.trans (hob.toBelow HB.size (Nat.le_refl _) hoB)
   have hfe : frameHd k p ++ be 4 cr ++ digest p ++ p = frameB k p := by rw [← hcr]; rfl
   rw [hfe] at hO
   have hfl := frameB_length k p
   replace hA := hA.keepN [6]
   refine wN (nT (wS (wR ?_)))
   refine wl_call hA rfl rfl (by decide) (fun ev h => exec_call Tryz.func177 (by kernel_rfl) rfl (h.f _) (by first | (simp only [mL, h.get 6 rfl, h.c] <;> rfl) | (simp [mL, h.get 6 rfl, h.c] <;> rfl))) (out_End hO (by omega)) ?_
   rintro e w14 ⟨r14, rfl, ho14, hb14⟩
   refine ⟨_, rfl, fun a hA => ?_⟩
   revert a; (iterate 4 refine wo rfl rfl (by decide) (fun ev e h => by simp [go_sem, h] <;> rfl) ?_); intro a hA
   replace hA := hA.keepN [4, 5]
   refine wN (nT (wp_ret ?_))
   refine ret_2 hA 4 5 rfl rfl rfl ?_
   exact ⟨_, rfl, own_mono (Own8.of ho14) HB.size, HB.trans (hb14.mono HB.size)⟩
end Go.Proofs.YtkljkbeahdipfaaGreatDoor
/-
  Walks: what a head tells, by both sides (frame.head, cubbyref01.head).
-/
namespace Go.Proofs.YtkljkbeahdipfaaGreatDoor
open Go.RowKit
set_option linter.unusedSimpArgs false
set_option linter.unusedVariables false
theorem inN_take {l : List UInt8} (n : Nat) (h : n ≤ l.length) : inN ⟨l, false⟩ n = (beVal (l.take n), ⟨l.drop n, false⟩) := by
 unfold inN inTake
 simp only
 rw [if_neg (by simp), if_neg (by omega)]
 simp
theorem beVal_one (x : UInt8) : beVal [x] = x.toNat := by unfold beVal; simp
theorem hd_parts {b : List UInt8} (h : 44 ≤ b.length) : inN ⟨(b.take 44).drop 3, false⟩ 1 = (hdKind b, ⟨(b.take 44).drop 4, false⟩) ∧ inN ⟨(b.take 44).drop 4, false⟩ 4 = (hdLen b, ⟨(b.take 44).drop 8, false⟩) ∧ (inN ⟨(b.take 44).drop 8, false⟩ 4).1 = hdCrc b := by
 have hl : (b.take 44).length = 44 := by rw [List.length_take]; omega
 refine ⟨?_, ?_, ?_⟩
 ·rw [inN_take 1 (by rw [List.length_drop]; omega), List.drop_drop]
  congr 1
  rw [List.drop_eq_getElem_cons (by omega), List.take_succ_cons, List.take_zero, beVal_one]
  unfold hdKind
  rw [List.getElem_take, List.getD_eq_getElem?_getD, List.getElem?_eq_getElem (by omega)]
  rfl
 ·rw [inN_take 4 (by rw [List.length_drop]; omega), List.drop_drop]
  congr 1
  unfold hdLen
  rw [List.drop_take, List.take_take]
  rfl
 ·rw [inN_take 4 (by rw [List.length_drop]; omega)]
  show beVal _ = _
  unfold hdCrc
  rw [List.drop_take, List.take_take]
  rfl
theorem magic_str : (⟨#[99, 117, 98]⟩ : ByteArray).toList = [99, 117, 98] := by rw [ByteArray.toList_eq]
set_option maxRecDepth 100000 in
theorem head_short (A : Option Addr) (n c : Nat) (hn : n < 44) (w : World) : Calls Tryz.prog 178 #[.slice A n c] w fun ev w' => ev = .returned (.tuple #[.int .i64 0, .int .i64 0, .bool false]) ∧ w' = w := by
 have h1 : decide ((n : Int) < 44) = true := by simp; omega
 refine calls_at 47 Tryz.func178 rfl rfl (Nat.le_of_ble_eq_true rfl) ?_
 intro a hA; replace hA := hA.norm
 refine wS (wR ?_)
 refine wl_op hA rfl rfl (by decide) (fun ev h => by simp [go_sem, h.c, h1]; try first | exact ⟨rfl, rfl⟩ | rfl) fun a hA => ?_
 refine wl_op hA rfl rfl (by decide) (fun ev h => by simp [go_sem, h.c, h1]; try first | exact ⟨rfl, rfl⟩ | rfl) fun a hA => ?_
 refine wl_op hA rfl rfl (by decide) (fun ev h => by simp [go_sem, h.c, h1]; try first | exact ⟨rfl, rfl⟩ | rfl) fun a hA => ?_
 replace hA := hA.keepN [0]
 refine wN (nT (wS (wS (wR ?_))))
 refine wl_op hA rfl rfl (by decide) (fun ev h => by simp [go_sem, h.get 0 rfl, h1]; try first | exact ⟨rfl, rfl⟩ | rfl) fun a hA => ?_
 refine wl_op hA rfl rfl (by decide) (fun ev h => by simp [go_sem, h.get 9 rfl, h1]; try first | exact ⟨rfl, rfl⟩ | rfl) fun a hA => ?_
 refine wl_op hA rfl rfl (by decide) (fun ev h => by simp [go_sem, h.c, h.get 10 rfl, h1]; try first | exact ⟨rfl, rfl⟩ | rfl) fun a hA => ?_
 refine wl_op hA rfl rfl (by decide) (fun ev h => by simp [go_sem, h.get 11 rfl, h1]; try first | exact ⟨rfl, rfl⟩ | rfl) fun a hA => ?_
 refine wl_guard _ (v := undef) hA rfl rfl rfl rfl (by decide) (fun hq ev h => by first | (cases hq; done) | (cases hr; done)) fun a hA => ?_
 refine wl_guard _ (v := undef) hA rfl rfl rfl rfl (by decide) (fun hq ev h => by first | (cases hq; done) | (cases hr; done)) fun a hA => ?_
 refine wl_guard _ (v := undef) hA rfl rfl rfl rfl (by decide) (fun hq ev h => by first | (cases hq; done) | (cases hr; done)) fun a hA => ?_
 refine wl_guard _ (v := undef) hA rfl rfl rfl rfl (by decide) (fun hq ev h => by first | (cases hq; done) | (cases hr; done)) fun a hA => ?_
 revert a; (first | refine wko rfl rfl (by decide) rfl rfl rfl ?_ | refine wo rfl rfl (by decide) (fun ev e h => by simp [go_sem, h, gv_or, gv_and, h1] <;> rfl) ?_); intro a hA
 replace hA := hA.keepN [0, 17]
 refine wN (nT ?_)
 refine wp_if hA 17 _ rfl (fun hq => ?yA) (fun hq => ?nA)
 case nA => cases hq
 case yA =>
  refine wS (wR ?_)
  revert a; (iterate 3 refine wo rfl rfl (by decide) (fun ev e h => by simp [go_sem, h, h1] <;> rfl) ?_); intro a hA
  replace hA := hA.keepN [2, 3, 4]
  refine wN (nT (wp_ret (rT ?_)))
  refine ret_3 hA 2 3 4 rfl rfl rfl rfl ?_
  exact ⟨rfl, rfl⟩
set_option maxRecDepth 100000 in
set_option maxHeartbeats 1000000 in
theorem head_long (A : Option Addr) (n c : Nat) (b : List UInt8) (hl : b.length = n) (hc : n ≤ c) (h44 : 44 ≤ n) (hn : n ≤ 16000000) (w : World) (hr : Reads w w.heap.size 1 A n (u8s b)) :
 Calls Tryz.prog 178 #[.slice A n c] w fun ev w' => ∃ (k m : Int), ev = .returned (.tuple #[.int .i64 k, .int .i64 m, .bool (headOk b)]) ∧ (headOk b = true → k = (hdKind b : Nat) ∧ m = (hdLen b : Nat)) ∧ Below w.heap.size w w' := by
 have h1 : decide ((n : Int) < 44) = false := by simp; omega
 have hr3 := hr.take8 (k := 3) (by omega)
 have v3 := conv_reads (c := c) (by rw [List.length_take]; omega) hr3
 obtain ⟨S, hS⟩ : ∃ S : ByteArray, (⟨(b.take 3).toArray⟩ : ByteArray) = S := ⟨_, rfl⟩
 have hSm : (S.toList == [99, 117, 98]) = (b.take 3 == [99, 117, 98]) := by rw [← hS, ByteArray.toList_eq]
 rw [hS] at v3
 have z1 : (3 : Int) ≤ (c : Int) := by omega
 have z2 : (44 : Int) ≤ (c : Int) := by omega
 refine calls_at 47 Tryz.func178 rfl rfl (Nat.le_of_ble_eq_true rfl) ?_
 intro a hA; replace hA := hA.norm
 refine wS (wR ?_)
 revert a; (iterate 3 refine wo rfl rfl (by decide) (fun ev e h => by simp [go_sem, h, h1, v3, z1, z2, magic_str, hSm] <;> rfl) ?_); intro a hA
 replace hA := hA.keepN [0]
 refine wN (nT (wS (wS (wR ?_))))
 revert a; (iterate 4 refine wo rfl rfl (by decide) (fun ev e h => by simp [go_sem, h, h1, v3, z1, z2, magic_str, hSm] <;> rfl) ?_); (iterate 2 refine wg _ rfl rfl rfl rfl (by decide) (fun hq ev e h => by simp [go_sem, h, ↓gw_t (beq_t hq), h1, v3, z1, z2, magic_str, hSm] <;> rfl) ?_); intro a hA
 refine wl_guard _ hA rfl rfl rfl rfl (by decide) (fun hq ev h => by simp [go_sem, ((h.get 14 rfl).trans (gw_t (beq_t hq))), h1, v3, z1, z2, magic_str, hSm]; try first | exact ⟨rfl, rfl⟩ | rfl) fun a hA => ?_
 revert a; refine wg _ rfl rfl rfl rfl (by decide) (fun hq ev e h => by simp [go_sem, h, ↓gw_t (beq_t hq), h1, v3, z1, z2, magic_str, hSm] <;> rfl) ?_; (first | refine wko rfl rfl (by decide) rfl rfl rfl ?_ | refine wo rfl rfl (by decide) (fun ev e h => by simp [go_sem, h, gv_or, gv_and, h1, v3, z1, z2, magic_str, hSm] <;> rfl) ?_); intro a hA
 replace hA := hA.keepN [0, 17]
 refine wN (nT ?_)
 refine wp_if hA 17 _ rfl (fun hq => ?yA) (fun hq => ?nA)
 case yA =>
  have hno : headOk b = false := by
   have : (b.take 3 == [99, 117, 98]) = false := by simpa using hq
   unfold headOk
   rw [this]
   simp
  refine wS (wR ?_)
  revert a; (iterate 3 refine wo rfl rfl (by decide) (fun ev e h => by simp [go_sem, h, h1, v3, z1, z2, magic_str, hSm] <;> rfl) ?_); intro a hA
  replace hA := hA.keepN [2, 3, 4]
  refine wN (nT (wp_ret (rT ?_)))
  refine ret_3 hA 2 3 4 rfl rfl rfl rfl ?_
  exact ⟨0, 0, by rw [hno], fun h => (by rw [hno] at h; cases h), Below.refl _ _⟩
 case nA =>
  have hmg : (b.take 3 == [99, 117, 98]) = true := by simpa using hq
  refine wp_skip (nT (wS (wR ?_)))
  revert a; (iterate 2 refine wo rfl rfl (by decide) (fun ev e h => by simp [go_sem, h, z1, z2] <;> rfl) ?_); intro a hA
  have hr41 := (reads_cut8 hr (k := 3) (by omega) hc (by decide)).take8 (k := 41) (by omega)
  have e41 : ((b.drop 3).take 41) = (b.take 44).drop 3 := by rw [List.drop_take]
  have hl41 : ((b.drop 3).take 41).length = 41 := by rw [List.length_take, List.length_drop]; omega
  obtain ⟨p1, p2, p3⟩ := hd_parts (b := b) (by omega)
  rw [← e41] at p1
  have hl4 : ∀ q, ((b.take 44).drop q).length ≤ 1000000 := fun q => by rw [List.length_drop, List.length_take]; omega
  refine wl_call hA rfl rfl (by decide) (fun ev h => exec_call Tryz.func110 (by kernel_rfl) rfl (h.f _) (by first | (simp only [mL, h.get 19 rfl, h.c] <;> rfl) | (simp [mL, h.get 19 rfl, h.c, z1, z2] <;> rfl))) (in_new _ 41 _ ((b.drop 3).take 41) hl41 (by decide) _ hr41) ?_
  rintro e w1 ⟨i, v1, rfl, hI, hi, hb1⟩
  refine ⟨_, rfl, fun a hA => ?_⟩
  have HB := hb1
  revert a; refine wo rfl rfl (by decide) (fun ev e h => by simp [go_sem, h] <;> rfl) ?_; intro a hA
  replace hA := hA.keepN [0, 5]
  refine wN (nT (wS (wR ?_)))
  revert a; refine wo rfl rfl (by decide) (fun ev e h => by simp [go_sem, h] <;> rfl) ?_; intro a hA
  refine wl_call hA rfl rfl (by decide) (fun ev h => exec_call Tryz.func111 (by kernel_rfl) rfl (h.f _) (by first | (simp only [mL, h.get 21 rfl, h.c] <;> rfl) | (simp [mL, h.get 21 rfl, h.c] <;> rfl))) (in_N hI (by show ((b.drop 3).take 41).length ≤ _; omega) 1 (by omega)) ?_
  rintro e w2 ⟨rfl, ⟨v2, hI⟩, hib⟩
  refine ⟨_, rfl, fun a hA => ?_⟩
  rw [p1] at hI hA
  replace HB := HB.trans (hib.toBelow HB.size hi)
  revert a; refine wo rfl rfl (by decide) (fun ev e h => by simp [go_sem, h] <;> rfl) ?_; intro a hA
  refine wl_call hA rfl rfl (by decide) (fun ev h => exec_call Tryz.func111 (by kernel_rfl) rfl (h.f _) (by first | (simp only [mL, h.get 23 rfl, h.c] <;> rfl) | (simp [mL, h.get 23 rfl, h.c] <;> rfl))) (in_N hI (by exact hl4 _) 4 (by omega)) ?_
  rintro e w3 ⟨rfl, ⟨v3', hI⟩, hib⟩
  refine ⟨_, rfl, fun a hA => ?_⟩
  rw [p2] at hI hA
  replace HB := HB.trans (hib.toBelow HB.size hi)
  revert a; (iterate 2 refine wo rfl rfl (by decide) (fun ev e h => by simp [go_sem, h] <;> rfl) ?_); intro a hA
  replace hA := hA.keepN [0, 5, 6, 7]
  refine wN (nT (wS (wR ?_)))
  revert a; refine wo rfl rfl (by decide) (fun ev e h => by simp [go_sem, h] <;> rfl) ?_; intro a hA
  refine wl_call hA rfl rfl (by decide) (fun ev h => exec_call Tryz.func111 (by kernel_rfl) rfl (h.f _) (by first | (simp only [mL, h.get 25 rfl, h.c] <;> rfl) | (simp [mL, h.get 25 rfl, h.c] <;> rfl))) (in_N hI (by exact hl4 _) 4 (by omega)) ?_
  rintro e w4 ⟨rfl, ⟨v4, hI⟩, hib⟩
  refine ⟨_, rfl, fun a hA => ?_⟩
  rw [p3] at hA
  replace HB := HB.trans (hib.toBelow HB.size hi)
  have hcl : hdCrc b < 4294967296 := by
   have h1 := beVal_lt ((b.drop 8).take 4)
   have h2 : ((b.drop 8).take 4).length ≤ 4 := by rw [List.length_take]; omega
   exact Nat.lt_of_lt_of_le h1 (Nat.le_trans (Nat.pow_le_pow_right (by omega) h2) (by decide))
  have hwc : IntKind.u32.wrap ((hdCrc b : Nat) : Int) = ((hdCrc b : Nat) : Int) := IntWalk.u32_in _ (by omega)
  have z3 : (8 : Int) ≤ (c : Int) := by omega
  have hr8 := ((hr.below HB).more HB.size).take8 (k := 8) (by omega)
  refine wl_op hA rfl rfl (by decide) (fun ev h => by simp [go_sem, h.get 26 rfl, hwc, z3]; try first | exact ⟨rfl, rfl⟩ | rfl) fun a hA => ?_
  revert a; refine wo rfl rfl (by decide) (fun ev e h => by simp [go_sem, h, hwc, z3] <;> rfl) ?_; intro a hA
  replace hA := hA.keepN [0, 6, 7, 8]
  refine wN (nT (wS (wR ?_)))
  revert a; (iterate 5 refine wo rfl rfl (by decide) (fun ev e h => by simp [go_sem, h, hwc, z3] <;> rfl) ?_); (iterate 2 refine wg _ rfl rfl rfl rfl (by decide) (fun hq ev e h => by simp [go_sem, h, ↓gw_t (beq_t hq), hwc, z3] <;> rfl) ?_); (first | refine wka rfl rfl (by decide) rfl rfl rfl ?_ | refine wo rfl rfl (by decide) (fun ev e h => by simp [go_sem, h, gv_or, gv_and, hwc, z3] <;> rfl) ?_); refine wo rfl rfl (by decide) (fun ev e h => by simp [go_sem, h, hwc, z3] <;> rfl) ?_; refine wg _ rfl rfl rfl rfl (by decide) (fun hq ev e h => by simp [go_sem, h, ↓gw_t (beq_t hq), hwc, z3] <;> rfl) ?_; intro a hA
  replace hA := hA.keepN [0, 8, 28, 29, 36, 37]
  revert a; refine wg _ rfl rfl rfl rfl (by decide) (fun hq ev e h => by simp [go_sem, h, ↓gw_t (beq_t hq), hwc, z3] <;> rfl) ?_; (first | refine wka rfl rfl (by decide) rfl rfl rfl ?_ | refine wo rfl rfl (by decide) (fun ev e h => by simp [go_sem, h, gv_or, gv_and, hwc, z3] <;> rfl) ?_); refine wo rfl rfl (by decide) (fun ev e h => by simp [go_sem, h, hwc, z3] <;> rfl) ?_; (iterate 3 refine wg _ rfl rfl rfl rfl (by decide) (fun hq ev e h => by simp [go_sem, h, ↓gw_t (beq_t hq), hwc, z3] <;> rfl) ?_); intro a hA
  refine wl_gcallv _ hA rfl rfl rfl rfl (by decide) (fun hq ev h => exec_call Tryz.func226 (by kernel_rfl) rfl (h.f _) (by first | (simp only [mL, ((h.get 43 rfl).trans (gw_t (beq_t hq))), h.c] <;> rfl) | (simp [mL, ((h.get 43 rfl).trans (gw_t (beq_t hq))), h.c, hwc, z3] <;> rfl))) (fun hq => (crc_any A 8 c (b.take 8) _ (by rw [List.length_take]; omega) (by decide) hr8).mono fun e w' h => ⟨h.1, h.2 ▸ Below.refl _ _⟩) fun a w5 hb5 hA => ?_
  revert a; refine wg _ rfl rfl rfl rfl (by decide) (fun hq ev e h => by simp [go_sem, h, ↓gw_t (beq_t hq), hwc, z3] <;> rfl) ?_; (first | refine wka rfl rfl (by decide) rfl rfl rfl ?_ | refine wo rfl rfl (by decide) (fun ev e h => by simp [go_sem, h, gv_or, gv_and, hwc, z3] <;> rfl) ?_); (iterate 2 refine wo rfl rfl (by decide) (fun ev e h => by simp [go_sem, h, hwc, z3] <;> rfl) ?_); intro a hA
  replace hA := hA.keepN [2, 3, 46]
  revert a; refine wo rfl rfl (by decide) (fun ev e h => by simp [go_sem, h, hwc, z3] <;> rfl) ?_; intro a hA
  replace hA := hA.keepN [2, 3, 4]
  refine wN (nT (wp_ret ?_))
  refine ret_3 hA 2 3 4 rfl rfl rfl rfl ?_
  have hok : headOk b = (decide ((1 : Int) ≤ ((hdKind b : Nat) : Int)) && decide (((hdKind b : Nat) : Int) ≤ 3) && decide (((hdLen b : Nat) : Int) ≤ 30000) && (((hdCrc b : Nat) : Int) == ((crc (b.take 8) : Nat) : Int))) := by
   unfold headOk
   rw [hmg, show decide (44 ≤ b.length) = true by simp; omega]
   have e1 : decide ((1 : Int) ≤ ((hdKind b : Nat) : Int)) = decide (1 ≤ hdKind b) := by rw [Bool.eq_iff_iff]; simp; omega
   have e2 : decide (((hdKind b : Nat) : Int) ≤ 3) = decide (hdKind b ≤ 3) := by rw [Bool.eq_iff_iff]; simp; omega
   have e3 : decide (((hdLen b : Nat) : Int) ≤ 30000) = decide (hdLen b ≤ 30000) := by rw [Bool.eq_iff_iff]; simp; omega
   have e4 : (((hdCrc b : Nat) : Int) == ((crc (b.take 8) : Nat) : Int)) = (hdCrc b == crc (b.take 8)) := by rw [Bool.eq_iff_iff]; simp; omega
   rw [e1, e2, e3, e4]
   simp
  rw [hok]
  exact ⟨_, _, rfl, fun _ => ⟨rfl, rfl⟩, HB.trans (hb5.mono HB.size)⟩
theorem head_any (A : Option Addr) (n c : Nat) (b : List UInt8) (hl : b.length = n) (hc : n ≤ c) (hn : n ≤ 16000000) (w : World) (hr : Reads w w.heap.size 1 A n (u8s b)) :
 Calls Tryz.prog 178 #[.slice A n c] w fun ev w' => ∃ (k m : Int), ev = .returned (.tuple #[.int .i64 k, .int .i64 m, .bool (headOk b)]) ∧ (headOk b = true → k = (hdKind b : Nat) ∧ m = (hdLen b : Nat)) ∧ Below w.heap.size w w' := by
 rcases Nat.lt_or_ge n 44 with h | h
 ·refine (head_short A n c h w).mono fun ev w' ⟨h1, h2⟩ => ?_
  have hno := headOk_short (b := b) (by omega)
  exact ⟨0, 0, by rw [h1, hno], fun h => (by rw [hno] at h; cases h), h2 ▸ Below.refl _ _⟩
 ·exact head_long A n c b hl hc h hn w hr
end Go.Proofs.YtkljkbeahdipfaaGreatDoor
/-
  Walk: what a head tells, by the document (cubbyref01.head).
-/
namespace Go.Proofs.YtkljkbeahdipfaaGreatDoor
open Go.RowKit
set_option linter.unusedSimpArgs false
set_option linter.unusedVariables false
theorem wrap_addN {a k c : Nat} (h : a + k = c) (hc : c ≤ 1000000000) : IntKind.i64.wrap ((a : Int) + (k : Int)) = (c : Int) := by
 rw [IntWalk.i64_in _ (by omega)]
 omega
end Go.Proofs.YtkljkbeahdipfaaGreatDoor
/-
  Where three bytes stand in others: bytes.Index, by the shelf's contract.
-/
namespace Go.Proofs.YtkljkbeahdipfaaGreatDoor
open Go.RowKit
theorem ints8_range (l : List UInt8) : ∀ x ∈ ints8 l, 0 ≤ x ∧ x < 256 := fun x hx => by
 unfold ints8 at hx
 obtain ⟨b, _, rfl⟩ := List.mem_map.1 hx
 have := b.toNat_lt
 omega
theorem bindex_any (A : Option Addr) (n c : Nat) (b : List UInt8) (a2 : Addr) (k d : Nat) (m : List UInt8) (hl : b.length = n) (hm : m.length = k) (h1 : 0 < n) (h2 : 0 < k) (hc : n ≤ c) (hn : n ≤ 16000000) (hk : k ≤ 1000000) (w : World) (hM : MaxCell w)
 (hr : Reads w w.heap.size 1 A n (u8s b)) (hr2 : Reads w w.heap.size 1 (some a2) k (u8s m)) :
 Calls Tryz.prog 227 #[.slice A n c, .slice (some a2) k d] w fun ev w' => ev = .returned (.int .i64 (Lib.index b m)) ∧ Below w.heap.size w w' := by
 obtain ⟨mx, hmx⟩ := hM
 obtain ⟨ad, rfl, _, _⟩ := hr.2 h1
 have h := Tryz.bytes_Index_at ad a2 n c k d (ints8 b) (ints8 m) mx w (by simpa [ints8] using hl) (by simpa [ints8] using hm) (ints8_range b) (ints8_range m) (ints8_at hl hr) (ints8_at hm hr2) hc (by omega) (by omega) hmx
 rw [bytesOf_ints8, bytesOf_ints8] at h
 exact h.mono fun ev w' ⟨h1, q, h2⟩ => ⟨h1, by rw [h2]; exact below_drewN (Below.refl _ _) q⟩
end Go.Proofs.YtkljkbeahdipfaaGreatDoor
/-
  Walk: the next place at which a right head stands (frame.next).
-/
namespace Go.Proofs.YtkljkbeahdipfaaGreatDoor
open Go.RowKit
set_option linter.unusedSimpArgs false
set_option linter.unusedVariables false
theorem index_cases (s sub : List UInt8) : (Lib.index s sub = -1 ∧ ∀ j, j ≤ s.length → Lib.occAt s sub j = false) ∨ ∃ i : Nat, i ≤ s.length ∧ Lib.index s sub = i ∧ Lib.occAt s sub i = true ∧ ∀ j, j < i → Lib.occAt s sub j = false := by
 have key : ∀ k, (∀ j, j < k → Lib.occAt s sub j = false) ∨ ∃ i, i < k ∧ Lib.occAt s sub i = true ∧ ∀ j, j < i → Lib.occAt s sub j = false := by
  intro k
  induction k with
  | zero => exact .inl fun j hj => absurd hj (by omega)
  | succ k ih =>
    rcases ih with ih | ⟨i, hi, h1, h2⟩
    ·cases hk : Lib.occAt s sub k with
     | true => exact .inr ⟨k, by omega, hk, ih⟩
     | false =>
       refine .inl fun j hj => ?_
       rcases Nat.lt_or_ge j k with h | h
       ·exact ih j h
       ·rw [show j = k by omega]; exact hk
    ·exact .inr ⟨i, by omega, h1, h2⟩
 rcases key (s.length + 1) with h | ⟨i, hi, h1, h2⟩
 ·exact .inl ⟨Lib.index_none fun j hj => h j (by omega), fun j hj => h j (by omega)⟩
 ·exact .inr ⟨i, by omega, Lib.index_first (by omega) h1 h2, h1, h2⟩
theorem headOk_occ {b : List UInt8} {at_ j : Nat} (hj : at_ ≤ j) (h : headOk (b.drop j) = true) : Lib.occAt (b.drop at_) [99, 117, 98] (j - at_) = true := by
 unfold headOk at h
 simp only [Bool.and_eq_true, beq_iff_eq] at h
 have h3 := h.1.2
 unfold Lib.occAt
 rw [List.drop_drop, show at_ + (j - at_) = j by omega, List.isPrefixOf_iff_prefix, List.prefix_iff_eq_take]
 exact h3.symm
theorem cut_any {w : World} {B n q cap : Nat} {A : Option Addr} {l : List UInt8} (h : Reads w B 1 A n (u8s l)) (h2 : q ≤ n) (hc : n ≤ cap) : Reads w B 1 (if cap = q then A else Option.map (fun x => x.add q) A) (n - q) (u8s (l.drop q)) := by
 have := h.cut (k := q) h2 hc
 rw [Nat.mul_one, show (u8s l).drop q = u8s (l.drop q) by rw [u8s_map, u8s_map, List.map_drop]] at this
 exact this
theorem occ_len {s sub : List UInt8} {i : Nat} (h : Lib.occAt s sub i = true) (h0 : 0 < sub.length) : i + sub.length ≤ s.length := by
 unfold Lib.occAt at h
 have h1 := List.isPrefixOf_iff_prefix.1 h
 have h2 := h1.length_le
 rw [List.length_drop] at h2
 omega
theorem three_lit (w1 : World) : (convert 22 22 (.slice (some ⟨w1.heap.size, 0, none⟩) 3 3)).run Tryz.prog (w1.alloc (.cells #[.int .u8 99, .int .u8 117, .int .u8 98] 5)) = .ok (.slice (some ⟨w1.heap.size, 0, none⟩) 3 3) (w1.alloc (.cells #[.int .u8 99, .int .u8 117, .int .u8 98] 5 (3, 4))) := Lib.run_convert_bytes_const (P := Tryz.prog) w1 22 5 #[.int .u8 99, .int .u8 117, .int .u8 98] 3 3 Tryz.underlying22 Tryz.underlying5
theorem three_reads (w1 : World) : Below w1.heap.size w1 (w1.alloc (.cells #[.int .u8 99, .int .u8 117, .int .u8 98] 5 (3, 4))) ∧ Reads (w1.alloc (.cells #[.int .u8 99, .int .u8 117, .int .u8 98] 5 (3, 4))) (w1.alloc (.cells #[.int .u8 99, .int .u8 117, .int .u8 98] 5 (3, 4))).heap.size 1 (some ⟨w1.heap.size, 0, none⟩) 3 (u8s [99, 117, 98]) :=
 ⟨(Below.refl _ _).alloc (Nat.le_refl _) _, blk_reads8 (l := [99, 117, 98]) (heap_alloc_new w1 _)⟩
set_option maxRecDepth 100000 in
set_option maxHeartbeats 1000000 in
theorem next_any (A : Option Addr) (n c : Nat) (b : List UInt8) (hl : b.length = n) (hc : n ≤ c) (hn : n ≤ 16000000) (at0 : Nat) (h0 : at0 ≤ n) (w : World) (hm : MaxCell w) (hg : 0 < w.heap.size) (hr : Reads w w.heap.size 1 A n (u8s b)) :
 Calls Tryz.prog 179 #[.slice A n c, .int .i64 (at0 : Nat)] w fun ev w' => ∃ i : Int, ev = .returned (.int .i64 i) ∧ ((i = -1 ∧ ∀ j, at0 ≤ j → headOk (b.drop j) = false) ∨ ∃ q : Nat, i = (q : Int) ∧ at0 ≤ q ∧ q < n ∧ headOk (b.drop q) = true ∧ ∀ j, at0 ≤ j → j < q → headOk (b.drop j) = false) ∧ Below w.heap.size w w' := by
 have HB := Below.refl w.heap.size w
 refine calls_at 36 Tryz.func179 rfl rfl (Nat.le_of_ble_eq_true rfl) ?_
 intro a hA; replace hA := hA.norm
 refine wS (wR ?_)
 revert a; refine wo rfl rfl (by decide) (fun ev e h => by simp [go_sem, h] <;> rfl) ?_; intro a hA
 replace hA := hA.keepN [0, 1]
 refine wN (nT (wS (wB ?_)))
 refine wp_loop_at (fun k a wx => ∃ (q : Nat), at0 ≤ q ∧ q ≤ n ∧ k = n - q ∧ (∀ j, at0 ≤ j → j < q → headOk (b.drop j) = false) ∧ At 36 [(0, .slice A n c), (1, .int .i64 (q : Nat))] a ∧ Below w.heap.size w wx) (n - at0) ?_ ?_
 ·exact ⟨at0, Nat.le_refl _, h0, rfl, fun j h1 h2 => absurd h2 (by omega), hA, HB⟩
 clear HB
 rintro k a wx ⟨q, hq0, hqn, hk, hno, hA, HB⟩
 refine wS (wS (wR ?_))
 revert a; (iterate 4 refine wo rfl rfl (by decide) (fun ev e h => by simp [go_sem, h] <;> rfl) ?_); intro a hA
 replace hA := hA.keepN [0, 1, 12]
 refine wN (nT ?_)
 refine wp_if hA 12 _ rfl (fun hq => ?yL) (fun hq => ?nL)
 case nL =>
  have hqe : q = n := by simp at hq; omega
  subst hqe
  replace hA := hA.keepN []
  refine wp_exit (xT (xT (xB (nT (wS (wR ?_))))))
  revert a; refine wo rfl rfl (by decide) (fun ev e h => by simp [go_sem, h] <;> rfl) ?_; intro a hA
  replace hA := hA.keepN [4]
  refine wN (nT (wp_ret ?_))
  refine ret_1 hA 4 rfl rfl ?_
  refine ⟨-1, rfl, .inl ⟨rfl, fun j hj => ?_⟩, HB⟩
  rcases Nat.lt_or_ge j q with h | h
  ·exact hno j hj h
  ·exact headOk_short (by rw [List.length_drop]; omega)
 case yL =>
  have hlt : q < n := by simp at hq; omega
  have hrx := (hr.below HB).more HB.size
  have jq : (0 : Int) ≤ (q : Int) := by omega
  have kq : (q : Int) ≤ (n : Int) := by omega
  have kc : (q : Int) ≤ (c : Int) := by omega
  refine wp_skip (nT (wB (wS (wR ?_))))
  revert a; (iterate 3 refine wo rfl rfl (by decide) (fun ev e h => by simp [go_sem, h, jq, kq, kc] <;> rfl) ?_); intro a hA
  have hcv := three_lit wx
  obtain ⟨hb2, hR2⟩ := three_reads wx
  have hrq := cut_any hrx (q := q) hqn hc
  refine wl_op hA rfl rfl (by decide) (fun ev h => by simp [go_sem, h.c, jq, kq, kc, Nat.zero_add]; try first | exact ⟨rfl, rfl⟩ | rfl) fun a hA => ?_
  refine wl_op hA rfl rfl (by decide) (fun ev h => by simp [go_sem, h.get 16 rfl, hcv]; try first | exact ⟨rfl, rfl⟩ | rfl) fun a hA => ?_
  obtain ⟨w2, hw2⟩ : ∃ w2, wx.alloc (.cells #[.int .u8 99, .int .u8 117, .int .u8 98] 5 (3, 4)) = w2 := ⟨_, rfl⟩
  rw [hw2] at hb2 hR2 ⊢
  clear hcv hw2
  have hdl : (b.drop q).length = n - q := by rw [List.length_drop, hl]
  have hB2 := HB.trans (hb2.mono HB.size)
  refine wl_call hA rfl rfl (by decide) (fun ev h => exec_call Tryz.func227 (by kernel_rfl) rfl (h.f _) (by first | (simp only [mL, h.get 15 rfl, h.get 17 rfl, h.c] <;> rfl) | (simp [mL, h.get 15 rfl, h.get 17 rfl, h.c] <;> rfl))) (bindex_any _ (n - q) (c - q) (b.drop q) _ 3 3 [99, 117, 98] hdl rfl (by omega) (by decide) (by omega) (by omega) (by decide) _ (hm.below hg hB2) ((hrq.below hb2).more hb2.size) hR2) ?_
  rintro e w3 ⟨rfl, hb3⟩
  refine ⟨_, rfl, fun a hA => ?_⟩
  replace HB := hB2.trans (hb3.mono hB2.size)
  clear hR2 hb2 hrq
  obtain ⟨z, hz⟩ : ∃ z, Lib.index (b.drop q) [99, 117, 98] = z := ⟨_, rfl⟩
  rw [hz] at hA
  have hcs := index_cases (b.drop q) [99, 117, 98]
  rw [hz, hdl] at hcs
  revert a; refine wo rfl rfl (by decide) (fun ev e h => by simp [go_sem, h] <;> rfl) ?_; intro a hA
  replace hA := hA.keepN [0, 1, 5]
  refine wN (nT (wS (wS (wR ?_))))
  revert a; (iterate 2 refine wo rfl rfl (by decide) (fun ev e h => by simp [go_sem, h] <;> rfl) ?_); intro a hA
  replace hA := hA.keepN [0, 1, 5, 20]
  refine wN (nT ?_)
  refine wp_if hA 20 _ rfl (fun hq2 => ?yR) (fun hq2 => ?nR)
  case yR =>
   have hneg : z = -1 ∧ ∀ j, j ≤ n - q → Lib.occAt (b.drop q) [99, 117, 98] j = false := by
    rcases hcs with h | ⟨i, _, h, _⟩
    ·exact h
    ·simp at hq2; omega
   refine wS (wR ?_)
   revert a; refine wo rfl rfl (by decide) (fun ev e h => by simp [go_sem, h] <;> rfl) ?_; intro a hA
   replace hA := hA.keepN [4]
   refine wN (nT (wp_ret (rT (rB (rT (rB (rT ?_)))))))
   refine ret_1 hA 4 rfl rfl ?_
   refine ⟨-1, rfl, .inl ⟨rfl, fun j hj => ?_⟩, HB⟩
   rcases Nat.lt_or_ge j q with h | h
   ·exact hno j hj h
   ·cases hh : headOk (b.drop j) with
    | false => rfl
    | true =>
      have h44 := headOk_len hh
      rw [List.length_drop] at h44
      have := headOk_occ h hh
      rw [hneg.2 (j - q) (by omega)] at this
      cases this
  case nR =>
   obtain ⟨i, hi, rfl, hocc, hfirst⟩ : ∃ i : Nat, i ≤ n - q ∧ z = (i : Int) ∧ Lib.occAt (b.drop q) [99, 117, 98] i = true ∧ ∀ j, j < i → Lib.occAt (b.drop q) [99, 117, 98] j = false := by
    rcases hcs with ⟨h, _⟩ | h
    ·simp at hq2; omega
    ·exact h
   have hil := occ_len hocc (by decide)
   rw [hdl] at hil
   have hil : i + 3 ≤ n - q := hil
   obtain ⟨p, hp⟩ : ∃ p, q + i = p := ⟨_, rfl⟩
   have hpn : p < n := by omega
   have jp : (0 : Int) ≤ (p : Int) := by omega
   have kp : (p : Int) ≤ (n : Int) := by omega
   have kpc : (p : Int) ≤ (c : Int) := by omega
   have b1 : p ≤ 1000000000 := by omega
   have b2 : p + 1 ≤ 1000000000 := by omega
   have hno2 : ∀ j, at0 ≤ j → j < p → headOk (b.drop j) = false := fun j h1 h2 => by
    rcases Nat.lt_or_ge j q with h | h
    ·exact hno j h1 h
    ·cases hh : headOk (b.drop j) with
     | false => rfl
     | true =>
       have := headOk_occ h hh
       rw [hfirst (j - q) (by omega)] at this
       cases this
   have hrp := cut_any ((hr.below HB).more HB.size) (q := p) (by omega) hc
   have hdp : (b.drop p).length = n - p := by rw [List.length_drop, hl]
   have m1 : n - p ≤ c - p := by omega
   have m2 : n - p ≤ 16000000 := by omega
   have wp := wrap_addN hp b1
   have wp1 : IntKind.i64.wrap ((p : Int) + 1) = ((p + 1 : Nat) : Int) := wrap_addN rfl b2
   refine wp_skip (nT (wS (wR ?_)))
   revert a; (iterate 4 refine wo rfl rfl (by decide) (fun ev e h => by simp [go_sem, h, wp, jp, kp, kpc] <;> rfl) ?_); intro a hA
   replace hA := hA.keepN [0, 1]
   refine wN (nT (wS (wS (wR ?_))))
   revert a; (iterate 3 refine wo rfl rfl (by decide) (fun ev e h => by simp [go_sem, h, wp, jp, kp, kpc] <;> rfl) ?_); intro a hA
   refine wl_call hA rfl rfl (by decide) (fun ev h => exec_call Tryz.func178 (by kernel_rfl) rfl (h.f _) (by first | (simp only [mL, h.get 27 rfl, h.c] <;> rfl) | (simp [mL, h.get 27 rfl, h.c, wp, jp, kp, kpc] <;> rfl))) (head_any _ (n - p) (c - p) (b.drop p) hdp m1 m2 _ hrp) ?_
   rintro e w4 ⟨kk, mm, rfl, _, hb4⟩
   refine ⟨_, rfl, fun a hA => ?_⟩
   replace HB := HB.trans (hb4.mono HB.size)
   revert a; (iterate 7 refine wo rfl rfl (by decide) (fun ev e h => by simp [go_sem, h, wp1] <;> rfl) ?_); intro a hA
   replace hA := hA.keepN [0, 1, 8]
   refine wN (nT (wS (wR ?_)))
   revert a; refine wo rfl rfl (by decide) (fun ev e h => by simp [go_sem, h, wp1] <;> rfl) ?_; intro a hA
   replace hA := hA.keepN [0, 1, 32]
   refine wN (nT ?_)
   refine wp_if hA 32 _ rfl (fun hq3 => ?yS) (fun hq3 => ?nS)
   case yS =>
    refine wS (wR ?_)
    revert a; (iterate 2 refine wo rfl rfl (by decide) (fun ev e h => by simp [go_sem, h, wp1] <;> rfl) ?_); intro a hA
    replace hA := hA.keepN [4]
    refine wN (nT (wp_ret (rT (rB (rT (rB (rT ?_)))))))
    refine ret_1 hA 4 rfl rfl ?_
    exact ⟨_, rfl, .inr ⟨p, rfl, by omega, hpn, hq3, hno2⟩, HB⟩
   case nS =>
    refine wp_skip (nT (wR ?_))
    revert a; (iterate 3 refine wo rfl rfl (by decide) (fun ev e h => by simp [go_sem, h, wp1] <;> rfl) ?_); intro a hA
    replace hA := hA.keepN [0, 1]
    refine wN (nB (nT ?_))
    refine ⟨n - (p + 1), by omega, p + 1, by omega, by omega, rfl, fun j h1 h2 => ?_, hA, HB⟩
    rcases Nat.lt_or_ge j p with h | h
    ·exact hno2 j h1 h
    ·rw [show j = p by omega]; exact hq3
end Go.Proofs.YtkljkbeahdipfaaGreatDoor
/-
  Walk: all records of bytes (frame.Scan).
-/
namespace Go.Proofs.YtkljkbeahdipfaaGreatDoor
open Go.RowKit
set_option linter.unusedSimpArgs false
set_option linter.unusedVariables false
theorem clone8_any (A : Option Addr) (n c : Nat) (l : List UInt8) (hl : l.length = n) (hn : n ≤ 100000000) (w : World) (hr : Reads w w.heap.size 1 A n (u8s l)) :
 Calls Tryz.prog 136 #[.slice A n c] w fun ev w' => ∃ r, ev = .returned r ∧ Own8 w.heap.size w' r l ∧ Below w.heap.size w w' := by
 have he := nil_eq (P := Tryz.prog) Tryz.underlying22 A n c w
 refine calls_at 8 Tryz.func136 rfl rfl (Nat.le_of_ble_eq_true rfl) ?_
 intro a hA; replace hA := hA.norm
 refine wS (wR ?_)
 revert a; refine wo rfl rfl (by decide) (fun ev e h => by simp [go_sem, h, he] <;> rfl) ?_; intro a hA
 replace hA := hA.keepN [0]
 refine wN (nT (wS (wS (wR ?_))))
 revert a; (iterate 2 refine wo rfl rfl (by decide) (fun ev e h => by simp [go_sem, h, he] <;> rfl) ?_); intro a hA
 replace hA := hA.keepN [0, 4]
 refine wN (nT ?_)
 refine wp_if hA 4 _ rfl (fun hq => ?yN) (fun hq => ?nN)
 case yN =>
  have hl0 : l = [] := by
   cases A with
   | none =>
     rcases Nat.eq_zero_or_pos n with h | h
     ·exact List.length_eq_zero_iff.1 (hl.trans h)
     ·obtain ⟨ad, e, _⟩ := hr.2 h; cases e
   | some a => cases hq
  subst hl0
  refine wS (wR ?_)
  revert a; refine wo rfl rfl (by decide) (fun ev e h => by simp [go_sem, h] <;> rfl) ?_; intro a hA
  replace hA := hA.keepN [2]
  refine wN (nT (wp_ret (rT ?_)))
  refine ret_1 hA 2 rfl rfl ?_
  exact ⟨_, rfl, Own8.nil _, Below.refl _ _⟩
 case nN =>
  refine wp_skip (nT (wS (wR ?_)))
  refine wl_new hA rfl rfl (by decide) (fun ev h => by simp [go_sem]; try first | exact ⟨rfl, rfl⟩ | rfl) fun w1 a (K : Blk _ _ _ _) hz hb hA => ?_
  have ho : Own8 w.heap.size w1 (.slice (some ⟨w.heap.size, 0, none⟩) 0 0) [] := ownsRow_empty K (Nat.le_refl _)
  revert a; refine wo rfl rfl (by decide) (fun ev e h => by simp [go_sem, h] <;> rfl) ?_; intro a hA
  obtain ⟨r, w2, hr2, ho2, hg2⟩ := run_app8 ho (u := .slice A n c) ⟨A, c, by rw [hl], by rw [hl]; exact (hr.below hb).more hb.size⟩ (by simp; omega) hb.size
  have hb2 := below_app8 hb ho hg2 (Nat.le_refl _) hb.size
  rw [List.nil_append] at ho2
  refine wl_op hA rfl rfl (by decide) (fun ev h => exec_append rfl (h.get 5 rfl) (h.get 6 rfl) hr2) fun a hA => ?_
  revert a; refine wo rfl rfl (by decide) (fun ev e h => by simp [go_sem, h] <;> rfl) ?_; intro a hA
  replace hA := hA.keepN [2]
  refine wN (nT (wp_ret ?_))
  refine ret_1 hA 2 rfl rfl ?_
  exact ⟨_, rfl, ho2, hb2⟩
structure RecV where
 at_ : Nat
 kind : Nat
 a : Option Addr
 c : Nat
 b : List UInt8
def recB (r : RecV) : RecB := ⟨r.at_, r.kind, r.b⟩
def recC (r : RecV) : List Value := [.int .i64 (r.at_ : Nat), .int .i64 (r.kind : Nat), .slice r.a r.b.length r.c]
theorem recC_one (r : RecV) : ∀ u ∈ recC r, u.oneCell' = true := by
 intro u hu
 unfold recC at hu
 simp only [List.mem_cons, List.not_mem_nil, or_false] at hu
 rcases hu with rfl | rfl | rfl <;> rfl
def recSh : Sh RecV := ⟨192, 189, 3, 40, .agg #[.int .i64 0, .int .i64 0, .slice none 0 0], recC, fun r => [(r.a, r.b)], fun _ => rfl, recC_one, Tryz.underlying189, by kernel_rfl, rfl, by decide, by decide⟩
set_option maxRecDepth 100000 in
set_option maxHeartbeats 2000000 in
theorem scan_any (A : Option Addr) (n c : Nat) (b : List UInt8) (hl : b.length = n) (hc : n ≤ c) (hn : n ≤ 16000000) (w : World) (hm : MaxCell w) (hg : 0 < w.heap.size) (hr : Reads w w.heap.size 1 A n (u8s b)) :
 Calls Tryz.prog 118 #[.slice A n c] w fun ev w' => ∃ v l, ev = .returned (.tuple #[v, .int .i64 ((scan b).2 : Nat)]) ∧ OwnR recSh w.heap.size w' v l ∧ l.map recB = (scan b).1 ∧ Below w.heap.size w w' := by
 have HB := Below.refl w.heap.size w
 refine calls_at 76 Tryz.func118 rfl rfl (Nat.le_of_ble_eq_true rfl) ?_
 intro a hA; replace hA := hA.norm
 refine wS (wR ?_)
 revert a; (iterate 2 refine wo rfl rfl (by decide) (fun ev e h => by simp [go_sem, h] <;> rfl) ?_); intro a hA
 replace hA := hA.keepN [0]
 refine wN (nT (wS (wR ?_)))
 revert a; refine wo rfl rfl (by decide) (fun ev e h => by simp [go_sem, h] <;> rfl) ?_; intro a hA
 replace hA := hA.keepN [0, 4]
 refine wN (nT (wS (wR ?_)))
 revert a; refine wo rfl rfl (by decide) (fun ev e h => by simp [go_sem, h] <;> rfl) ?_; intro a hA
 replace hA := hA.keepN [0, 4, 5]
 refine wN (nT (wS (wB ?_)))
 refine wp_loop_at (fun k a wx => ∃ (q t : Nat) (v : Value) (l : List RecV), k = n - q ∧ q ≤ n ∧ l.length ≤ q ∧ scan b = scanAt b q t (l.map recB) ∧ (t = q ∨ headOk (b.drop q) = true) ∧ At 76 [(0, .slice A n c), (4, v), (5, .int .i64 (q : Nat))] a ∧ OwnR recSh w.heap.size wx v l ∧ Below w.heap.size w wx) (n) ?_ ?_
 ·exact ⟨0, 0, _, [], rfl, by omega, by simp, rfl, .inl rfl, hA, OwnR.nil _ _, HB⟩
 clear HB
 rintro k a wx ⟨q, t, v, l, hk, hqn, hlen, hsc, ht, hA, ho, HB⟩
 refine wS (wS (wR ?_))
 revert a; (iterate 4 refine wo rfl rfl (by decide) (fun ev e h => by simp [go_sem, h] <;> rfl) ?_); intro a hA
 replace hA := hA.keepN [0, 4, 5, 15]
 refine wN (nT ?_)
 refine wp_if hA 15 _ rfl (fun hq => ?yL) (fun hq => ?nL)
 case nL =>
  have hqe : q = n := by simp at hq; omega
  have htq : t = q := by
   rcases ht with h | h
   ·exact h
   ·have := headOk_len h
    rw [List.length_drop] at this
    omega
  rw [scan_end (by omega)] at hsc
  replace hA := hA.keepN [4, 5]
  refine wp_exit (xT (xT (xB (nT (wS (wR ?_))))))
  revert a; (iterate 4 refine wo rfl rfl (by decide) (fun ev e h => by simp [go_sem, h] <;> rfl) ?_); intro a hA
  replace hA := hA.keepN [2, 3]
  refine wN (nT (wp_ret ?_))
  refine ret_2 hA 2 3 rfl rfl rfl ?_
  exact ⟨v, l, by rw [hsc, htq], ho, by rw [hsc], HB⟩
 case yL =>
  have hlt : q < n := by simp at hq; omega
  have jq : (0 : Int) ≤ (q : Int) := by omega
  have kq : (q : Int) ≤ (n : Int) := by omega
  have kc : (q : Int) ≤ (c : Int) := by omega
  have m1 : n - q ≤ c - q := by omega
  have m2 : n - q ≤ 16000000 := by omega
  have hdl : (b.drop q).length = n - q := by rw [List.length_drop, hl]
  have hrq := cut_any ((hr.below HB).more HB.size) (q := q) hqn hc
  refine wp_skip (nT (wB (wS (wR ?_))))
  revert a; (iterate 3 refine wo rfl rfl (by decide) (fun ev e h => by simp [go_sem, h, jq, kq, kc] <;> rfl) ?_); intro a hA
  refine wl_call hA rfl rfl (by decide) (fun ev h => exec_call Tryz.func178 (by kernel_rfl) rfl (h.f _) (by first | (simp only [mL, h.get 19 rfl, h.c] <;> rfl) | (simp [mL, h.get 19 rfl, h.c, jq, kq, kc] <;> rfl))) (head_any _ (n - q) (c - q) (b.drop q) hdl m1 m2 _ hrq) ?_
  rintro e w2 ⟨kk, mm, rfl, hkm, hb2⟩
  refine ⟨_, rfl, fun a hA => ?_⟩
  have HB2 := HB.trans (hb2.mono HB.size)
  have ho2 := ho.below hb2
  revert a; (iterate 7 refine wo rfl rfl (by decide) (fun ev e h => by simp [go_sem, h] <;> rfl) ?_); intro a hA
  replace hA := hA.keepN [0, 4, 5, 6, 7, 8]
  refine wN (nT (wS (wS (wR ?_))))
  revert a; (iterate 2 refine wo rfl rfl (by decide) (fun ev e h => by simp [go_sem, h] <;> rfl) ?_); intro a hA
  replace hA := hA.keepN [0, 4, 5, 6, 7, 25]
  refine wN (nT ?_)
  refine wp_if hA 25 _ rfl (fun hq2 => ?yH) (fun hq2 => ?nH)
  case yH =>
   have hno : headOk (b.drop q) = false := by simpa using hq2
   obtain rfl : t = q := by
    rcases ht with h | h
    ·exact h
    ·rw [hno] at h; cases h
   refine wS (wR ?_)
   revert a; (iterate 2 refine wo rfl rfl (by decide) (fun ev e h => by simp [go_sem, h] <;> rfl) ?_); intro a hA
   refine wl_call hA rfl rfl (by decide) (fun ev h => exec_call Tryz.func179 (by kernel_rfl) rfl (h.f _) (by first | (simp only [mL, h.get 26 rfl, h.get 27 rfl, h.c] <;> rfl) | (simp [mL, h.get 26 rfl, h.get 27 rfl, h.c] <;> rfl))) (next_any A n c b hl hc hn t (by omega) _ (hm.below hg HB2) (Nat.lt_of_lt_of_le hg HB2.size) ((hr.below HB2).more HB2.size)) ?_
   rintro e w3 ⟨z, rfl, hz, hb3⟩
   refine ⟨_, rfl, fun a hA => ?_⟩
   replace ho2 := ho2.below hb3
   replace HB2 := HB2.trans (hb3.mono HB2.size)
   revert a; refine wo rfl rfl (by decide) (fun ev e h => by simp [go_sem, h] <;> rfl) ?_; intro a hA
   replace hA := hA.keepN [0, 4, 5, 9]
   refine wN (nT (wS (wS (wR ?_))))
   revert a; (iterate 2 refine wo rfl rfl (by decide) (fun ev e h => by simp [go_sem, h] <;> rfl) ?_); intro a hA
   replace hA := hA.keepN [0, 4, 5, 9, 30]
   refine wN (nT ?_)
   refine wp_if hA 30 _ rfl (fun hq3 => ?yI) (fun hq3 => ?nI)
   case yI =>
    have hnone : ∀ j, t ≤ j → headOk (b.drop j) = false := by
     rcases hz with ⟨_, h⟩ | ⟨p, rfl, _⟩
     ·exact h
     ·simp at hq3; omega
    rw [scan_none hnone] at hsc
    refine wS (wR ?_)
    revert a; (iterate 4 refine wo rfl rfl (by decide) (fun ev e h => by simp [go_sem, h] <;> rfl) ?_); intro a hA
    replace hA := hA.keepN [2, 3]
    refine wN (nT (wp_ret (rT (rT (rB (rT (rB (rT ?_))))))))
    refine ret_2 hA 2 3 rfl rfl rfl ?_
    exact ⟨v, l, by rw [hsc], ho2, by rw [hsc], HB2⟩
   case nI =>
    obtain ⟨p, rfl, hp1, hp2, hp3, hp4⟩ : ∃ p : Nat, z = (p : Int) ∧ t ≤ p ∧ p < n ∧ headOk (b.drop p) = true ∧ ∀ j, t ≤ j → j < p → headOk (b.drop j) = false := by
     rcases hz with ⟨rfl, _⟩ | h
     ·simp at hq3
     ·exact h
    have hne : p ≠ t := fun e => by rw [e, hno] at hp3; cases hp3
    have hskip := scan_skip (b := b) (torn := t) (l := l.map recB) (p - t) t (fun j h1 h2 => hp4 j h1 (by omega)) (by omega)
    rw [show t + (p - t) = p by omega, ← hsc] at hskip
    refine wp_skip (nT (wS (wR ?_)))
    revert a; (iterate 2 refine wo rfl rfl (by decide) (fun ev e h => by simp [go_sem, h] <;> rfl) ?_); intro a hA
    replace hA := hA.keepN [0, 4, 5]
    replace hA := hA.keepN [0, 4, 5]
    refine wN (nT (wp_exit (xT (xB (nT ?_)))))
    exact ⟨n - p, by omega, p, t, v, l, rfl, by omega, by omega, hskip, .inr hp3, hA, ho2, HB2⟩
  case nH =>
   have hyes : headOk (b.drop q) = true := by simpa using hq2
   obtain ⟨rfl, rfl⟩ := hkm hyes
   have h44 := headOk_len hyes
   rw [hdl] at h44
   obtain ⟨m, hme⟩ : ∃ m, hdLen (b.drop q) = m := ⟨_, rfl⟩
   rw [hme] at hA
   have hm30 : m ≤ 1000000 := by
    have hy := hyes
    unfold headOk at hy
    simp only [Bool.and_eq_true, decide_eq_true_eq] at hy
    have := hy.2.1.2
    omega
   have b0 : n - q - 44 ≤ 1000000000 := by omega
   have s1 : IntKind.i64.wrap ((n : Int) - (q : Int)) = ((n - q : Nat) : Int) := by rw [IntWalk.i64_in _ (by omega)]; omega
   obtain ⟨nq, hnq⟩ : ∃ x, n - q = x := ⟨_, rfl⟩
   rw [hnq] at s1
   have s2 : IntKind.i64.wrap ((nq : Int) - 44) = ((nq - 44 : Nat) : Int) := by clear s1; rw [IntWalk.i64_in _ (by omega)]; omega
   obtain ⟨r44, hr44⟩ : ∃ x, nq - 44 = x := ⟨_, rfl⟩
   rw [hr44] at s2
   refine wp_skip (nT (wS (wS (wR ?_))))
   revert a; (iterate 7 refine wo rfl rfl (by decide) (fun ev e h => by simp [go_sem, h, s1, s2] <;> rfl) ?_); intro a hA
   replace hA := hA.keepN [0, 4, 5, 6, 7, 40]
   refine wN (nT ?_)
   refine wp_if hA 40 _ rfl (fun hq3 => ?yT) (fun hq3 => ?nT)
   case yT =>
    have hgt : r44 < m := by clear s1 s2; simp at hq3; omega
    rw [scan_torn hyes (by clear s1 s2; omega)] at hsc
    refine wS (wR ?_)
    revert a; (iterate 4 refine wo rfl rfl (by decide) (fun ev e h => by simp [go_sem, h] <;> rfl) ?_); intro a hA
    replace hA := hA.keepN [2, 3]
    refine wN (nT (wp_ret (rT (rB (rT (rB (rT ?_)))))))
    refine ret_2 hA 2 3 rfl rfl rfl ?_
    exact ⟨v, l, by rw [hsc], ho2, by rw [hsc], HB2⟩
   case nT =>
    have hle : m ≤ r44 := by clear s1 s2; simp at hq3; omega
    clear s1 s2
    have g1 : q + 44 + m ≤ n := by omega
    have g2 : q + 44 + m ≤ 16000000 := by omega
    have p1 : q + 44 ≤ q + 44 + m := by omega
    have p2 : q + 12 ≤ q + 44 := by omega
    have p3 : q + 44 ≤ n := by omega
    have p4 : q + 44 ≤ 16000000 := by omega
    have hpl : (payOf (b.drop q)).length = m := by
     unfold payOf
     rw [hme, List.drop_drop, List.length_take, List.length_drop, hl]
     omega
    have hpe : (b.drop (q + 44)).take (q + 44 + m - (q + 44)) = payOf (b.drop q) := by
     unfold payOf
     rw [hme, List.drop_drop, show q + 44 + m - (q + 44) = m by omega]
    have hde : (b.drop (q + 12)).take (q + 44 - (q + 12)) = ((b.drop q).drop 12).take 32 := by
     rw [List.drop_drop, show q + 44 - (q + 12) = 32 by omega]
    have hdl2 : (((b.drop q).drop 12).take 32).length = 32 := by
     rw [List.drop_drop, List.length_take, List.length_drop, hl]
     omega
    have hrR := (hr.below HB2).more HB2.size
    have hR1 := reads_sub8 hrR p1 g1 hc
    have hR2 := reads_sub8 hrR p2 p3 hc
    rw [hpe, show q + 44 + m - (q + 44) = m by omega] at hR1
    rw [hde, show q + 44 - (q + 12) = 32 by omega] at hR2
    have hscr := scan_rec (b := b) (at_ := q) (torn := t) (l := l.map recB) hyes (by rw [hme, hl]; omega)
    rw [← hsc, hme] at hscr
    obtain ⟨q44, hq44⟩ : ∃ x, q + 44 = x := ⟨_, rfl⟩
    obtain ⟨q12, hq12⟩ : ∃ x, q + 12 = x := ⟨_, rfl⟩
    obtain ⟨qm, hqm⟩ : ∃ x, q + 44 + m = x := ⟨_, rfl⟩
    rw [hq44] at g1 g2 p1 p2 p3 p4 hR1 hqm hscr
    rw [hqm] at g1 g2 p1 hscr
    rw [hq12] at p2 hR2
    have i1 : (0 : Int) ≤ (q44 : Int) := by omega
    have i2 : (q44 : Int) ≤ (qm : Int) := by omega
    have i3 : (qm : Int) ≤ (c : Int) := by omega
    have i4 : (0 : Int) ≤ (q12 : Int) := by omega
    have i5 : (q12 : Int) ≤ (q44 : Int) := by omega
    have i6 : (q44 : Int) ≤ (c : Int) := by omega
    have d1 : qm - q44 = m := by omega
    have d2 : q44 - q12 = 32 := by omega
    have w1' : 44 + m ≤ 1000000000 := by omega
    have g3 : q44 ≤ 1000000000 := by omega
    have g4 : qm ≤ 1000000000 := by omega
    obtain ⟨m44, hm44⟩ : ∃ x, 44 + m = x := ⟨_, rfl⟩
    have hqm4 : q + m44 = qm := by omega
    rw [hm44] at w1'
    have f1 : IntKind.i64.wrap ((q : Int) + 44) = (q44 : Int) := wrap_addN (k := 44) hq44 g3
    have f2 : IntKind.i64.wrap ((q44 : Int) + (m : Int)) = (qm : Int) := wrap_addN hqm g4
    have f4 : IntKind.i64.wrap ((44 : Int) + (m : Int)) = (m44 : Int) := wrap_addN (a := 44) hm44 w1'
    have f5 : IntKind.i64.wrap ((q : Int) + (m44 : Int)) = (qm : Int) := wrap_addN hqm4 g4
    have f6 : IntKind.i64.wrap ((q44 : Int) - 32) = (q12 : Int) := by
     clear f1 f2 f4 f5
     rw [IntWalk.i64_in _ (by omega)]
     omega
    refine wp_skip (nT (wS (wR ?_)))
    revert a; (iterate 9 refine wo rfl rfl (by decide) (fun ev e h => by simp [go_sem, h, f1, f2, i1, i2, i3, d1] <;> rfl) ?_); intro a hA
    replace hA := hA.keepN [0, 4, 5, 6, 7, 10]
    refine wN (nT (wS (wS (wR ?_))))
    revert a; refine wo rfl rfl (by decide) (fun ev e h => by simp [go_sem, h, f1, f2, i1, i2, i3, d1] <;> rfl) ?_; intro a hA
    refine wl_call hA rfl rfl (by decide) (fun ev h => exec_call Tryz.func145 (by kernel_rfl) rfl (h.f _) (by first | (simp only [mL, h.get 51 rfl, h.c] <;> rfl) | (simp [mL, h.get 51 rfl, h.c, f1, f2, i1, i2, i3, d1] <;> rfl))) (digest_any _ m _ (payOf (b.drop q)) hpl hm30 _ hR1) ?_
    rintro e w3 ⟨rfl, hb3⟩
    refine ⟨_, rfl, fun a hA => ?_⟩
    have HB3 := HB2.trans (hb3.mono HB2.size)
    replace ho2 := ho2.below hb3
    replace hR1 := (hR1.below hb3).more hb3.size
    replace hR2 := (hR2.below hb3).more hb3.size
    refine wl_new hA rfl rfl (by decide) (fun ev h => by simp [go_sem, f1, f2, i1, i2, i3, d1]; try first | exact ⟨rfl, rfl⟩ | rfl) fun w4 a (K9 : Blk _ _ _ _) hz4 hb4 hA => ?_
    have hd32 := u8s_len32 (digest_length (payOf (b.drop q)))
    refine wl_setw (u8s (digest (payOf (b.drop q)))) hA rfl rfl K9 (by rfl) hd32 (by kernel_rfl) (u8s_one' _) rfl (fun ev h => ⟨h.get 11 rfl, h.get 52 rfl⟩) fun w5 (K9 : Blk _ _ _ _) hs5 => ?_
    have hb5 := hs5.below hb4 (Nat.le_refl _)
    replace HB3 := HB3.trans (hb5.mono HB3.size)
    replace ho2 := ho2.below hb5
    replace hR1 := (hR1.below hb5).more hb5.size
    replace hR2 := (hR2.below hb5).more hb5.size
    have hR9 := blk_reads8 (l := digest (payOf (b.drop q))) K9
    rw [digest_length] at hR9
    have hkb : hdKind (b.drop q) ≤ 3 := by
     unfold headOk at hyes
     simp only [Bool.and_eq_true, decide_eq_true_eq] at hyes
     exact hyes.2.1.1.2
    clear hb4 hb5 hs5 hb3
    replace hA := hA.keepN [0, 4, 5, 6, 7, 10, 11]
    refine wN (nT (wS ?_))
    refine wp_any_at hA [(.det ?dE0), (.det ?dE1), (.det ?dE2), (.det ?dE3), (.det ?dE4), (.det ?dE5), (.det ?dE6), (.det ?dE7), (.det ?dE8)] [] (fun wy => Below w5.heap.size w5 wy) (TSp [] Grows) (by kernel_rfl) rfl (by kernel_rfl) (by kernel_rfl) rfl ((Below.refl _ _).drew) (stab_sp [] [true, true, true, true, true, true, true, true, true] [true, true, true, true, true, true, true, true, true] [] rfl rfl rfl (by kernel_rfl) ⟨trivial, trivial, trivial, trivial, trivial, trivial, trivial, trivial, trivial, trivial⟩ trivial) (fun _ h => by cases h) (fun _ _ _ _ _ h => by cases h) (fun _ h => by cases h) ⟨?oE0, ?oE1, ?oE2, ?oE3, ?oE4, ?oE5, ?oE6, ?oE7, ?oE8, trivial⟩ (by kernel_rfl) ?fE
    case oE0 => intro ev wo hev hC hs hph; have x0 := se hA hs 11; exact od rfl rfl (by kernel_rfl) hC (TSp.of rfl (Grows.refl _)) (by simp [go_sem, x0, f1, f6, i4, i5, i6, d2] <;> rfl)
    case oE1 => intro ev wo hev hC hs hph; have x0 := se hA hs 0; exact od rfl rfl (by kernel_rfl) hC (TSp.of rfl (Grows.refl _)) (by simp [go_sem, x0, f1, f6, i4, i5, i6, d2] <;> rfl)
    case oE2 => intro ev wo hev hC hs hph; have x0 := se hA hs 5; exact od rfl rfl (by kernel_rfl) hC (TSp.of rfl (Grows.refl _)) (by simp [go_sem, x0, f1, f6, i4, i5, i6, d2] <;> rfl)
    case oE3 => intro ev wo hev hC hs hph; have x0 := sd hs 55 2; exact od rfl rfl (by kernel_rfl) hC (TSp.of rfl (Grows.refl _)) (by simp [go_sem, x0, hev.const, f1, f6, i4, i5, i6, d2] <;> rfl)
    case oE4 => intro ev wo hev hC hs hph; have x0 := sd hs 56 3; exact od rfl rfl (by kernel_rfl) hC (TSp.of rfl (Grows.refl _)) (by simp [go_sem, x0, hev.const, f1, f6, i4, i5, i6, d2] <;> rfl)
    case oE5 => intro ev wo hev hC hs hph; have x0 := se hA hs 5; exact od rfl rfl (by kernel_rfl) hC (TSp.of rfl (Grows.refl _)) (by simp [go_sem, x0, f1, f6, i4, i5, i6, d2] <;> rfl)
    case oE6 => intro ev wo hev hC hs hph; have x0 := sd hs 58 5; exact od rfl rfl (by kernel_rfl) hC (TSp.of rfl (Grows.refl _)) (by simp [go_sem, x0, hev.const, f1, f6, i4, i5, i6, d2] <;> rfl)
    case oE7 => intro ev wo hev hC hs hph; have x0 := sd hs 54 1; have x1 := sd hs 57 4; have x2 := sd hs 59 6; exact od rfl rfl (by kernel_rfl) hC (TSp.of rfl (Grows.refl _)) (by simp [go_sem, x0, x1, x2, f1, f6, i4, i5, i6, d2] <;> rfl)
    case oE8 =>
     intro ev wo hev hC hs hph
     have e53 := sd hs 53 0
     have e60 := sd hs 60 7
     exact ob_dcall (wanted_none rfl) rfl (by kernel_rfl) ((equal_any _ _ 32 _ 32 _ (digest (payOf (b.drop q))) (((b.drop q).drop 12).take 32) wo (digest_length _) hdl2 ((hR9.below hC).more hC.size) ((hR2.below hC).more hC.size)).mono fun e' w' h => ⟨h.1, h.2 ▸ Below.refl _ _⟩) (exec_call Tryz.func68 (by kernel_rfl) rfl (hev.func _) (by first | (simp only [mL, e53, e60, hev.const] <;> rfl) | (simp [mL, e53, e60, hev.const] <;> rfl))) (by rfl) (fun w3 hb3 => ⟨hC.trans (hb3.mono hC.size), TSp.of rfl hb3⟩)
    intro sg wf hC hph
    intro a hA
    replace hA := hA.keepN [0, 4, 5, 6, 7, 10, 61]
    refine nT ?_
    have HB4 := HB3.trans (hC.mono HB3.size)
    replace ho2 := ho2.below hC
    replace hR1 := (hR1.below hC).more hC.size
    clear hR9 hR2 hC K9
    have hrec : recsAt b q = bif (digest (payOf (b.drop q)) == ((b.drop q).drop 12).take 32) then [⟨q, hdKind (b.drop q), payOf (b.drop q)⟩] else [] := rfl
    have hk2 : n - qm < n - q := by clear f1 f2 f4 f5 f6; omega
    have hlq : l.length < qm := by clear f1 f2 f4 f5 f6; omega
    refine wp_if hA 61 _ rfl (fun hq4 => ?yG) (fun hq4 => ?nG)
    case nG =>
     rw [hrec, hq4, cond_false, List.append_nil] at hscr
     refine wp_skip (nT (wR ?_))
     revert a; (iterate 5 refine wo rfl rfl (by decide) (fun ev e h => by simp [go_sem, h, f4, f5] <;> rfl) ?_); intro a hA
     replace hA := hA.keepN [0, 4, 5]
     refine wN (nB (nT ?_))
     exact ⟨n - qm, by rw [hk]; exact hk2, qm, qm, v, l, rfl, g1, Nat.le_of_lt hlq, hscr, .inl rfl, hA, ho2, HB4⟩
    case yG =>
     rw [hrec, hq4, cond_true] at hscr
     refine wR ?_
     revert a; (iterate 4 refine wo rfl rfl (by decide) (fun ev e h => by simp [go_sem, h, f1, f6, i4, i5, i6, d2] <;> rfl) ?_); intro a hA
     refine wl_call hA rfl rfl (by decide) (fun ev h => exec_call Tryz.func136 (by kernel_rfl) rfl (h.f _) (by first | (simp only [mL, h.get 65 rfl, h.c] <;> rfl) | (simp [mL, h.get 65 rfl, h.c, f1, f6, i4, i5, i6, d2] <;> rfl))) (clone8_any _ m _ (payOf (b.drop q)) hpl (by clear f1 f2 f4 f5 f6; omega) _ hR1) ?_
     rintro e w7 ⟨cl, rfl, hcl, hb7⟩
     refine ⟨_, rfl, fun a hA => ?_⟩
     replace HB4 := HB4.trans (hb7.mono HB4.size)
     have hvlt := World.ownsRow.lt ho2.row
     replace ho2 := ho2.below hb7
     have hclt := World.ownsRow.lt hcl
     obtain ⟨A8, c8, rfl, hR8⟩ := hcl.took
     revert a; refine wo rfl rfl (by decide) (fun ev e h => by simp [go_sem, h, f1, f6, i4, i5, i6, d2] <;> rfl) ?_; intro a hA
     refine wl_new hA rfl rfl (by decide) (fun ev h => by simp [go_sem, h.get 67 rfl, f1, f6, i4, i5, i6, d2]; try first | exact ⟨rfl, rfl⟩ | rfl) fun w8 a (K8 : Blk _ _ _ _) hz8 hb8 hA => ?_
     replace HB4 := HB4.trans (hb8.mono HB4.size)
     replace ho2 := ho2.below hb8
     replace hR8 := (hR8.below hb8).more hb8.size
     have hrow : RowR recSh w8 _ [(⟨q, hdKind (b.drop q), A8, c8, payOf (b.drop q)⟩ : RecV)] := rowR_blk (s := recSh) (x := ⟨q, hdKind (b.drop q), A8, c8, payOf (b.drop q)⟩) K8 (fun p hp => by rw [List.mem_singleton.1 hp]; exact hR8)
     obtain ⟨r, w9, hr9, ho9, hgr, -⟩ := run_appR ho2 hrow (fun g hg x hx p hp => by
      rw [List.mem_singleton.1 hx] at hp
      rw [List.mem_singleton.1 hp]
      intro hn ad ha he
      replace ha : A8 = some ad := ha
      have h1 := (hvlt g hg).2
      have h2 := (hclt ad.block (by rw [ha]; rfl)).1
      omega) (by clear f1 f2 f4 f5 f6; simp; omega) HB4.size
     have HB9 := below_appR HB4 ho2 hgr (Nat.le_refl _) HB4.size
     refine wl_op hA rfl rfl (by decide) (fun ev h => exec_append rfl (h.get 62 rfl) (h.get 68 rfl) hr9) fun a hA => ?_
     revert a; refine wo rfl rfl (by decide) (fun ev e h => by simp [go_sem, h, f4, f5] <;> rfl) ?_; intro a hA
     replace hA := hA.keepN [0, 4, 5, 7]
     refine wN (nT (wR ?_))
     revert a; (iterate 5 refine wo rfl rfl (by decide) (fun ev e h => by simp [go_sem, h, f4, f5] <;> rfl) ?_); intro a hA
     replace hA := hA.keepN [0, 4, 5]
     refine wN (nB (nT ?_))
     exact ⟨n - qm, by rw [hk]; exact hk2, qm, qm, r, l ++ [⟨q, hdKind (b.drop q), A8, c8, payOf (b.drop q)⟩], rfl, g1, by rw [List.length_append]; exact hlq, by rw [List.map_append]; exact hscr, .inl rfl, hA, ho9, HB9⟩
end Go.Proofs.YtkljkbeahdipfaaGreatDoor
/-
  Walk: what bytes say as a log (log.Read).
-/
namespace Go.Proofs.YtkljkbeahdipfaaGreatDoor
open Go.RowKit
set_option linter.unusedSimpArgs false
set_option linter.unusedVariables false
/-- the note of a record, if it is one -/
def noteOf (k : Nat) (at_ : Nat) (p : List UInt8) : NoteB := ⟨(k : Int), (rd1 p).1, (rd4 (k : Int) p).1, (rd2 (k : Int) p).1, ((rd3 (k : Int) p).1.1 : Nat), ((rd3 (k : Int) p).1.2 : Nat), (rd5 (k : Int) p).1, at_⟩
def notesR (l : List RecB) : List NoteB := l.flatMap fun r => bif decOk (r.kind : Int) r.b then [noteOf r.kind r.at_ r.b] else []
/-- the notes of bytes -/
def notesB (b : List UInt8) : List NoteB := notesR (scan b).1
theorem notesR_succ {l : List RecB} {j : Nat} {r : RecB} (hx : l[j]? = some r) : notesR (l.take (j + 1)) = notesR (l.take j) ++ bif decOk (r.kind : Int) r.b then [noteOf r.kind r.at_ r.b] else [] := by
 unfold notesR
 rw [List.take_add_one, hx, List.flatMap_append]
 congr 1
 simp
theorem takeAll_snoc (l : List NoteB) (n : NoteB) : takeAll (l ++ [n]) = takeN (takeAll l) n := by unfold takeAll; rw [List.foldl_append]; rfl
theorem scanAt_len (b : List UInt8) : ∀ (f at_ torn : Nat) (l : List RecB), b.length - at_ ≤ f → (scanAt b at_ torn l).1.length ≤ l.length + (b.length - at_)
 | 0, at_, torn, l, h => by rw [scan_end (by omega)]; exact Nat.le_add_right _ _
 | f + 1, at_, torn, l, h => by
   rcases Nat.lt_or_ge at_ b.length with h1 | h1
   ·cases hh : headOk (b.drop at_) with
    | false =>
      rw [scan_next hh h1]
      have := scanAt_len b f (at_ + 1) torn l (by omega)
      omega
    | true =>
      rcases Nat.lt_or_ge b.length (hdLen (b.drop at_) + 44 + at_) with h2 | h2
      ·rw [scan_torn hh h2]
       exact Nat.le_add_right _ _
      ·rw [scan_rec hh h2]
       have h3 := scanAt_len b f (at_ + 44 + hdLen (b.drop at_)) (at_ + 44 + hdLen (b.drop at_)) (l ++ recsAt b at_) (by omega)
       have h4 : (recsAt b at_).length ≤ 1 := by
        unfold recsAt
        cases digest (payOf (b.drop at_)) == ((b.drop at_).drop 12).take 32 <;> simp
       rw [List.length_append] at h3
       omega
   ·rw [scan_end h1]; exact Nat.le_add_right _ _
theorem scan_len (b : List UInt8) : (scan b).1.length ≤ b.length := by
 have := scanAt_len b b.length 0 0 [] (by omega)
 unfold scan
 simpa using this
theorem pay_len {b : List UInt8} (h : headOk b = true) : (payOf b).length ≤ 30000 := by
 unfold headOk at h
 simp only [Bool.and_eq_true, decide_eq_true_eq] at h
 unfold payOf
 rw [List.length_take]
 have := h.2.1.2
 omega
theorem scanAt_pay (b : List UInt8) : ∀ (f at_ torn : Nat) (l : List RecB), b.length - at_ ≤ f → (∀ r ∈ l, r.b.length ≤ 30000) → ∀ r ∈ (scanAt b at_ torn l).1, r.b.length ≤ 30000
 | 0, at_, torn, l, h, hl => by rw [scan_end (by omega)]; exact hl
 | f + 1, at_, torn, l, h, hl => by
   rcases Nat.lt_or_ge at_ b.length with h1 | h1
   ·cases hh : headOk (b.drop at_) with
    | false =>
      rw [scan_next hh h1]
      exact scanAt_pay b f (at_ + 1) torn l (by omega) hl
    | true =>
      rcases Nat.lt_or_ge b.length (hdLen (b.drop at_) + 44 + at_) with h2 | h2
      ·rw [scan_torn hh h2]
       exact hl
      ·rw [scan_rec hh h2]
       refine scanAt_pay b f (at_ + 44 + hdLen (b.drop at_)) (at_ + 44 + hdLen (b.drop at_)) (l ++ recsAt b at_) (by omega) fun r hr => ?_
       rcases List.mem_append.1 hr with hr | hr
       ·exact hl r hr
       ·unfold recsAt at hr
        cases hd : digest (payOf (b.drop at_)) == ((b.drop at_).drop 12).take 32 with
        | false => rw [hd] at hr; cases hr
        | true =>
          rw [hd] at hr
          rw [List.mem_singleton.1 hr]
          exact pay_len hh
   ·rw [scan_end h1]; exact hl
theorem scan_pay (b : List UInt8) : ∀ r ∈ (scan b).1, r.b.length ≤ 30000 := scanAt_pay b b.length 0 0 [] (by omega) fun r hr => (by cases hr)
theorem decOk_kind {k : Int} {p : List UInt8} (h : decOk k p = true) : (k = 1 ∨ k = 2 ∨ k = 3) ∧ (k = 2 → 1 ≤ (rd2 k p).1) := by
 unfold decOk at h
 simp only [Bool.and_eq_true] at h
 have hf := h.2.1
 unfold formedV at hf
 simp only [Bool.and_eq_true] at hf
 have hf := hf.2
 cases h1 : k == 1 with
 | true => have : k = 1 := by simpa using h1
           exact ⟨.inl this, fun h => by omega⟩
 | false =>
   rw [h1, cond_false] at hf
   cases h2 : k == 2 with
   | true =>
     have h2' : k = 2 := by simpa using h2
     rw [h2, cond_true] at hf
     simp only [Bool.and_eq_true] at hf
     have hf := hf.2
     unfold fullV at hf
     simp only [Bool.and_eq_true, decide_eq_true_eq] at hf
     exact ⟨.inr (.inl h2'), fun _ => hf.1⟩
   | false =>
     rw [h2, cond_false] at hf
     simp only [Bool.and_eq_true] at hf
     have : k = 3 := by simpa using hf.1.1.1
     exact ⟨.inr (.inr this), fun h => by omega⟩
theorem live_uid {s : LogS} {n : NoteB} (hs : ∀ x ∈ s.live, 1 ≤ x.u) (hn : n.k = 2 → 1 ≤ n.u) : ∀ x ∈ (takeN s n).live, 1 ≤ x.u := by
 intro x hx
 have hx : x ∈ liveN s.live n := hx
 unfold liveN at hx
 cases h2 : n.k == 2 with
 | true =>
   rw [h2, cond_true] at hx
   rcases List.mem_append.1 hx with h | h
   ·exact hs x h
   ·rw [List.mem_singleton.1 h]; exact hn (by simpa using h2)
 | false =>
   rw [h2, cond_false] at hx
   cases h3 : n.k == 3 with
   | true =>
     rw [h3, cond_true] at hx
     exact hs x (List.mem_filter.1 hx).1
   | false => rw [h3, cond_false] at hx; exact hs x hx
theorem live_len (s : LogS) (n : NoteB) : (takeN s n).live.length ≤ s.live.length + 1 := by
 show (liveN s.live n).length ≤ _
 unfold liveN
 cases n.k == 2
 ·cases n.k == 3
  ·simp
  ·have := List.length_filter_le (fun x => !goneB n x) s.live
   simp only [cond_true, cond_false]
   omega
 ·simp
set_option maxRecDepth 100000 in
set_option maxHeartbeats 2000000 in
theorem read_any (A : Option Addr) (n c : Nat) (b : List UInt8) (hl : b.length = n) (hc : n ≤ c) (hn : n ≤ 16000000) (w : World) (hm : MaxCell w) (hg : 0 < w.heap.size) (htab : Lib.TabIs Tryz.prog w "internal/strconv.uint64pow10" .u64 Lib.pow10Tab) (hr : Reads w w.heap.size 1 A n (u8s b)) :
 Calls Tryz.prog 59 #[.slice A n c] w fun ev w' => ∃ v L, ev = .returned (.agg #[.string (takeAll (notesB b)).nm, .int .u32 ((takeAll (notesB b)).ep : Nat), .int .u32 ((takeAll (notesB b)).nx : Nat), v, .int .i64 ((scan b).2 : Nat), .bool (cleanS (takeAll (notesB b)))]) ∧ OwnR liveSh w.heap.size w' v L ∧ L.map liveL = (takeAll (notesB b)).live.map noteL ∧ Below w.heap.size w w' := by
 have Ht := Lib.tabBelow_of_tabIs htab
 refine calls_at 41 Tryz.func59 rfl rfl (Nat.le_of_ble_eq_true rfl) ?_
 intro a hA; replace hA := hA.norm
 refine wS (wR ?_)
 refine wl_new hA rfl rfl (by decide) (fun ev h => by simp [go_sem]; try first | exact ⟨rfl, rfl⟩ | rfl) fun w1 a (K2 : Blk _ _ _ _) hz1 hb1 hA => ?_
 replace hA := hA.keepN [0, 2]
 refine wN (nT (wS (wR ?_)))
 revert a; refine wo rfl rfl (by decide) (fun ev e h => by simp [go_sem, h] <;> rfl) ?_; intro a hA
 refine wl_call hA rfl rfl (by decide) (fun ev h => exec_call Tryz.func118 (by kernel_rfl) rfl (h.f _) (by first | (simp only [mL, h.get 11 rfl, h.c] <;> rfl) | (simp [mL, h.get 11 rfl, h.c] <;> rfl))) (scan_any A n c b hl hc hn _ (hm.below hg hb1) (Nat.lt_of_lt_of_le hg hb1.size) ((hr.below hb1).more hb1.size)) ?_
 rintro e w2 ⟨vs, l, rfl, hos, hlm, hb2⟩
 refine ⟨_, rfl, fun a hA => ?_⟩
 replace K2 := K2.below hb2 K2.lt
 have HB := hb1.trans (hb2.mono hb1.size)
 have hosl := World.ownsRow.lt hos.row
 obtain ⟨As, cs, rfl, hrs, _⟩ := hos.reads
 obtain ⟨T, hT⟩ : ∃ T, (scan b).2 = T := ⟨_, rfl⟩
 rw [hT] at hA
 revert a; (iterate 5 refine wo rfl rfl (by decide) (fun ev e h => by simp [go_sem, h] <;> rfl) ?_); intro a hA
 replace hA := hA.keepN [2, 3, 4]
 refine wN (nT (wS (wR ?_)))
 revert a; (iterate 2 refine wo rfl rfl (by decide) (fun ev e h => by simp [go_sem, h] <;> rfl) ?_); intro a hA
 have K20 := K2
 refine wl_local [.string ⟨#[]⟩, .int .u32 0, .int .u32 1, .slice none 0 0, .int .i64 (T : Nat), .bool false] hA rfl rfl (by decide) (fun ev h => by simp [go_sem]; try first | exact ⟨rfl, rfl⟩ | rfl) rfl rfl (by rfl) (fun w1 g ev hb h => by simp [go_sem, h.get 5 rfl, h.get 16 rfl, setAll, hb.cell, hb.frozen]) fun w3 a (KL : Blk _ _ _ _) hz3 hb3 hA => ?_
 replace K2 := K2.below hb3 K2.lt
 replace HB := HB.trans (hb3.mono HB.size)
 replace hA := hA.keepN [2, 3, 5]
 refine wN (nT (wS (wS (wR ?_))))
 revert a; (iterate 3 refine wo rfl rfl (by decide) (fun ev e h => by simp [go_sem, h] <;> rfl) ?_); intro a hA
 replace hA := hA.keepN [2, 5, 17, 18, 19]
 refine wN (nT (wB ?_))
 obtain ⟨pl, hpl⟩ : ∃ x, w2.heap.size = x := ⟨_, rfl⟩
 rw [hpl] at KL hA
 have hpw : w.heap.size < pl := by have := K2.lt; have := hb1.size; have := hb2.size; omega
 have hb3' : Below pl w2 w3 := hpl ▸ hb3
 have hll : l.length ≤ n := by
  have := scan_len b
  rw [← hlm, List.length_map] at this
  omega
 refine wp_loop_at (fun kk a wx => ∃ (j : Nat) (v : Value) (L : List LiveV) (S : LogS), j + kk = l.length ∧ At 41 [(2, .pointer (some ⟨w.heap.size, 0, none⟩)), (5, .pointer (some ⟨pl, 0, none⟩)), (17, .slice As l.length cs), (18, .int .i64 (l.length : Nat)), (19, .int .i64 (j : Nat))] a ∧ S = takeAll (notesR ((l.map recB).take j)) ∧ Blk wx pl 118 #[.string S.nm, .int .u32 (S.ep : Nat), .int .u32 (S.nx : Nat), v, .int .i64 (T : Nat), .bool false] ∧ OwnR liveSh (pl + 1) wx v L ∧ L.map liveL = S.live.map noteL ∧ (∀ x ∈ S.live, 1 ≤ x.u) ∧ S.live.length ≤ j ∧ Below pl w2 wx ∧ pl < wx.heap.size) (l.length) ?_ ?_
 ·exact ⟨0, _, [], log0, by omega, hA, rfl, KL, OwnR.nil _ _, rfl, fun x hx => (by cases hx), Nat.zero_le _, hb3', KL.lt⟩
 clear KL hb3 hb3'
 rintro kk a wx ⟨j, v, L, S, hjk, hA, hS, KL, ho, hlv, huid, hlen, HL, hplx⟩
 refine wS (wR ?_)
 revert a; refine wo rfl rfl (by decide) (fun ev e h => by simp [go_sem, h] <;> rfl) ?_; intro a hA
 replace hA := hA.keepN [2, 5, 17, 18, 19, 20]
 refine wN (nT (wS ?_))
 refine wp_if hA 20 _ rfl (fun hq => ?yI) (fun hq => ?nI)
 case nI =>
  have hjn : j = l.length := by simp at hq; omega
  have hSb : S = takeAll (notesB b) := by
   rw [hS, hjn, List.take_of_length_le (by simp), hlm]
   rfl
  rw [← hSb]
  have h1 : ∀ x ∈ L, 1 ≤ x.m.uid := fun x hx => by
   have h2 : liveL x ∈ S.live.map noteL := by rw [← hlv]; exact List.mem_map_of_mem hx
   obtain ⟨y, hy, e⟩ := List.mem_map.1 h2
   have h3 := congrArg (fun q => q.2.1) e
   have h4 : y.u = x.m.uid := h3
   rw [← h4]
   exact huid y hy
  have hLl : L.length = S.live.length := by have := congrArg List.length hlv; simpa using this
  have K2 := K20.below (hpl ▸ HL) K20.lt
  obtain ⟨A0, c0, rfl, hrr, _⟩ := ho.reads
  replace hA := hA.keepN [2, 5]
  refine wp_exit (xT (xT (xB (nT (wS (wR ?_))))))
  refine wl_call hA rfl rfl (by decide) (fun ev h => exec_call Tryz.func120 (by kernel_rfl) rfl (h.f _) (by first | (simp only [mL, h.get 5 rfl, h.c] <;> rfl) | (simp [mL, h.get 5 rfl, h.c] <;> rfl))) (clean_any pl S (T : Int) false A0 L.length c0 L _ KL hrr rfl (by omega) hlv h1) ?_
  rintro e w9 ⟨rfl, hb9⟩
  refine ⟨_, rfl, fun a hA => ?_⟩
  replace KL := KL.below hb9 KL.lt
  replace ho := ho.below hb9
  replace K2 := K2.below hb9 K2.lt
  replace HL := HL.trans (hb9.mono (Nat.le_of_lt hplx))
  have KL0 := KL
  revert a; refine wo rfl rfl (by decide) (fun ev e h => by simp [go_sem, h] <;> rfl) ?_; intro a hA
  refine wl_setf ([.string S.nm, .int .u32 (S.ep : Nat), .int .u32 (S.nx : Nat), .slice A0 L.length c0, .int .i64 (T : Nat), .bool (cleanS S)]) _ hA rfl rfl KL (j := 5) (by rfl) (fun ev h => by simp [go_sem, h.get 39 rfl, h.get 38 rfl, KL.cell, KL.frozen]; try first | exact ⟨rfl, rfl⟩ | rfl) fun w10 (KL : Blk _ _ _ _) hs10 => ?_
  replace HL := hs10.below HL (Nat.le_refl _)
  replace ho := ho.onlyK hs10 KL0 (by decide) rfl
  replace K2 := hs10.blk K2 (by omega)
  replace hA := hA.keepN [2, 5]
  refine wN (nT (wS (wR ?_)))
  revert a; refine wo rfl rfl (by decide) (fun ev e h => by simp [go_sem, h, KL.cell] <;> rfl) ?_; intro a hA
  have K29 := K2
  refine wl_set [.string S.nm, .int .u32 (S.ep : Nat), .int .u32 (S.nx : Nat), .slice A0 L.length c0, .int .i64 (T : Nat), .bool (cleanS S)] hA rfl rfl K2 (by rfl) (fun ev h => by simp [go_sem, h.get 2 rfl, h.get 40 rfl, KL.cell, setAll, K2.cell, K2.frozen]) fun w11 (K2 : Blk _ _ _ _) hs11 => ?_
  have HBB : Below w.heap.size w w10 := (hb1.trans (hb2.mono hb1.size)).trans (HL.mono (Nat.le_of_lt hpw))
  replace hA := hA.keepN [2]
  refine wN (nT (wp_ret ?_))
  refine bodyPost_ret (by simp [results, Tryz.results59, go_sem, hA.env 2 _ rfl, K2.cell]; try first | exact ⟨rfl, rfl⟩ | rfl) hA.defers ?_
  exact ⟨_, L, by rw [hT], (ho.onlyK hs11 K29 (by decide) rfl).mono (by omega), hlv, hs11.below HBB (Nat.le_refl _)⟩
 case yI =>
  have hlt : j < l.length := by simp at hq; omega
  obtain ⟨x, hx⟩ : ∃ x, l[j]? = some x := ⟨_, List.getElem?_eq_getElem (by omega)⟩
  have hxb : x.b.length ≤ 1000000 := by
   have h1 : recB x ∈ (scan b).1 := by rw [← hlm]; exact List.mem_map_of_mem (List.mem_of_getElem? hx)
   have := scan_pay b _ h1
   have h2 : (recB x).b.length = x.b.length := rfl
   omega
  have hxr0 := hrs.octs x (List.mem_of_getElem? hx) (x.a, x.b) (List.mem_singleton.2 rfl)
  obtain ⟨ad, rfl, hadl, kz, kk'⟩ := hrs.cell hx
  have hadp : ad.block < pl := hpl ▸ hadl
  have z0 : wx.cell? (ad.add (j * 3)) = some (.int .i64 (x.at_ : Nat)) := (HL.cell (by rw [block_of_add]; exact hadp)).trans (kz _ rfl)
  have z1 := (HL.cell (p := ⟨(ad.add (j * 3)).block, (ad.add (j * 3)).off + 1, none⟩) (by show (ad.add _).block < _; rw [block_of_add]; exact hadp)).trans (kk' 1 _ (by decide) rfl)
  have z2 := (HL.cell (p := ⟨(ad.add (j * 3)).block, (ad.add (j * 3)).off + 2, none⟩) (by show (ad.add _).block < _; rw [block_of_add]; exact hadp)).trans (kk' 2 _ (by decide) rfl)
  have jj0 : (0 : Int) ≤ (j : Int) := by omega
  have jj1 : (j : Int) < (l.length : Int) := by omega
  have hwj : IntKind.i64.wrap ((j : Int) + 1) = (j : Int) + 1 := IntWalk.i64_in _ (by omega)
  refine wp_skip (nT (wS (wB (wS (wR ?_)))))
  revert a; (iterate 2 refine wo rfl rfl (by decide) (fun ev e h => by simp [go_sem, h, z0, z1, z2, jj0, jj1] <;> rfl) ?_); intro a hA
  refine wl_local [.int .i64 (x.at_ : Nat), .int .i64 (x.kind : Nat), .slice x.a x.b.length x.c] hA rfl rfl (by decide) (fun ev h => by simp [go_sem, z0, z1, z2, jj0, jj1]; try first | exact ⟨rfl, rfl⟩ | rfl) rfl rfl (by rfl) (fun w1 g ev hb h => by simp [go_sem, h.get 7 rfl, h.get 22 rfl, z0, z1, z2, jj0, jj1, setAll, hb.cell, hb.frozen]) fun w5 a (K7 : Blk _ _ _ _) hz5 hb5 hA => ?_
  replace KL := KL.below hb5 KL.lt
  replace ho := ho.below hb5
  replace HL := HL.trans (hb5.mono (Nat.le_of_lt hplx))
  have hpl5 : pl < w5.heap.size := by omega
  clear z0 z1 z2 kz kk' hb5
  have HBB : Below w.heap.size w w5 := (hb1.trans (hb2.mono hb1.size)).trans (HL.mono (Nat.le_of_lt hpw))
  have hxr := hxr0.below (hpl ▸ HL)
  replace hA := hA.keepN [2, 5, 7, 17, 18, 19]
  refine wN (nT (wS (wR ?_)))
  revert a; (iterate 4 refine wo rfl rfl (by decide) (fun ev e h => by simp [go_sem, h, K7.cell] <;> rfl) ?_); intro a hA
  have hvlt := World.ownsRow.lt ho.row
  refine wl_call hA rfl rfl (by decide) (fun ev h => exec_call Tryz.func57 (by kernel_rfl) rfl (h.f _) (by first | (simp only [mL, h.get 25 rfl, h.get 27 rfl, h.c] <;> rfl) | (simp [mL, h.get 25 rfl, h.get 27 rfl, h.c, K7.cell] <;> rfl))) (decode_new (x.kind : Int) x.a x.b.length x.c x.b rfl hxb _ (hm.below hg HBB) (Nat.lt_of_lt_of_le hg HBB.size) (Ht _ HBB) hxr) ?_
  rintro e w6 ⟨na, nc, rfl, hoct, hb6⟩
  refine ⟨_, rfl, fun a hA => ?_⟩
  replace KL := KL.below hb6 KL.lt
  replace ho := ho.below hb6
  replace K7 := K7.below hb6 K7.lt
  replace HL := HL.trans (hb6.mono (Nat.le_of_lt hpl5))
  have hpl6 : pl < w6.heap.size := Nat.lt_of_lt_of_le hpl5 hb6.size
  have hsu := notesR_succ (l := l.map recB) (j := j) (r := recB x) (by rw [List.getElem?_map, hx]; rfl)
  obtain ⟨m, hme⟩ : ∃ m, rdM (x.kind : Int) x.b na nc = m := ⟨_, rfl⟩
  cases hd : decOk (x.kind : Int) x.b with
  | false =>
    rw [hd] at hA
    rw [show decOk ((recB x).kind : Int) (recB x).b = false from hd, cond_false, List.append_nil] at hsu
    unfold noteZ at hA
    rw [cond_false, cond_false] at hA
    revert a; (iterate 3 refine wo rfl rfl (by decide) (fun ev e h => by simp [go_sem, h, hwj] <;> rfl) ?_); intro a hA
    refine wl_local [.int .i64 0, .int .u32 0, .string ⟨#[]⟩, .int .u32 0, .int .i64 0, .int .i64 0, .slice none 0 0] hA rfl rfl (by decide) (fun ev h => by simp [go_sem, hwj]; try first | exact ⟨rfl, rfl⟩ | rfl) rfl rfl (by rfl) (fun w1 g ev hb h => by simp [go_sem, h.get 8 rfl, h.get 29 rfl, hwj, setAll, hb.cell, hb.frozen]) fun w7 a (K8 : Blk _ _ _ _) hz7 hb7 hA => ?_
    replace KL := KL.below hb7 KL.lt
    replace ho := ho.below hb7
    replace HL := HL.trans (hb7.mono (Nat.le_of_lt hpl6))
    have hpl7 : pl < w7.heap.size := by omega
    revert a; refine wo rfl rfl (by decide) (fun ev e h => by simp [go_sem, h, hwj] <;> rfl) ?_; intro a hA
    replace hA := hA.keepN [2, 5, 7, 8, 9, 17, 18, 19]
    refine wN (nT (wS (wR ?_)))
    revert a; (iterate 2 refine wo rfl rfl (by decide) (fun ev e h => by simp [go_sem, h, hwj] <;> rfl) ?_); intro a hA
    replace hA := hA.keepN [2, 5, 7, 8, 17, 18, 19, 32]
    refine wN (nT ?_)
    refine wp_if hA 32 _ rfl (fun hq2 => ?yE) (fun hq2 => ?nE)
    case yE => cases hq2
    case nE =>
     refine wp_skip (nB (nT (wR ?_)))
     revert a; (iterate 2 refine wo rfl rfl (by decide) (fun ev e h => by simp [go_sem, h, hwj] <;> rfl) ?_); intro a hA
     replace hA := hA.keepN [2, 5, 17, 18, 19]
     refine wN (nT ?_)
     rw [show ((j : Int) + 1) = ((j + 1 : Nat) : Int) by omega] at hA
     exact ⟨kk - 1, by omega, j + 1, v, L, S, by omega, hA, by rw [hsu]; exact hS, KL, ho, hlv, huid, by omega, HL, hpl7⟩
  | true =>
    rw [hd] at hA
    rw [show decOk ((recB x).kind : Int) (recB x).b = true from hd, cond_true] at hsu
    rw [cond_true, cond_true, hme] at hA
    unfold noteC at hA
    obtain ⟨ho1, ho2⟩ := hoct hd
    have hma : m.a = na := by rw [← hme]; rfl
    have hmb : m.b = (rd5 (x.kind : Int) x.b).1 := by rw [← hme]; rfl
    have hmu : m.uid < 4294967296 := by rw [← hme]; exact rd2_lt _ _
    have hmR : ReadsP w6 (m.a, m.b) := by
     show Reads w6 w6.heap.size 1 m.a m.b.length (u8s m.b)
     rw [hma, hmb]
     exact ho1
    revert a; (iterate 3 refine wo rfl rfl (by decide) (fun ev e h => by simp [go_sem, h, hwj] <;> rfl) ?_); intro a hA
    refine wl_local [.int .i64 (x.kind : Nat), .int .u32 ((rd1 x.b).1 : Nat), .string (rd4 (x.kind : Int) x.b).1, .int .u32 (m.uid : Nat), .int .i64 m.date, .int .i64 m.flags, .slice m.a m.b.length m.c] hA rfl rfl (by decide) (fun ev h => by simp [go_sem, hwj]; try first | exact ⟨rfl, rfl⟩ | rfl) rfl rfl (by rfl) (fun w1 g ev hb h => by simp [go_sem, h.get 8 rfl, h.get 29 rfl, hwj, setAll, hb.cell, hb.frozen]) fun w7 a (K8 : Blk _ _ _ _) hz7 hb7 hA => ?_
    replace KL := KL.below hb7 KL.lt
    replace ho := ho.below hb7
    replace K7 := K7.below hb7 K7.lt
    replace HL := HL.trans (hb7.mono (Nat.le_of_lt hpl6))
    replace hmR := hmR.below hb7
    have hpl7 : pl < w7.heap.size := by omega
    revert a; refine wo rfl rfl (by decide) (fun ev e h => by simp [go_sem, h, hwj] <;> rfl) ?_; intro a hA
    replace hA := hA.keepN [2, 5, 7, 8, 9, 17, 18, 19]
    refine wN (nT (wS (wR ?_)))
    revert a; (iterate 2 refine wo rfl rfl (by decide) (fun ev e h => by simp [go_sem, h, hwj] <;> rfl) ?_); intro a hA
    replace hA := hA.keepN [2, 5, 7, 8, 17, 18, 19, 32]
    refine wN (nT ?_)
    refine wp_if hA 32 _ rfl (fun hq2 => ?yE2) (fun hq2 => ?nE2)
    case nE2 => cases hq2
    case yE2 =>
     refine wR ?_
     revert a; (iterate 3 refine wo rfl rfl (by decide) (fun ev e h => by simp [go_sem, h, K8.cell, K7.cell] <;> rfl) ?_); intro a hA
     have hLl : L.length = S.live.length := by have := congrArg List.length hlv; simpa using this
     have hoffm : ∀ g, v.ownBlock = some g → OffP g (m.a, m.b) := fun g hg hn ad' ha he => by
      have h1 := (hvlt g hg).2
      have h2 := ho2 ad' (by rw [← hma]; exact ha)
      omega
     refine wl_call hA rfl rfl (by decide) (fun ev h => exec_call Tryz.func119 (by kernel_rfl) rfl (h.f _) (by first | (simp only [mL, h.get 5 rfl, h.get 33 rfl, h.get 35 rfl, h.c] <;> rfl) | (simp [mL, h.get 5 rfl, h.get 33 rfl, h.get 35 rfl, h.c, K8.cell, K7.cell] <;> rfl))) (take_any pl (pl + 1) (x.kind : Int) (rd1 x.b).1 (rd4 (x.kind : Int) x.b).1 m x.at_ S (T : Int) false v L _ (decOk_kind hd).1 (Nat.lt_succ_self _) hpl7 KL ho (by omega) hlv hmR hoffm hmu (noteOf x.kind x.at_ x.b) (by rw [← hme]; rfl)) ?_
     rintro e w8 ⟨rfl, v', L', KL', ho', hlv', hb8⟩
     refine ⟨_, rfl, fun a hA => ?_⟩
     have HL8 := HL.trans hb8
     have hlen8 := live_len S (noteOf x.kind x.at_ x.b)
     have hsz8 := hb8.size
     replace hA := hA.keepN [2, 5, 17, 18, 19]
     refine wN (nB (nT (wR ?_)))
     revert a; (iterate 2 refine wo rfl rfl (by decide) (fun ev e h => by simp [go_sem, h, hwj] <;> rfl) ?_); intro a hA
     replace hA := hA.keepN [2, 5, 17, 18, 19]
     refine wN (nT ?_)
     rw [show ((j : Int) + 1) = ((j + 1 : Nat) : Int) by omega] at hA
     exact ⟨kk - 1, by omega, j + 1, v', L', takeN S (noteOf x.kind x.at_ x.b), by omega, hA, by rw [hsu, takeAll_snoc, ← hS]; rfl, KL', ho', hlv', live_uid huid (decOk_kind hd).2, by omega, HL8, by omega⟩
end Go.Proofs.YtkljkbeahdipfaaGreatDoor
/-
  Rows of messages.
-/
namespace Go.Proofs.YtkljkbeahdipfaaGreatDoor
open Go.RowKit
set_option linter.unusedSimpArgs false
set_option linter.unusedVariables false
theorem msgC_one (x : MsgV) : ∀ u ∈ msgC x, u.oneCell' = true := by
 intro u hu
 unfold msgC at hu
 simp only [List.mem_cons, List.not_mem_nil, or_false] at hu
 rcases hu with rfl | rfl | rfl | rfl <;> rfl
def msgSh : Sh MsgV := ⟨74, 39, 4, 48, .agg #[.int .u32 0, .int .i64 0, .int .i64 0, .slice none 0 0], msgC, fun x => [(x.a, x.b)], fun _ => rfl, msgC_one, Tryz.underlying39, by kernel_rfl, rfl, by decide, by decide⟩
/-- a message, without addresses -/
def msgB (x : MsgV) : Nat × Int × Int × List UInt8 := (x.uid, x.date, x.flags, x.b)
end Go.Proofs.YtkljkbeahdipfaaGreatDoor
/-
  Rows of structs of one's own: one cell of an element is set.
-/
namespace Go.Proofs.YtkljkbeahdipfaaGreatDoor
open Go.RowKit
theorem flatK_put {M : Type} {f : M → List Value} {k : Nat} (hf : ∀ x, (f x).length = k) : ∀ (l : List M) (i j : Nat) (x y : M) (u : Value), l[i]? = some x → j < k → f y = (f x).set j u → (l.set i y).flatMap f = (l.flatMap f).set (i * k + j) u
 | [], i, j, x, y, u, h, _, _ => by cases h
 | z :: r, 0, j, x, y, u, h, hj, hy => by
   injection h with h
   subst h
   rw [List.set_cons_zero, List.flatMap_cons, List.flatMap_cons, hy, Nat.zero_mul, Nat.zero_add, List.set_append_left _ _ (by rw [hf]; exact hj)]
 | z :: r, i + 1, j, x, y, u, h, hj, hy => by
   rw [List.set_cons_succ, List.flatMap_cons, List.flatMap_cons, flatK_put hf r i j x y u h hj hy, List.set_append_right _ _ (by rw [hf, Nat.succ_mul]; omega), hf]
   congr 2
   rw [Nat.succ_mul]
   omega
section
variable {M : Type} {s : Sh M} {B : Nat} {w w' : World} {l : List M} {g n c i j : Nat}
/-- one cell of an element is set; its parts stay -/
theorem OwnR.put1 {x y : M} {u : Value} (h : OwnR s B w (.slice (some ⟨g, 0, none⟩) n c) l) (hy : l[i]? = some y) (hj : j < s.k) (hx : s.f x = (s.f y).set j u) (hp : s.parts x = s.parts y) :
 OwnR s B (w.setCell ⟨g, i * s.k + j, none⟩ u) (.slice (some ⟨g, 0, none⟩) n c) (l.set i x) ∧ w.grownBy (w.setCell ⟨g, i * s.k + j, none⟩ u) (some g) := by
 have hn := h.len
 have hr := h.row
 rw [hn] at hr
 obtain ⟨h1, h2⟩ := hr.stored (i * s.k + j) u
 rw [← flatK_put s.len l i j y x u hy hj hx] at h1
 have keep : ∀ {p}, ReadsP w p → OffP g p → ReadsP (w.setCell ⟨g, i * s.k + j, none⟩ u) p := fun {p} hp hg => readsP_apart hp hg (fun j hj hne => h2.block j hj (fun e => hne (Option.some.inj e))) h2.size
 have hm0 := List.mem_of_getElem? hy
 refine ⟨⟨by rw [List.length_set, hn]; exact h1, fun m hm p hp' => ?_, fun g' hg' m hm p hp' => ?_⟩, h2⟩
 ·rcases List.mem_or_eq_of_mem_set hm with hm | hm
  ·exact keep (h.octs m hm p hp') (h.off g rfl m hm p hp')
  ·subst hm
   rw [hp] at hp'
   exact keep (h.octs y hm0 p hp') (h.off g rfl y hm0 p hp')
 ·rcases List.mem_or_eq_of_mem_set hm with hm | hm
  ·exact h.off g' hg' m hm p hp'
  ·subst hm
   rw [hp] at hp'
   exact h.off g' hg' y hm0 p hp'
/-- what an element's cell holds -/
theorem OwnR.cellAt {x : M} {u : Value} (h : OwnR s B w (.slice (some ⟨g, 0, none⟩) n c) l) (hx : l[i]? = some x) (hk : (s.f x)[j]? = some u) : w.cell? ⟨g, i * s.k + j, none⟩ = some u := by
 have hn := h.len
 have hr := h.row
 rw [hn] at hr
 have hi := (List.getElem?_eq_some_iff.1 hx).1
 have hj : j < s.k := by have := (List.getElem?_eq_some_iff.1 hk).1; rw [s.len] at this; exact this
 have hle : i * s.k + s.k ≤ n * s.k := by rw [← Nat.succ_mul]; exact Nat.mul_le_mul_right _ (by omega)
 rw [hr.cellAt _ (by omega)]
 exact (flatK_at s.len l i j x hx hj).trans hk
theorem OwnR.frozenAt (h : OwnR s B w (.slice (some ⟨g, 0, none⟩) n c) l) (k : Nat) : w.frozen? ⟨g, k, none⟩ = false := by
 have hn := h.len
 have hr := h.row
 rw [hn] at hr
 exact hr.frozenAt k
/-- another row grows -/
theorem OwnR.grown {v : Value} {row : Option Nat} (h : OwnR s B w v l) (hg : w.grownBy w' row) (hne : ∀ g, v.ownBlock = some g → row ≠ some g) (hoff : ∀ g, row = some g → ∀ m ∈ l, ∀ p ∈ s.parts m, OffP g p) : OwnR s B w' v l := by
 refine ⟨own_keep h.row fun g hg' => hg.block g (World.ownsRow.lt h.row g hg').2 (fun e => hne g hg' e.symm), fun m hm p hp => ?_, h.off⟩
 cases hb : row with
 | none => exact (Reads.grown (h.octs m hm p hp) hg (Nat.le_refl _) fun g hg' => by rw [hb] at hg'; cases hg').more hg.size
 | some g => exact readsP_apart (h.octs m hm p hp) (hoff g hb m hm p hp) (fun j hj hne => hg.block j hj (fun e => by rw [hb] at e; exact hne (Option.some.inj e))) hg.size
/-- rows of different kinds lie in different blocks -/
theorem OwnR.ne {M2 : Type} {s2 : Sh M2} {B2 : Nat} {v v2 : Value} {l2 : List M2} (h : OwnR s B w v l) (h2 : OwnR s2 B2 w v2 l2) (ht : s2.T ≠ s.T) {g : Nat} (hg : v.ownBlock = some g) : v2.ownBlock ≠ some g := fun hg2 => by
 obtain ⟨cs, hc⟩ := own_kind h.row hg
 obtain ⟨cs2, hc2⟩ := own_kind h2.row hg2
 rw [hc] at hc2
 injection hc2 with hc2
 injection hc2 with _ hc2
 exact ht hc2.symm
end
end Go.Proofs.YtkljkbeahdipfaaGreatDoor
/-
  What notes make of a mailbox, plainly: loop by loop.
-/
namespace Go.Proofs.YtkljkbeahdipfaaGreatDoor
theorem renum_get : ∀ (i : Nat) (l : List NoteB) (j : Nat), (renum i l)[j]? = (l[j]?).map fun n => ((i + j + 1) % 4294967296, n.d, n.f, n.o)
 | _, [], j => by unfold renum; simp
 | i, n :: r, 0 => by unfold renum; simp
 | i, n :: r, j + 1 => by
   unfold renum
   rw [List.getElem?_cons_succ, List.getElem?_cons_succ, renum_get (i + 1) r j]
   rw [show i + 1 + j + 1 = i + (j + 1) + 1 by omega]
/-- the places of records don't matter -/
def z0 (n : NoteB) : NoteB := { n with at_ := 0 }
end Go.Proofs.YtkljkbeahdipfaaGreatDoor
/-
  Walk: the index, and the flags, of a log (index.Of).
-/
namespace Go.Proofs.YtkljkbeahdipfaaGreatDoor
open Go.RowKit
set_option linter.unusedSimpArgs false
set_option linter.unusedVariables false
def entrySh : Sh (Nat × Nat) := ⟨203, 126, 2, 16, .agg #[.int .u32 0, .int .i64 0], fun q => [.int .u32 (q.1 : Nat), .int .i64 (q.2 : Nat)], fun _ => [], fun _ => rfl, fun q u hu => by
 simp only [List.mem_cons, List.not_mem_nil, or_false] at hu
 rcases hu with rfl | rfl <;> rfl, Tryz.underlying126, by kernel_rfl, rfl, by decide, by decide⟩
def markSh : Sh (Nat × Int) := ⟨140, 120, 2, 16, .agg #[.int .u32 0, .int .i64 0], fun q => [.int .u32 (q.1 : Nat), .int .i64 q.2], fun _ => [], fun _ => rfl, fun q u hu => by
 simp only [List.mem_cons, List.not_mem_nil, or_false] at hu
 rcases hu with rfl | rfl <;> rfl, Tryz.underlying120, by kernel_rfl, rfl, by decide, by decide⟩
def entV (x : LiveV) : Nat × Nat := (x.m.uid, x.at_)
def markV (x : LiveV) : Nat × Int := (x.m.uid, x.m.flags)
/-- is there no index? -/
def noIdx (cl : Bool) (nm : ByteArray) : Bool := !cl || nm.toList.isEmpty
set_option maxRecDepth 100000 in
set_option maxHeartbeats 4000000 in
theorem idxOf_any (nm : ByteArray) (ep nx : Nat) (z : Int) (cl : Bool) (A : Option Addr) (c n : Nat) (L : List LiveV) (w : World) (hn : n ≤ 1000000) (hl : L.length = n) (hr : RowR liveSh w A L) :
 Calls Tryz.prog 65 #[.agg #[.string nm, .int .u32 (ep : Nat), .int .u32 (nx : Nat), .slice A n c, .int .i64 z, .bool cl]] w
  fun ev w' => (noIdx cl nm = true → ev = .returned (.tuple #[.agg #[.string ⟨#[]⟩, .int .u32 0, .int .u32 0, .int .i64 0, .slice none 0 0], .agg #[.int .u32 0, .slice none 0 0]])) ∧ (noIdx cl nm = false → ∃ v u, ev = .returned (.tuple #[.agg #[.string nm, .int .u32 (ep : Nat), .int .u32 (nx : Nat), .int .i64 z, v], .agg #[.int .u32 (ep : Nat), u]]) ∧ OwnR entrySh w.heap.size w' v (L.map entV) ∧ OwnR markSh w.heap.size w' u (L.map markV)) ∧ Below w.heap.size w w' := by
 refine calls_at 63 Tryz.func65 rfl rfl (Nat.le_of_ble_eq_true rfl) ?_
 intro a hA; replace hA := hA.norm
 refine wS (wR ?_)
 refine wl_new hA rfl rfl (by decide) (fun ev h => by simp [go_sem, h.get 0 rfl]; try first | exact ⟨rfl, rfl⟩ | rfl) fun w1 a (K1 : Blk _ _ _ _) hz1 hb1 hA => ?_
 refine wl_new hA rfl rfl (by decide) (fun ev h => by simp [go_sem]; try first | exact ⟨rfl, rfl⟩ | rfl) fun w2 a (K2 : Blk _ _ _ _) hz2 hb2 hA => ?_
 replace K1 := K1.below hb2 K1.lt
 refine wl_new hA rfl rfl (by decide) (fun ev h => by simp [go_sem]; try first | exact ⟨rfl, rfl⟩ | rfl) fun w3 a (K3 : Blk _ _ _ _) hz3 hb3 hA => ?_
 replace K1 := K1.below hb3 K1.lt
 replace K2 := K2.below hb3 K2.lt
 replace hA := hA.keepN [1, 2, 3]
 refine wN (nT (wS (wS (wR ?_))))
 revert a; (iterate 4 refine wo rfl rfl (by decide) (fun ev e h => by simp [go_sem, h, K1.cell] <;> rfl) ?_); (iterate 3 refine wg _ rfl rfl rfl rfl (by decide) (fun hq ev e h => by simp [go_sem, h, ↓gw_t (beq_t hq), K1.cell] <;> rfl) ?_); refine wko rfl rfl (by decide) rfl rfl rfl ?_; intro a hA
 replace hA := hA.keepN [1, 2, 3, 15]
 refine wN (nT ?_)
 obtain ⟨p2, hp2⟩ : ∃ x, w1.heap.size = x := ⟨_, rfl⟩
 obtain ⟨p3, hp3⟩ : ∃ x, w2.heap.size = x := ⟨_, rfl⟩
 rw [hp2] at K2 hA
 rw [hp3] at K3 hA
 have h12 : w.heap.size < p2 := by omega
 have h23 : p2 < p3 := by omega
 have h33 : p3 < w3.heap.size := by omega
 have HB : Below w.heap.size w w3 := hb1.trans ((hb2.mono (by omega)).trans (hb3.mono (by omega)))
 obtain ⟨q, hqe⟩ : ∃ q, noIdx cl nm = q := ⟨_, rfl⟩
 rw [show (!cl || nm.toList.isEmpty) = q from hqe] at hA
 rw [hqe]
 refine wp_if hA 15 _ rfl (fun hq => ?yQ) (fun hq => ?nQ)
 case yQ =>
  subst hq
  refine wS (wR ?_)
  revert a; (iterate 2 refine wo rfl rfl (by decide) (fun ev e h => by simp [go_sem, h, K1.cell] <;> rfl) ?_); intro a hA
  refine wl_set [.string ⟨#[]⟩, .int .u32 0, .int .u32 0, .int .i64 0, .slice none 0 0] hA rfl rfl K2 (by rfl) (fun ev h => by simp [go_sem, h.get 2 rfl, h.get 16 rfl, K1.cell, setAll, K2.cell, K2.frozen]) fun w4 (K2 : Blk _ _ _ _) hs4 => ?_
  replace K3 := hs4.blk K3 (by omega)
  replace HB := hs4.below HB (by omega)
  refine wl_set [.int .u32 0, .slice none 0 0] hA rfl rfl K3 (by rfl) (fun ev h => by simp [go_sem, h.get 3 rfl, h.get 17 rfl, K1.cell, setAll, K3.cell, K3.frozen]) fun w5 (K3 : Blk _ _ _ _) hs5 => ?_
  replace K2 := hs5.blk K2 (by omega)
  replace HB := hs5.below HB (by omega)
  replace hA := hA.keepN [2, 3]
  refine wN (nT (wp_ret (rT ?_)))
  refine bodyPost_ret (by simp [results, Tryz.results65, go_sem, hA.env 2 _ rfl, hA.env 3 _ rfl, K2.cell, K3.cell]; try first | exact ⟨rfl, rfl⟩ | rfl) hA.defers ?_
  exact ⟨fun _ => rfl, fun h => (by cases h), HB⟩
 case nQ =>
  subst hq
  refine wp_skip (nT (wS (wR ?_)))
  revert a; (iterate 9 refine wo rfl rfl (by decide) (fun ev e h => by simp [go_sem, h, K1.cell] <;> rfl) ?_); intro a hA
  refine wl_local [.string nm, .int .u32 (ep : Nat), .int .u32 (nx : Nat), .int .i64 z, .slice none 0 0] hA rfl rfl (by decide) (fun ev h => by simp [go_sem, K1.cell]; try first | exact ⟨rfl, rfl⟩ | rfl) rfl rfl (by rfl) (fun w1 g ev hb h => by simp [go_sem, h.get 4 rfl, h.get 26 rfl, K1.cell, setAll, hb.cell, hb.frozen]) fun w4 a (K4 : Blk _ _ _ _) hz4 hb4 hA => ?_
  replace K1 := K1.below hb4 K1.lt
  replace K2 := K2.below hb4 K2.lt
  replace K3 := K3.below hb4 K3.lt
  replace hA := hA.keepN [1, 2, 3, 4]
  refine wN (nT (wS (wR ?_)))
  revert a; (iterate 3 refine wo rfl rfl (by decide) (fun ev e h => by simp [go_sem, h, K1.cell] <;> rfl) ?_); intro a hA
  refine wl_local [.int .u32 (ep : Nat), .slice none 0 0] hA rfl rfl (by decide) (fun ev h => by simp [go_sem, K1.cell]; try first | exact ⟨rfl, rfl⟩ | rfl) rfl rfl (by rfl) (fun w1 g ev hb h => by simp [go_sem, h.get 5 rfl, h.get 29 rfl, K1.cell, setAll, hb.cell, hb.frozen]) fun w5 a (K5 : Blk _ _ _ _) hz5 hb5 hA => ?_
  replace K1 := K1.below hb5 K1.lt
  replace K2 := K2.below hb5 K2.lt
  replace K3 := K3.below hb5 K3.lt
  replace K4 := K4.below hb5 K4.lt
  obtain ⟨p4, hp4⟩ : ∃ x, w3.heap.size = x := ⟨_, rfl⟩
  obtain ⟨p5, hp5⟩ : ∃ x, w4.heap.size = x := ⟨_, rfl⟩
  rw [hp4] at K4 hA
  rw [hp5] at K5 hA
  have h45 : p4 < p5 := by omega
  have h34 : p3 < p4 := by omega
  have HB5 : Below w.heap.size w w5 := HB.trans ((hb4.mono (by omega)).trans (hb5.mono (by omega)))
  have h5 : p5 < w5.heap.size := by omega
  replace hA := hA.keepN [1, 2, 3, 4, 5]
  refine wN (nT (wS (wS (wR ?_))))
  revert a; (iterate 4 refine wo rfl rfl (by decide) (fun ev e h => by simp [go_sem, h, K1.cell] <;> rfl) ?_); intro a hA
  replace hA := hA.keepN [2, 3, 4, 5, 31, 32, 33]
  refine wN (nT (wB ?_))
  refine wp_loop_at (fun kk a wx => ∃ (j : Nat) (v u : Value), j + kk = n ∧ At 63 [(2, .pointer (some ⟨p2, 0, none⟩)), (3, .pointer (some ⟨p3, 0, none⟩)), (4, .pointer (some ⟨p4, 0, none⟩)), (5, .pointer (some ⟨p5, 0, none⟩)), (31, .slice A n c), (32, .int .i64 (n : Nat)), (33, .int .i64 (j : Nat))] a ∧ Blk wx p4 128 #[.string nm, .int .u32 (ep : Nat), .int .u32 (nx : Nat), .int .i64 z, v] ∧ Blk wx p5 130 #[.int .u32 (ep : Nat), u] ∧ OwnR entrySh (p5 + 1) wx v ((L.take j).map entV) ∧ OwnR markSh (p5 + 1) wx u ((L.take j).map markV) ∧ Below p4 w5 wx) (n) ?_ ?_
  ·exact ⟨0, _, _, by omega, hA, K4, K5, OwnR.nil _ _, OwnR.nil _ _, (Below.refl w5.heap.size w5).mono (by omega)⟩
  clear K4 K5
  rintro kk a wx ⟨j, v, u, hjk, hA, K4, K5, hov, hou, HL⟩
  obtain ⟨Av, cv, rfl, _⟩ := hov.reads
  obtain ⟨Au, cu, rfl, _⟩ := hou.reads
  obtain ⟨q1, hq1⟩ : ∃ q, ((L.take j).map entV).length = q := ⟨_, rfl⟩
  obtain ⟨q2, hq2⟩ : ∃ q, ((L.take j).map markV).length = q := ⟨_, rfl⟩
  rw [hq1] at K4 hov
  rw [hq2] at K5 hou
  have hwx : w5.heap.size ≤ wx.heap.size := HL.size
  have HBx : Below w.heap.size w wx := HB5.trans (HL.mono (by omega))
  refine wS (wR ?_)
  revert a; refine wo rfl rfl (by decide) (fun ev e h => by simp [go_sem, h] <;> rfl) ?_; intro a hA
  replace hA := hA.keepN [2, 3, 4, 5, 31, 32, 33, 34]
  refine wN (nT (wS ?_))
  refine wp_if hA 34 _ rfl (fun hq => ?yI) (fun hq => ?nI)
  case yI =>
   have hlt : j < n := by simp at hq; omega
   obtain ⟨x, hx⟩ : ∃ x, L[j]? = some x := ⟨_, List.getElem?_eq_getElem (by omega)⟩
   have hle : ((L.take j).map entV).length ≤ j := by rw [List.length_map, List.length_take]; omega
   have hle2 : ((L.take j).map markV).length ≤ j := by rw [List.length_map, List.length_take]; omega
   have e1 : (L.take (j + 1)).map entV = (L.take j).map entV ++ [entV x] := by rw [List.take_add_one, hx, List.map_append]; rfl
   have e2 : (L.take (j + 1)).map markV = (L.take j).map markV ++ [markV x] := by rw [List.take_add_one, hx, List.map_append]; rfl
   obtain ⟨ad, rfl, hadl, kz, kk'⟩ := hr.cell hx
   have z0 : wx.cell? (ad.add (j * 6)) = some (.int .u32 (x.m.uid : Nat)) := (HBx.cell (by rw [block_of_add]; exact hadl)).trans (kz _ rfl)
   have zz : ∀ d u, 0 < d → (liveC x)[d]? = some u → wx.cell? ⟨(ad.add (j * 6)).block, (ad.add (j * 6)).off + d, none⟩ = some u := fun d u hd hu => (HBx.cell (by show (ad.add _).block < _; rw [block_of_add]; exact hadl)).trans (kk' d _ hd hu)
   have z1 := zz 1 _ (by decide) rfl
   have z2 := zz 2 _ (by decide) rfl
   have z3 := zz 3 _ (by decide) rfl
   have z4 := zz 4 _ (by decide) rfl
   have z5 := zz 5 _ (by decide) rfl
   have jj0 : (0 : Int) ≤ (j : Int) := by omega
   have jj1 : (j : Int) < (n : Int) := by omega
   have hwj : IntKind.i64.wrap ((j : Int) + 1) = (j : Int) + 1 := IntWalk.i64_in _ (by omega)
   refine wp_skip (nT (wS (wB (wS (wR ?_)))))
   revert a; (iterate 2 refine wo rfl rfl (by decide) (fun ev e h => by simp [go_sem, h, z0, z1, z2, z3, z4, z5, jj0, jj1] <;> rfl) ?_); intro a hA
   refine wl_local [.int .u32 (x.m.uid : Nat), .int .i64 x.m.date, .int .i64 x.m.flags, .slice x.m.a x.m.b.length x.m.c, .int .u32 (x.ep : Nat), .int .i64 (x.at_ : Nat)] hA rfl rfl (by decide) (fun ev h => by simp [go_sem, z0, z1, z2, z3, z4, z5, jj0, jj1]; try first | exact ⟨rfl, rfl⟩ | rfl) rfl rfl (by rfl) (fun w1 g ev hb h => by simp [go_sem, h.get 7 rfl, h.get 36 rfl, z0, z1, z2, z3, z4, z5, jj0, jj1, setAll, hb.cell, hb.frozen]) fun w6 a (K7 : Blk _ _ _ _) hz6 hb6 hA => ?_
   replace K4 := K4.below hb6 K4.lt
   replace K5 := K5.below hb6 K5.lt
   replace hov := hov.below hb6
   replace hou := hou.below hb6
   replace HL := HL.trans (hb6.mono (by omega))
   clear z0 zz z1 z2 z3 z4 z5
   replace hA := hA.keepN [2, 3, 4, 5, 7, 31, 32, 33]
   refine wN (nT (wS (wR ?_)))
   revert a; (iterate 8 refine wo rfl rfl (by decide) (fun ev e h => by simp [go_sem, h, K7.cell, K4.cell] <;> rfl) ?_); intro a hA
   refine wl_new hA rfl rfl (by decide) (fun ev h => by simp [go_sem, h.get 44 rfl, K7.cell, K4.cell]; try first | exact ⟨rfl, rfl⟩ | rfl) fun w7 a (K8 : Blk _ _ _ _) hz7 hb7 hA => ?_
   replace K4 := K4.below hb7 K4.lt
   replace K5 := K5.below hb7 K5.lt
   replace hov := hov.below hb7
   replace hou := hou.below hb7
   replace K7 := K7.below hb7 K7.lt
   replace HL := HL.trans (hb7.mono (by omega))
   have hrow : RowR entrySh w7 _ [entV x] := rowR_blk (s := entrySh) (x := entV x) K8 (fun p hp => (by cases hp))
   have hvlt := World.ownsRow.lt hov.row
   have hult := World.ownsRow.lt hou.row
   obtain ⟨r, w8, hr8, ho8, hg8, -⟩ := run_appR hov hrow (fun _ _ m _ p hp => (by cases hp)) (by simp; omega) (by omega)
   refine wl_op hA rfl rfl (by decide) (fun ev h => exec_append rfl (h.get 38 rfl) (h.get 45 rfl) hr8) fun a hA => ?_
   have hs8 := hg8.size
   replace HL := below_appR HL hov hg8 (by omega) (by omega)
   replace K4 := K4.grown hg8 (fun e => by have := (hvlt p4 e.symm).1; omega)
   replace K5 := K5.grown hg8 (fun e => by have := (hvlt p5 e.symm).1; omega)
   replace K7 := K7.grown hg8 (fun e => own_ne hov.row K7 (by decide) _ e.symm rfl)
   replace hou := hou.grown hg8 (fun g hg => hou.ne hov (by decide) hg) (fun _ _ _ _ p hp => (by cases hp))
   obtain ⟨A8, c8, rfl, _⟩ := ho8.reads
   have K40 := K4
   revert a; refine wo rfl rfl (by decide) (fun ev e h => by simp [go_sem, h, K7.cell, K4.cell] <;> rfl) ?_; intro a hA
   refine wl_setf ([.string nm, .int .u32 (ep : Nat), .int .u32 (nx : Nat), .int .i64 z, .slice A8 ((L.take j).map entV ++ [entV x]).length c8]) _ hA rfl rfl K4 (j := 4) (by rfl) (fun ev h => by simp [go_sem, h.get 47 rfl, h.get 46 rfl, K7.cell, K4.cell, K4.cell, K4.frozen]; try first | exact ⟨rfl, rfl⟩ | rfl) fun w9 (K4 : Blk _ _ _ _) hs9 => ?_
   replace ho8 := ho8.onlyK hs9 K40 (by decide) rfl
   replace hou := hou.onlyK hs9 K40 (by decide) rfl
   replace K5 := hs9.blk K5 (by omega)
   replace K7 := hs9.blk K7 (by have := K7.lt; intro e; subst e; have := K40; exact absurd (K7.symm.trans this) (by intro h; injection h with h; injection h with _ h _; exact absurd h (by decide)))
   replace HL := hs9.below HL (Nat.le_refl _)
   have hs9' := hs9.size
   replace hA := hA.keepN [2, 3, 4, 5, 7, 31, 32, 33]
   refine wN (nT (wR ?_))
   revert a; (iterate 9 refine wo rfl rfl (by decide) (fun ev e h => by simp [go_sem, h, K7.cell, K5.cell] <;> rfl) ?_); intro a hA
   refine wl_new hA rfl rfl (by decide) (fun ev h => by simp [go_sem, h.get 56 rfl, K7.cell, K5.cell]; try first | exact ⟨rfl, rfl⟩ | rfl) fun w10 a (K11 : Blk _ _ _ _) hz10 hb10 hA => ?_
   replace K4 := K4.below hb10 K4.lt
   replace K5 := K5.below hb10 K5.lt
   replace ho8 := ho8.below hb10
   replace hou := hou.below hb10
   replace HL := HL.trans (hb10.mono (by omega))
   have hrow2 : RowR markSh w10 _ [markV x] := rowR_blk (s := markSh) (x := markV x) K11 (fun p hp => (by cases hp))
   have hult2 := World.ownsRow.lt hou.row
   obtain ⟨r2, w11, hr11, ho11, hg11, -⟩ := run_appR hou hrow2 (fun _ _ m _ p hp => (by cases hp)) (by simp; omega) (by omega)
   refine wl_op hA rfl rfl (by decide) (fun ev h => exec_append rfl (h.get 49 rfl) (h.get 57 rfl) hr11) fun a hA => ?_
   replace HL := below_appR HL hou hg11 (by omega) (by omega)
   replace K4 := K4.grown hg11 (fun e => by have := (hult2 p4 e.symm).1; omega)
   replace K5 := K5.grown hg11 (fun e => by have := (hult2 p5 e.symm).1; omega)
   replace ho8 := ho8.grown hg11 (fun g hg => ho8.ne hou (by decide) hg) (fun _ _ _ _ p hp => (by cases hp))
   obtain ⟨A11, c11, rfl, _⟩ := ho11.reads
   have K50 := K5
   revert a; refine wo rfl rfl (by decide) (fun ev e h => by simp [go_sem, h, K7.cell, K5.cell] <;> rfl) ?_; intro a hA
   replace hA := hA.keepN [2, 3, 4, 5, 31, 32, 33, 58, 59]
   refine wl_setf ([.int .u32 (ep : Nat), .slice A11 ((L.take j).map markV ++ [markV x]).length c11]) _ hA rfl rfl K5 (j := 1) (by rfl) (fun ev h => by simp [go_sem, h.get 59 rfl, h.get 58 rfl, K7.cell, K5.cell, K5.cell, K5.frozen]; try first | exact ⟨rfl, rfl⟩ | rfl) fun w12 (K5 : Blk _ _ _ _) hs12 => ?_
   replace ho11 := ho11.onlyK hs12 K50 (by decide) rfl
   replace ho8 := ho8.onlyK hs12 K50 (by decide) rfl
   replace K4 := hs12.blk K4 (by omega)
   replace HL := hs12.below HL (by omega)
   replace hA := hA.keepN [2, 3, 4, 5, 31, 32, 33]
   refine wN (nB (nT (wR ?_)))
   revert a; (iterate 2 refine wo rfl rfl (by decide) (fun ev e h => by simp [go_sem, h, hwj] <;> rfl) ?_); intro a hA
   replace hA := hA.keepN [2, 3, 4, 5, 31, 32, 33]
   refine wN (nT ?_)
   rw [show ((j : Int) + 1) = ((j + 1 : Nat) : Int) by omega] at hA
   exact ⟨kk - 1, by omega, j + 1, _, _, by omega, hA, K4, K5, by rw [e1]; exact ho8, by rw [e2]; exact ho11, HL⟩
  case nI =>
   have hjn : j = n := by simp at hq; omega
   rw [List.take_of_length_le (by omega)] at hov hou
   have K2x := K2.below HL (by omega)
   have K3x := K3.below HL (by omega)
   replace hA := hA.keepN [2, 3, 4, 5]
   have pD := fun (wo : World) (hC : (fun wy => Only p2 wx wy) wo) => have Kx := hC.blk K4 (by omega); have Ky := hC.blk K5 (by omega); And.intro (Kx.cell) (Ky.cell)
   refine wp_exit (xT (xT (xB (nT (wS ?_)))))
   refine wp_region_split 3 ?_
   simp only [List.take_succ_cons, List.take_zero, List.drop_succ_cons, List.drop_zero]
   refine wp_any_split_at hA [(.det ?dD0), (.det ?dD1), (.det undef)] [⟨none, (some 2), [], fun _ => (fun wy => Blk wy p2 128 #[.string ⟨#[]⟩, .int .u32 0, .int .u32 0, .int .i64 0, .slice none 0 0]), fun _ _ _ _ h => h⟩, ⟨(some 2), none, [], fun _ => (fun wy => Blk wy p2 128 #[.string nm, .int .u32 (ep : Nat), .int .u32 (nx : Nat), .int .i64 z, .slice Av q1 cv]), fun _ _ _ _ h => h⟩] (fun wy => Only p2 wx wy) (TSp [(2, (fun wy wz => Only p2 wy wz))] Grows) (by kernel_rfl) rfl (by kernel_rfl) (by kernel_rfl) rfl (by kernel_rfl) (by kernel_rfl) (by kernel_rfl) (by kernel_rfl) (⟨rfl, rfl, rfl, rfl, fun _ _ => rfl⟩) (stab_sp [(2, (fun wy wz => Only p2 wy wz))] [true, true, true] [true, true, true] [] rfl rfl rfl (by kernel_rfl) ⟨trivial, trivial, trivial, trivial⟩ trivial) (List.forall_mem_cons.2 ⟨(fun hn => K2x.drew), (List.forall_mem_cons.2 ⟨(fun hn => by cases hn), (fun _ h => by cases h)⟩)⟩) (phase_sp [(2, (fun wy wz => Only p2 wy wz))] [(none, (some 2)), ((some 2), none)] [] rfl (by kernel_rfl) (List.forall_mem_cons.2 ⟨fun _ => fun _ _ _ hp hb => hp.below hb hp.lt, (List.forall_mem_cons.2 ⟨fun _ => fun _ _ _ hp hb => hp.below hb hp.lt, (fun _ h => by cases h)⟩)⟩) trivial) (List.forall_mem_cons.2 ⟨(fun a h => by first | (exact (no_1 h).elim) | (injection h with h; subst h; exact Nat.le_of_ble_eq_true rfl)), (List.forall_mem_cons.2 ⟨(fun a h => by first | (exact (no_1 h).elim) | (injection h with h; subst h; exact Nat.le_of_ble_eq_true rfl)), (fun _ h => by cases h)⟩)⟩) ⟨?oD0, ?oD1, ?oD2, trivial⟩ (by kernel_rfl) ?fD
   case oD0 => intro ev wo hev hC hs hph; have x0 := se hA hs 4; exact od rfl rfl (by kernel_rfl) hC (TSp.of rfl (Grows.refl _)) (by simp [go_sem, x0, pD _ hC] <;> rfl)
   case oD1 => intro ev wo hev hC hs hph; have x0 := se hA hs 5; exact od rfl rfl (by kernel_rfl) hC (TSp.of rfl (Grows.refl _)) (by simp [go_sem, x0, pD _ hC] <;> rfl)
   case oD2 =>
    intro ev wo hev hC hs hph
    have e2 := se hA hs 2
    have e61 := sd hs 61 0
    have Kx := hC.blk K4 (by omega)
    have Ky := hC.blk K5 (by omega)
    have hk := (hph _ List.mem_cons_self (by kernel_rfl))
    have hs := Only.setAll (g := p2) [.string nm, .int .u32 (ep : Nat), .int .u32 (nx : Nat), .int .i64 z, .slice Av q1 cv] 0 wo
    have hK2 : Blk (setAll wo p2 0 [.string nm, .int .u32 (ep : Nat), .int .u32 (nx : Nat), .int .i64 z, .slice Av q1 cv]) p2 128 #[.string nm, .int .u32 (ep : Nat), .int .u32 (nx : Nat), .int .i64 z, .slice Av q1 cv] := by simpa using blk_setAll [.string nm, .int .u32 (ep : Nat), .int .u32 (nx : Nat), .int .i64 z, .slice Av q1 cv] 0 _ _ hk rfl
    exact ob_yes (wanted_none rfl) (does_skip (w' := setAll wo p2 0 [.string nm, .int .u32 (ep : Nat), .int .u32 (nx : Nat), .int .i64 z, .slice Av q1 cv]) (by simp [go_sem, e2, e61, setAll, hk.cell, hk.frozen]) ⟨hC.trans hs, TSp.sp rfl hs, rfl, (List.forall_mem_cons.2 ⟨fun h => (no_1 h).elim, (List.forall_mem_cons.2 ⟨fun _ => hK2, (fun _ h => by cases h)⟩)⟩)⟩)
   intro sg wf hC hph
   intro a hA
   replace hA := hA.keepN [2, 3, 62]
   have K2y := (hph _ (List.mem_cons_of_mem _ List.mem_cons_self) rfl)
   replace hov := hov.onlyK hC K2x (by decide) rfl
   replace hou := hou.onlyK hC K2x (by decide) rfl
   have K3y := hC.blk K3x (by omega)
   have K3z := K3y
   refine wl_set [.int .u32 (ep : Nat), .slice Au q2 cu] hA rfl rfl K3y (by rfl) (fun ev h => by simp [go_sem, h.get 3 rfl, h.get 62 rfl, setAll, K3y.cell, K3y.frozen]) fun w13 (K3y : Blk _ _ _ _) hs13 => ?_
   have K2w := hs13.blk K2y (by omega)
   replace hA := hA.keepN [2, 3]
   refine wN (nT (wp_ret ?_))
   refine bodyPost_ret (by simp [results, Tryz.results65, go_sem, hA.env 2 _ rfl, hA.env 3 _ rfl, K2w.cell, K3y.cell]; try first | exact ⟨rfl, rfl⟩ | rfl) hA.defers ?_
   exact ⟨fun h => (by cases h), fun _ => ⟨_, _, rfl, (hov.onlyK hs13 K3z (by decide) rfl).mono (by omega), (hou.onlyK hs13 K3z (by decide) rfl).mono (by omega)⟩, hs13.below (hC.below HBx (by omega)) (by omega)⟩
end Go.Proofs.YtkljkbeahdipfaaGreatDoor
/-
  Walks: is a text a name, as it should be?
-/
namespace Go.Proofs.YtkljkbeahdipfaaGreatDoor
open Go.RowKit
set_option maxRecDepth 100000 in
theorem named_any (s : ByteArray) (hs : s.size ≤ 9223372036854775807) (w : World) (hm : MaxCell w) :
 Calls Tryz.prog 185 #[.string s] w fun e w' => e = .returned (.bool (nameIs s)) ∧ Below w.heap.size w w' := by
 obtain ⟨m, hm⟩ := hm
 have R := Lib.hid (norm_all s m w hs hm)
 unfold nameIs
 generalize (normV s).1 = t at *
 generalize (normV s).2 = ok at *
 clear hm
 go_enter Tryz.func185, Tryz.ntmps185
 go_wp2_with fail
 refine R.out.mono ?_
 rintro e w1 ⟨rfl, hb⟩
 cases ok with
 | true =>
   go_wp2
   go_ret
   exact ⟨rfl, hb⟩
 | false =>
   go_wp2
   go_ret
   exact ⟨rfl, hb⟩
end Go.Proofs.YtkljkbeahdipfaaGreatDoor
/-
  Rows of places; whether a name is among some.
-/
namespace Go.Proofs.YtkljkbeahdipfaaGreatDoor
open Go.RowKit
abbrev PlaceM := Int × ByteArray
def pcell (q : PlaceM) : List Value := [.int .i64 q.1, .string q.2]
def pcells (l : List PlaceM) : List Value := l.flatMap pcell
theorem pcells_length : ∀ l : List PlaceM, (pcells l).length = l.length * 2
 | [] => rfl
 | x :: r => by
   have := pcells_length r
   unfold pcells at this ⊢
   rw [List.flatMap_cons, List.length_append, this, List.length_cons]
   show 2 + _ = _
   omega
theorem pcells_at : ∀ (l : List PlaceM) (i : Nat) (x : PlaceM), l[i]? = some x → ∀ j, j < 2 → (pcells l)[i * 2 + j]? = (pcell x)[j]?
 | y :: r, 0, x, h, j, hj => by
   injection h with h
   subst h
   unfold pcells
   rw [List.flatMap_cons, List.getElem?_append_left (by show 0 * 2 + j < 2; omega), Nat.zero_mul, Nat.zero_add]
 | y :: r, i + 1, x, h, j, hj => by
   have ih := pcells_at r i x h j hj
   unfold pcells at ih ⊢
   rw [List.flatMap_cons, List.getElem?_append_right (by show 2 ≤ _; omega)]
   have e : (i + 1) * 2 + j - (pcell y).length = i * 2 + j := by show (i + 1) * 2 + j - 2 = _; omega
   rw [e]
   exact ih
theorem pcells_append (l m : List PlaceM) : pcells (l ++ m) = pcells l ++ pcells m := List.flatMap_append
theorem pcells_one (l : List PlaceM) : ∀ u ∈ pcells l, u.oneCell' = true := by
 intro u hu
 simp only [pcells, List.mem_flatMap] at hu
 obtain ⟨x, _, hx⟩ := hu
 simp only [pcell, List.mem_cons, List.not_mem_nil, or_false] at hx
 rcases hx with rfl | rfl <;> rfl
theorem add_k2 (ad : Addr) (j k : Nat) (hk : 0 < k) : ad.add (j + k) = ⟨(ad.add j).block, (ad.add j).off + k, none⟩ := by
 unfold Addr.add; by_cases h : j = 0 <;> simp [h] <;> omega
theorem place_at {w : World} {k : Nat} {ad : Addr} {l : List PlaceM} {x : PlaceM} (hc : ∀ j u, (pcells l)[j]? = some u → w.cell? (ad.add j) = some u) (hx : l[k]? = some x) :
 w.cell? (ad.add (k * 2)) = some (.int .i64 x.1) ∧ w.cell? ⟨(ad.add (k * 2)).block, (ad.add (k * 2)).off + 1, none⟩ = some (.string x.2) := by
 have h : ∀ j u, j < 2 → (pcell x)[j]? = some u → w.cell? (ad.add (k * 2 + j)) = some u := fun j u hj hu => hc _ u (by rw [pcells_at l k x hx j hj]; exact hu)
 have h0 := h 0 _ (by omega) rfl
 have h1 := h 1 _ (by omega) rfl
 rw [add_k2 _ _ _ (by omega)] at h1
 exact ⟨h0, h1⟩
/-- which of some places has a name -/
def placeHas (l : List PlaceM) (s : ByteArray) : Bool := l.any fun x => x.2.toList == s.toList
theorem placeHas_snoc (l : List PlaceM) (x : PlaceM) (s : ByteArray) : placeHas (l ++ [x]) s = (placeHas l s || x.2.toList == s.toList) := by simp [placeHas]
theorem placeHas_step {l : List PlaceM} {j : Nat} {x : PlaceM} (hx : l[j]? = some x) (s : ByteArray) : placeHas (l.take (j + 1)) s = (placeHas (l.take j) s || x.2.toList == s.toList) := by
 rw [List.take_add_one, hx, ← placeHas_snoc]; rfl
theorem placeHas_mem {l : List PlaceM} {j : Nat} {x : PlaceM} (hx : l[j]? = some x) (s : ByteArray) (h : (x.2.toList == s.toList) = true) : placeHas l s = true := List.any_eq_true.2 ⟨x, List.mem_of_getElem? hx, h⟩
set_option maxRecDepth 100000 in
theorem eqName_any (x : PlaceM) (gp : Nat) (t0 : Int) (s : ByteArray) (w : World) (hg : Blk w gp 152 #[.int .i64 t0, .string s]) :
 Calls Tryz.prog 249 #[.agg #[.int .i64 x.1, .string x.2], .pointer (some ⟨gp, 0, none⟩)] w fun e w' => e = .returned (.bool (x.2.toList == s.toList)) ∧ Below w.heap.size w w' := by
 have hb := (Below.refl w.heap.size w).alloc (Nat.le_refl _) (.cells #[.int .i64 x.1, .string x.2] 152)
 have hlt := hg.lt
 have k1 : w.cell? ⟨gp, 1, none⟩ = some (.string s) := by rw [hg.cell]; rfl
 have HB := Lib.hid hb
 clear hb hg
 go_enter Tryz.func249, Tryz.ntmps249
 go_wp2
 go_ret
 exact ⟨rfl, HB.out⟩
set_option maxRecDepth 100000 in
theorem index_any (A : Option Addr) (c n : Nat) (l : List PlaceM) (s : ByteArray) (w : World) (hn2 : l.length = n) (hn : n ≤ 100000) (hr : Reads w w.heap.size 2 A n (pcells l)) (gp : Nat) (t0 : Int) (hg : Blk w gp 152 #[.int .i64 t0, .string s]) :
 Calls Tryz.prog 294 #[.slice A n c, .func (Fn.func 249) #[] #[.pointer (some ⟨gp, 0, none⟩)]] w fun e w' => ∃ r : Int, e = .returned (.int .i64 r) ∧ (decide (0 ≤ r) = placeHas l s) ∧ Below w.heap.size w w' := by
 have HR := Lib.hid hr
 have HG := Lib.hid hg
 clear hr hg
 go_enter Tryz.func294, Tryz.ntmps294
 go_wp2
 go_loopw [8] (fun k wr => ∃ (j : Nat), k = .int .i64 j ∧ j ≤ n ∧ Hid (placeHas (l.take j) s = false) ∧ Hid (Below w.heap.size w wr)) (fun k _ => n - (intOf k).toNat)
 case atStart => exact ⟨0, rfl, by omega, rfl, Below.refl _ _⟩
 case round =>
  obtain ⟨j, rfl, hj, hno, hb⟩ := hrel
  by_cases hlt : j < n
  ·obtain ⟨x, hx⟩ : ∃ x, l[j]? = some x := ⟨_, List.getElem?_eq_getElem (by omega)⟩
   obtain ⟨ad, rfl, hadl, hc⟩ := (HR.out.below hb.out).2 (by omega)
   obtain ⟨k0, k1⟩ := place_at hc hx
   have jj0 : (0 : Int) ≤ (j : Int) := by omega
   have jj1 : (j : Int) < (n : Int) := by omega
   have hst := placeHas_step hx s
   have hmm := placeHas_mem hx s
   rw [hno.out, Bool.false_or] at hst
   have R := Lib.hid (eqName_any x gp t0 s wr (HG.out.below hb.out HG.out.lt))
   generalize (x.2.toList == s.toList) = eq at *
   have HST := Lib.hid hst
   have HMM := Lib.hid hmm
   clear hst hmm hx hc
   go_wp2_with fail
   refine R.out.mono ?_
   rintro e w1 ⟨rfl, hb1⟩
   have HB1 := Lib.hid (hb.out.trans (hb1.mono hb.out.size))
   clear hb1 R k0 k1
   cases eq with
   | true =>
     go_wp2
     go_ret
     exact ⟨_, rfl, by rw [HMM.out (by first | rfl | trivial)]; simp, HB1.out⟩
   | false =>
     go_wp2
     go_roundw
     case rel => exact ⟨j + 1, by go_num, by omega, HST.out, HB1⟩
     case measure => simp [intOf]; omega
  ·obtain rfl : j = n := by omega
   go_wp2
   go_ret
   refine ⟨_, rfl, ?_, hb.out⟩
   have := hno.out
   rw [List.take_of_length_le (by omega)] at this
   rw [this]
   rfl
set_option maxRecDepth 100000 in
theorem contains_any (A : Option Addr) (c n : Nat) (l : List PlaceM) (s : ByteArray) (w : World) (hn2 : l.length = n) (hn : n ≤ 100000) (hr : Reads w w.heap.size 2 A n (pcells l)) (gp : Nat) (t0 : Int) (hg : Blk w gp 152 #[.int .i64 t0, .string s]) :
 Calls Tryz.prog 248 #[.slice A n c, .func (Fn.func 249) #[] #[.pointer (some ⟨gp, 0, none⟩)]] w fun e w' => e = .returned (.bool (placeHas l s)) ∧ Below w.heap.size w w' := by
 have R := Lib.hid (index_any A c n l s w hn2 hn hr gp t0 hg)
 clear hr hg
 go_enter Tryz.func248, Tryz.ntmps248
 go_wp2_with fail
 refine R.out.mono ?_
 rintro e w1 ⟨r, rfl, hr, hb⟩
 go_wp2
 go_ret
 exact ⟨by first | rfl | exact ret_bool hr, hb⟩
end Go.Proofs.YtkljkbeahdipfaaGreatDoor
/-
  Walk: is a tree right?
-/
namespace Go.Proofs.YtkljkbeahdipfaaGreatDoor
open Go.RowKit
def isInbox (x : PlaceM) : Bool := x.2.toList == [73, 78, 66, 79, 88]
def prevN (l : List PlaceM) (j : Nat) : Int := match l[j - 1]? with | some y => y.1 | none => 0
def numOk (l : List PlaceM) (j : Nat) (x : PlaceM) : Bool := !decide (x.1 < 0) && !decide (16 ≤ x.1) && !(decide (0 < j) && decide (x.1 ≤ prevN l j))
def stepOk (l : List PlaceM) (j : Nat) (x : PlaceM) : Bool := numOk l j x && nameIs x.2 && !placeHas (l.take j) x.2
def stepAt (l : List PlaceM) (j : Nat) : Bool := match l[j]? with | some x => stepOk l j x | none => true
def treeAll (l : List PlaceM) : Bool := (List.range l.length).all (stepAt l)
def rightTreeV (l : List PlaceM) : Bool := treeAll l && (l.countP isInbox == 1)
theorem stepAt_eq {l : List PlaceM} {j : Nat} {x : PlaceM} (hx : l[j]? = some x) : stepAt l j = stepOk l j x := by unfold stepAt; rw [hx]
theorem tree_no {l : List PlaceM} {j : Nat} {x : PlaceM} (hx : l[j]? = some x) (h : stepOk l j x = false) : rightTreeV l = false := by
 unfold rightTreeV treeAll
 have : (List.range l.length).all (stepAt l) = false := by
  rw [List.all_eq_false]
  exact ⟨j, List.mem_range.2 (List.getElem?_eq_some_iff.1 hx).1, by rw [stepAt_eq hx, h]; simp⟩
 rw [this, Bool.false_and]
theorem tree_yes {l : List PlaceM} (h : ∀ j, j < l.length → stepAt l j = true) : rightTreeV l = (l.countP isInbox == 1) := by
 unfold rightTreeV treeAll
 have : (List.range l.length).all (stepAt l) = true := List.all_eq_true.2 fun j hj => h j (List.mem_range.1 hj)
 rw [this, Bool.true_and]
theorem inbox_step {l : List PlaceM} {j : Nat} {x : PlaceM} (hx : l[j]? = some x) : (l.take (j + 1)).countP isInbox = (l.take j).countP isInbox + (if isInbox x = true then 1 else 0) := by
 rw [List.take_add_one, hx]
 simp [List.countP_append, List.countP_cons]
theorem pcells_take (l : List PlaceM) (k : Nat) : pcells (l.take k) = (pcells l).take (k * 2) := by
 rcases Nat.lt_or_ge k l.length with h | h
 ·have e : pcells l = pcells (l.take k) ++ pcells (l.drop k) := by rw [← pcells_append, List.take_append_drop]
  have hl : (pcells (l.take k)).length = k * 2 := by rw [pcells_length, List.length_take]; congr 1; omega
  rw [e, ← hl, List.take_left']
  rfl
 ·rw [List.take_of_length_le h, List.take_of_length_le (by rw [pcells_length]; omega)]
theorem Reads.takeP {w : World} {B n : Nat} {A : Option Addr} {l : List PlaceM} (h : Reads w B 2 A n (pcells l)) {k : Nat} (hk : k ≤ n) : Reads w B 2 A k (pcells (l.take k)) := by
 have hl : l.length = n := by have := h.1; rw [pcells_length] at this; omega
 refine ⟨by rw [pcells_length, List.length_take]; congr 1; omega, fun hp => ?_⟩
 obtain ⟨ad, e, hlt, hc⟩ := h.2 (by omega)
 refine ⟨ad, e, hlt, fun j u hu => hc j u ?_⟩
 rw [pcells_take, List.getElem?_take] at hu
 split at hu
 ·exact hu
 ·cases hu
set_option maxHeartbeats 1600000 in
set_option maxRecDepth 100000 in
theorem rightTree_any (A : Option Addr) (c n : Nat) (l : List PlaceM) (w : World) (hm : MaxCell w) (hg : 0 < w.heap.size) (hsz : ∀ q ∈ l, q.2.size ≤ 9223372036854775807) (hn2 : l.length = n) (hn : n ≤ 100000) (hcn : n ≤ c) (hr : Reads w w.heap.size 2 A n (pcells l)) :
 Calls Tryz.prog 201 #[.slice A n c] w fun e w' => e = .returned (.bool (rightTreeV l)) ∧ Below w.heap.size w w' := by
 have HR := Lib.hid hr
 have HM := Lib.hid hm
 have HSZ := Lib.hid hsz
 have HL := Lib.hid hn2
 obtain ⟨rv, hrv⟩ : ∃ rv, rightTreeV l = rv := ⟨_, rfl⟩
 have HRV := Lib.hid hrv
 rw [hrv]
 clear hr hm hsz hn2 hrv
 go_enter Tryz.func201, Tryz.ntmps201
 go_wp2
 go_loopw [3, 8] (fun z k wr => ∃ (j cc : Nat), k = .int .i64 j ∧ j ≤ n ∧ cc ≤ j ∧ z = .int .i64 cc ∧ Hid (cc = (l.take j).countP isInbox) ∧ Hid (∀ i, i < j → stepAt l i = true) ∧ Hid (Below w.heap.size w wr)) (fun _ k _ => n - (intOf k).toNat)
 case atStart => exact ⟨0, 0, rfl, by omega, by omega, rfl, rfl, fun i hi => absurd hi (by omega), Below.refl _ _⟩
 case round =>
  obtain ⟨j, cc, rfl, hj, hcj, rfl, hcc, hall, hb⟩ := hrel
  by_cases hlt : j < n
  ·obtain ⟨x, hx⟩ : ∃ x, l[j]? = some x := ⟨_, List.getElem?_eq_getElem (by have := HL.out; omega)⟩
   obtain ⟨ad, rfl, hadl, hc⟩ := (HR.out.below hb.out).2 (by omega)
   obtain ⟨k0, k1⟩ := place_at hc hx
   have hadl' : (ad.add (j * 2)).block < wr.heap.size := by rw [block_of_add]; exact Nat.lt_of_lt_of_le hadl hb.out.size
   have hbx := (Below.refl wr.heap.size wr).alloc (Nat.le_refl _) (.cells #[.int .i64 x.1, .string x.2] 152)
   have hxb : Blk (wr.alloc (.cells #[.int .i64 x.1, .string x.2] 152)) wr.heap.size 152 #[.int .i64 x.1, .string x.2] := Blk.new wr _ _
   obtain ⟨gp, hgp⟩ : ∃ gp, wr.heap.size = gp := ⟨_, rfl⟩
   have hb1 := hb.out.trans (hbx.mono hb.out.size)
   obtain ⟨w1, hw1⟩ : ∃ w1, wr.alloc (.cells #[.int .i64 x.1, .string x.2] 152) = w1 := ⟨_, rfl⟩
   rw [hw1] at hbx hxb hb1
   have HN : Hid (∀ dd os, Calls Tryz.prog 185 #[.string x.2] (Sort.grow (redrawn w1 dd) os) fun e w' => e = .returned (.bool (nameIs x.2)) ∧ Below (Sort.grow (redrawn w1 dd) os).heap.size (Sort.grow (redrawn w1 dd) os) w') := fun dd os =>
    named_any x.2 (HSZ.out _ (List.mem_of_getElem? hx)) _ ((HM.out.below hg hb1).below (Nat.lt_of_lt_of_le hg hb1.size) (below_regrown w1 dd os))
   rw [hgp] at hxb
   have y0 : ∀ dd os, (Sort.grow (redrawn w1 dd) os).cell? ⟨gp, 0, none⟩ = some (.int .i64 x.1) := fun dd os => cell_regrown (by rw [hxb.cell]; rfl) dd os
   have y1 : ∀ dd os, (Sort.grow (redrawn w1 dd) os).cell? ⟨gp, 1, none⟩ = some (.string x.2) := fun dd os => cell_regrown (by rw [hxb.cell]; rfl) dd os
   have HB1 := Lib.hid hb1
   have HXB := Lib.hid hxb
   have HX := Lib.hid hx
   have jj0 : (0 : Int) ≤ (j : Int) := by omega
   have jj1 : (j : Int) ≤ (c : Int) := by omega
   obtain ⟨ni, hni⟩ : ∃ ni, nameIs x.2 = ni := ⟨_, rfl⟩
   rw [hni] at HN
   have HNI := Lib.hid hni
   clear hbx hxb hb1 hni hadl
   by_cases ha : x.1 < 0
   ·have g1 : decide (x.1 < 0) = true := by simp; omega
    obtain rfl : false = rv := by rw [← HRV.out]; exact (tree_no hx (by unfold stepOk numOk; rw [g1]; simp)).symm
    clear hx hc
    go_upto_region 5 with fail
    refine wp_region_quiet_below (by kernel_rfl) (by kernel_rfl) ?_
    repeat (go_big_quiet_step (first | (go_at_call 185; exact Calls.regrown_of (HN.out _ _))))
    refine wpQuiet_nil ?_
    intro w2 hw2
    have hb2 : Below w1.heap.size w1 w2 := by
     obtain ⟨p, hw2⟩ := hw2
     rw [hw2]; exact below_regrown _ _ _
    go_wp2
    go_ret
    exact ⟨rfl, HB1.out.trans (hb2.mono HB1.out.size)⟩
   ·have g1 : decide (x.1 < 0) = false := by simp; omega
    by_cases ha2 : 16 ≤ x.1
    ·have g2 : decide (16 ≤ x.1) = true := by simp; omega
     obtain rfl : false = rv := by rw [← HRV.out]; exact (tree_no hx (by unfold stepOk numOk; rw [g2]; simp)).symm
     clear hx hc
     go_upto_region 5 with fail
     refine wp_region_quiet_below (by kernel_rfl) (by kernel_rfl) ?_
     repeat (go_big_quiet_step (first | (go_at_call 185; exact Calls.regrown_of (HN.out _ _))))
     refine wpQuiet_nil ?_
     intro w2 hw2
     have hb2 : Below w1.heap.size w1 w2 := by
      obtain ⟨p, hw2⟩ := hw2
      rw [hw2]; exact below_regrown _ _ _
     go_wp2
     go_ret
     exact ⟨rfl, HB1.out.trans (hb2.mono HB1.out.size)⟩
    ·have g2 : decide (16 ≤ x.1) = false := by simp; omega
     by_cases hjz : j = 0
     ·have g3 : decide (0 < j) = false := by simp; omega
      clear hjz
      cases ni with
      | false =>
        obtain rfl : false = rv := by rw [← HRV.out]; exact (tree_no hx (by unfold stepOk numOk; rw [HNI.out]; simp)).symm
        clear hx hc
        go_upto_region 5 with fail
        refine wp_region_quiet_below (by kernel_rfl) (by kernel_rfl) ?_
        repeat (go_big_quiet_step (first | (go_at_call 185; exact Calls.regrown_of (HN.out _ _))))
        refine wpQuiet_nil ?_
        intro w2 hw2
        have hb2 : Below w1.heap.size w1 w2 := by
         obtain ⟨p, hw2⟩ := hw2
         rw [hw2]; exact below_regrown _ _ _
        go_wp2
        go_ret
        exact ⟨rfl, HB1.out.trans (hb2.mono HB1.out.size)⟩
      | true =>
        clear hx hc
        go_upto_region 5 with fail
        refine wp_region_quiet_below (by kernel_rfl) (by kernel_rfl) ?_
        repeat (go_big_quiet_step (first | (go_at_call 185; exact Calls.regrown_of (HN.out _ _))))
        refine wpQuiet_nil ?_
        intro w2 hw2
        have hb2 : Below w1.heap.size w1 w2 := by
         obtain ⟨p, hw2⟩ := hw2
         rw [hw2]; exact below_regrown _ _ _
        have HB2 := Lib.hid (HB1.out.trans (hb2.mono HB1.out.size))
        have hx2 := HXB.out.below hb2 HXB.out.lt
        have z1 : w2.cell? ⟨gp, 1, none⟩ = some (.string x.2) := by rw [hx2.cell]; rfl
        have R := Lib.hid (contains_any (some ad) c j (l.take j) x.2 w2 (by rw [List.length_take]; have := HL.out; omega) (by omega) (((HR.out.below HB2.out).more HB2.out.size).takeP hj) gp x.1 hx2)
        obtain ⟨ph, hph⟩ : ∃ ph, placeHas (l.take j) x.2 = ph := ⟨_, rfl⟩
        rw [hph] at R
        have HPH := Lib.hid hph
        have HX2 := Lib.hid hx2
        clear hb2 hw2 hph hx2
        go_wp2_with fail
        refine R.out.mono ?_
        rintro e w3 ⟨rfl, hb3⟩
        have HB3 := Lib.hid (HB2.out.trans (hb3.mono HB2.out.size))
        have hx3 := HX2.out.below hb3 HX2.out.lt
        have u1 : w3.cell? ⟨gp, 1, none⟩ = some (.string x.2) := by rw [hx3.cell]; rfl
        clear hb3 hx3 z1 R
        cases ph with
        | true =>
          obtain rfl : false = rv := by rw [← HRV.out]; exact (tree_no HX.out (by unfold stepOk; rw [HPH.out]; simp)).symm
          go_wp2
          go_ret
          exact ⟨rfl, HB3.out⟩
        | false =>
          have hso : stepAt l j = true := by rw [stepAt_eq HX.out]; unfold stepOk numOk; rw [HNI.out, HPH.out, g1, g2, g3]; simp
          have hall2 : ∀ i, i < j + 1 → stepAt l i = true := fun i hi => by
           rcases Nat.lt_or_ge i j with h | h
           ·exact hall.out i h
           ·obtain rfl : i = j := by omega
            exact hso
          have HA2 := Lib.hid hall2
          have hin := inbox_step HX.out
          rw [← hcc.out] at hin
          have HIN := Lib.hid hin
          have hII : isInbox x = (x.2.toList == [73, 78, 66, 79, 88]) := rfl
          obtain ⟨ii, hii⟩ : ∃ ii, (x.2.toList == [73, 78, 66, 79, 88]) = ii := ⟨_, rfl⟩
          rw [hii] at hII
          have HII := Lib.hid hII
          clear hso hall2 hin hII
          cases ii with
          | true =>
            go_wp2
            go_roundw
            case rel => exact ⟨j + 1, cc + 1, by go_num, by omega, by omega, by go_num, by rw [HIN.out, HII.out]; exact rfl, HA2, HB3⟩
            case measure => simp [intOf]; omega
          | false =>
            go_wp2
            go_roundw
            case rel => exact ⟨j + 1, cc, by go_num, by omega, by omega, rfl, by rw [HIN.out, HII.out]; exact rfl, HA2, HB3⟩
            case measure => simp [intOf]; omega
     ·have g3 : decide (0 < j) = true := by simp; omega
      obtain ⟨y, hy⟩ : ∃ y, l[j - 1]? = some y := ⟨_, List.getElem?_eq_getElem (by have := HL.out; omega)⟩
      obtain ⟨adp, eadp, _, hcp⟩ := (HR.out.below hb.out).2 (by omega)
      injection eadp with eadp
      subst eadp
      obtain ⟨p0, _⟩ := place_at hcp hy
      have hpl : (ad.add ((j - 1) * 2)).block < wr.heap.size := by rw [block_of_add] at hadl' ⊢; exact hadl'
      have p1 : w1.cell? (ad.add ((j - 1) * 2)) = some (.int .i64 y.1) := by rw [← hw1]; exact (World.cell?_alloc_lt wr _ _ hpl).trans p0
      have q0 : ∀ dd os, (Sort.grow (redrawn w1 dd) os).cell? (ad.add ((j - 1) * 2)) = some (.int .i64 y.1) := fun dd os => cell_regrown p1 dd os
      have hpv : prevN l j = y.1 := by unfold prevN; rw [hy]
      have jm : (j : Int) - 1 = ((j - 1 : Nat) : Int) := by omega
      have jm0 : (0 : Int) ≤ ((j - 1 : Nat) : Int) := by omega
      have jm1 : ((j - 1 : Nat) : Int) < (n : Int) := by omega
      have HPV := Lib.hid hpv
      clear hpv hy hcp p0 p1 hpl
      generalize j - 1 = jp at *
      by_cases hle : x.1 ≤ y.1
      ·have g4 : decide (x.1 ≤ y.1) = true := by simp; omega
       obtain rfl : false = rv := by rw [← HRV.out]; exact (tree_no hx (by unfold stepOk numOk; rw [g3, HPV.out, g4]; simp)).symm
       clear hx hc
       go_upto_region 5 with fail
       refine wp_region_quiet_below (by kernel_rfl) (by kernel_rfl) ?_
       repeat (go_big_quiet_step (first | (go_at_call 185; exact Calls.regrown_of (HN.out _ _))))
       refine wpQuiet_nil ?_
       intro w2 hw2
       have hb2 : Below w1.heap.size w1 w2 := by
        obtain ⟨p, hw2⟩ := hw2
        rw [hw2]; exact below_regrown _ _ _
       go_wp2
       go_ret
       exact ⟨rfl, HB1.out.trans (hb2.mono HB1.out.size)⟩
      ·have g4 : decide (x.1 ≤ y.1) = false := by simp; omega
       cases ni with
       | false =>
         obtain rfl : false = rv := by rw [← HRV.out]; exact (tree_no hx (by unfold stepOk numOk; rw [HNI.out]; simp)).symm
         clear hx hc
         go_upto_region 5 with fail
         refine wp_region_quiet_below (by kernel_rfl) (by kernel_rfl) ?_
         repeat (go_big_quiet_step (first | (go_at_call 185; exact Calls.regrown_of (HN.out _ _))))
         refine wpQuiet_nil ?_
         intro w2 hw2
         have hb2 : Below w1.heap.size w1 w2 := by
          obtain ⟨p, hw2⟩ := hw2
          rw [hw2]; exact below_regrown _ _ _
         go_wp2
         go_ret
         exact ⟨rfl, HB1.out.trans (hb2.mono HB1.out.size)⟩
       | true =>
         clear hx hc
         go_upto_region 5 with fail
         refine wp_region_quiet_below (by kernel_rfl) (by kernel_rfl) ?_
         repeat (go_big_quiet_step (first | (go_at_call 185; exact Calls.regrown_of (HN.out _ _))))
         refine wpQuiet_nil ?_
         intro w2 hw2
         have hb2 : Below w1.heap.size w1 w2 := by
          obtain ⟨p, hw2⟩ := hw2
          rw [hw2]; exact below_regrown _ _ _
         have HB2 := Lib.hid (HB1.out.trans (hb2.mono HB1.out.size))
         have hx2 := HXB.out.below hb2 HXB.out.lt
         have z1 : w2.cell? ⟨gp, 1, none⟩ = some (.string x.2) := by rw [hx2.cell]; rfl
         have R := Lib.hid (contains_any (some ad) c j (l.take j) x.2 w2 (by rw [List.length_take]; have := HL.out; omega) (by omega) (((HR.out.below HB2.out).more HB2.out.size).takeP hj) gp x.1 hx2)
         obtain ⟨ph, hph⟩ : ∃ ph, placeHas (l.take j) x.2 = ph := ⟨_, rfl⟩
         rw [hph] at R
         have HPH := Lib.hid hph
         have HX2 := Lib.hid hx2
         clear hb2 hw2 hph hx2
         go_wp2_with fail
         refine R.out.mono ?_
         rintro e w3 ⟨rfl, hb3⟩
         have HB3 := Lib.hid (HB2.out.trans (hb3.mono HB2.out.size))
         have hx3 := HX2.out.below hb3 HX2.out.lt
         have u1 : w3.cell? ⟨gp, 1, none⟩ = some (.string x.2) := by rw [hx3.cell]; rfl
         clear hb3 hx3 z1 R
         cases ph with
         | true =>
           obtain rfl : false = rv := by rw [← HRV.out]; exact (tree_no HX.out (by unfold stepOk; rw [HPH.out]; simp)).symm
           go_wp2
           go_ret
           exact ⟨rfl, HB3.out⟩
         | false =>
           have hso : stepAt l j = true := by rw [stepAt_eq HX.out]; unfold stepOk numOk; rw [HNI.out, HPH.out, g1, g2, g3, HPV.out, g4]; simp
           have hall2 : ∀ i, i < j + 1 → stepAt l i = true := fun i hi => by
            rcases Nat.lt_or_ge i j with h | h
            ·exact hall.out i h
            ·obtain rfl : i = j := by omega
             exact hso
           have HA2 := Lib.hid hall2
           have hin := inbox_step HX.out
           rw [← hcc.out] at hin
           have HIN := Lib.hid hin
           have hII : isInbox x = (x.2.toList == [73, 78, 66, 79, 88]) := rfl
           obtain ⟨ii, hii⟩ : ∃ ii, (x.2.toList == [73, 78, 66, 79, 88]) = ii := ⟨_, rfl⟩
           rw [hii] at hII
           have HII := Lib.hid hII
           clear hso hall2 hin hII
           cases ii with
           | true =>
             go_wp2
             go_roundw
             case rel => exact ⟨j + 1, cc + 1, by go_num, by omega, by omega, by go_num, by rw [HIN.out, HII.out]; exact rfl, HA2, HB3⟩
             case measure => simp [intOf]; omega
           | false =>
             go_wp2
             go_roundw
             case rel => exact ⟨j + 1, cc, by go_num, by omega, by omega, rfl, by rw [HIN.out, HII.out]; exact rfl, HA2, HB3⟩
             case measure => simp [intOf]; omega
  ·obtain rfl : j = n := by omega
   have hv := tree_yes (l := l) (fun i hi => hall.out i (by have := HL.out; omega))
   have hcc2 := hcc.out
   rw [List.take_of_length_le (by have := HL.out; omega)] at hcc2
   rw [← hcc2, HRV.out] at hv
   have HV := Lib.hid hv
   clear hv hcc2
   go_wp2
   go_ret
   refine ⟨?_, hb.out⟩
   rw [HV.out]
   exact ret_bool (by rw [Bool.eq_iff_iff]; simp; omega)
end Go.Proofs.YtkljkbeahdipfaaGreatDoor
/-
  Walks of a page: the program's Put and Get.
-/
namespace Go.Proofs.YtkljkbeahdipfaaGreatDoor
open Go.RowKit
theorem lit8 {w : World} {g : Nat} {p : Nat × Nat} {l : List UInt8} (h : w.heap[g]? = some (.cells (u8s l).toArray 5 p)) : Reads w w.heap.size 1 (some ⟨g, 0, none⟩) l.length (u8s l) := by
 refine ⟨by rw [u8s_length, Nat.mul_one], fun _ => ⟨_, rfl, lt_of_get h, fun j u hu => ?_⟩⟩
 have ha : (⟨g, 0, none⟩ : Addr).add j = ⟨g, j, none⟩ := by unfold Addr.add; split <;> simp_all
 rw [ha, cell_of_row w g j _ _ p h]
 simpa using hu
set_option maxRecDepth 100000 in
theorem page_long (k : Nat) (hk : 1 ≤ k ∧ k ≤ 3) (A : Option Addr) (n c : Nat) (hn : 60000 < n) (w : World) :
 Calls Tryz.prog 186 #[.int .i64 (k : Nat), .slice A n c] w fun e w' => e = .returned (.tuple #[.slice none 0 0, .int .i64 3]) ∧ w' = w := by
 have k1 : decide ((k : Int) < 1) = false := by simp; omega
 have k2 : decide (3 < (k : Int)) = false := by simp; omega
 have k3 : decide (60000 < (n : Int)) = true := by simp; omega
 go_enter Tryz.func186, Tryz.ntmps186
 go_wp2
 go_ret2
 exact ⟨rfl, rfl⟩
set_option maxRecDepth 100000 in
theorem page_Put (k : Nat) (hk : 1 ≤ k ∧ k ≤ 3) (A : Option Addr) (n c : Nat) (l : List UInt8) (hl : l.length = n) (hn : n ≤ 60000) (w : World) (hr : Reads w w.heap.size 1 A n (u8s l)) :
 Calls Tryz.prog 186 #[.int .i64 (k : Nat), .slice A n c] w fun e w' => ∃ v, e = .returned (.tuple #[v, .int .i64 0]) ∧ w'.ownsRow w.heap.size 5 1 v (pageB k l).length (u8s (pageB k l)) ∧ Below w.heap.size w w' := by
 have k1 : decide ((k : Int) < 1) = false := by simp; omega
 have k2 : decide (3 < (k : Int)) = false := by simp; omega
 have k3 : decide (60000 < (n : Int)) = false := by simp; omega
 have hb0 := (Below.refl w.heap.size w).alloc (Nat.le_refl _) (.cells #[.slice none 0 0, .bool false] 206)
 have ho0 := out_new (w := w) (Nat.le_refl w.heap.size)
 have hr0 := hr.below hb0
 obtain ⟨w0, hw0⟩ : ∃ w0, w.alloc (.cells #[.slice none 0 0, .bool false] 206) = w0 := ⟨_, rfl⟩
 rw [hw0] at hb0 ho0 hr0
 obtain ⟨o, ho⟩ : ∃ o, w.heap.size = o := ⟨_, rfl⟩
 have hob : Hid (w.heap.size ≤ o) := by show _ ≤ _; omega
 have hbl : Below w0.heap.size w0 (w0.alloc (.cells #[.int .u8 112, .int .u8 97, .int .u8 103] 5 (3, 4))) := (Below.refl _ _).alloc (Nat.le_refl _) _
 have hlit : Reads (w0.alloc (.cells #[.int .u8 112, .int .u8 97, .int .u8 103] 5 (3, 4))) (w0.alloc (.cells #[.int .u8 112, .int .u8 97, .int .u8 103] 5 (3, 4))).heap.size 1 (some ⟨w0.heap.size, 0, none⟩) 3 (u8s [112, 97, 103]) := lit8 (l := [112, 97, 103]) (p := (3, 4)) (heap_alloc_new w0 _)
 rw [show OutAt w0 w.heap.size w.heap.size [] false (.slice none 0 0) = OutAt w0 w.heap.size o [] false (.slice none 0 0) by rw [ho]] at ho0
 have R1 := Lib.hid (out_Raw (ho0.below hbl) (Nat.le_trans hb0.size hbl.size) (by simp) (some ⟨w0.heap.size, 0, none⟩) 3 3 [112, 97, 103] rfl (by omega) hlit)
 have HB0 := Lib.hid (((OBut.of_below (B := w.heap.size) (o := o) (hb0.mono (Nat.le_refl _)))).below hbl)
 have HR := Lib.hid hr
 have HC0 : Hid (w.heap.size ≤ w.heap.size) := Nat.le_refl _
 have HBW : Hid (∀ w', OBut w.heap.size o w w' → Below w.heap.size w w') := fun w' h => h.toBelow (Nat.le_refl _) (Nat.le_refl _) hob.out
 have hcv := Lib.run_convert_bytes_const (P := Tryz.prog) w0 22 5 #[.int .u8 112, .int .u8 97, .int .u8 103] 3 3 Tryz.underlying22 Tryz.underlying5
 clear hb0 ho0 hr0 hbl hlit hr
 go_enter Tryz.func186, Tryz.ntmps186
 go_wp2_with fail
 refine R1.out.mono ?_
 rintro e w1 ⟨rfl, ⟨v1, h1⟩, hb1⟩
 have hB1 := HB0.out.trans hb1
 have R2 := Lib.hid (out_N h1 hB1.size (by simp) k 1 (by omega) (by omega))
 have HB1 := Lib.hid hB1
 clear h1 hb1 hB1 R1 HB0 hcv
 go_wp2_with fail
 refine R2.out.mono ?_
 rintro e w2 ⟨rfl, ⟨v2, h2⟩, hb2⟩
 have hB2 := HB1.out.trans hb2
 have R3 := Lib.hid (out_N h2 hB2.size (by simp [be_length]) n 4 (by omega) (by omega))
 have HB2 := Lib.hid hB2
 clear h2 hb2 hB2 R2 HB1
 go_wp2_with fail
 refine R3.out.mono ?_
 rintro e w3 ⟨rfl, ⟨v3, h3⟩, hb3⟩
 have hB3 := HB2.out.trans hb3
 have R4 := Lib.hid (out_Raw h3 hB3.size (by simp [be_length]) A n c l hl (by omega) ((HR.out.below (HBW.out _ hB3)).more hB3.size))
 have HB3 := Lib.hid hB3
 clear h3 hb3 hB3 R3 HB2
 go_wp2_with fail
 refine R4.out.mono ?_
 rintro e w4 ⟨rfl, ⟨v4, h4⟩, hb4⟩
 have hh : ((([] ++ [112, 97, 103]) ++ be 1 k) ++ be 4 n) ++ l = pageHead k l := by
  unfold pageHead
  rw [hl]
  simp [be]
 rw [hh] at h4
 have hB4 := HB3.out.trans hb4
 have hpl : (pageHead k l).length ≤ 60008 := by rw [pageHead_length]; omega
 have R5 := Lib.hid (out_End h4 (by omega))
 have H4 := Lib.hid h4
 have HB4 := Lib.hid hB4
 clear h4 hb4 hB4 R4 HB3 hh
 go_wp2_with fail
 refine R5.out.mono ?_
 rintro e w5 ⟨r5, rfl, ho5, hb5⟩
 obtain ⟨A5, c5, rfl, hr5⟩ := own8_reads ho5
 have R6 := Lib.hid (crc_any A5 _ c5 _ w5 rfl (by omega) hr5)
 have hB5 := HB4.out.below hb5
 have hcl := crc_lt (pageHead k l)
 have R7 := Lib.hid (out_N (H4.out.below hb5) hB5.size (by omega) (crc (pageHead k l)) 4 (by omega) (by omega))
 have HB5 := Lib.hid hB5
 clear ho5 hb5 hr5 hB5 H4 HB4 R5
 obtain ⟨cr, hcr⟩ : ∃ cr, crc (pageHead k l) = cr := ⟨_, rfl⟩
 rw [hcr] at R6 R7 hcl
 have HCR := Lib.hid hcr
 clear hcr
 go_wp2_with fail
 refine R6.out.mono ?_
 rintro e w6 ⟨rfl, rfl⟩
 go_wp2_with fail
 refine R7.out.mono ?_
 rintro e w7 ⟨rfl, ⟨v7, h7⟩, hb7⟩
 have hh : pageHead k l ++ be 4 cr = pageB k l := by unfold pageB; rw [HCR.out]
 rw [hh] at h7
 have R8 := Lib.hid (out_End h7 (by rw [pageB_length]; omega))
 have HB7 := Lib.hid (HB5.out.trans hb7)
 clear h7 hb7 R7 HB5 hh
 go_wp2_with fail
 refine R8.out.mono ?_
 rintro e w8 ⟨r8, rfl, ho8, hb8⟩
 have HO8 := Lib.hid (own_mono ho8 HB7.out.size)
 have HB8 := Lib.hid (HBW.out _ (HB7.out.below hb8))
 clear ho8 hb8
 go_wp2
 go_ret2
 exact ⟨r8, rfl, HO8.out, HB8.out⟩
/-- whatever is put: some bytes, or an error -/
theorem page_any (k : Nat) (hk : 1 ≤ k ∧ k ≤ 3) (A : Option Addr) (n c : Nat) (l : List UInt8) (hl : l.length = n) (w : World) (hr : Reads w w.heap.size 1 A n (u8s l)) :
 Calls Tryz.prog 186 #[.int .i64 (k : Nat), .slice A n c] w fun e w' => ∃ v, e = .returned (.tuple #[v, .int .i64 (if n ≤ 60000 then 0 else 3)]) ∧ w'.ownsRow w.heap.size 5 1 v (if n ≤ 60000 then pageB k l else []).length (u8s (if n ≤ 60000 then pageB k l else [])) ∧ Below w.heap.size w w' := by
 by_cases hn : n ≤ 60000
 ·rw [if_pos hn, if_pos hn]
  exact page_Put k hk A n c l hl hn w hr
 ·rw [if_neg hn, if_neg hn]
  refine (page_long k hk A n c (by omega) w).mono ?_
  rintro e w' ⟨rfl, rfl⟩
  exact ⟨_, rfl, World.ownsRow_nil _ _ _ _, Below.refl _ _⟩
theorem midOf_reads {w : World} {B n c : Nat} {A : Option Addr} {l : List UInt8} (hl : l.length = n) (hc : n ≤ c) (h12 : 12 ≤ n) (hr : Reads w B 1 A n (u8s l)) : ∃ ad, A = some ad ∧ Reads w B 1 (some (ad.add 8)) (n - 12) (u8s (midOf l)) := by
 obtain ⟨ad, rfl, _, _⟩ := hr.2 (by omega)
 refine ⟨ad, rfl, ?_⟩
 have h1 := hr.drop8 (k := 8) (c := c) (by omega) hc
 rw [if_neg (by omega)] at h1
 have h2 := h1.take8 (k := n - 12) (by omega)
 unfold midOf
 rw [hl]
 exact h2
set_option maxRecDepth 100000 in
theorem page_short (k : Nat) (A : Option Addr) (n c : Nat) (hn : n < 12) (w : World) :
 Calls Tryz.prog 131 #[.int .i64 (k : Nat), .slice A n c] w fun e w' => e = .returned (.tuple #[.slice none 0 0, .int .i64 9]) ∧ w' = w := by
 have k3 : decide ((n : Int) < 12) = true := by simp; omega
 go_enter Tryz.func131, Tryz.ntmps131
 go_wp2
 go_ret2
 exact ⟨rfl, rfl⟩
set_option maxRecDepth 100000 in
theorem page_mid (k : Nat) (hk : 1 ≤ k ∧ k ≤ 3) (ad : Addr) (n c : Nat) (hc : n ≤ c) (h12 : 12 ≤ n) (hn : n ≤ 5000000) (l : List UInt8) (hl : l.length = n) (w : World) (hr : Reads w w.heap.size 1 (some ad) n (u8s l)) :
 Calls Tryz.prog 131 #[.int .i64 (k : Nat), .slice (some ad) n c] w fun e w' => ∃ v, e = .returned (.tuple #[v, .int .i64 (if (pageGet k l).isSome = true then 0 else 9)]) ∧ w'.ownsRow w.heap.size 5 1 v ((pageGet k l).getD []).length (u8s ((pageGet k l).getD [])) ∧ Below w.heap.size w w' := by
 have k3 : decide ((n : Int) < 12) = false := by simp; omega
 obtain ⟨_, e, hm⟩ := midOf_reads hl hc h12 hr
 injection e with e
 subst e
 have hml : (midOf l).length = n - 12 := by have := hm.1; rw [u8s_length] at this; omega
 obtain ⟨m, hmn⟩ : ∃ m, n - 12 = m := ⟨_, rfl⟩
 rw [hmn] at hm hml
 have e4 : (n : Int) - 4 = ((m + 8 : Nat) : Int) := by omega
 have R1 := Lib.hid (page_any k hk (some (ad.add 8)) m (c - 8) (midOf l) hml w hm)
 have HR := Lib.hid hr
 have HM := Lib.hid hm
 have h88 : m + 8 - 8 = m := by omega
 have ea : ad.add 8 = ⟨ad.block, ad.off + 8, none⟩ := by unfold Addr.add; simp
 rw [ea] at R1 HM
 have i1 : (8 : Int) ≤ (n : Int) - 4 := by omega
 have i2 : (n : Int) - 4 ≤ (c : Int) := by omega
 clear hr hm ea
 have hpg : pageGet k l = if m ≤ 60000 ∧ pageB k (midOf l) = l then some (midOf l) else none := by
  unfold pageGet
  rw [hml]
  by_cases h : m ≤ 60000 ∧ pageB k (midOf l) = l
  ·rw [if_pos ⟨by omega, h.1, h.2⟩, if_pos h]
  ·rw [if_neg (fun h' => h h'.2), if_neg h]
 by_cases hm6 : m ≤ 60000
 ·rw [if_pos hm6, if_pos hm6] at R1
  by_cases heq : pageB k (midOf l) = l
  ·have hv : pageGet k l = some (midOf l) := by rw [hpg, if_pos ⟨hm6, heq⟩]
   rw [hv]
   rw [heq] at R1
   dsimp only [Option.isSome_some, Option.getD_some]
   rw [if_pos rfl, hml]
   have hll : (l == l) = true := by simp
   have HML := Lib.hid hml
   clear hpg hv heq hml
   go_enter Tryz.func131, Tryz.ntmps131
   go_wp2_with fail
   refine R1.out.mono ?_
   rintro e w1 ⟨v1, rfl, ho1, hb1⟩
   obtain ⟨A1, c1, rfl, hr1⟩ := own8_reads ho1
   have hr' := (HR.out.below hb1).more hb1.size
   have hm' := (HM.out.below hb1).more hb1.size
   rw [hl] at hr1 ⊢
   have R2 := Lib.hid (equal_any A1 (some ad) n c1 n c l l w1 hl hl hr1 hr')
   rw [hll] at R2
   have R3 := Lib.hid (clone_any (some ⟨ad.block, ad.off + 8, none⟩) m (c - 8) (midOf l) w1 HML.out (by omega) hm')
   have HB1 := Lib.hid hb1
   clear ho1 hb1 hr1 hr' hm' R1
   go_wp2_with fail
   refine R2.out.mono ?_
   rintro e w2 ⟨rfl, rfl⟩
   go_wp2_with fail
   refine R3.out.mono ?_
   rintro e w3 ⟨v3, rfl, ho3, hb3⟩
   have HO3 := Lib.hid (own_mono ho3 HB1.out.size)
   have HB3 := Lib.hid (HB1.out.trans (hb3.mono HB1.out.size))
   clear ho3 hb3
   go_wp2
   go_ret2
   exact ⟨v3, rfl, HO3.out, HB3.out⟩
  ·have hv : pageGet k l = none := by rw [hpg, if_neg (fun h => heq h.2)]
   rw [hv]
   dsimp only [Option.isSome_none, Option.getD_none]
   rw [if_neg (by decide)]
   have hll : (pageB k (midOf l) == l) = false := by simpa using heq
   obtain ⟨pb, hpb⟩ : ∃ pb, pageB k (midOf l) = pb := ⟨_, rfl⟩
   rw [hpb] at R1 hll
   clear hpg hv heq hml hpb
   go_enter Tryz.func131, Tryz.ntmps131
   go_wp2_with fail
   refine R1.out.mono ?_
   rintro e w1 ⟨v1, rfl, ho1, hb1⟩
   obtain ⟨A1, c1, rfl, hr1⟩ := own8_reads ho1
   have hr' := (HR.out.below hb1).more hb1.size
   have R2 := Lib.hid (equal_any A1 (some ad) pb.length c1 n c pb l w1 rfl hl hr1 hr')
   rw [hll] at R2
   have HB1 := Lib.hid hb1
   clear ho1 hb1 hr1 hr' R1
   go_wp2_with fail
   refine R2.out.mono ?_
   rintro e w2 ⟨rfl, rfl⟩
   go_wp2
   go_ret2
   exact ⟨_, rfl, World.ownsRow_nil _ _ _ _, HB1.out⟩
 ·rw [if_neg hm6, if_neg hm6] at R1
  have hv : pageGet k l = none := by rw [hpg, if_neg (fun h => hm6 h.1)]
  rw [hv]
  dsimp only [Option.isSome_none, Option.getD_none]
  rw [if_neg (by decide)]
  clear hpg hv hml
  go_enter Tryz.func131, Tryz.ntmps131
  go_wp2_with fail
  refine R1.out.mono ?_
  rintro e w1 ⟨v1, rfl, ho1, hb1⟩
  have HB1 := Lib.hid hb1
  clear ho1 hb1 R1
  go_wp2
  go_ret2
  exact ⟨_, rfl, World.ownsRow_nil _ _ _ _, HB1.out⟩
/-- a page's payload, or an error -/
theorem page_Get (k : Nat) (hk : 1 ≤ k ∧ k ≤ 3) (A : Option Addr) (n c : Nat) (hc : n ≤ c) (hn : n ≤ 5000000) (l : List UInt8) (hl : l.length = n) (w : World) (hr : Reads w w.heap.size 1 A n (u8s l)) :
 Calls Tryz.prog 131 #[.int .i64 (k : Nat), .slice A n c] w fun e w' => ∃ v, e = .returned (.tuple #[v, .int .i64 (if (pageGet k l).isSome = true then 0 else 9)]) ∧ w'.ownsRow w.heap.size 5 1 v ((pageGet k l).getD []).length (u8s ((pageGet k l).getD [])) ∧ Below w.heap.size w w' := by
 by_cases h12 : 12 ≤ n
 ·obtain ⟨ad, rfl, _⟩ := hr.2 (by omega)
  exact page_mid k hk ad n c hc h12 hn l hl w hr
 ·have e : pageGet k l = none := by unfold pageGet; rw [if_neg (fun h => by omega)]
  rw [e]
  refine (page_short k A n c (by omega) w).mono ?_
  rintro e w' ⟨rfl, rfl⟩
  exact ⟨_, rfl, World.ownsRow_nil _ _ _ _, Below.refl _ _⟩
end Go.Proofs.YtkljkbeahdipfaaGreatDoor
/-
  Walks: what is put, and whether it is the same; a tree's page.
-/
namespace Go.Proofs.YtkljkbeahdipfaaGreatDoor
open Go.RowKit
def errLong (n : Nat) : Int := if n ≤ 60000 then 0 else 3
def pageOr (k : Nat) (l : List UInt8) : List UInt8 := if l.length ≤ 60000 then pageB k l else []
theorem page_or (k : Nat) (hk : 1 ≤ k ∧ k ≤ 3) (A : Option Addr) (c : Nat) (l : List UInt8) (w : World) (hr : Reads w w.heap.size 1 A l.length (u8s l)) :
 Calls Tryz.prog 186 #[.int .i64 (k : Nat), .slice A l.length c] w fun e w' => ∃ v, e = .returned (.tuple #[v, .int .i64 (errLong l.length)]) ∧ w'.ownsRow w.heap.size 5 1 v (pageOr k l).length (u8s (pageOr k l)) ∧ Below w.heap.size w w' := page_any k hk A l.length c l rfl w hr
set_option maxRecDepth 100000 in
theorem put_any {w : World} {B o : Nat} {l : List UInt8} {v0 : Value} (h : OutAt w B o l false v0) (hl : l.length ≤ 800000000) (k : Nat) (hk : 1 ≤ k ∧ k ≤ 3) :
 Calls Tryz.prog 130 #[.int .i64 (k : Nat), .pointer (some ⟨o, 0, none⟩)] w fun e w' => ∃ r, e = .returned (.tuple #[r, .int .i64 (errLong l.length)]) ∧ w'.ownsRow w.heap.size 5 1 r (pageOr k l).length (u8s (pageOr k l)) ∧ Below w.heap.size w w' := by
 have R1 := Lib.hid (out_End h hl)
 clear h
 go_enter Tryz.func130, Tryz.ntmps130
 go_wp2_with fail
 refine R1.out.mono ?_
 rintro e w1 ⟨v1, rfl, ho1, hb1⟩
 obtain ⟨A1, c1, rfl, hr1⟩ := own8_reads ho1
 have R2 := Lib.hid (page_or k hk A1 c1 l w1 hr1)
 have HB1 := Lib.hid hb1
 clear ho1 hr1 hb1 R1
 go_wp2_with fail
 refine R2.out.mono ?_
 rintro e w2 ⟨v2, rfl, ho2, hb2⟩
 have HO2 := Lib.hid (own_mono ho2 HB1.out.size)
 have HB2 := Lib.hid (HB1.out.trans (hb2.mono HB1.out.size))
 clear ho2 hb2 R2
 go_wp2
 go_ret2
 exact ⟨v2, rfl, HO2.out, HB2.out⟩
set_option maxRecDepth 100000 in
theorem same_any (A1 A2 : Option Addr) (n c m d : Nat) (l1 l2 : List UInt8) (e : Int) (w : World) (h1 : l1.length = n) (h2 : l2.length = m) (r1 : Reads w w.heap.size 1 A1 n (u8s l1)) (r2 : Reads w w.heap.size 1 A2 m (u8s l2)) :
 Calls Tryz.prog 133 #[.slice A1 n c, .int .i64 e, .slice A2 m d] w fun e' w' => e' = .returned (.bool (decide (e = 0) && (l1 == l2))) ∧ w' = w := by
 have R := Lib.hid (equal_any A1 A2 n c m d l1 l2 w h1 h2 r1 r2)
 generalize (l1 == l2) = q at *
 clear r1 r2
 by_cases he : e = 0
 ·subst he
  go_enter Tryz.func133, Tryz.ntmps133
  go_wp2_with fail
  refine R.out.mono ?_
  rintro e w1 ⟨rfl, rfl⟩
  go_wp2
  go_ret
  exact ⟨by simp, rfl⟩
 ·have g1 : (e == 0) = false := by simpa using he
  have g2 : decide (e = 0) = false := by simpa using he
  rw [g2, Bool.false_and]
  clear he g2
  go_enter Tryz.func133, Tryz.ntmps133
  go_wp2
  go_ret
  exact ⟨rfl, rfl⟩
def placeB (q : PlaceM) : List UInt8 := be 1 q.1.toNat ++ textB q.2
def treeB (l : List PlaceM) : List UInt8 := be 1 l.length ++ l.flatMap placeB
theorem tree_step {l : List PlaceM} {j : Nat} {x : PlaceM} (hx : l[j]? = some x) (h : rightTreeV l = true) : stepOk l j x = true := by
 cases hs : stepOk l j x with
 | true => rfl
 | false => rw [tree_no hx hs] at h; cases h
theorem stepOk_parts {l : List PlaceM} {j : Nat} {x : PlaceM} (h : stepOk l j x = true) : 0 ≤ x.1 ∧ x.1 < 16 ∧ (0 < j → prevN l j < x.1) ∧ nameIs x.2 = true ∧ placeHas (l.take j) x.2 = false := by
 unfold stepOk numOk at h
 simp only [Bool.and_eq_true, Bool.not_eq_true', decide_eq_false_iff_not, Bool.and_eq_false_imp, decide_eq_true_eq] at h
 exact ⟨by omega, by omega, fun hj => by have := h.1.1.2 hj; omega, h.1.2, h.2⟩
theorem tree_rise {l : List PlaceM} (h : rightTreeV l = true) : ∀ (j : Nat) (x : PlaceM), l[j]? = some x → (j : Int) ≤ x.1
 | 0, x, hx => (stepOk_parts (tree_step hx h)).1
 | j + 1, x, hx => by
   obtain ⟨y, hy⟩ : ∃ y, l[j]? = some y := ⟨_, List.getElem?_eq_getElem (by have := (List.getElem?_eq_some_iff.1 hx).1; omega)⟩
   have h1 := tree_rise h j y hy
   have h2 := (stepOk_parts (tree_step hx h)).2.2.1 (by omega)
   unfold prevN at h2
   rw [show j + 1 - 1 = j by omega, hy] at h2
   simp only at h2
   omega
theorem tree_len {l : List PlaceM} (h : rightTreeV l = true) : l.length ≤ 16 := by
 rcases Nat.lt_or_ge 16 l.length with hl | hl
 ·exfalso
  have hx : l[16]? = some l[16] := List.getElem?_eq_getElem hl
  have h1 := tree_rise h 16 _ hx
  have h2 := (stepOk_parts (tree_step hx h)).2.1
  omega
 ·exact hl
theorem flat_len (l : List PlaceM) (h : ∀ x ∈ l, x.2.size ≤ 60) : (l.flatMap placeB).length ≤ l.length * 63 := by
 induction l with
 | nil => simp
 | cons x r ih =>
   have h1 := h x (by simp)
   have h2 := ih (fun y hy => h y (by simp [hy]))
   rw [List.flatMap_cons, List.length_append, List.length_cons]
   have h3 : (placeB x).length = 3 + x.2.size := by unfold placeB textB; simp [be_length]; omega
   omega
theorem tree_names {l : List PlaceM} (h : rightTreeV l = true) : ∀ x ∈ l, x.2.size ≤ 60 := fun x hx => by
 obtain ⟨j, hj, e⟩ := List.getElem_of_mem hx
 have hxj : l[j]? = some x := by rw [List.getElem?_eq_getElem hj, e]
 exact nameIs_size (stepOk_parts (tree_step hxj h)).2.2.2.1
theorem treeB_len {l : List PlaceM} (h : rightTreeV l = true) : (treeB l).length ≤ 2000 := by
 have h1 := tree_len h
 have h2 := flat_len l (tree_names h)
 unfold treeB
 rw [List.length_append, be_length]
 omega
def treeErr (l : List PlaceM) : Int := if rightTreeV l = true then 0 else 1
def treePage (l : List PlaceM) : List UInt8 := if rightTreeV l = true then pageB 3 (treeB l) else []
set_option maxHeartbeats 800000 in
set_option maxRecDepth 100000 in
theorem putTree_any (A : Option Addr) (c n : Nat) (l : List PlaceM) (w : World) (hm : MaxCell w) (hg : 0 < w.heap.size) (hsz : ∀ q ∈ l, q.2.size ≤ 9223372036854775807) (hn2 : l.length = n) (hn : n ≤ 100000) (hcn : n ≤ c) (hr : Reads w w.heap.size 2 A n (pcells l)) :
 Calls Tryz.prog 152 #[.slice A n c] w fun e w' => ∃ r, e = .returned (.tuple #[r, .int .i64 (treeErr l)]) ∧ w'.ownsRow w.heap.size 5 1 r (treePage l).length (u8s (treePage l)) ∧ Below w.heap.size w w' := by
 have R1 := Lib.hid (rightTree_any A c n l w hm hg hsz hn2 hn hcn hr)
 have HR := Lib.hid hr
 have HL := Lib.hid hn2
 unfold treeErr treePage
 cases hv : rightTreeV l with
 | false =>
   rw [hv] at R1
   rw [if_neg (by simp), if_neg (by simp)]
   clear hr hn2 hv hsz hm
   go_enter Tryz.func152, Tryz.ntmps152
   go_wp2_with fail
   refine R1.out.mono ?_
   rintro e w1 ⟨rfl, hb1⟩
   go_wp2
   go_ret2
   exact ⟨_, rfl, World.ownsRow_nil _ _ _ _, hb1⟩
 | true =>
   rw [hv] at R1
   rw [if_pos rfl, if_pos rfl]
   have hl16 := tree_len hv
   have HP : Hid (∀ (j : Nat) (x : PlaceM), l[j]? = some x → 0 ≤ x.1 ∧ x.1 < 16 ∧ x.2.size ≤ 60) := fun j x hx => by
    have h := stepOk_parts (tree_step hx hv)
    exact ⟨h.1, h.2.1, nameIs_size h.2.2.2.1⟩
   have HTL := Lib.hid (treeB_len hv)
   have HFL : Hid (∀ j, j ≤ n → ((l.take j).flatMap placeB).length ≤ 2000) := fun j hj => by
    have h1 := flat_len (l.take j) (fun x hx => tree_names hv x (List.mem_of_mem_take hx))
    rw [List.length_take] at h1
    omega
   have hn16 : n ≤ 16 := by omega
   clear hr hn2 hv hsz hm hl16
   go_enter Tryz.func152, Tryz.ntmps152
   go_wp2_with fail
   refine R1.out.mono ?_
   rintro e w1 ⟨rfl, hb1⟩
   have hb0 := (Below.refl w1.heap.size w1).alloc (Nat.le_refl _) (.cells #[.slice none 0 0, .bool false] 206)
   have ho0 := out_new (w := w1) (B := w.heap.size) hb1.size
   obtain ⟨w0, hw0⟩ : ∃ w0, w1.alloc (.cells #[.slice none 0 0, .bool false] 206) = w0 := ⟨_, rfl⟩
   obtain ⟨o, ho⟩ : ∃ o, w1.heap.size = o := ⟨_, rfl⟩
   have hob : Hid (w.heap.size ≤ o) := by show _ ≤ _; have := hb1.size; omega
   rw [hw0, ho] at ho0
   rw [hw0] at hb0
   have hbw := hb1.trans (hb0.mono hb1.size)
   have R2 := Lib.hid (out_N ho0 hbw.size (by simp) n 1 (by omega) (by omega))
   have HBW := Lib.hid hbw
   clear hb1 hb0 ho0 R1 hbw
   go_wp2_with fail
   clear hw0 ho
   refine R2.out.mono ?_
   rintro e w2 ⟨rfl, ⟨v2, h2⟩, hb2⟩
   have HB2 := Lib.hid (HBW.out.trans (hb2.toBelow HBW.out.size (Nat.le_refl _) hob.out))
   have HO2 := Lib.hid h2
   clear h2 hb2 R2
   go_wp2
   go_loopw [15] (fun k wr => ∃ (j : Nat) (v : Value), k = .int .i64 j ∧ j ≤ n ∧ Hid (OutAt wr w.heap.size o (be 1 n ++ (l.take j).flatMap placeB) false v) ∧ Hid (Below w.heap.size w wr)) (fun k _ => n - (intOf k).toNat)
   case atStart => exact ⟨0, v2, rfl, by omega, by simpa using HO2, HB2⟩
   case round =>
    obtain ⟨j, v, rfl, hj, ho, hb⟩ := hrel
    by_cases hlt : j < n
    ·obtain ⟨x, hx⟩ : ∃ x, l[j]? = some x := ⟨_, List.getElem?_eq_getElem (by have := HL.out; omega)⟩
     obtain ⟨p0, p1, p2⟩ := HP.out j x hx
     obtain ⟨xi, xs⟩ := x
     obtain ⟨xn, rfl⟩ : ∃ xn : Nat, xi = xn := ⟨xi.toNat, by simp only at p0; omega⟩
     obtain ⟨ad, rfl, hadl, hc⟩ := (HR.out.below hb.out).2 (by omega)
     obtain ⟨k0, k1⟩ := place_at hc hx
     simp only at k0 k1 p0 p1 p2
     have hadl' : (ad.add (j * 2)).block < wr.heap.size := by rw [block_of_add]; exact Nat.lt_of_lt_of_le hadl hb.out.size
     have hbx := (Below.refl wr.heap.size wr).alloc (Nat.le_refl _) (.cells #[.int .i64 (xn : Int), .string xs] 152)
     have hxb : Blk (wr.alloc (.cells #[.int .i64 (xn : Int), .string xs] 152)) wr.heap.size 152 #[.int .i64 (xn : Int), .string xs] := Blk.new wr _ _
     have ho1 := ho.out.below hbx
     have hb1 := hb.out.trans (hbx.mono hb.out.size)
     have hfl := HFL.out j hj
     have hlen : (be 1 n ++ (l.take j).flatMap placeB).length ≤ 2001 := by rw [List.length_append, be_length]; omega
     have hst : be 1 n ++ (l.take (j + 1)).flatMap placeB = ((be 1 n ++ (l.take j).flatMap placeB) ++ be 1 xn) ++ textB xs := by
      rw [List.take_add_one, hx]
      simp [placeB, List.flatMap_append, List.append_assoc]
     have HST := Lib.hid hst
     obtain ⟨gp, hgp⟩ : ∃ gp, wr.heap.size = gp := ⟨_, rfl⟩
     have hgo : gp ≠ o := by have := ho.out.cells.lt; omega
     obtain ⟨w3, hw3⟩ : ∃ w3, wr.alloc (.cells #[.int .i64 (xn : Int), .string xs] 152) = w3 := ⟨_, rfl⟩
     rw [hw3] at hxb ho1 hb1
     rw [hgp] at hxb
     have R3 := Lib.hid (out_N ho1 hb1.size (by omega) xn 1 (by omega) (by omega))
     have z0 : w3.cell? ⟨gp, 0, none⟩ = some (.int .i64 (xn : Int)) := by rw [hxb.cell]; rfl
     have HB1 := Lib.hid hb1
     have HXB := Lib.hid hxb
     clear hx hc hst hadl hbx hxb ho1 hb1 hfl
     go_wp2_with fail
     clear hw3 hgp k0 k1 hadl'
     refine R3.out.mono ?_
     rintro e w4 ⟨rfl, ⟨v4, h4⟩, hb4⟩
     have hx4 := HXB.out.obut hb4 hgo (by decide)
     have hb14 := HB1.out.trans (hb4.toBelow HB1.out.size (Nat.le_refl _) hob.out)
     have z1 : w4.cell? ⟨gp, 1, none⟩ = some (.string xs) := by rw [hx4.cell]; rfl
     have R4 := Lib.hid (out_Text h4 hb14.size (by rw [List.length_append, be_length]; omega) xs (by omega))
     have HB14 := Lib.hid hb14
     clear h4 hb4 hb14 hx4 R3 z0
     go_wp2_with fail
     refine R4.out.mono ?_
     rintro e w5 ⟨rfl, ⟨v5, h5⟩, hb5⟩
     rw [← HST.out] at h5
     have H5 := Lib.hid h5
     have HB5 := Lib.hid (HB14.out.trans (hb5.toBelow HB14.out.size (Nat.le_refl _) hob.out))
     clear h5 hb5 R4 z1
     go_wp2
     go_roundw
     case rel => exact ⟨j + 1, v5, by go_num, by omega, H5, HB5⟩
     case measure => simp [intOf]; omega
    ·obtain rfl : j = n := by omega
     have hfin : be 1 j ++ (l.take j).flatMap placeB = treeB l := by
      unfold treeB
      rw [List.take_of_length_le (by have := HL.out; omega), HL.out]
     have ho1 := ho.out
     rw [hfin] at ho1
     have R9 := Lib.hid (put_any ho1 (by have := HTL.out; omega) 3 (by omega))
     have he : errLong (treeB l).length = 0 := by unfold errLong; rw [if_pos (by have := HTL.out; omega)]
     have hp : pageOr 3 (treeB l) = pageB 3 (treeB l) := by unfold pageOr; rw [if_pos (by have := HTL.out; omega)]
     rw [he, hp] at R9
     clear ho1 hfin he hp
     go_wp2_with fail
     refine R9.out.mono ?_
     rintro e w9 ⟨r9, rfl, ho9, hb9⟩
     have HO9 := Lib.hid (own_mono ho9 hb.out.size)
     have HB9 := Lib.hid (hb.out.trans (hb9.mono hb.out.size))
     clear ho9 hb9
     go_wp2
     go_ret2
     exact ⟨r9, rfl, HO9.out, HB9.out⟩
end Go.Proofs.YtkljkbeahdipfaaGreatDoor
/-
  Rows of a UID and a number; whether they are right: plain words, and the walk of rightFlags.
-/
namespace Go.Proofs.YtkljkbeahdipfaaGreatDoor
open Go.RowKit
abbrev MarkM := Nat × Int
def mcell (q : MarkM) : List Value := [.int .u32 (q.1 : Nat), .int .i64 q.2]
def mcells (l : List MarkM) : List Value := l.flatMap mcell
theorem mcells_at : ∀ (l : List MarkM) (i : Nat) (x : MarkM), l[i]? = some x → ∀ j, j < 2 → (mcells l)[i * 2 + j]? = (mcell x)[j]?
 | y :: r, 0, x, h, j, hj => by
   injection h with h
   subst h
   unfold mcells
   rw [List.flatMap_cons, List.getElem?_append_left (by show 0 * 2 + j < 2; omega), Nat.zero_mul, Nat.zero_add]
 | y :: r, i + 1, x, h, j, hj => by
   have ih := mcells_at r i x h j hj
   unfold mcells at ih ⊢
   rw [List.flatMap_cons, List.getElem?_append_right (by show 2 ≤ _; omega)]
   have e : (i + 1) * 2 + j - (mcell y).length = i * 2 + j := by show (i + 1) * 2 + j - 2 = _; omega
   rw [e]
   exact ih
theorem mcells_append (l m : List MarkM) : mcells (l ++ m) = mcells l ++ mcells m := List.flatMap_append
theorem mcells_one (l : List MarkM) : ∀ u ∈ mcells l, u.oneCell' = true := by
 intro u hu
 simp only [mcells, List.mem_flatMap] at hu
 obtain ⟨x, _, hx⟩ := hu
 simp only [mcell, List.mem_cons, List.not_mem_nil, or_false] at hx
 rcases hx with rfl | rfl <;> rfl
theorem mark_at {w : World} {k : Nat} {ad : Addr} {l : List MarkM} {x : MarkM} (hc : ∀ j u, (mcells l)[j]? = some u → w.cell? (ad.add j) = some u) (hx : l[k]? = some x) :
 w.cell? (ad.add (k * 2)) = some (.int .u32 (x.1 : Nat)) ∧ w.cell? ⟨(ad.add (k * 2)).block, (ad.add (k * 2)).off + 1, none⟩ = some (.int .i64 x.2) := by
 have h : ∀ j u, j < 2 → (mcell x)[j]? = some u → w.cell? (ad.add (k * 2 + j)) = some u := fun j u hj hu => hc _ u (by rw [mcells_at l k x hx j hj]; exact hu)
 have h0 := h 0 _ (by omega) rfl
 have h1 := h 1 _ (by omega) rfl
 rw [add_k2 _ _ _ (by omega)] at h1
 exact ⟨h0, h1⟩
def lastN_Mark (l : List MarkM) : Nat → Nat
 | 0 => 0
 | j + 1 => match l[j]? with | some y => y.1 | none => 0
theorem lastN_succ {l : List MarkM} {j : Nat} {x : MarkM} (hx : l[j]? = some x) : lastN_Mark l (j + 1) = x.1 := by
 show (match l[j]? with | some y => y.1 | none => 0) = _
 rw [hx]
def mstep (good : MarkM → Bool) (l : List MarkM) (j : Nat) (x : MarkM) : Bool := decide (lastN_Mark l j < x.1) && good x
def mstepAt (good : MarkM → Bool) (l : List MarkM) (j : Nat) : Bool := match l[j]? with | some x => mstep good l j x | none => true
def marksN (good : MarkM → Bool) (l : List MarkM) (j : Nat) : Bool := (List.range j).all (mstepAt good l)
theorem marksN_succ (good : MarkM → Bool) {l : List MarkM} {j : Nat} {x : MarkM} (hx : l[j]? = some x) : marksN good l (j + 1) = (marksN good l j && mstep good l j x) := by
 unfold marksN
 rw [List.range_succ, List.all_append]
 simp [mstepAt, hx]
theorem marks_no {good : MarkM → Bool} {l : List MarkM} {j : Nat} {x : MarkM} (hx : l[j]? = some x) (h : mstep good l j x = false) : marksN good l l.length = false := by
 unfold marksN
 rw [List.all_eq_false]
 exact ⟨j, List.mem_range.2 (List.getElem?_eq_some_iff.1 hx).1, by unfold mstepAt; rw [hx]; simp only [h]; simp⟩
theorem marks_at {good : MarkM → Bool} {l : List MarkM} {j : Nat} {x : MarkM} (hx : l[j]? = some x) (h : marksN good l l.length = true) : mstep good l j x = true := by
 cases hs : mstep good l j x with
 | true => rfl
 | false => rw [marks_no hx hs] at h; cases h
def goodF (q : MarkM) : Bool := decide (0 ≤ q.2) && decide (q.2 ≤ 31)
def rightFlagsV (e : Nat) (l : List MarkM) : Bool := marksN goodF l l.length && decide (1 ≤ e) && decide (l.length ≤ 500)
set_option maxHeartbeats 800000 in
set_option maxRecDepth 100000 in
theorem rightFlags_any (A : Option Addr) (c n e : Nat) (l : List MarkM) (w : World) (hu : ∀ q ∈ l, q.1 < 4294967296) (he : e < 4294967296) (hn2 : l.length = n) (hn : n ≤ 100000) (hr : Reads w w.heap.size 2 A n (mcells l)) :
 Calls Tryz.prog 187 #[.agg #[.int .u32 (e : Nat), .slice A n c]] w fun ev w' => ev = .returned (.bool (rightFlagsV e l)) ∧ Below w.heap.size w w' := by
 have hb0 := (Below.refl w.heap.size w).alloc (Nat.le_refl _) (.cells #[.int .u32 (e : Nat), .slice A n c] 130)
 have hk0 : Blk (w.alloc (.cells #[.int .u32 (e : Nat), .slice A n c] 130)) w.heap.size 130 #[.int .u32 (e : Nat), .slice A n c] := Blk.new w _ _
 have hr0 := (hr.below hb0).more hb0.size
 obtain ⟨w0, hw0⟩ : ∃ w0, w.alloc (.cells #[.int .u32 (e : Nat), .slice A n c] 130) = w0 := ⟨_, rfl⟩
 obtain ⟨o, ho⟩ : ∃ o, w.heap.size = o := ⟨_, rfl⟩
 rw [hw0] at hb0 hk0 hr0
 rw [ho] at hk0
 have HR := Lib.hid hr0
 have HK := Lib.hid hk0
 have HB0 := Lib.hid hb0
 have HU := Lib.hid hu
 have HL := Lib.hid hn2
 obtain ⟨rv, hrv⟩ : ∃ rv, rightFlagsV e l = rv := ⟨_, rfl⟩
 have HRV := Lib.hid hrv
 rw [hrv]
 have z1 : w0.cell? ⟨o, 1, none⟩ = some (.slice A n c) := by rw [hk0.cell]; rfl
 clear hr hr0 hk0 hb0 hu hn2 hrv
 go_enter Tryz.func187, Tryz.ntmps187
 go_wp2
 have HO : Hid (w.heap.size = o) := ho
 clear hw0 ho z1
 go_loopw [3, 9] (fun z k wr => ∃ (j ln : Nat), k = .int .i64 j ∧ j ≤ n ∧ z = .int .u32 (ln : Nat) ∧ ln < 4294967296 ∧ Hid (ln = lastN_Mark l j) ∧ Hid (marksN goodF l j = true) ∧ Hid (Below w0.heap.size w0 wr)) (fun _ k _ => n - (intOf k).toNat)
 case atStart => exact ⟨0, 0, rfl, by omega, rfl, by omega, rfl, rfl, Below.refl _ _⟩
 case round =>
  obtain ⟨j, ln, rfl, hj, rfl, hln, hlast, hall, hb⟩ := hrel
  by_cases hlt : j < n
  ·obtain ⟨x, hx⟩ : ∃ x, l[j]? = some x := ⟨_, List.getElem?_eq_getElem (by have := HL.out; omega)⟩
   have hxu := HU.out x (List.mem_of_getElem? hx)
   have HX := Lib.hid hx
   obtain ⟨ad, rfl, hadl, hc⟩ := (HR.out.below hb.out).2 (by omega)
   obtain ⟨k0, k1⟩ := mark_at hc hx
   obtain ⟨xu, xf⟩ := x
   simp only at k0 k1 hxu
   have hadl' : (ad.add (j * 2)).block < wr.heap.size := by rw [block_of_add]; exact Nat.lt_of_lt_of_le hadl hb.out.size
   have hbx := (Below.refl wr.heap.size wr).alloc (Nat.le_refl _) (.cells #[.int .u32 (xu : Nat), .int .i64 xf] 140)
   have HB1 := Lib.hid (hb.out.trans (hbx.mono hb.out.size))
   have hs0 := HB0.out.size
   have hs1 := hb.out.size
   clear hx hc hbx
   by_cases ha : xu ≤ ln
   ·have g1 : decide (xu ≤ ln) = true := by simp; omega
    have g2 : decide ((xu : Int) ≤ (ln : Int)) = true := by simp; omega
    have hno : rightFlagsV e l = false := by
     unfold rightFlagsV
     rw [marks_no HX.out (by unfold mstep; rw [← hlast.out]; simp; omega)]
     rfl
    rw [HRV.out] at hno
    subst hno
    go_wp2
    go_ret
    exact ⟨rfl, HB0.out.trans (HB1.out.mono HB0.out.size)⟩
   ·have g1 : decide (xu ≤ ln) = false := by simp; omega
    have g2 : decide ((xu : Int) ≤ (ln : Int)) = false := by simp; omega
    by_cases hg : goodF (xu, xf) = true
    ·have hgg := hg
     unfold goodF at hgg
     simp only [Bool.and_eq_true, decide_eq_true_eq] at hgg
     have g3 : decide (xf < 0) = false := by simp; omega
     have g4 : decide (31 < xf) = false := by simp; omega
     have hn1 : marksN goodF l (j + 1) = true := by
      rw [marksN_succ goodF HX.out, hall.out, Bool.true_and]
      unfold mstep
      rw [hg, ← hlast.out]; simp; omega
     have HN1 := Lib.hid hn1
     have HL1 := Lib.hid (lastN_succ HX.out)
     clear hg hgg hn1
     go_wp2
     go_roundw
     case rel => exact ⟨j + 1, xu, by go_num, by omega, rfl, hxu, HL1.out.symm, HN1, HB1⟩
     case measure => simp [intOf]; omega
    ·have hno : rightFlagsV e l = false := by
      unfold rightFlagsV
      rw [marks_no HX.out (by unfold mstep; rw [Bool.eq_false_iff.2 hg]; simp)]
      rfl
     rw [HRV.out] at hno
     subst hno
     have hor : xf < 0 ∨ (0 ≤ xf ∧ 31 < xf) := by
      unfold goodF at hg
      simp only [Bool.and_eq_true, decide_eq_true_eq] at hg
      omega
     clear hg
     rcases hor with h | ⟨h1, h2⟩
     ·have g3 : decide (xf < 0) = true := by simp; omega
      go_wp2
      go_ret
      exact ⟨rfl, HB0.out.trans (HB1.out.mono HB0.out.size)⟩
     ·have g3 : decide (xf < 0) = false := by simp; omega
      have g4 : decide (31 < xf) = true := by simp; omega
      go_wp2
      go_ret
      exact ⟨rfl, HB0.out.trans (HB1.out.mono HB0.out.size)⟩
  ·obtain rfl : j = n := by omega
   have hk2 := HK.out.below hb.out HK.out.lt
   have z0 : wr.cell? ⟨o, 0, none⟩ = some (.int .u32 (e : Nat)) := by rw [hk2.cell]; rfl
   have z1 : wr.cell? ⟨o, 1, none⟩ = some (.slice A j c) := by rw [hk2.cell]; rfl
   have hrv : (decide (1 ≤ e) && decide (j ≤ 500)) = rv := by
    rw [← HRV.out]
    unfold rightFlagsV
    rw [HL.out, hall.out, Bool.true_and]
   have HRV2 := Lib.hid hrv
   clear hk2 hrv
   by_cases h1 : 1 ≤ e
   ·have g1 : decide (1 ≤ e) = true := by simp; omega
    have g2 : decide ((1 : Int) ≤ (e : Int)) = true := by simp; omega
    have g3 : decide ((j : Int) ≤ 500) = decide (j ≤ 500) := by rw [Bool.eq_iff_iff]; simp; omega
    have hq : decide (j ≤ 500) = rv := by rw [← HRV2.out, g1]; rfl
    have HQ := Lib.hid hq
    obtain ⟨q, hq5⟩ : ∃ q, decide (j ≤ 500) = q := ⟨_, rfl⟩
    rw [hq5] at HQ g3
    clear hq
    go_wp2
    go_ret
    rw [← HQ.out]
    exact ⟨by first | rfl | trivial, HB0.out.trans (hb.out.mono HB0.out.size)⟩
   ·have g1 : decide (1 ≤ e) = false := by simp; omega
    have g2 : decide ((1 : Int) ≤ (e : Int)) = false := by simp; omega
    have hq : false = rv := by rw [← HRV2.out, g1]; rfl
    have HQ := Lib.hid hq
    clear hq
    go_wp2
    go_ret
    rw [← HQ.out]
    exact ⟨by first | rfl | trivial, HB0.out.trans (hb.out.mono HB0.out.size)⟩
end Go.Proofs.YtkljkbeahdipfaaGreatDoor
/-
  Walk: the page of flags.
-/
namespace Go.Proofs.YtkljkbeahdipfaaGreatDoor
open Go.RowKit
def markB (q : MarkM) : List UInt8 := be 4 q.1 ++ be 1 q.2.toNat
def flagsB (e : Nat) (l : List MarkM) : List UInt8 := be 4 e ++ be 2 l.length ++ l.flatMap markB
def flagsErr (e : Nat) (l : List MarkM) : Int := if rightFlagsV e l = true then 0 else 1
def flagsPage (e : Nat) (l : List MarkM) : List UInt8 := if rightFlagsV e l = true then pageB 2 (flagsB e l) else []
theorem markFlat_len (l : List MarkM) : (l.flatMap markB).length = l.length * 5 := by
 induction l with
 | nil => simp
 | cons x r ih =>
   rw [List.flatMap_cons, List.length_append, List.length_cons, ih]
   have : (markB x).length = 5 := by unfold markB; simp [be_length]
   omega
theorem flags_len {e : Nat} {l : List MarkM} (h : rightFlagsV e l = true) : 1 ≤ e ∧ l.length ≤ 500 := by
 unfold rightFlagsV at h
 simp only [Bool.and_eq_true, decide_eq_true_eq] at h
 exact ⟨h.1.2, h.2⟩
theorem flagsB_len {e : Nat} {l : List MarkM} (h : rightFlagsV e l = true) : (flagsB e l).length ≤ 3000 := by
 have := (flags_len h).2
 unfold flagsB
 rw [List.length_append, List.length_append, be_length, be_length, markFlat_len]
 omega
theorem flags_good {e : Nat} {l : List MarkM} (h : rightFlagsV e l = true) {j : Nat} {x : MarkM} (hx : l[j]? = some x) : 0 ≤ x.2 ∧ x.2 ≤ 31 := by
 unfold rightFlagsV at h
 simp only [Bool.and_eq_true] at h
 have := marks_at hx h.1.1
 unfold mstep goodF at this
 simp only [Bool.and_eq_true, decide_eq_true_eq] at this
 exact this.2
set_option maxHeartbeats 800000 in
set_option maxRecDepth 100000 in
theorem putFlags_any (A : Option Addr) (c n e : Nat) (l : List MarkM) (w : World) (hu : ∀ q ∈ l, q.1 < 4294967296) (he : e < 4294967296) (hn2 : l.length = n) (hn : n ≤ 100000) (hr : Reads w w.heap.size 2 A n (mcells l)) :
 Calls Tryz.prog 132 #[.agg #[.int .u32 (e : Nat), .slice A n c]] w fun ev w' => ∃ r, ev = .returned (.tuple #[r, .int .i64 (flagsErr e l)]) ∧ w'.ownsRow w.heap.size 5 1 r (flagsPage e l).length (u8s (flagsPage e l)) ∧ Below w.heap.size w w' := by
 have hb0 := (Below.refl w.heap.size w).alloc (Nat.le_refl _) (.cells #[.int .u32 (e : Nat), .slice A n c] 130)
 have hk0 : Blk (w.alloc (.cells #[.int .u32 (e : Nat), .slice A n c] 130)) w.heap.size 130 #[.int .u32 (e : Nat), .slice A n c] := Blk.new w _ _
 have hr0 := (hr.below hb0).more hb0.size
 have hlt0 : w.heap.size < (w.alloc (.cells #[.int .u32 (e : Nat), .slice A n c] 130)).heap.size := hk0.lt
 obtain ⟨w0, hw0⟩ : ∃ w0, w.alloc (.cells #[.int .u32 (e : Nat), .slice A n c] 130) = w0 := ⟨_, rfl⟩
 obtain ⟨ob, hob⟩ : ∃ ob, w.heap.size = ob := ⟨_, rfl⟩
 rw [hw0] at hb0 hk0 hr0 hlt0
 rw [hob] at hk0 hlt0
 have R1 := Lib.hid (rightFlags_any A c n e l w0 hu he hn2 hn hr0)
 have HR := Lib.hid hr0
 have HK := Lib.hid hk0
 have HB0 := Lib.hid hb0
 have HU := Lib.hid hu
 have HL := Lib.hid hn2
 have HOB := Lib.hid hob
 have z0 : w0.cell? ⟨ob, 0, none⟩ = some (.int .u32 (e : Nat)) := by rw [hk0.cell]; rfl
 have z1 : w0.cell? ⟨ob, 1, none⟩ = some (.slice A n c) := by rw [hk0.cell]; rfl
 unfold flagsErr flagsPage
 cases hv : rightFlagsV e l with
 | false =>
   rw [hv] at R1
   rw [if_neg (by simp), if_neg (by simp)]
   clear hr hr0 hk0 hb0 hu hn2 hv
   go_enter Tryz.func132, Tryz.ntmps132
   go_wp2_with fail
   refine R1.out.mono ?_
   rintro ev w1 ⟨rfl, hb1⟩
   go_wp2
   go_ret2
   exact ⟨_, rfl, World.ownsRow_nil _ _ _ _, HB0.out.trans (hb1.mono HB0.out.size)⟩
 | true =>
   rw [hv] at R1
   rw [if_pos rfl, if_pos rfl]
   obtain ⟨_, hl500⟩ := flags_len hv
   have HP : Hid (∀ (j : Nat) (x : MarkM), l[j]? = some x → 0 ≤ x.2 ∧ x.2 ≤ 31) := fun j x hx => flags_good hv hx
   have HTL := Lib.hid (flagsB_len hv)
   have hn500 : n ≤ 500 := by omega
   clear hr hr0 hk0 hb0 hu hn2 hv hl500
   go_enter Tryz.func132, Tryz.ntmps132
   go_wp2_with fail
   clear hw0 hob
   refine R1.out.mono ?_
   rintro ev w1 ⟨rfl, hb1⟩
   have hk1 := HK.out.below hb1 HK.out.lt
   have hbo := (Below.refl w1.heap.size w1).alloc (Nat.le_refl _) (.cells #[.slice none 0 0, .bool false] 206)
   have ho0 := out_new (w := w1) (B := w0.heap.size) hb1.size
   have hk2 := hk1.alloc (.cells #[.slice none 0 0, .bool false] 206)
   obtain ⟨w2, hw2⟩ : ∃ w2, w1.alloc (.cells #[.slice none 0 0, .bool false] 206) = w2 := ⟨_, rfl⟩
   obtain ⟨o, ho⟩ : ∃ o, w1.heap.size = o := ⟨_, rfl⟩
   have hoo : Hid (w0.heap.size ≤ o) := by show _ ≤ _; have := hb1.size; omega
   rw [hw2, ho] at ho0
   rw [hw2] at hbo hk2
   have hbw := hb1.trans (hbo.mono hb1.size)
   have R2 := Lib.hid (out_N ho0 hbw.size (by simp) e 4 (by omega) (by omega))
   have y0 : w2.cell? ⟨ob, 0, none⟩ = some (.int .u32 (e : Nat)) := by rw [hk2.cell]; rfl
   have HBW := Lib.hid hbw
   have HK2 := Lib.hid hk2
   have hobo : ob ≠ o := by have := hoo.out; omega
   clear hb1 hbo ho0 R1 hbw hk1 hk2 z0 z1
   go_wp2_with fail
   clear hw2 ho
   refine R2.out.mono ?_
   rintro ev w3 ⟨rfl, ⟨v3, h3⟩, hb3⟩
   have hk3 := HK2.out.obut hb3 hobo (by decide)
   have hbw3 := HBW.out.trans (hb3.toBelow HBW.out.size (Nat.le_refl _) hoo.out)
   have y1 : w3.cell? ⟨ob, 1, none⟩ = some (.slice A n c) := by rw [hk3.cell]; rfl
   have R3 := Lib.hid (out_N h3 hbw3.size (by rw [List.length_append, be_length]; simp) n 2 (by omega) (by omega))
   have HBW3 := Lib.hid hbw3
   have HK3 := Lib.hid hk3
   clear h3 hb3 hbw3 hk3 R2 y0
   go_wp2_with fail
   refine R3.out.mono ?_
   rintro ev w4 ⟨rfl, ⟨v4, h4⟩, hb4⟩
   have hk4 := HK3.out.obut hb4 hobo (by decide)
   have x1 : w4.cell? ⟨ob, 1, none⟩ = some (.slice A n c) := by rw [hk4.cell]; rfl
   have HB4 := Lib.hid (HBW3.out.trans (hb4.toBelow HBW3.out.size (Nat.le_refl _) hoo.out))
   have HO4 := Lib.hid h4
   clear h4 hb4 hk4 R3 y1
   go_wp2
   clear x1
   go_loopw [21] (fun k wr => ∃ (j : Nat) (v : Value), k = .int .i64 j ∧ j ≤ n ∧ Hid (OutAt wr w0.heap.size o (be 4 e ++ be 2 n ++ (l.take j).flatMap markB) false v) ∧ Hid (Below w0.heap.size w0 wr)) (fun k _ => n - (intOf k).toNat)
   case atStart => exact ⟨0, v4, rfl, by omega, by simpa using HO4, HB4⟩
   case round =>
    obtain ⟨j, v, rfl, hj, ho, hb⟩ := hrel
    by_cases hlt : j < n
    ·obtain ⟨x, hx⟩ : ∃ x, l[j]? = some x := ⟨_, List.getElem?_eq_getElem (by have := HL.out; omega)⟩
     obtain ⟨p0, p1⟩ := HP.out j x hx
     have hxu := HU.out x (List.mem_of_getElem? hx)
     obtain ⟨xu, xf⟩ := x
     obtain ⟨xn, rfl⟩ : ∃ xn : Nat, xf = xn := ⟨xf.toNat, by simp only at p0; omega⟩
     obtain ⟨ad, rfl, hadl, hc⟩ := (HR.out.below hb.out).2 (by omega)
     obtain ⟨k0, k1⟩ := mark_at hc hx
     simp only at k0 k1 p0 p1 hxu
     have hadl' : (ad.add (j * 2)).block < wr.heap.size := by rw [block_of_add]; exact Nat.lt_of_lt_of_le hadl hb.out.size
     have hbx := (Below.refl wr.heap.size wr).alloc (Nat.le_refl _) (.cells #[.int .u32 (xu : Nat), .int .i64 (xn : Nat)] 140)
     have hxb : Blk (wr.alloc (.cells #[.int .u32 (xu : Nat), .int .i64 (xn : Nat)] 140)) wr.heap.size 140 #[.int .u32 (xu : Nat), .int .i64 (xn : Nat)] := Blk.new wr _ _
     have ho1 := ho.out.below hbx
     have hb1 := hb.out.trans (hbx.mono hb.out.size)
     have hfl : ((l.take j).flatMap markB).length ≤ 2500 := by rw [markFlat_len, List.length_take]; omega
     have hlen : (be 4 e ++ be 2 n ++ (l.take j).flatMap markB).length ≤ 2510 := by rw [List.length_append, List.length_append, be_length, be_length]; omega
     have hst : be 4 e ++ be 2 n ++ (l.take (j + 1)).flatMap markB = ((be 4 e ++ be 2 n ++ (l.take j).flatMap markB) ++ be 4 xu) ++ be 1 xn := by
      rw [List.take_add_one, hx]
      simp [markB, List.flatMap_append, List.append_assoc]
     have HST := Lib.hid hst
     obtain ⟨gp, hgp⟩ : ∃ gp, wr.heap.size = gp := ⟨_, rfl⟩
     have hgo : gp ≠ o := by have := ho.out.cells.lt; omega
     obtain ⟨w5, hw5⟩ : ∃ w5, wr.alloc (.cells #[.int .u32 (xu : Nat), .int .i64 (xn : Nat)] 140) = w5 := ⟨_, rfl⟩
     rw [hw5] at hxb ho1 hb1
     rw [hgp] at hxb
     have R5 := Lib.hid (out_N ho1 hb1.size (by omega) xu 4 (by omega) (by omega))
     have z0 : w5.cell? ⟨gp, 0, none⟩ = some (.int .u32 (xu : Nat)) := by rw [hxb.cell]; rfl
     have HB1 := Lib.hid hb1
     have HXB := Lib.hid hxb
     clear hx hc hst hadl hbx hxb ho1 hb1 hfl
     go_wp2_with fail
     clear hw5 hgp k0 k1 hadl'
     refine R5.out.mono ?_
     rintro ev w6 ⟨rfl, ⟨v6, h6⟩, hb6⟩
     have hx6 := HXB.out.obut hb6 hgo (by decide)
     have hb16 := HB1.out.trans (hb6.toBelow HB1.out.size (Nat.le_refl _) hoo.out)
     have z1 : w6.cell? ⟨gp, 1, none⟩ = some (.int .i64 (xn : Nat)) := by rw [hx6.cell]; rfl
     have R6 := Lib.hid (out_N h6 hb16.size (by rw [List.length_append, be_length]; omega) xn 1 (by omega) (by omega))
     have HB16 := Lib.hid hb16
     clear h6 hb6 hb16 hx6 R5 z0
     go_wp2_with fail
     refine R6.out.mono ?_
     rintro ev w7 ⟨rfl, ⟨v7, h7⟩, hb7⟩
     rw [← HST.out] at h7
     have H7 := Lib.hid h7
     have HB7 := Lib.hid (HB16.out.trans (hb7.toBelow HB16.out.size (Nat.le_refl _) hoo.out))
     clear h7 hb7 R6 z1
     go_wp2
     go_roundw
     case rel => exact ⟨j + 1, v7, by go_num, by omega, H7, HB7⟩
     case measure => simp [intOf]; omega
    ·obtain rfl : j = n := by omega
     have hfin : be 4 e ++ be 2 j ++ (l.take j).flatMap markB = flagsB e l := by
      unfold flagsB
      rw [List.take_of_length_le (by have := HL.out; omega), HL.out]
     have ho1 := ho.out
     rw [hfin] at ho1
     have R9 := Lib.hid (put_any ho1 (by have := HTL.out; omega) 2 (by omega))
     have he9 : errLong (flagsB e l).length = 0 := by unfold errLong; rw [if_pos (by have := HTL.out; omega)]
     have hp9 : pageOr 2 (flagsB e l) = pageB 2 (flagsB e l) := by unfold pageOr; rw [if_pos (by have := HTL.out; omega)]
     rw [he9, hp9] at R9
     clear ho1 hfin he9 hp9
     go_wp2_with fail
     refine R9.out.mono ?_
     rintro ev w9 ⟨r9, rfl, ho9, hb9⟩
     have HO9 := Lib.hid (own_mono ho9 (Nat.le_trans HB0.out.size hb.out.size))
     have HB9 := Lib.hid (HB0.out.trans ((hb.out.trans (hb9.mono hb.out.size)).mono HB0.out.size))
     clear ho9 hb9
     go_wp2
     go_ret2
     exact ⟨r9, rfl, HO9.out, HB9.out⟩
end Go.Proofs.YtkljkbeahdipfaaGreatDoor
/-
  Walk: a page's tree.
-/
namespace Go.Proofs.YtkljkbeahdipfaaGreatDoor
open Go.RowKit
def inTreeL : Nat → InM → List PlaceM × InM
 | 0, s => ([], s)
 | n + 1, s => ((inTreeL n s).1 ++ [(((inN (inTreeL n s).2 1).1 : Int), (inText (inN (inTreeL n s).2 1).2).1)], (inText (inN (inTreeL n s).2 1).2).2)
theorem inTreeL_len : ∀ (n : Nat) (s : InM), (inTreeL n s).1.length = n
 | 0, _ => rfl
 | n + 1, s => by
   show (_ ++ [_]).length = _
   rw [List.length_append, inTreeL_len n s]; rfl
theorem inTreeL_rest : ∀ (n : Nat) (s : InM), (inTreeL n s).2.rest.length ≤ s.rest.length
 | 0, _ => Nat.le_refl _
 | n + 1, s => Nat.le_trans (inText_rest _) (Nat.le_trans (inTake_rest _ _) (inTreeL_rest n s))
theorem inTake_part (s : InM) (n : Int) : (inTake s n).1.length ≤ s.rest.length := by
 unfold inTake
 split
 ·simp
 ·split
  ·simp
  ·simp only [List.length_take]; omega
theorem inText_size (s : InM) : (inText s).1.size ≤ s.rest.length := by
 unfold inText
 have h1 := inTake_part (inN s 2).2 (inN s 2).1
 have h2 : (inN s 2).2.rest.length ≤ s.rest.length := inTake_rest _ _
 show (inTake (inN s 2).2 (inN s 2).1).1.toArray.size ≤ _
 rw [List.size_toArray]
 omega
theorem inTreeL_sizes : ∀ (n : Nat) (s : InM), ∀ q ∈ (inTreeL n s).1, q.2.size ≤ s.rest.length
 | 0, s, q, h => by cases h
 | n + 1, s, q, h => by
   rcases List.mem_append.1 h with h | h
   ·exact inTreeL_sizes n s q h
   ·rw [List.mem_singleton] at h
    subst h
    exact Nat.le_trans (inText_size _) (Nat.le_trans (inTake_rest _ _) (inTreeL_rest n s))
def readTree (p : List UInt8) : List PlaceM := (inTreeL (inN ⟨p, false⟩ 1).1 (inN ⟨p, false⟩ 1).2).1
def getTreeV (b : List UInt8) : Option (List PlaceM) := match pageGet 3 b with
 | none => none
 | some p => if rightTreeV (readTree p) = true ∧ pageB 3 (treeB (readTree p)) = b then some (readTree p) else none
def getErr {V : Type} (o : Option V) : Int := if o.isSome = true then 0 else 9
theorem place_info : (Tryz.prog.info? 152).map (fun i => (i.zero, i.size, i.bytes)) = some (some (.agg #[.int .i64 0, .string ⟨#[]⟩]), 2, 24) := by kernel_rfl
/-- append of places, shut -/
def appendPS (args : Array Value) : Sem Next := do pure (.value (← Builtin.append_ #[147, 147] 147 args))
theorem builtin_appendP (cs : Array Bool) (args : Array Value) : builtin .append #[147, 147] 147 cs args = appendPS args := rfl
theorem run_appendP {w : World} {B n : Nat} {v : Value} {l m : List PlaceM} (h : w.ownsRow B 152 2 v n (pcells l)) {A : Option Addr} (c : Nat) {k n2 Bd : Nat} (hk : m.length = k) (hn2 : n + k = n2) (hr : Reads w Bd 2 A k (pcells m)) (hlen : n2 ≤ 1000000) (hB : B ≤ w.heap.size) :
 ∃ A' c' w', (appendPS #[v, .slice A k c]).run Tryz.prog w = .ok (.value (.slice A' n2 c')) w' ∧ w'.ownsRow B 152 2 (.slice A' n2 c') n2 (pcells (l ++ m)) ∧ w.grownBy w' v.ownBlock := by
 subst hk hn2
 obtain ⟨i0, hi0, hz0, hz1, hz2⟩ := info_parts place_info
 obtain ⟨v', w', hrun, ho, hg⟩ := run_append_any (P := Tryz.prog) w B 147 147 152 i0 _ 2 24 Tryz.underlying147 hi0 hz0 hz1 hz2 rfl (by omega) v n (pcells l) h A m.length c (pcells m) (Gives.of_reads hr (pcells_one m)) (by unfold maxLen; omega) (by omega) hB
 rw [← pcells_append] at ho
 obtain ⟨A', c', rfl, _, _⟩ := own_reads ho
 exact ⟨A', c', w', by unfold appendPS; simp only [Sem.run_bind, hrun, Result.andThen_ok, Sem.run_pure], ho, hg⟩
theorem InAt.grownT {w w' : World} {i : Nat} {s : InM} {v vL : Value} (h : InAt w i s v) {base n size : Nat} {e : TypeId} {xs : List Value} (ho : w.ownsRow base e size vL n xs) (h1 : 252 ≠ e) (h2 : 5 ≠ e) (hg : w.grownBy w' vL.ownBlock) : InAt w' i s v := by
 have hi := h.cells.grown hg (fun e => own_ne ho h.cells h1 i e.symm rfl)
 refine ⟨hi, ?_⟩
 rcases h.row with h | ⟨ad, c, e, hc, hr, hu⟩
 ·exact .inl h
 ·have hk : w'.heap[ad.block]? = w.heap[ad.block]? := hg.block ad.block hu.lt (fun e => by
   obtain ⟨cs', hc⟩ := own_kind ho e.symm
   obtain ⟨cs, p, hh⟩ := hu
   rw [hh] at hc
   injection hc with hc
   injection hc with _ hc
   exact h2 hc)
  refine .inr ⟨ad, c, e, hc, ⟨hr.1, fun hn => ?_⟩, hu.same hk⟩
  obtain ⟨ad', e', hlt, hcc⟩ := hr.2 hn
  injection e' with e'
  subst e'
  exact ⟨ad, rfl, Nat.lt_of_lt_of_le hlt hg.size, fun j u hu' => (World.cell?_of_block (by rw [block_of_add]; exact hk)).trans (hcc j u hu')⟩
theorem litP {w : World} {g : Nat} {x : PlaceM} (h : Blk w g 152 #[.int .i64 x.1, .string x.2]) : Reads w w.heap.size 2 (some ⟨g, 0, none⟩) 1 (pcells [x]) := by
 refine ⟨rfl, fun _ => ⟨⟨g, 0, none⟩, rfl, h.lt, fun j u hu => ?_⟩⟩
 have ha : (⟨g, 0, none⟩ : Addr).add j = ⟨g, j, none⟩ := by unfold Addr.add; split <;> simp_all
 rw [ha, h.cell, ← hu]
 rcases j with _ | _ | j <;> rfl
attribute [local go_sem ↓ 100000] builtin_appendP
set_option maxHeartbeats 1600000 in
set_option maxRecDepth 100000 in
theorem getTree_any (A : Option Addr) (c n : Nat) (b : List UInt8) (w : World) (hm : MaxCell w) (hg : 0 < w.heap.size) (hn2 : b.length = n) (hn : n ≤ 5000000) (hcn : n ≤ c) (hr : Reads w w.heap.size 1 A n (u8s b)) :
 Calls Tryz.prog 87 #[.slice A n c] w fun e w' => ∃ r, e = .returned (.tuple #[r, .int .i64 (getErr (getTreeV b))]) ∧ w'.ownsRow w.heap.size 152 2 r ((getTreeV b).getD []).length (pcells ((getTreeV b).getD [])) ∧ Below w.heap.size w w' := by
 have R1 := Lib.hid (page_Get 3 (by omega) A n c hcn hn b hn2 w hr)
 have HR := Lib.hid hr
 have HM := Lib.hid hm
 have HN := Lib.hid hn2
 obtain ⟨G, hG⟩ : ∃ G, getTreeV b = G := ⟨_, rfl⟩
 rw [hG]
 cases hp : pageGet 3 b with
 | none =>
   rw [hp] at R1
   have e1 : (if (none : Option (List UInt8)).isSome = true then (0 : Int) else 9) = 9 := rfl
   rw [e1] at R1
   have e2 : getErr (none : Option (List PlaceM)) = 9 := rfl
   obtain rfl : G = none := by rw [← hG]; unfold getTreeV; rw [hp]
   dsimp only [Option.getD_none]
   rw [e2]
   clear hr hm hn2 hp e1 e2 hG
   go_enter Tryz.func87, Tryz.ntmps87
   go_wp2_with fail
   refine R1.out.mono ?_
   rintro e w1 ⟨v1, rfl, _, hb1⟩
   go_wp2
   go_ret2
   exact ⟨_, rfl, World.ownsRow_nil _ _ _ _, hb1⟩
 | some p =>
   rw [hp] at R1
   have e1 : (if (some p : Option (List UInt8)).isSome = true then (0 : Int) else 9) = 0 := rfl
   rw [e1] at R1
   dsimp only [Option.getD_some] at R1
   have HG : Hid (G = if rightTreeV (readTree p) = true ∧ pageB 3 (treeB (readTree p)) = b then some (readTree p) else none) := by rw [← hG]; unfold getTreeV; rw [hp]; exact rfl
   obtain ⟨ge, hge⟩ : ∃ ge, getErr G = ge := ⟨_, rfl⟩
   rw [hge]
   have HGE := Lib.hid hge
   clear hge
   have hpl : p.length ≤ 60000 := by
    unfold pageGet at hp
    split at hp
    ·rename_i h
     injection hp with hp
     rw [← hp]; exact h.2.1
    ·cases hp
   obtain ⟨pn, hpn⟩ : ∃ pn, p.length = pn := ⟨_, rfl⟩
   rw [hpn] at R1 hpl
   have HPN := Lib.hid hpn
   clear hr hm hn2 hp e1 hpn hG
   go_enter Tryz.func87, Tryz.ntmps87
   go_wp2_with fail
   refine R1.out.mono ?_
   rintro e w1 ⟨v1, rfl, ho1, hb1⟩
   obtain ⟨A1, c1, e1, hr1⟩ := own8_reads ho1
   rw [HPN.out] at e1 hr1
   subst e1
   have R2 := Lib.hid (in_new A1 pn c1 p HPN.out (by omega) w1 hr1)
   have HB1 := Lib.hid hb1
   clear ho1 hr1 hb1 R1
   go_wp2_with fail
   refine R2.out.mono ?_
   rintro e w2 ⟨i, vi, rfl, hi, hle, hb2⟩
   have hiw : w.heap.size ≤ i := Nat.le_trans HB1.out.size hle
   have R3 := Lib.hid (in_N hi (by show p.length ≤ _; have := HPN.out; omega) 1 (by omega))
   have hB2 := HB1.out.trans (hb2.mono HB1.out.size)
   have HB2 := Lib.hid hB2
   have hc256 : (inN ⟨p, false⟩ 1).1 < 256 := inN_lt _ 1
   have hrest : (inN ⟨p, false⟩ 1).2.rest.length ≤ 60000 := Nat.le_trans (inTake_rest _ _) (by show p.length ≤ _; have := HPN.out; omega)
   have HRT : Hid (readTree p = (inTreeL (inN ⟨p, false⟩ 1).1 (inN ⟨p, false⟩ 1).2).1) := rfl
   obtain ⟨cnt, hcnt⟩ : ∃ cnt, (inN ⟨p, false⟩ 1).1 = cnt := ⟨_, rfl⟩
   obtain ⟨s0, hs0⟩ : ∃ s0, (inN ⟨p, false⟩ 1).2 = s0 := ⟨_, rfl⟩
   rw [hcnt, hs0] at R3 HRT
   rw [hcnt] at hc256
   rw [hs0] at hrest
   clear hi hb2 hB2 hle R2 hcnt hs0
   go_wp2_with fail
   refine R3.out.mono ?_
   rintro e w3 ⟨rfl, ⟨v3, h3⟩, hb3⟩
   have HI3 := Lib.hid h3
   have HB3 := Lib.hid (HB2.out.trans (hb3.toBelow HB2.out.size hiw))
   clear h3 hb3 R3
   go_wp2
   go_loopw [7, 22] (fun u k wr => ∃ (j : Nat) (vL vi : Value), vL = u ∧ k = .int .i64 j ∧ j ≤ cnt ∧ Hid (wr.ownsRow w.heap.size 152 2 vL j (pcells (inTreeL j s0).1)) ∧ Hid (InAt wr i (inTreeL j s0).2 vi) ∧ Hid (Below w.heap.size w wr)) (fun _ k _ => cnt - (intOf k).toNat)
   case atStart => exact ⟨0, _, v3, rfl, rfl, by omega, World.ownsRow_nil _ _ _ _, HI3, HB3⟩
   case round =>
    obtain ⟨j, vL, vi, rfl, rfl, hj, ho, hi, hb⟩ := hrel
    have hsz := hb.out.size
    by_cases hlt : j < cnt
    ·have hrl : (inTreeL j s0).2.rest.length ≤ 1000000 := Nat.le_trans (inTreeL_rest j s0) (by omega)
     have R4 := Lib.hid (in_N hi.out hrl 1 (by omega))
     have hst : inTreeL (j + 1) s0 = ((inTreeL j s0).1 ++ [(((inN (inTreeL j s0).2 1).1 : Int), (inText (inN (inTreeL j s0).2 1).2).1)], (inText (inN (inTreeL j s0).2 1).2).2) := rfl
     have hx256 : (inN (inTreeL j s0).2 1).1 < 256 := inN_lt _ 1
     have hrl2 : (inN (inTreeL j s0).2 1).2.rest.length ≤ 1000000 := Nat.le_trans (inTake_rest _ _) hrl
     obtain ⟨lj, hlj⟩ : ∃ lj, (inTreeL j s0).1 = lj := ⟨_, rfl⟩
     obtain ⟨sj, hsj⟩ : ∃ sj, (inTreeL j s0).2 = sj := ⟨_, rfl⟩
     rw [hlj] at ho
     rw [hlj] at hst
     rw [hsj] at hst R4 hi hx256 hrl2
     obtain ⟨xn, hxn⟩ : ∃ xn, (inN sj 1).1 = xn := ⟨_, rfl⟩
     obtain ⟨s1, hs1⟩ : ∃ s1, (inN sj 1).2 = s1 := ⟨_, rfl⟩
     rw [hxn, hs1] at hst R4
     rw [hxn] at hx256
     rw [hs1] at hrl2
     have HST := Lib.hid hst
     clear hst hlj hsj hxn hs1 hrl
     go_wp2_with fail
     refine R4.out.mono ?_
     rintro e w4 ⟨rfl, ⟨v4, h4⟩, hb4⟩
     have ho4 := own_keep (w' := w4) ho.out (fun g hg => hb4.block g (ho.out.lt g hg).2 (own_ne ho.out hi.out.cells (by decide) g hg))
     have R5 := Lib.hid (in_Text h4 hrl2)
     have HI4 := Lib.hid h4.cells
     have HB4 := Lib.hid (hb.out.trans (hb4.toBelow hsz hiw))
     have HO4 := Lib.hid ho4
     obtain ⟨xs, hxs⟩ : ∃ xs, (inText s1).1 = xs := ⟨_, rfl⟩
     obtain ⟨s2, hs2⟩ : ∃ s2, (inText s1).2 = s2 := ⟨_, rfl⟩
     rw [hxs, hs2] at R5 HST
     clear h4 hb4 ho4 R4 hxs hs2
     go_wp2_with fail
     refine R5.out.mono ?_
     rintro e w5 ⟨rfl, ⟨v5, h5⟩, hb5⟩
     have ho5 := own_keep (w' := w5) HO4.out (fun g hg => hb5.block g (HO4.out.lt g hg).2 (own_ne HO4.out HI4.out (by decide) g hg))
     have hB5 := HB4.out.trans (hb5.toBelow HB4.out.size hiw)
     have hbx := (Below.refl w5.heap.size w5).alloc (Nat.le_refl _) (.cells #[.int .i64 (xn : Int), .string xs] 152)
     have hxb : Blk (w5.alloc (.cells #[.int .i64 (xn : Int), .string xs] 152)) w5.heap.size 152 #[.int .i64 (xn : Int), .string xs] := Blk.new w5 _ _
     have ho6 := own_below ho5 hbx
     have hB6 := hB5.trans (hbx.mono hB5.size)
     obtain ⟨A7, c7, w7, E7, ho7, hg7⟩ := run_appendP (m := [((xn : Int), xs)]) (k := 1) (n2 := j + 1) ho6 1 rfl rfl (litP (x := ((xn : Int), xs)) hxb) (by omega) hB6.size
     have hi7 := (h5.below hbx).grownT ho6 (by decide) (by decide) hg7
     have HB7 := Lib.hid (hB6.grown hg7 hB6.size (fun k hk => (ho6.lt k hk).1))
     have HI7 : Hid (InAt w7 i (inTreeL (j + 1) s0).2 v5) := by rw [HST.out]; exact hi7
     have HO7 : Hid (w7.ownsRow w.heap.size 152 2 (.slice A7 (j + 1) c7) (j + 1) (pcells (inTreeL (j + 1) s0).1)) := by rw [HST.out]; exact ho7
     clear h5 hb5 ho5 hB5 hbx hxb ho6 hB6 ho7 hg7 hi7 R5
     go_wp2
     go_roundw
     case rel => exact ⟨j + 1, _, v5, rfl, by go_num, by omega, HO7, HI7, HB7⟩
     case measure => simp [intOf]; omega
    ·obtain rfl : j = cnt := by omega
     have hol := ho.out
     rw [← HRT.out] at hol
     obtain ⟨AL, cL, rfl, hrL, hcL⟩ := own_reads hol
     have hll : (readTree p).length = j := by rw [HRT.out]; exact inTreeL_len _ _
     have hszs : ∀ q ∈ readTree p, q.2.size ≤ 9223372036854775807 := fun q hq => by
      rw [HRT.out] at hq
      have := inTreeL_sizes _ _ q hq
      omega
     have R6 := Lib.hid (putTree_any AL cL j (readTree p) wr (HM.out.below hg hb.out) (Nat.lt_of_lt_of_le hg hsz) hszs hll (by omega) hcL hrL)
     have HOL := Lib.hid hol
     have HLL := Lib.hid hll
     obtain ⟨L, hL⟩ : ∃ L, readTree p = L := ⟨_, rfl⟩
     rw [hL] at R6 HOL HLL
     have HLP := Lib.hid hL
     clear hol hrL hcL hll hszs ho hi HRT hL
     go_wp2_with fail
     refine R6.out.mono ?_
     rintro e w8 ⟨r8, rfl, ho8, hb8⟩
     obtain ⟨A8, c8, rfl, hr8⟩ := own8_reads ho8
     have hB8 := hb.out.trans (hb8.mono hsz)
     have R7 := Lib.hid (same_any A8 A (treePage L).length c8 n c (treePage L) b (treeErr L) w8 rfl HN.out hr8 ((HR.out.below hB8).more hB8.size))
     have HO8 := Lib.hid (own_below HOL.out hb8)
     have HB8 := Lib.hid hB8
     have hres : (decide (treeErr L = 0) && (treePage L == b)) = decide (rightTreeV L = true ∧ pageB 3 (treeB L) = b) := by
      unfold treeErr treePage
      cases rightTreeV L
      ·simp
      ·simp only [if_pos, decide_true, Bool.true_and, true_and]
       rw [Bool.eq_iff_iff]; simp
     rw [hres] at R7
     obtain ⟨q, hq⟩ : ∃ q, decide (rightTreeV L = true ∧ pageB 3 (treeB L) = b) = q := ⟨_, rfl⟩
     rw [hq] at R7
     have HQ := Lib.hid hq
     generalize (treePage L).length = tn at *
     generalize treeErr L = te at *
     clear ho8 hb8 hr8 hB8 hres hq R6
     go_wp2_with fail
     refine R7.out.mono ?_
     rintro e w9 ⟨rfl, rfl⟩
     cases q with
     | true =>
       have hqq := of_decide_eq_true HQ.out
       go_wp2
       go_ret2
       have hgg : G = some L := by rw [HG.out, HLP.out, if_pos hqq]
       have hge : ge = 0 := by rw [← HGE.out, hgg]; rfl
       rw [hge, hgg]
       exact ⟨_, rfl, by show World.ownsRow _ _ _ _ _ L.length _; rw [HLL.out]; exact HO8.out, HB8.out⟩
     | false =>
       have hqq := of_decide_eq_false HQ.out
       go_wp2
       go_ret2
       have hgg : G = none := by rw [HG.out, HLP.out, if_neg hqq]
       have hge : ge = 9 := by rw [← HGE.out, hgg]; rfl
       rw [hge, hgg]
       exact ⟨_, rfl, World.ownsRow_nil _ _ _ _, HB8.out⟩
end Go.Proofs.YtkljkbeahdipfaaGreatDoor
/-
  Walk: a page's flags.
-/
namespace Go.Proofs.YtkljkbeahdipfaaGreatDoor
open Go.RowKit
def inMarksL (k : Nat) : Nat → InM → List MarkM × InM
 | 0, s => ([], s)
 | n + 1, s => ((inMarksL k n s).1 ++ [((inN (inMarksL k n s).2 4).1, ((inN (inN (inMarksL k n s).2 4).2 k).1 : Int))], (inN (inN (inMarksL k n s).2 4).2 k).2)
theorem inMarksL_len (k : Nat) : ∀ (n : Nat) (s : InM), (inMarksL k n s).1.length = n
 | 0, _ => rfl
 | n + 1, s => by
   show (_ ++ [_]).length = _
   rw [List.length_append, inMarksL_len k n s]; rfl
theorem inMarksL_rest (k : Nat) : ∀ (n : Nat) (s : InM), (inMarksL k n s).2.rest.length ≤ s.rest.length
 | 0, _ => Nat.le_refl _
 | n + 1, s => Nat.le_trans (inTake_rest _ _) (Nat.le_trans (inTake_rest _ _) (inMarksL_rest k n s))
theorem inMarksL_uid (k : Nat) : ∀ (n : Nat) (s : InM), ∀ q ∈ (inMarksL k n s).1, q.1 < 4294967296
 | 0, _, q, h => by cases h
 | n + 1, s, q, h => by
   rcases List.mem_append.1 h with h | h
   ·exact inMarksL_uid k n s q h
   ·rw [List.mem_singleton] at h
    subst h
    exact inN_lt _ 4
def readFlags (p : List UInt8) : Nat × List MarkM := ((inN ⟨p, false⟩ 4).1, (inMarksL 1 (inN (inN ⟨p, false⟩ 4).2 2).1 (inN (inN ⟨p, false⟩ 4).2 2).2).1)
def getFlagsV (b : List UInt8) : Option (Nat × List MarkM) := match pageGet 2 b with
 | none => none
 | some p => if rightFlagsV (readFlags p).1 (readFlags p).2 = true ∧ pageB 2 (flagsB (readFlags p).1 (readFlags p).2) = b then some (readFlags p) else none
theorem mark_info : (Tryz.prog.info? 140).map (fun i => (i.zero, i.size, i.bytes)) = some (some (.agg #[.int .u32 0, .int .i64 0]), 2, 16) := by kernel_rfl
/-- append, shut, whatever its types: where a region's operation is not laid open yet -/
def appendH (tys : Array TypeId) (ty : TypeId) (args : Array Value) : Sem Value := Builtin.append_ tys ty args
theorem append_H (tys : Array TypeId) (ty : TypeId) (args : Array Value) : Builtin.append_ tys ty args = appendH tys ty args := rfl
theorem run_appendM {w : World} {B n : Nat} {v : Value} {l m : List MarkM} (h : w.ownsRow B 140 2 v n (mcells l)) {A : Option Addr} (c : Nat) {k n2 Bd : Nat} (hk : m.length = k) (hn2 : n + k = n2) (hr : Reads w Bd 2 A k (mcells m)) (hlen : n2 ≤ 1000000) (hB : B ≤ w.heap.size) :
 ∃ A' c' w', (appendH #[120, 120] 120 #[v, .slice A k c]).run Tryz.prog w = .ok (.slice A' n2 c') w' ∧ w'.ownsRow B 140 2 (.slice A' n2 c') n2 (mcells (l ++ m)) ∧ w.grownBy w' v.ownBlock := by
 subst hk hn2
 obtain ⟨i0, hi0, hz0, hz1, hz2⟩ := info_parts mark_info
 obtain ⟨v', w', hrun, ho, hg⟩ := run_append_any (P := Tryz.prog) w B 120 120 140 i0 _ 2 16 Tryz.underlying120 hi0 hz0 hz1 hz2 rfl (by omega) v n (mcells l) h A m.length c (mcells m) (Gives.of_reads hr (mcells_one m)) (by unfold maxLen; omega) (by omega) hB
 rw [← mcells_append] at ho
 obtain ⟨A', c', rfl, _, _⟩ := own_reads ho
 exact ⟨A', c', w', hrun, ho, hg⟩
theorem litM {w : World} {g : Nat} {t : TypeId} {x : MarkM} (h : Blk w g t #[.int .u32 (x.1 : Nat), .int .i64 x.2]) : Reads w w.heap.size 2 (some ⟨g, 0, none⟩) 1 (mcells [x]) := by
 refine ⟨rfl, fun _ => ⟨⟨g, 0, none⟩, rfl, h.lt, fun j u hu => ?_⟩⟩
 have ha : (⟨g, 0, none⟩ : Addr).add j = ⟨g, j, none⟩ := by unfold Addr.add; split <;> simp_all
 rw [ha, h.cell, ← hu]
 rcases j with _ | _ | j <;> rfl
theorem in_NZ {w : World} {i : Nat} {s : InM} {v : Value} (h : InAt w i s v) (hl : s.rest.length ≤ 1000000) (n : Nat) (z : Int) (hz : (n : Int) = z) (hn : 1 ≤ n ∧ n ≤ 7) :
 Calls Tryz.prog 111 #[.pointer (some ⟨i, 0, none⟩), .int .i64 z] w fun e w' => e = .returned (.int .i64 ((inN s n).1 : Nat)) ∧ (∃ v', InAt w' i (inN s n).2 v') ∧ IBut i w w' := by
 subst hz
 exact in_N h hl n hn
theorem InAt.setFar {w : World} {i : Nat} {s : InM} {v : Value} (h : InAt w i s v) {xb : Nat} {t : TypeId} {cs : Array Value} (hx : Blk w xb t cs) (ht : t ≠ 5) (hne : xb ≠ i) (k : Nat) (u : Value) : InAt (w.setCell ⟨xb, k, none⟩ u) i s v := by
 refine ⟨h.cells.far (p := ⟨xb, k, none⟩) (fun e => hne e.symm) u, ?_⟩
 rcases h.row with h | ⟨ad, c, e, hc, hr, hu⟩
 ·exact .inl h
 ·have hne2 : ad.block ≠ xb := fun e => by
   obtain ⟨cs', p, hh⟩ := hu
   unfold Blk at hx
   rw [e, hx] at hh
   injection hh with hh
   injection hh with _ hh
   exact ht hh
  have hk : (w.setCell ⟨xb, k, none⟩ u).heap[ad.block]? = w.heap[ad.block]? := Below.heap_setCell w ⟨xb, k, none⟩ u ad.block hne2
  refine .inr ⟨ad, c, e, hc, ⟨hr.1, fun hn => ?_⟩, hu.same hk⟩
  obtain ⟨ad', e', hlt, hcc⟩ := hr.2 hn
  injection e' with e'
  subst e'
  exact ⟨ad, rfl, by simpa [World.setCell] using hlt, fun j u' hu' => (World.cell?_of_block (by rw [block_of_add]; exact hk)).trans (hcc j u' hu')⟩
theorem Blk.set2 {w : World} {g : Nat} {t : TypeId} {u0 u1 a b : Value} (h : Blk w g t #[u0, u1]) : Blk ((w.setCell ⟨g, 0, none⟩ a).setCell ⟨g, 1, none⟩ b) g t #[a, b] := (h.set_ 0 a).set_ 1 b
theorem flags_round {w0 w : World} {xb i j eN xu n2 : Nat} {xn : Int} {s : InM} {v vL : Value} {l : List MarkM} (hb : Below w0.heap.size w0 w) (hxb : w0.heap.size ≤ xb) (hx : Blk w xb 130 #[.int .u32 (eN : Nat), vL])
 (ho : w.ownsRow w0.heap.size 140 2 vL j (mcells l)) (hn2 : j + 1 = n2) (hj : n2 ≤ 1000000) (hi : InAt w i s v) (hne : xb ≠ i) :
 ∃ A' c' w', (appendH #[120, 120] 120 #[vL, .slice (some ⟨w.heap.size, 0, none⟩) 1 1]).run Tryz.prog (w.alloc (.cells #[.int .u32 (xu : Nat), .int .i64 xn] 140)) = .ok (.slice A' n2 c') w' ∧
   w'.cell? ⟨xb, 1, none⟩ = some vL ∧ w'.frozen? ⟨xb, 1, none⟩ = false ∧ Hid (Blk (w'.setCell ⟨xb, 1, none⟩ (.slice A' n2 c')) xb 130 #[.int .u32 (eN : Nat), .slice A' n2 c'] ∧
   (w'.setCell ⟨xb, 1, none⟩ (.slice A' n2 c')).ownsRow w0.heap.size 140 2 (.slice A' n2 c') n2 (mcells (l ++ [(xu, xn)])) ∧ InAt (w'.setCell ⟨xb, 1, none⟩ (.slice A' n2 c')) i s v ∧ Below w0.heap.size w0 (w'.setCell ⟨xb, 1, none⟩ (.slice A' n2 c'))) := by
 have hbx := (Below.refl w.heap.size w).alloc (Nat.le_refl _) (.cells #[.int .u32 (xu : Nat), .int .i64 xn] 140)
 have hlit : Blk (w.alloc (.cells #[.int .u32 (xu : Nat), .int .i64 xn] 140)) w.heap.size 140 #[.int .u32 (xu : Nat), .int .i64 xn] := Blk.new w _ _
 have ho1 := own_below ho hbx
 have hb1 := hb.trans (hbx.mono hb.size)
 obtain ⟨A', c', w', E, ho2, hg⟩ := run_appendM (m := [(xu, xn)]) ho1 1 rfl hn2 (litM (x := (xu, xn)) hlit) hj hb1.size
 have hx2 := (hx.below hbx hx.lt).grown hg (fun e => own_ne ho1 (hx.below hbx hx.lt) (by decide) xb e.symm rfl)
 have hi2 := (hi.below hbx).grownT ho1 (by decide) (by decide) hg
 have hb2 := hb1.grown hg hb1.size (fun k hk => (ho1.lt k hk).1)
 refine ⟨A', c', w', E, by rw [hx2.cell]; rfl, hx2.frozen 1, ?_, ?_, hi2.setFar hx2 (by decide) hne 1 _, Below.setCell hb2 hxb _⟩
 ·exact hx2.set_ 1 _
 ·exact own_keep ho2 fun g hgg => Below.heap_setCell _ _ _ _ (own_ne ho2 hx2 (by decide) g hgg)
attribute [local go_sem ↓ 100000] append_H
def flagsOr (o : Option (Nat × List MarkM)) : Nat × List MarkM := o.getD (0, [])
set_option maxHeartbeats 1600000 in
set_option maxRecDepth 100000 in
theorem getFlags_any (A : Option Addr) (c n : Nat) (b : List UInt8) (w : World) (hn2 : b.length = n) (hn : n ≤ 5000000) (hcn : n ≤ c) (hr : Reads w w.heap.size 1 A n (u8s b)) :
 Calls Tryz.prog 67 #[.slice A n c] w fun ev w' => ∃ r, ev = .returned (.tuple #[.agg #[.int .u32 ((flagsOr (getFlagsV b)).1 : Nat), r], .int .i64 (getErr (getFlagsV b))]) ∧ w'.ownsRow w.heap.size 140 2 r (flagsOr (getFlagsV b)).2.length (mcells (flagsOr (getFlagsV b)).2) ∧ Below w.heap.size w w' := by
 have hb0 := (Below.refl w.heap.size w).alloc (Nat.le_refl _) (.cells #[.int .u32 0, .slice none 0 0] 130)
 have hk0 : Blk (w.alloc (.cells #[.int .u32 0, .slice none 0 0] 130)) w.heap.size 130 #[.int .u32 0, .slice none 0 0] := Blk.new w _ _
 have hr0 := (hr.below hb0).more hb0.size
 obtain ⟨w0, hw0⟩ : ∃ w0, w.alloc (.cells #[.int .u32 0, .slice none 0 0] 130) = w0 := ⟨_, rfl⟩
 obtain ⟨rb, hrb⟩ : ∃ rb, w.heap.size = rb := ⟨_, rfl⟩
 rw [hw0] at hb0 hk0 hr0
 rw [hrb] at hk0
 have R1 := Lib.hid (page_Get 2 (by omega) A n c hcn hn b hn2 w0 hr0)
 have HR := Lib.hid hr0
 have HK := Lib.hid hk0
 have HB0 := Lib.hid hb0
 have HN := Lib.hid hn2
 have HRB := Lib.hid hrb
 obtain ⟨G, hG⟩ : ∃ G, getFlagsV b = G := ⟨_, rfl⟩
 rw [hG]
 cases hp : pageGet 2 b with
 | none =>
   rw [hp] at R1
   have e1 : (if (none : Option (List UInt8)).isSome = true then (0 : Int) else 9) = 9 := rfl
   rw [e1] at R1
   have e2 : getErr (none : Option (Nat × List MarkM)) = 9 := rfl
   obtain rfl : G = none := by rw [← hG]; unfold getFlagsV; rw [hp]
   rw [e2]
   clear hr hr0 hk0 hb0 hn2 hp e1 e2 hG
   go_enter Tryz.func67, Tryz.ntmps67
   go_wp2_with fail
   clear hw0 hrb
   refine R1.out.mono ?_
   rintro ev w1 ⟨v1, rfl, _, hb1⟩
   have hk1 := HK.out.below hb1 HK.out.lt
   have f0 := hk1.frozen 0
   have f1 := hk1.frozen 1
   have y0 : w1.cell? ⟨rb, 0, none⟩ = some (.int .u32 0) := by rw [hk1.cell]; rfl
   have y1 : w1.cell? ⟨rb, 1, none⟩ = some (.slice none 0 0) := by rw [hk1.cell]; rfl
   have HB1 := Lib.hid (HB0.out.trans (hb1.mono HB0.out.size))
   have hk2 := (hk1.set_ 0 (.int .u32 0)).set_ 1 (.slice none 0 0)
   have q0 : ((w1.setCell ⟨rb, 0, none⟩ (.int .u32 0)).setCell ⟨rb, 1, none⟩ (.slice none 0 0)).cell? ⟨rb, 0, none⟩ = some (.int .u32 0) := by rw [hk2.cell]; rfl
   have q1 : ((w1.setCell ⟨rb, 0, none⟩ (.int .u32 0)).setCell ⟨rb, 1, none⟩ (.slice none 0 0)).cell? ⟨rb, 1, none⟩ = some (.slice none 0 0) := by rw [hk2.cell]; rfl
   have HBF : Hid (Below w.heap.size w ((w1.setCell ⟨rb, 0, none⟩ (.int .u32 0)).setCell ⟨rb, 1, none⟩ (.slice none 0 0))) := Below.setCell (Below.setCell HB1.out (by show _ ≤ rb; have := HRB.out; omega) _) (by show _ ≤ rb; have := HRB.out; omega) _
   clear hb1 hk1 hk2
   go_wp2
   obtain ⟨wf, hwf⟩ : ∃ wf, (w1.setCell ⟨rb, 0, none⟩ (.int .u32 0)).setCell ⟨rb, 1, none⟩ (.slice none 0 0) = wf := ⟨_, rfl⟩
   rw [hwf] at q0 q1 HBF ⊢
   refine bodyPost_ret (v := .tuple #[.agg #[.int .u32 0, .slice none 0 0], .int .i64 9]) (by simp [results, Tryz.results67, go_sem, q0, q1]; try rfl) rfl ?_
   exact ⟨_, rfl, World.ownsRow_nil _ _ _ _, HBF.out⟩
 | some p =>
   rw [hp] at R1
   have e1 : (if (some p : Option (List UInt8)).isSome = true then (0 : Int) else 9) = 0 := rfl
   rw [e1] at R1
   dsimp only [Option.getD_some] at R1
   have HG : Hid (G = if rightFlagsV (readFlags p).1 (readFlags p).2 = true ∧ pageB 2 (flagsB (readFlags p).1 (readFlags p).2) = b then some (readFlags p) else none) := by rw [← hG]; unfold getFlagsV; rw [hp]; exact rfl
   obtain ⟨ge, hge⟩ : ∃ ge, getErr G = ge := ⟨_, rfl⟩
   obtain ⟨gf, hgf⟩ : ∃ gf, flagsOr G = gf := ⟨_, rfl⟩
   rw [hge, hgf]
   obtain ⟨gfe, gfl⟩ := gf
   obtain ⟨gfn, hgfn⟩ : ∃ gfn, gfl.length = gfn := ⟨_, rfl⟩
   dsimp only
   rw [hgfn]
   have HGE := Lib.hid hge
   have HGF := Lib.hid hgf
   have HGN := Lib.hid hgfn
   clear hge hgf hgfn
   have hpl : p.length ≤ 60000 := by
    unfold pageGet at hp
    split at hp
    ·rename_i h
     injection hp with hp
     rw [← hp]; exact h.2.1
    ·cases hp
   obtain ⟨pn, hpn⟩ : ∃ pn, p.length = pn := ⟨_, rfl⟩
   rw [hpn] at R1 hpl
   have HPN := Lib.hid hpn
   clear hr hr0 hk0 hb0 hn2 hp e1 hpn hG
   go_enter Tryz.func67, Tryz.ntmps67
   go_wp2_with fail
   clear hw0 hrb
   refine R1.out.mono ?_
   rintro ev w1 ⟨v1, rfl, ho1, hb1⟩
   obtain ⟨A1, c1, e1, hr1⟩ := own8_reads ho1
   rw [HPN.out] at e1 hr1
   subst e1
   have R2 := Lib.hid (in_new A1 pn c1 p HPN.out (by omega) w1 hr1)
   have HB1 := Lib.hid hb1
   clear ho1 hr1 hb1 R1
   go_wp2_with fail
   refine R2.out.mono ?_
   rintro ev w2 ⟨i, vi, rfl, hi, hle, hb2⟩
   have hiw : w0.heap.size ≤ i := Nat.le_trans HB1.out.size hle
   have R3 := Lib.hid (in_N hi (by show p.length ≤ _; have := HPN.out; omega) 4 (by omega))
   have HB2 := Lib.hid (HB1.out.trans (hb2.mono HB1.out.size))
   have heN : (inN ⟨p, false⟩ 4).1 < 4294967296 := inN_lt _ 4
   have hrest : (inN ⟨p, false⟩ 4).2.rest.length ≤ 60000 := Nat.le_trans (inTake_rest _ _) (by show p.length ≤ _; have := HPN.out; omega)
   obtain ⟨eN, hen⟩ : ∃ eN, (inN ⟨p, false⟩ 4).1 = eN := ⟨_, rfl⟩
   obtain ⟨sa, hsa⟩ : ∃ sa, (inN ⟨p, false⟩ 4).2 = sa := ⟨_, rfl⟩
   have hrf : readFlags p = (eN, (inMarksL 1 (inN sa 2).1 (inN sa 2).2).1) := by rw [← hen, ← hsa]; rfl
   rw [hen] at heN R3
   rw [hsa] at hrest R3
   clear hi hb2 hle R2 hen hsa
   go_wp2_with fail
   refine R3.out.mono ?_
   rintro ev w3 ⟨rfl, ⟨v3, h3⟩, hb3⟩
   have hb03 := HB2.out.trans (hb3.toBelow HB2.out.size hiw)
   have hbx := (Below.refl w3.heap.size w3).alloc (Nat.le_refl _) (.cells #[.int .u32 (eN : Nat), .slice none 0 0] 130)
   have hxk : Blk (w3.alloc (.cells #[.int .u32 (eN : Nat), .slice none 0 0] 130)) w3.heap.size 130 #[.int .u32 (eN : Nat), .slice none 0 0] := Blk.new w3 _ _
   have h3x := h3.below hbx
   have hil := h3.cells.lt
   have hxi : w3.heap.size ≠ i := by omega
   have hx0 : w0.heap.size ≤ w3.heap.size := hb03.size
   have hb04 := hb03.trans (hbx.mono hb03.size)
   have R4 := Lib.hid (in_N h3x (by omega) 2 (by omega))
   have hcn : (inN sa 2).1 < 65536 := inN_lt _ 2
   have hrest2 : (inN sa 2).2.rest.length ≤ 60000 := Nat.le_trans (inTake_rest _ _) hrest
   obtain ⟨cnt, hcnt⟩ : ∃ cnt, (inN sa 2).1 = cnt := ⟨_, rfl⟩
   obtain ⟨s0, hs0⟩ : ∃ s0, (inN sa 2).2 = s0 := ⟨_, rfl⟩
   rw [hcnt, hs0] at R4 hrf
   rw [hcnt] at hcn
   rw [hs0] at hrest2
   have HRF := Lib.hid hrf
   have HX4 := Lib.hid hxk
   have HB4 := Lib.hid hb04
   clear h3 hb3 hb03 hbx hxk h3x hil hb04 R3 hcnt hs0 hrf
   go_wp2_with fail
   refine R4.out.mono ?_
   rintro ev w5 ⟨rfl, ⟨v5, h5⟩, hb5⟩
   have HX5 : Hid (Blk w5 w3.heap.size 130 #[.int .u32 (eN : Nat), .slice none 0 0]) := (hb5.block w3.heap.size HX4.out.lt hxi).trans HX4.out
   have HI5 := Lib.hid h5
   have HB5 := Lib.hid (HB4.out.trans (hb5.toBelow HB4.out.size hiw))
   clear h5 hb5 R4 HX4 HB4
   generalize w3.heap.size = xb at *
   have y51 : w5.cell? ⟨xb, 1, none⟩ = some (.slice none 0 0) := by rw [HX5.out.cell]; rfl
   go_wp2
   clear y51
   go_loopw [27] (fun k wr => ∃ (j : Nat) (vL vi : Value), k = .int .i64 j ∧ j ≤ cnt ∧ Hid (Blk wr xb 130 #[.int .u32 (eN : Nat), vL]) ∧ Hid (wr.ownsRow w0.heap.size 140 2 vL j (mcells (inMarksL 1 j s0).1)) ∧ Hid (InAt wr i (inMarksL 1 j s0).2 vi) ∧ Hid (Below w0.heap.size w0 wr)) (fun k _ => cnt - (intOf k).toNat)
   case atStart => exact ⟨0, _, v5, rfl, by omega, HX5, World.ownsRow_nil _ _ _ _, HI5, HB5⟩
   case round =>
    obtain ⟨j, vL, vi, rfl, hj, hx, ho, hi, hb⟩ := hrel
    have hsz := hb.out.size
    by_cases hlt : j < cnt
    ·have hbd : Below wr.heap.size wr wr.drew := (Below.refl _ _).drew
     have hrl : (inMarksL 1 j s0).2.rest.length ≤ 1000000 := Nat.le_trans (inMarksL_rest 1 j s0) (by omega)
     have R6 := Lib.hid (in_NZ (hi.out.below hbd) hrl 4 4 rfl (by omega))
     have hst : inMarksL 1 (j + 1) s0 = ((inMarksL 1 j s0).1 ++ [((inN (inMarksL 1 j s0).2 4).1, ((inN (inN (inMarksL 1 j s0).2 4).2 1).1 : Int))], (inN (inN (inMarksL 1 j s0).2 4).2 1).2) := rfl
     have hxu : (inN (inMarksL 1 j s0).2 4).1 < 4294967296 := inN_lt _ 4
     have hxf : (inN (inN (inMarksL 1 j s0).2 4).2 1).1 < 256 := inN_lt _ 1
     have hrl2 : (inN (inMarksL 1 j s0).2 4).2.rest.length ≤ 1000000 := Nat.le_trans (inTake_rest _ _) hrl
     obtain ⟨lj, hlj⟩ : ∃ lj, (inMarksL 1 j s0).1 = lj := ⟨_, rfl⟩
     obtain ⟨sj, hsj⟩ : ∃ sj, (inMarksL 1 j s0).2 = sj := ⟨_, rfl⟩
     rw [hlj] at ho hst
     rw [hsj] at hst R6 hi hxu hxf hrl2
     obtain ⟨xu, hxue⟩ : ∃ xu, (inN sj 4).1 = xu := ⟨_, rfl⟩
     obtain ⟨s1, hs1⟩ : ∃ s1, (inN sj 4).2 = s1 := ⟨_, rfl⟩
     rw [hxue] at hst R6 hxu
     rw [hs1] at hst R6 hxf hrl2
     have R7 := Lib.hid (fun (w' : World) (v' : Value) (h' : InAt w' i s1 v') => in_NZ h' hrl2 1 1 rfl (by omega))
     obtain ⟨xf, hxfe⟩ : ∃ xf, (inN s1 1).1 = xf := ⟨_, rfl⟩
     obtain ⟨s2, hs2⟩ : ∃ s2, (inN s1 1).2 = s2 := ⟨_, rfl⟩
     rw [hxfe] at hst R7 hxf
     rw [hs2] at hst R7
     obtain ⟨j1, hj1⟩ : ∃ j1, j + 1 = j1 := ⟨_, rfl⟩
     have hj1b : j1 ≤ 1000000 := by omega
     have HJ1 := Lib.hid hj1
     rw [hj1] at hst
     have HST := Lib.hid hst
     have hwu : IntKind.u32.wrap (xu : Int) = (xu : Int) := by rw [IntKind.wrap_u32']; omega
     have c0 : wr.cell? ⟨xb, 1, none⟩ = some vL := by rw [hx.out.cell]; rfl
     have hxl := hx.out.lt
     clear hst hlj hsj hxue hs1 hxfe hs2 hrl hrl2 hj1
     go_wp2_with fail
     go_region_with (first
      | ((with_reducible refine R6.out.mono ?_); rintro ev w6 ⟨rfl, ⟨v6, h6⟩, hb6⟩; have c6 : w6.cell? ⟨xb, 1, none⟩ = some vL := (World.cell?_of_block (hb6.block xb hxl hxi)).trans c0; have h7 := R7.out w6 v6 h6; have hx6 : Hid (Blk w6 xb 130 #[.int .u32 (eN : Nat), vL]) := (hb6.block xb hxl hxi).trans hx.out; have ho6 := Lib.hid (own_keep (w' := w6) ho.out (fun g hg => hb6.block g (ho.out.lt g hg).2 (own_ne ho.out hi.out.cells (by decide) g hg))); have HI6 := Lib.hid h6.cells; have hB6 := Lib.hid (hb.out.trans ((hbd.mono hsz).trans (hb6.toBelow hsz hiw))); have R8 := Lib.hid h7; clear h6 h7)
      | ((with_reducible refine R8.out.mono ?_); rintro ev w7 ⟨rfl, ⟨v7, h7⟩, hb7⟩; have hxl6 := hx6.out.lt; have hx7 : Blk w7 xb 130 #[.int .u32 (eN : Nat), vL] := (hb7.block xb hxl6 hxi).trans hx6.out; have hxl7 : xb < w7.heap.size := hx7.lt; have c7 : w7.cell? ⟨xb, 1, none⟩ = some vL := (World.cell?_of_block (hb7.block xb hxl6 hxi)).trans c6; have ho7 := own_keep (w' := w7) ho6.out (fun g hg => hb7.block g (ho6.out.lt g hg).2 (own_ne ho6.out HI6.out (by decide) g hg)); have hB7 := hB6.out.trans (hb7.toBelow hB6.out.size hiw); have hfr := flags_round (xu := xu) (xn := (xf : Nat)) hB7 hx0 hx7 ho7 HJ1.out hj1b h7 hxi; obtain ⟨A8, c8, w8, E8, c9, f9, HF8⟩ := hfr; clear h7 hx7 ho7 hB7 hb7))
     all_goals (try go_wp2_with fail)
     all_goals go_roundw
     all_goals first
      | exact ⟨j1, _, v7, by rw [← HJ1.out]; go_num, by have := HJ1.out; omega, HF8.out.1, (by rw [HST.out]; exact HF8.out.2.1), (by rw [HST.out]; exact HF8.out.2.2.1), HF8.out.2.2.2⟩
      | (simp [intOf]; omega)
    ·obtain rfl : j = cnt := by omega
     obtain ⟨L, hL⟩ : ∃ L, (inMarksL 1 j s0).1 = L := ⟨_, rfl⟩
     have hLl : L.length = j := by rw [← hL]; exact inMarksL_len _ _ _
     have hLu : ∀ q ∈ L, q.1 < 4294967296 := by rw [← hL]; exact inMarksL_uid _ _ _
     have hrf := HRF.out
     rw [hL] at hrf
     have hg2 := HG.out
     rw [hrf] at hg2
     dsimp only at hg2
     have hol := ho.out
     rw [hL] at hol
     obtain ⟨AL, cL, rfl, hrL, hcL⟩ := own_reads hol
     have R10 := Lib.hid (putFlags_any AL cL j eN L wr hLu heN hLl (by omega) hrL)
     have HOL := Lib.hid hol
     have HLL := Lib.hid hLl
     have HG2 := Lib.hid hg2
     have x0 : wr.cell? ⟨xb, 0, none⟩ = some (.int .u32 (eN : Nat)) := by rw [hx.out.cell]; rfl
     have x1 : wr.cell? ⟨xb, 1, none⟩ = some (.slice AL j cL) := by rw [hx.out.cell]; rfl
     clear hol hrL hcL hLl hLu hg2 hrf hL ho hi HRF HG
     go_wp2_with fail
     refine R10.out.mono ?_
     rintro ev w8 ⟨r8, rfl, ho8, hb8⟩
     obtain ⟨A8, c8, rfl, hr8⟩ := own8_reads ho8
     have hB8 := hb.out.trans (hb8.mono hsz)
     have R11 := Lib.hid (same_any A8 A (flagsPage eN L).length c8 n c (flagsPage eN L) b (flagsErr eN L) w8 rfl HN.out hr8 ((HR.out.below hB8).more hB8.size))
     have HO8 := Lib.hid (own_below HOL.out hb8)
     have HX8 := Lib.hid (hx.out.below hb8 hx.out.lt)
     have HK8 := Lib.hid (HK.out.below hB8 HK.out.lt)
     have HB8 := Lib.hid hB8
     have hres : (decide (flagsErr eN L = 0) && (flagsPage eN L == b)) = decide (rightFlagsV eN L = true ∧ pageB 2 (flagsB eN L) = b) := by
      unfold flagsErr flagsPage
      cases rightFlagsV eN L
      ·simp
      ·simp only [if_pos, decide_true, Bool.true_and, true_and]
       rw [Bool.eq_iff_iff]; simp
     rw [hres] at R11
     obtain ⟨q, hq⟩ : ∃ q, decide (rightFlagsV eN L = true ∧ pageB 2 (flagsB eN L) = b) = q := ⟨_, rfl⟩
     rw [hq] at R11
     have HQ := Lib.hid hq
     generalize (flagsPage eN L).length = tn at *
     generalize flagsErr eN L = te at *
     clear ho8 hb8 hr8 hB8 hres hq R10 x0 x1
     go_wp2_with fail
     refine R11.out.mono ?_
     rintro ev w9 ⟨rfl, rfl⟩
     have z0 : w9.cell? ⟨xb, 0, none⟩ = some (.int .u32 (eN : Nat)) := by rw [HX8.out.cell]; rfl
     have z1 : w9.cell? ⟨xb, 1, none⟩ = some (.slice AL j cL) := by rw [HX8.out.cell]; rfl
     have y0 : w9.cell? ⟨rb, 0, none⟩ = some (.int .u32 0) := by rw [HK8.out.cell]; rfl
     have y1 : w9.cell? ⟨rb, 1, none⟩ = some (.slice none 0 0) := by rw [HK8.out.cell]; rfl
     have f0 := HK8.out.frozen 0
     have f1 := HK8.out.frozen 1
     have hrw : w.heap.size ≤ rb := by have := HRB.out; omega
     have HBW := Lib.hid (HB0.out.trans (HB8.out.mono HB0.out.size))
     cases q with
     | true =>
       have hqq := of_decide_eq_true HQ.out
       have hgg : G = some (eN, L) := by rw [HG2.out, if_pos hqq]
       have hge : ge = 0 := by rw [← HGE.out, hgg]; rfl
       have hgf : (gfe, gfl) = (eN, L) := by rw [← HGF.out, hgg]; rfl
       injection hgf with hgf1 hgf2
       subst hge hgf1 hgf2
       have hgn : gfn = j := by rw [← HGN.out, HLL.out]
       subst hgn
       have hkf := HK8.out.set2 (a := .int .u32 (gfe : Nat)) (b := .slice AL gfn cL)
       have hof := own_keep (w' := (w9.setCell ⟨rb, 0, none⟩ (.int .u32 (gfe : Nat))).setCell ⟨rb, 1, none⟩ (.slice AL gfn cL)) HO8.out (fun g hg => by
        have hne := own_ne HO8.out HK8.out (by decide) g hg
        exact (Below.heap_setCell _ ⟨rb, 1, none⟩ _ g hne).trans (Below.heap_setCell _ ⟨rb, 0, none⟩ _ g hne))
       have HF : Hid ((((w9.setCell ⟨rb, 0, none⟩ (.int .u32 (gfe : Nat))).setCell ⟨rb, 1, none⟩ (.slice AL gfn cL)).cell? ⟨rb, 0, none⟩ = some (.int .u32 (gfe : Nat)) ∧ ((w9.setCell ⟨rb, 0, none⟩ (.int .u32 (gfe : Nat))).setCell ⟨rb, 1, none⟩ (.slice AL gfn cL)).cell? ⟨rb, 1, none⟩ = some (.slice AL gfn cL)) ∧
        ((w9.setCell ⟨rb, 0, none⟩ (.int .u32 (gfe : Nat))).setCell ⟨rb, 1, none⟩ (.slice AL gfn cL)).ownsRow w.heap.size 140 2 (.slice AL gfn cL) gfn (mcells gfl) ∧ Below w.heap.size w ((w9.setCell ⟨rb, 0, none⟩ (.int .u32 (gfe : Nat))).setCell ⟨rb, 1, none⟩ (.slice AL gfn cL))) :=
        ⟨⟨by rw [hkf.cell]; rfl, by rw [hkf.cell]; rfl⟩, own_mono hof HB0.out.size, Below.setCell (Below.setCell HBW.out hrw _) hrw _⟩
       clear hkf hof hgg hqq
       go_wp2
       obtain ⟨wf, hwf⟩ : ∃ wf, (w9.setCell ⟨rb, 0, none⟩ (.int .u32 (gfe : Nat))).setCell ⟨rb, 1, none⟩ (.slice AL gfn cL) = wf := ⟨_, rfl⟩
       rw [hwf] at HF ⊢
       obtain ⟨⟨q0, q1⟩, hof, hbf⟩ := HF.out
       refine bodyPost_ret (v := .tuple #[.agg #[.int .u32 (gfe : Nat), .slice AL gfn cL], .int .i64 0]) (by simp [results, Tryz.results67, go_sem, q0, q1]; try rfl) rfl ?_
       exact ⟨_, rfl, hof, hbf⟩
     | false =>
       have hqq := of_decide_eq_false HQ.out
       have hgg : G = none := by rw [HG2.out, if_neg hqq]
       have hge : ge = 9 := by rw [← HGE.out, hgg]; rfl
       have hgf : (gfe, gfl) = (0, []) := by rw [← HGF.out, hgg]; rfl
       injection hgf with hgf1 hgf2
       subst hge hgf1 hgf2
       have hgn : gfn = 0 := by rw [← HGN.out]; rfl
       subst hgn
       have hkf := HK8.out.set2 (a := .int .u32 0) (b := .slice none 0 0)
       have HF : Hid ((((w9.setCell ⟨rb, 0, none⟩ (.int .u32 0)).setCell ⟨rb, 1, none⟩ (.slice none 0 0)).cell? ⟨rb, 0, none⟩ = some (.int .u32 0) ∧ ((w9.setCell ⟨rb, 0, none⟩ (.int .u32 0)).setCell ⟨rb, 1, none⟩ (.slice none 0 0)).cell? ⟨rb, 1, none⟩ = some (.slice none 0 0)) ∧
        Below w.heap.size w ((w9.setCell ⟨rb, 0, none⟩ (.int .u32 0)).setCell ⟨rb, 1, none⟩ (.slice none 0 0))) :=
        ⟨⟨by rw [hkf.cell]; rfl, by rw [hkf.cell]; rfl⟩, Below.setCell (Below.setCell HBW.out hrw _) hrw _⟩
       clear hkf hgg hqq
       go_wp2
       obtain ⟨wf, hwf⟩ : ∃ wf, (w9.setCell ⟨rb, 0, none⟩ (.int .u32 0)).setCell ⟨rb, 1, none⟩ (.slice none 0 0) = wf := ⟨_, rfl⟩
       rw [hwf] at HF ⊢
       obtain ⟨⟨q0, q1⟩, hbf⟩ := HF.out
       refine bodyPost_ret (v := .tuple #[.agg #[.int .u32 0, .slice none 0 0], .int .i64 9]) (by simp [results, Tryz.results67, go_sem, q0, q1]; try rfl) rfl ?_
       exact ⟨_, rfl, World.ownsRow_nil _ _ _ _, hbf⟩
end Go.Proofs.YtkljkbeahdipfaaGreatDoor
/-
  Walk: an index that is formed.
-/
namespace Go.Proofs.YtkljkbeahdipfaaGreatDoor
open Go.RowKit
set_option linter.unusedSimpArgs false
set_option linter.unusedVariables false
def goodE (nx : Nat) (q : MarkM) : Bool := (decide (q.1 < nx) || decide (nx = 4294967295)) && decide (0 ≤ q.2) && decide (q.2 ≤ 4294967295)
def rightIndexV (nm : ByteArray) (e nx : Nat) (u : Int) (l : List MarkM) : Bool := marksN (goodE nx) l l.length && nameIs nm && decide (1 ≤ e) && decide (1 ≤ nx) && decide (0 ≤ u) && decide (u ≤ 4294967295) && decide (l.length ≤ 500)
theorem mstepE (nx : Nat) (l : List MarkM) (j xu : Nat) (xf : Int) : mstep (goodE nx) l j (xu, xf) = !(decide (xu ≤ lastN_Mark l j) || decide (nx ≤ xu) && ((nx : Int) != 4294967295) || decide (xf < 0) || decide (4294967295 < xf)) := by
 unfold mstep goodE
 rw [Bool.eq_iff_iff]
 simp
 omega
theorem one_le (e : Nat) : decide ((1 : Int) ≤ (e : Int)) = decide (1 ≤ e) := by rw [Bool.eq_iff_iff]; simp; omega
theorem nat_le500 (e : Nat) : decide ((e : Int) ≤ 500) = decide (e ≤ 500) := by rw [Bool.eq_iff_iff]; simp; omega
set_option maxRecDepth 100000 in
set_option maxHeartbeats 1000000 in
theorem rightIndex_any (nm : ByteArray) (A : Option Addr) (c n e nx : Nat) (u : Int) (l : List MarkM) (w : World) (hm : MaxCell w) (hg : 0 < w.heap.size) (hs : nm.size ≤ 9223372036854775807) (hu : ∀ q ∈ l, q.1 < 4294967296) (hnx : nx < 4294967296) (hl : l.length = n) (hn : n ≤ 9223372036854775807) (hr : Reads w w.heap.size 2 A n (mcells l)) :
 Calls Tryz.prog 127 #[.agg #[.string nm, .int .u32 (e : Nat), .int .u32 (nx : Nat), .int .i64 u, .slice A n c]] w fun ev w' => ev = .returned (.bool (rightIndexV nm e nx u l)) ∧ Below w.heap.size w w' := by
 refine calls_at 71 Tryz.func127 rfl rfl (Nat.le_of_ble_eq_true rfl) ?_
 intro a hA; replace hA := hA.norm
 refine wS (wR ?_)
 refine wl_new hA rfl rfl (by decide) (fun ev h => by simp [go_sem, h.get 0 rfl]; try first | exact ⟨rfl, rfl⟩ | rfl) fun w1 a (K : Blk _ _ _ _) hz hb0 hA => ?_
 replace hr := (hr.below hb0).more hb0.size
 replace hm := hm.below hg hb0; replace hg := Nat.lt_of_lt_of_le hg hb0.size
 have HB := Below.refl w1.heap.size w1
 revert a; refine wo rfl rfl (by decide) (fun ev e h => by simp [go_sem, h, (K.below HB K.lt).cell] <;> rfl) ?_; intro a hA
 replace hA := hA.keepN [1]
 refine wN (nT (wS (wR ?_)))
 revert a; refine wo rfl rfl (by decide) (fun ev e h => by simp [go_sem, h, (K.below HB K.lt).cell] <;> rfl) ?_; intro a hA
 replace hA := hA.keepN [1, 3]
 refine wN (nT (wS (wS (wR ?_))))
 revert a; (iterate 4 refine wo rfl rfl (by decide) (fun ev e h => by simp [go_sem, h, (K.below HB K.lt).cell] <;> rfl) ?_); intro a hA
 replace hA := hA.keepN [1, 3, 7, 8, 9]
 refine wN (nT (wB ?_))
 refine wp_loop_at (fun k a wx => ∃ (j : Nat), j + k = n ∧ At 71 [(1, .pointer (some ⟨w.heap.size, 0, none⟩)), (3, .int .u32 (lastN_Mark l j : Nat)), (7, .slice A n c), (8, .int .i64 (n : Nat)), (9, .int .i64 (j : Nat))] a ∧ marksN (goodE nx) l j = true ∧ Below w1.heap.size w1 wx) (n) ?_ ?_
 ·exact ⟨0, by omega, hA, rfl, HB⟩
 rintro k a wx ⟨j, hjk, hA, hall, HB⟩
 refine wS (wR ?_)
 revert a; refine wo rfl rfl (by decide) (fun ev e h => by simp [go_sem, h, (K.below HB K.lt).cell] <;> rfl) ?_; intro a hA
 replace hA := hA.keepN [1, 3, 7, 8, 9, 10]
 refine wN (nT (wS ?_))
 refine wp_if hA 10 _ rfl (fun hq => ?yL) (fun hq => ?nL)
 case yL =>
  have hlt : j < n := by simp at hq; omega
  obtain ⟨x, hx⟩ : ∃ x, l[j]? = some x := ⟨_, List.getElem?_eq_getElem (by omega)⟩
  obtain ⟨ad, rfl, hadl, hc⟩ := hr.2 (by omega)
  obtain ⟨k0, k1⟩ := mark_at hc hx
  have hadl' : (ad.add (j * 2)).block < w1.heap.size := by rw [block_of_add]; exact hadl
  obtain ⟨xu, xf⟩ := x
  have hxu := hu _ (List.mem_of_getElem? hx)
  simp only at k0 k1 hxu
  have z0 := (HB.cell hadl').trans k0
  have z1 := (HB.cell (p := ⟨(ad.add (j * 2)).block, (ad.add (j * 2)).off + 1, none⟩) hadl').trans k1
  have jj0 : (0 : Int) ≤ (j : Int) := by omega
  have jj1 : (j : Int) < (n : Int) := by omega
  have K0 := K.below HB K.lt
  refine wp_skip (nT (wS (wB (wS (wR ?_)))))
  revert a; (iterate 2 refine wo rfl rfl (by decide) (fun ev e h => by simp [go_sem, h, K0.cell, z0, z1, jj0, jj1] <;> rfl) ?_); intro a hA
  refine wl_local [.int .u32 (xu : Nat), .int .i64 xf] hA rfl rfl (by decide) (fun ev h => by simp [go_sem, K0.cell, z0, z1, jj0, jj1]; try first | exact ⟨rfl, rfl⟩ | rfl) rfl rfl (by rfl) (fun w1 g ev hb h => by simp [go_sem, h.get 5 rfl, h.get 12 rfl, K0.cell, z0, z1, jj0, jj1, setAll, hb.cell, hb.frozen]) fun w2 a (Ke : Blk _ _ _ _) hz hb hA => ?_
  replace K0 := K0.below hb K0.lt
  replace HB := HB.trans (hb.mono HB.size)
  replace hA := hA.keepN [1, 3, 5, 7, 8, 9]
  refine wN (nT (wS (wS (wR ?_))))
  revert a; (iterate 5 refine wo rfl rfl (by decide) (fun ev e h => by simp [go_sem, h, K0.cell, Ke.cell] <;> rfl) ?_); (iterate 5 refine wg _ rfl rfl rfl rfl (by decide) (fun hq ev e h => by simp [go_sem, h, ↓gw_t (beq_t hq), K0.cell, Ke.cell] <;> rfl) ?_); intro a hA
  replace hA := hA.keepN [1, 5, 7, 8, 9, 17, 22]
  revert a; refine wg _ rfl rfl rfl rfl (by decide) (fun hq ev e h => by simp [go_sem, h, ↓gw_t (beq_t hq), K0.cell, Ke.cell] <;> rfl) ?_; (iterate 3 refine wg2 _ _ rfl rfl rfl rfl (by decide) (fun hq hr ev e h => by simp [go_sem, h, ↓gw_t (and_beq hq hr), ↓gw_t hq, K0.cell, Ke.cell] <;> rfl) ?_); intro a hA
  refine wl_guard _ hA rfl rfl rfl rfl (by decide) (fun hq ev h => by exact pick_and rfl (((h.get 23 rfl).trans (gw_t (beq_t hq)))) (((h.get 26 rfl).trans (gw_a (beq_t hq)))) (h.c _)) fun a hA => ?_
  revert a; refine wko rfl rfl (by decide) rfl rfl rfl ?_; refine wo rfl rfl (by decide) (fun ev e h => by simp [go_sem, h, K0.cell, Ke.cell] <;> rfl) ?_; (iterate 3 refine wg _ rfl rfl rfl rfl (by decide) (fun hq ev e h => by simp [go_sem, h, ↓gw_t (beq_t hq), K0.cell, Ke.cell] <;> rfl) ?_); intro a hA
  replace hA := hA.keepN [1, 5, 7, 8, 9, 29, 32]
  revert a; refine wko rfl rfl (by decide) rfl rfl rfl ?_; refine wo rfl rfl (by decide) (fun ev e h => by simp [go_sem, h, K0.cell, Ke.cell] <;> rfl) ?_; (iterate 3 refine wg _ rfl rfl rfl rfl (by decide) (fun hq ev e h => by simp [go_sem, h, ↓gw_t (beq_t hq), K0.cell, Ke.cell] <;> rfl) ?_); refine wko rfl rfl (by decide) rfl rfl rfl ?_; intro a hA
  replace hA := hA.keepN [1, 5, 7, 8, 9, 38]
  refine wN (nT ?_)
  have hme := mstepE nx l j xu xf
  obtain ⟨q, hqe⟩ : ∃ q, (decide (xu ≤ lastN_Mark l j) || decide (nx ≤ xu) && ((nx : Int) != 4294967295) || decide (xf < 0) || decide (4294967295 < xf)) = q := ⟨_, rfl⟩
  rw [hqe] at hme hA
  refine wp_if hA 38 _ rfl (fun hq => ?yR) (fun hq => ?nR)
  case yR =>
   subst hq
   refine wS (wR ?_)
   revert a; refine wo rfl rfl (by decide) (fun ev e h => by simp [go_sem, h, K0.cell, Ke.cell] <;> rfl) ?_; intro a hA
   replace hA := hA.keepN [2]
   refine wN (nT (wp_ret (rT (rB (rT (rT (rB (rT ?_))))))))
   refine ret_1 hA 2 rfl rfl ?_
   exact ⟨ret_bool (by unfold rightIndexV; rw [marks_no hx hme]; simp), hb0.trans (HB.mono hb0.size)⟩
  case nR =>
   subst hq
   have hj1 : ((j : Int) + 1) = ((j + 1 : Nat) : Int) := by omega
   have hwj : IntKind.i64.wrap ((j : Int) + 1) = (j : Int) + 1 := IntWalk.i64_in _ (by omega)
   refine wp_skip (nT (wR ?_))
   revert a; (iterate 3 refine wo rfl rfl (by decide) (fun ev e h => by simp [go_sem, h, K0.cell, Ke.cell, hwj] <;> rfl) ?_); intro a hA
   replace hA := hA.keepN [1, 3, 7, 8, 9]
   refine wN (nB (nT (wR ?_)))
   revert a; (iterate 2 refine wo rfl rfl (by decide) (fun ev e h => by simp [go_sem, h, K0.cell, Ke.cell, hwj] <;> rfl) ?_); intro a hA
   replace hA := hA.keepN [1, 3, 7, 8, 9]
   refine wN (nT ?_)
   have hxl := lastN_succ hx
   simp only at hxl
   rw [← hxl, hj1] at hA
   exact ⟨k - 1, by omega, j + 1, by omega, hA, by rw [marksN_succ _ hx, hall, hme]; rfl, HB⟩
 case nL =>
  have hjn : j = n := by simp at hq; omega
  subst hjn
  have K0 := K.below HB K.lt
  replace hA := hA.keepN [1]
  refine wp_exit (xT (xT (xB (nT (wS (wR ?_))))))
  revert a; (iterate 2 refine wo rfl rfl (by decide) (fun ev e h => by simp [go_sem, h, K0.cell] <;> rfl) ?_); intro a hA
  refine wl_call hA rfl rfl (by decide) (fun ev h => exec_call Tryz.func185 (by kernel_rfl) rfl (h.f _) (by first | (simp only [mL, h.get 43 rfl, h.c] <;> rfl) | (simp [mL, h.get 43 rfl, h.c, K0.cell] <;> rfl))) (named_any nm hs wx (hm.below hg HB)) ?_
  rintro e w2 ⟨rfl, hb⟩
  refine ⟨_, rfl, fun a hA => ?_⟩
  replace K0 := K0.below hb K0.lt
  replace HB := HB.trans (hb.mono HB.size)
  revert a; refine wo rfl rfl (by decide) (fun ev e h => by simp [go_sem, h, K0.cell] <;> rfl) ?_; (iterate 3 refine wg _ rfl rfl rfl rfl (by decide) (fun hq ev e h => by simp [go_sem, h, ↓gw_t (beq_t hq), K0.cell] <;> rfl) ?_); refine wka rfl rfl (by decide) rfl rfl rfl ?_; refine wo rfl rfl (by decide) (fun ev e h => by simp [go_sem, h, K0.cell] <;> rfl) ?_; (iterate 2 refine wg _ rfl rfl rfl rfl (by decide) (fun hq ev e h => by simp [go_sem, h, ↓gw_t (beq_t hq), K0.cell] <;> rfl) ?_); intro a hA
  replace hA := hA.keepN [1, 50, 52]
  revert a; refine wg _ rfl rfl rfl rfl (by decide) (fun hq ev e h => by simp [go_sem, h, ↓gw_t (beq_t hq), K0.cell] <;> rfl) ?_; refine wka rfl rfl (by decide) rfl rfl rfl ?_; refine wo rfl rfl (by decide) (fun ev e h => by simp [go_sem, h, K0.cell] <;> rfl) ?_; (iterate 3 refine wg _ rfl rfl rfl rfl (by decide) (fun hq ev e h => by simp [go_sem, h, ↓gw_t (beq_t hq), K0.cell] <;> rfl) ?_); refine wka rfl rfl (by decide) rfl rfl rfl ?_; refine wo rfl rfl (by decide) (fun ev e h => by simp [go_sem, h, K0.cell] <;> rfl) ?_; (iterate 2 refine wg _ rfl rfl rfl rfl (by decide) (fun hq ev e h => by simp [go_sem, h, ↓gw_t (beq_t hq), K0.cell] <;> rfl) ?_); intro a hA
  replace hA := hA.keepN [1, 60, 62]
  revert a; refine wg _ rfl rfl rfl rfl (by decide) (fun hq ev e h => by simp [go_sem, h, ↓gw_t (beq_t hq), K0.cell] <;> rfl) ?_; refine wka rfl rfl (by decide) rfl rfl rfl ?_; refine wo rfl rfl (by decide) (fun ev e h => by simp [go_sem, h, K0.cell] <;> rfl) ?_; (iterate 4 refine wg _ rfl rfl rfl rfl (by decide) (fun hq ev e h => by simp [go_sem, h, ↓gw_t (beq_t hq), K0.cell] <;> rfl) ?_); refine wka rfl rfl (by decide) rfl rfl rfl ?_; refine wo rfl rfl (by decide) (fun ev e h => by simp [go_sem, h, K0.cell] <;> rfl) ?_; intro a hA
  replace hA := hA.keepN [2]
  refine wN (nT (wp_ret ?_))
  refine ret_1 hA 2 rfl rfl ?_
  exact ⟨ret_bool (by unfold rightIndexV; rw [hl, hall]; simp only [one_le, nat_le500, Bool.true_and]), hb0.trans (HB.mono hb0.size)⟩
end Go.Proofs.YtkljkbeahdipfaaGreatDoor
