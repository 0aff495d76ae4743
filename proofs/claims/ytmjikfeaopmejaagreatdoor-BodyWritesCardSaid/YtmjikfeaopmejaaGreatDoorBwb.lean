/-
  Walk: a block's words (sum.schedule), the numbers that the steps add (sum.steps).
-/
import Derived.Test.YtmjikfeaopmejaaGreatDoorBwa
import Derived.Laws.AppendOwn
import Derived.Maps.AppendAt
namespace Go.Proofs.YtmjikfeaopmejaaGreatDoor
open Go.RowKit
set_option linter.unusedSimpArgs false
set_option linter.unusedVariables false
def u32v (x : Nat) : Value := .int .u32 (x : Nat)
theorem bits_31 {n : Nat} (h1 : 1 ≤ n) (h2 : n ≤ 31) : bits .and .u64 (IntKind.u64.wrap (-(n : Int))) 31 = ((32 - n : Nat) : Int) := by
  have hb : ∀ m : Fin 32, 1 ≤ m.1 → bits .and .u64 (IntKind.u64.wrap (-(m.1 : Int))) 31 = ((32 - m.1 : Nat) : Int) := by decide +kernel
  exact hb ⟨n, by omega⟩ h1
theorem shl_u32 (x n : Nat) (h : n ≤ 32) : IntKind.u32.wrap ((x : Int) * 2 ^ n) = ((x <<< n % 4294967296 : Nat) : Int) := by
  rw [IntKind.wrap_u32', Nat.shiftLeft_eq, Int.natCast_emod, Int.natCast_mul, Int.natCast_pow]; rfl
theorem shr_u32 (x n : Nat) : (x : Int) / 2 ^ n = ((x >>> n : Nat) : Int) := by
  rw [Nat.shiftRight_eq_div_pow, Int.natCast_ediv, Int.natCast_pow]; rfl
theorem rot_any (x n : Nat) (m : Int) (hm : m = -(n : Int)) (hx : x < 4294967296) (h1 : 1 ≤ n) (h2 : n ≤ 31) (w : World) :
    Calls Tryz.prog 96 #[.int .u32 (x : Nat), .int .i64 m] w fun ev w' => ev = .returned (.int .u32 (rotr x n : Nat)) ∧ w' = w := by
  obtain ⟨q, hq⟩ : ∃ q, 32 - n = q := ⟨_, rfl⟩
  have hb := bits_31 h1 h2
  rw [hq, ← hm] at hb
  have hw : IntKind.u64.wrap (32 - (q : Int)) = (n : Int) := by rw [IntWalk.u64_in _ (by omega)]; omega
  have s1 : Op.shift .shl .u32 (x : Int) .u64 (q : Int) = pure (.int .u32 ((x <<< q % 4294967296 : Nat) : Int)) := by
    rw [shift_shl_any _ _ _ _ (by omega), show min (q : Int).toNat IntKind.u32.bits = q by show min (q : Int).toNat 32 = q; omega, shl_u32 _ _ (by omega)]
  have s2 : Op.shift .shr .u32 (x : Int) .u64 (n : Int) = pure (.int .u32 ((x >>> n : Nat) : Int)) := by
    rw [shift_shr_any _ _ _ _ (by omega), show min (n : Int).toNat IntKind.u32.bits = n by show min (n : Int).toNat 32 = n; omega, shr_u32]
  have s4 := shr_u32 x n
  obtain ⟨y, hy⟩ : ∃ y, x <<< q % 4294967296 = y := ⟨_, rfl⟩
  obtain ⟨z, hz⟩ : ∃ z, x >>> n = z := ⟨_, rfl⟩
  have ly : y < 4294967296 := by rw [← hy]; exact Nat.mod_lt _ (by decide)
  have lz : z < 4294967296 := by rw [← hz, Nat.shiftRight_eq_div_pow]; exact Nat.lt_of_le_of_lt (Nat.div_le_self _ _) hx
  have hr := rotr_u32 (n := n) hx
  rw [hq, hy, hz] at hr
  rw [hy] at s1
  rw [hz] at s2 s4
  have s3 := u32_or_nat y z ly lz
  rw [hr] at s3
  clear hy hz hr hq hm
  refine calls_at 17 Tryz.func96 rfl rfl (Nat.le_of_ble_eq_true rfl) ?_
  intro a hA
  simp only [argsE, keepE, lookS, Nat.reduceBEq, cond_true, cond_false, Nat.reduceAdd, gv_tt, gv_ff, Bool.true_and, Bool.false_and, Bool.true_or, Bool.false_or] at hA
  refine wp_seq ?_
  refine wp_region_lit ?_
  refine wl_op hA rfl rfl (by decide) (fun ev h => by simp [go_sem, h.c, hb, hw, s1, s2, s3, s4]; try first | exact ⟨rfl, rfl⟩ | rfl) fun a1 hA1 => ?_
  refine wl_nil ?_
  refine n_then ?_
  have hA2 := hA1.keep [0, 1]
  simp only [argsE, keepE, lookS, Nat.reduceBEq, cond_true, cond_false, Nat.reduceAdd, gv_tt, gv_ff, Bool.true_and, Bool.false_and, Bool.true_or, Bool.false_or] at hA2
  clear hA hA1
  refine wp_seq ?_
  refine wp_region_lit ?_
  refine wl_op hA2 rfl rfl (by decide) (fun ev h => by simp [go_sem, h.get 1 rfl, hb, hw, s1, s2, s3, s4]; try first | exact ⟨rfl, rfl⟩ | rfl) fun a3 hA3 => ?_
  refine wl_op hA3 rfl rfl (by decide) (fun ev h => by simp [go_sem, h.get 6 rfl, hb, hw, s1, s2, s3, s4]; try first | exact ⟨rfl, rfl⟩ | rfl) fun a4 hA4 => ?_
  refine wl_op hA4 rfl rfl (by decide) (fun ev h => by simp [go_sem, h.c, h.get 7 rfl, hb, hw, s1, s2, s3, s4]; try first | exact ⟨rfl, rfl⟩ | rfl) fun a5 hA5 => ?_
  refine wl_op hA5 rfl rfl (by decide) (fun ev h => by simp [go_sem, h.get 8 rfl, hb, hw, s1, s2, s3, s4]; try first | exact ⟨rfl, rfl⟩ | rfl) fun a6 hA6 => ?_
  refine wl_nil ?_
  refine n_then ?_
  have hA7 := hA6.keep [0, 5]
  simp only [argsE, keepE, lookS, Nat.reduceBEq, cond_true, cond_false, Nat.reduceAdd, gv_tt, gv_ff, Bool.true_and, Bool.false_and, Bool.true_or, Bool.false_or] at hA7
  clear hA2 hA3 hA4 hA5 hA6 a1 a3 a4 a5
  refine wp_seq ?_
  refine wp_region_lit ?_
  refine wl_op hA7 rfl rfl (by decide) (fun ev h => by simp [go_sem, h.get 0 rfl, hb, hw, s1, s2, s3, s4]; try first | exact ⟨rfl, rfl⟩ | rfl) fun a8 hA8 => ?_
  refine wl_op hA8 rfl rfl (by decide) (fun ev h => by simp [go_sem, h.get 5 rfl, hb, hw, s1, s2, s3, s4]; try first | exact ⟨rfl, rfl⟩ | rfl) fun a9 hA9 => ?_
  refine wl_op hA9 rfl rfl (by decide) (fun ev h => by simp [go_sem, h.get 9 rfl, h.get 10 rfl, hb, hw, s1, s2, s3, s4]; try first | exact ⟨rfl, rfl⟩ | rfl) fun a10 hA10 => ?_
  refine wl_op hA10 rfl rfl (by decide) (fun ev h => by simp [go_sem, h.get 0 rfl, hb, hw, s1, s2, s3, s4]; try first | exact ⟨rfl, rfl⟩ | rfl) fun a11 hA11 => ?_
  refine wl_op hA11 rfl rfl (by decide) (fun ev h => by simp [go_sem, h.get 5 rfl, hb, hw, s1, s2, s3, s4]; try first | exact ⟨rfl, rfl⟩ | rfl) fun a12 hA12 => ?_
  refine wl_op hA12 rfl rfl (by decide) (fun ev h => by simp [go_sem, h.c, h.get 13 rfl, hb, hw, s1, s2, s3, s4]; try first | exact ⟨rfl, rfl⟩ | rfl) fun a13 hA13 => ?_
  refine wl_op hA13 rfl rfl (by decide) (fun ev h => by simp [go_sem, h.get 12 rfl, h.get 14 rfl, hb, hw, s1, s2, s3, s4]; try first | exact ⟨rfl, rfl⟩ | rfl) fun a14 hA14 => ?_
  refine wl_op hA14 rfl rfl (by decide) (fun ev h => by simp [go_sem, h.get 11 rfl, h.get 15 rfl, hb, hw, s1, s2, s3, s4]; try first | exact ⟨rfl, rfl⟩ | rfl) fun a15 hA15 => ?_
  refine wl_op hA15 rfl rfl (by decide) (fun ev h => by simp [go_sem, h.get 16 rfl, hb, hw, s1, s2, s3, s4]; try first | exact ⟨rfl, rfl⟩ | rfl) fun a16 hA16 => ?_
  refine wl_nil ?_
  refine n_then ?_
  have hA17 := hA16.keep [4]
  simp only [argsE, keepE, lookS, Nat.reduceBEq, cond_true, cond_false, Nat.reduceAdd, gv_tt, gv_ff, Bool.true_and, Bool.false_and, Bool.true_or, Bool.false_or] at hA17
  clear hA7 hA8 hA9 hA10 hA11 hA12 hA13 hA14 hA15 hA16 a6 a8 a9 a10 a11 a12 a13 a14 a15
  refine wp_ret ?_
  -- ret
  refine ret_1 hA17 4 rfl rfl ?_
  exact ⟨rfl, rfl⟩
/-- words, and noughts behind them -/
def shaCells (l : List Nat) : List Value := (l ++ List.replicate (64 - l.length) 0).map u32v
theorem shaCells_len {l : List Nat} (h : l.length ≤ 64) : (shaCells l).length = 64 := by unfold shaCells; simp; omega
theorem shaCells_set {l : List Nat} (h : l.length < 64) (x : Nat) : (shaCells l).set l.length (u32v x) = shaCells (l ++ [x]) := by
  unfold shaCells
  have e : List.replicate (64 - l.length) 0 = 0 :: List.replicate (64 - (l ++ [x]).length) 0 := by
    rw [List.length_append, show 64 - l.length = (64 - (l.length + [x].length)) + 1 by simp; omega, List.replicate_succ]
  rw [e, List.map_append, List.map_cons, List.set_append_right _ _ (by simp), List.length_map, Nat.sub_self, List.set_cons_zero, List.append_assoc, List.map_append]
  simp
theorem shaCells_at {l : List Nat} {j : Nat} (h : j < l.length) : (shaCells l)[j]? = some (u32v (l.getD j 0)) := by
  unfold shaCells
  rw [List.getElem?_map, List.getElem?_append_left h, List.getD_eq_getElem?_getD, List.getElem?_eq_getElem h]
  rfl
theorem shaCells_one (l : List Nat) : (shaCells l).all (·.oneCell') = true := by
  unfold shaCells
  rw [List.all_map, List.all_eq_true]
  intro x _
  rfl
theorem shaCells_zero {l : List Nat} {j : Nat} (h : l.length ≤ j) (h2 : j < 64) : (shaCells l)[j]? = some (.int .u32 0) := by
  unfold shaCells
  rw [List.getElem?_map, List.getElem?_append_right h, List.getElem?_replicate, if_pos (by omega)]
  rfl
def shaNext4 (a b c d : Nat) : Nat := (a + smallS b + c + smallT d) % 4294967296
theorem shaCells_full {l : List Nat} (h : l.length = 64) : shaCells l = l.map u32v := by unfold shaCells; rw [h]; simp
theorem u8_ats {w : World} {B n : Nat} {A : Option Addr} {l : List UInt8} (h : Reads w B 1 A n (u8s l)) (hl : l.length = n) (hn : 0 < n) : ∃ ad, A = some ad ∧ ad.block < B ∧ ∀ j, j < n → w.cell? (ad.add j) = some (.int .u8 (((l.getD j 0).toNat : Nat) : Int)) := by
  obtain ⟨ad, e, hb, hc⟩ := h.2 hn
  exact ⟨ad, e, hb, fun j hj => hc j _ (by rw [u8s_get, List.getD_eq_getElem?_getD, List.getElem?_eq_getElem (by omega)]; rfl)⟩
theorem word_or (a b c d : UInt8) : (a.toNat * 16777216 ||| b.toNat * 65536) ||| c.toNat * 256 ||| d.toNat = beVal [a, b, c, d] := by
  have h1 : a.toNat * 16777216 ||| b.toNat * 65536 = a.toNat * 16777216 + b.toNat * 65536 := by
    rw [show a.toNat * 16777216 = (a.toNat) * 2 ^ 24 by omega, ← Nat.shiftLeft_eq, ← Nat.shiftLeft_add_eq_or_of_lt (by have := b.toNat_lt; omega)]
  have h2 : (a.toNat * 16777216 + b.toNat * 65536) ||| c.toNat * 256 = a.toNat * 16777216 + b.toNat * 65536 + c.toNat * 256 := by
    rw [show a.toNat * 16777216 + b.toNat * 65536 = (a.toNat * 256 + b.toNat) * 2 ^ 16 by omega, ← Nat.shiftLeft_eq, ← Nat.shiftLeft_add_eq_or_of_lt (by have := c.toNat_lt; omega)]
  have h3 : (a.toNat * 16777216 + b.toNat * 65536 + c.toNat * 256) ||| d.toNat = a.toNat * 16777216 + b.toNat * 65536 + c.toNat * 256 + d.toNat := by
    rw [show a.toNat * 16777216 + b.toNat * 65536 + c.toNat * 256 = (a.toNat * 65536 + b.toNat * 256 + c.toNat) * 2 ^ 8 by omega, ← Nat.shiftLeft_eq, ← Nat.shiftLeft_add_eq_or_of_lt (by have := d.toNat_lt; omega)]
  rw [h1, h2, h3]
  unfold beVal
  simp
  omega
theorem shaW_lt (b : List UInt8) : ∀ n, ∀ x ∈ shaW b n, x < 4294967296
  | 0, x, h => by cases h
  | n + 1, x, h => by
    unfold shaW at h
    rcases List.mem_append.1 h with h | h
    · exact shaW_lt b n x h
    · rw [List.mem_singleton.1 h]
      split
      · have h1 := beVal_lt ((b.drop (4 * n)).take 4)
        have h2 : ((b.drop (4 * n)).take 4).length ≤ 4 := by rw [List.length_take]; omega
        exact Nat.lt_of_lt_of_le h1 (Nat.le_trans (Nat.pow_le_pow_right (by omega) h2) (by decide))
      · exact Nat.mod_lt _ (by decide)
theorem shaW_getD_lt (b : List UInt8) (n j : Nat) : (shaW b n).getD j 0 < 4294967296 := by
  rw [List.getD_eq_getElem?_getD]
  cases h : (shaW b n)[j]? with
  | none => decide
  | some x => exact shaW_lt b n x (List.mem_of_getElem? h)
theorem word_at {b : List UInt8} {i : Nat} (h : 4 * i + 3 < b.length) : shaWord b i = beVal [b.getD (4 * i) 0, b.getD (4 * i + 1) 0, b.getD (4 * i + 2) 0, b.getD (4 * i + 3) 0] := by
  unfold shaWord
  congr 1
  simp only [List.getD_eq_getElem?_getD]
  rw [List.getElem?_eq_getElem (show 4 * i < b.length by omega), List.getElem?_eq_getElem (show 4 * i + 1 < b.length by omega), List.getElem?_eq_getElem (show 4 * i + 2 < b.length by omega), List.getElem?_eq_getElem h]
  rw [List.drop_eq_getElem_cons (show 4 * i < b.length by omega), List.take_succ_cons, List.drop_eq_getElem_cons (show 4 * i + 1 < b.length by omega), List.take_succ_cons, List.drop_eq_getElem_cons (show 4 * i + 1 + 1 < b.length by omega), List.take_succ_cons, List.drop_eq_getElem_cons (show 4 * i + 1 + 1 + 1 < b.length by omega), List.take_succ_cons, List.take_zero]
  rfl
set_option maxRecDepth 100000 in
set_option maxHeartbeats 1000000 in
theorem schedule_any (A : Option Addr) (c : Nat) (b : List UInt8) (hl : b.length = 64) (w : World) (hr : Reads w w.heap.size 1 A 64 (u8s b)) :
    Calls Tryz.prog 94 #[.slice A 64 c] w fun ev w' => ev = .returned (.agg ((shaW b 64).map u32v).toArray) ∧ Below w.heap.size w w' := by
  refine calls_at 93 Tryz.func94 rfl rfl (Nat.le_of_ble_eq_true rfl) ?_
  intro a hA
  simp only [argsE, keepE, lookS, Nat.reduceBEq, cond_true, cond_false, Nat.reduceAdd, gv_tt, gv_ff, Bool.true_and, Bool.false_and, Bool.true_or, Bool.false_or] at hA
  refine wp_seq ?_
  refine wp_region_lit ?_
  -- stop alloc slot 2
  refine wl_new hA rfl rfl (by decide) (fun ev h => by simp [go_sem]; try first | exact ⟨rfl, rfl⟩ | rfl) fun w1 a18 (K2 : Blk _ _ _ _) hz1 hb1 hA18 => ?_
  obtain ⟨g2, hg2⟩ : ∃ g, w.heap.size = g := ⟨_, rfl⟩
  rw [hg2] at K2 hA18
  replace K2 : Blk w1 g2 151 (shaCells []).toArray := K2
  have HB : Below w.heap.size w w1 := hb1
  refine wl_nil ?_
  refine n_then ?_
  have hA19 := hA18.keep [0, 2]
  simp only [argsE, keepE, lookS, Nat.reduceBEq, cond_true, cond_false, Nat.reduceAdd, gv_tt, gv_ff, Bool.true_and, Bool.false_and, Bool.true_or, Bool.false_or] at hA19
  clear hA hA18
  refine wp_seq ?_
  refine wp_region_lit ?_
  -- stop alloc slot 3
  refine wl_new hA19 rfl rfl (by decide) (fun ev h => by simp [go_sem]; try first | exact ⟨rfl, rfl⟩ | rfl) fun w2 a20 (K3 : Blk _ _ _ _) hz2 hb2 hA20 => ?_
  replace HB := HB.trans (hb2.mono HB.size)
  replace K2 := K2.below hb2 K2.lt
  obtain ⟨g3, hg3⟩ : ∃ g, w1.heap.size = g := ⟨_, rfl⟩
  rw [hg3] at K3 hA20
  replace K3 : Blk w2 g3 151 (shaCells (shaW b 0)).toArray := K3
  have h23 : g2 ≠ g3 := by omega
  have h3 : w.heap.size ≤ g3 := by omega
  refine wl_nil ?_
  refine n_then ?_
  have hA21 := hA20.keep [0, 2, 3]
  simp only [argsE, keepE, lookS, Nat.reduceBEq, cond_true, cond_false, Nat.reduceAdd, gv_tt, gv_ff, Bool.true_and, Bool.false_and, Bool.true_or, Bool.false_or] at hA21
  clear hA19 hA20 a18
  refine wp_seq ?_
  refine wp_seq ?_
  refine wp_region_lit ?_
  refine wl_op hA21 rfl rfl (by decide) (fun ev h => by simp [go_sem, h.c]; try first | exact ⟨rfl, rfl⟩ | rfl) fun a22 hA22 => ?_
  refine wl_nil ?_
  refine n_then ?_
  have hA23 := hA22.keep [0, 2, 3, 10]
  simp only [argsE, keepE, lookS, Nat.reduceBEq, cond_true, cond_false, Nat.reduceAdd, gv_tt, gv_ff, Bool.true_and, Bool.false_and, Bool.true_or, Bool.false_or] at hA23
  clear hA21 hA22 a20
  refine wp_block ?_
  -- loop
  refine wp_loop_at (fun k a wx => ∃ (i : Nat), i + k = 16 ∧ At 93 [(0, .slice A 64 c), (2, .pointer (some ⟨g2, 0, none⟩)), (3, .pointer (some ⟨g3, 0, none⟩)), (10, .int .i64 (i : Nat))] a ∧ Blk wx g2 151 (shaCells []).toArray ∧ Blk wx g3 151 (shaCells (shaW b i)).toArray ∧ Below w.heap.size w wx) (16) ?_ ?_
  · exact ⟨0, by omega, hA23, K2, K3, HB⟩
  clear K2 K3 HB
  rintro k a wx ⟨i, hik, hA, K2, K3, HB⟩
  refine wp_seq ?_
  refine wp_region_lit ?_
  refine wl_op hA rfl rfl (by decide) (fun ev h => by simp [go_sem, h.c, h.get 10 rfl]; try first | exact ⟨rfl, rfl⟩ | rfl) fun a24 hA24 => ?_
  refine wl_nil ?_
  refine n_then ?_
  have hA25 := hA24.keep [0, 2, 3, 10, 11]
  simp only [argsE, keepE, lookS, Nat.reduceBEq, cond_true, cond_false, Nat.reduceAdd, gv_tt, gv_ff, Bool.true_and, Bool.false_and, Bool.true_or, Bool.false_or] at hA25
  clear hA hA24
  refine wp_seq ?_
  -- cond
  refine wp_if hA25 11 _ rfl (fun hq => ?yL) (fun hq => ?nL)
  case yL =>
    have hi : i < 16 := by simp at hq; omega
    refine wp_skip ?_
    refine n_then ?_
    refine wp_seq ?_
    refine wp_block ?_
    refine wp_seq ?_
    refine wp_region_lit ?_
    refine wl_op hA25 rfl rfl (by decide) (fun ev h => by simp [go_sem, h.get 10 rfl]; try first | exact ⟨rfl, rfl⟩ | rfl) fun a26 hA26 => ?_
    refine wl_op hA26 rfl rfl (by decide) (fun ev h => by simp [go_sem, h.get 12 rfl]; try first | exact ⟨rfl, rfl⟩ | rfl) fun a27 hA27 => ?_
    refine wl_nil ?_
    refine n_then ?_
    have hA28 := hA27.keep [0, 2, 3, 4, 10]
    simp only [argsE, keepE, lookS, Nat.reduceBEq, cond_true, cond_false, Nat.reduceAdd, gv_tt, gv_ff, Bool.true_and, Bool.false_and, Bool.true_or, Bool.false_or] at hA28
    clear hA25 hA26 hA27 a26
    -- any
    obtain ⟨ad, rfl, had, hc⟩ := u8_ats ((hr.below HB).more HB.size) hl (by omega)
    obtain ⟨j0, hj0⟩ : ∃ j, 4 * i = j := ⟨_, rfl⟩
    obtain ⟨j1, hj1⟩ : ∃ j, 4 * i + 1 = j := ⟨_, rfl⟩
    obtain ⟨j2, hj2⟩ : ∃ j, 4 * i + 2 = j := ⟨_, rfl⟩
    obtain ⟨j3, hj3⟩ : ∃ j, 4 * i + 3 = j := ⟨_, rfl⟩
    have w0 : IntKind.i64.wrap (4 * (i : Int)) = (j0 : Int) := by rw [IntWalk.i64_in _ (by omega)]; omega
    have w1 : IntKind.i64.wrap ((j0 : Int) + 1) = (j1 : Int) := by rw [IntWalk.i64_in _ (by omega)]; omega
    have w2 : IntKind.i64.wrap ((j0 : Int) + 2) = (j2 : Int) := by rw [IntWalk.i64_in _ (by omega)]; omega
    have w3 : IntKind.i64.wrap ((j0 : Int) + 3) = (j3 : Int) := by rw [IntWalk.i64_in _ (by omega)]; omega
    have hwd : (b.getD j0 0).toNat * 16777216 ||| (b.getD j1 0).toNat * 65536 ||| (b.getD j2 0).toNat * 256 ||| (b.getD j3 0).toNat = shaWord b i := by rw [word_or, word_at (by omega), hj3, hj2, hj1, hj0]
    have c0 := hc j0 (by omega)
    have c1 := hc j1 (by omega)
    have c2 := hc j2 (by omega)
    have c3 := hc j3 (by omega)
    have l0 := (b.getD j0 0).toNat_lt
    have l1 := (b.getD j1 0).toNat_lt
    have l2 := (b.getD j2 0).toNat_lt
    have l3 := (b.getD j3 0).toNat_lt
    generalize (b.getD j0 0).toNat = x0 at *
    generalize (b.getD j1 0).toNat = x1 at *
    generalize (b.getD j2 0).toNat = x2 at *
    generalize (b.getD j3 0).toNat = x3 at *
    obtain ⟨V, hV⟩ : ∃ V, shaWord b i = V := ⟨_, rfl⟩
    rw [hV] at hwd
    have u0 : ∀ x : Nat, x < 256 → IntKind.u32.wrap (x : Int) = (x : Int) := fun x h => IntWalk.u32_in _ (by omega)
    have s24 : IntKind.u32.wrap ((x0 : Int) * 16777216) = ((x0 * 16777216 : Nat) : Int) := by rw [IntWalk.u32_in _ (by omega)]; omega
    have s16 : IntKind.u32.wrap ((x1 : Int) * 65536) = ((x1 * 65536 : Nat) : Int) := by rw [IntWalk.u32_in _ (by omega)]; omega
    have s8 : IntKind.u32.wrap ((x2 : Int) * 256) = ((x2 * 256 : Nat) : Int) := by rw [IntWalk.u32_in _ (by omega)]; omega
    obtain ⟨y0, hy0⟩ : ∃ y, x0 * 16777216 = y := ⟨_, rfl⟩
    obtain ⟨y1, hy1⟩ : ∃ y, x1 * 65536 = y := ⟨_, rfl⟩
    obtain ⟨y2, hy2⟩ : ∃ y, x2 * 256 = y := ⟨_, rfl⟩
    rw [hy0] at s24
    rw [hy1] at s16
    rw [hy2] at s8
    have o1 := u32_or_nat y0 y1 (by omega) (by omega)
    have lo1 : y0 ||| y1 < 4294967296 := Nat.or_lt_two_pow (n := 32) (by omega) (by omega)
    have o2 := u32_or_nat (y0 ||| y1) y2 lo1 (by omega)
    have lo2 : y0 ||| y1 ||| y2 < 4294967296 := Nat.or_lt_two_pow (n := 32) lo1 (by omega)
    have o3 := u32_or_nat (y0 ||| y1 ||| y2) x3 lo2 (by omega)
    rw [hy0, hy1, hy2] at hwd
    rw [hwd] at o3
    have jj : ∀ j : Nat, (0 : Int) ≤ (j : Int) := fun j => by omega
    have k0 : (j0 : Int) < 64 := by omega
    have k1 : (j1 : Int) < 64 := by omega
    have k2 : (j2 : Int) < 64 := by omega
    have k3 : (j3 : Int) < 64 := by omega
    refine wp_region_split 34 ?_
    simp only [List.take_succ_cons, List.take_zero, List.drop_succ_cons, List.drop_zero]
    refine wp_any_split_at hA28 ((.det ?dD0) :: (.det ?dD1) :: (.det ?dD2) :: (.det ?dD3) :: (.det ?dD4) :: (.det ?dD5) :: (.det ?dD6) :: (.det ?dD7) :: (.det ?dD8) :: (.det ?dD9) :: (.det ?dD10) :: (.det ?dD11) :: (.det ?dD12) :: (.det ?dD13) :: (.det ?dD14) :: (.det ?dD15) :: (.det ?dD16) :: (.det ?dD17) :: (.det ?dD18) :: (.det ?dD19) :: (.det ?dD20) :: (.det ?dD21) :: (.det ?dD22) :: (.det ?dD23) :: (.det ?dD24) :: (.det ?dD25) :: (.det ?dD26) :: (.det ?dD27) :: (.det ?dD28) :: (.det ?dD29) :: (.det ?dD30) :: (.det ?dD31) :: (.det ?dD32) :: (.det ?dD33) :: []) [] (fun wy => Below wx.heap.size wx wy) (TSp [] Grows) (by kernel_rfl) rfl (by kernel_rfl) (by kernel_rfl) rfl (by kernel_rfl) (by kernel_rfl) (by kernel_rfl) (by kernel_rfl) ((Below.refl _ _).drew) (stab_sp [] (true :: true :: true :: true :: true :: true :: true :: true :: true :: true :: true :: true :: true :: true :: true :: true :: true :: true :: true :: true :: true :: true :: true :: true :: true :: true :: true :: true :: true :: true :: true :: true :: true :: true :: []) (true :: true :: true :: true :: true :: true :: true :: true :: true :: true :: true :: true :: true :: true :: true :: true :: true :: true :: true :: true :: true :: true :: true :: true :: true :: true :: true :: true :: true :: true :: true :: true :: true :: true :: []) [] rfl rfl rfl (by kernel_rfl) ⟨trivial, trivial, trivial, trivial, trivial, trivial, trivial, trivial, trivial, trivial, trivial, trivial, trivial, trivial, trivial, trivial, trivial, trivial, trivial, trivial, trivial, trivial, trivial, trivial, trivial, trivial, trivial, trivial, trivial, trivial, trivial, trivial, trivial, trivial, trivial⟩ trivial) (fun _ h => by cases h) (fun _ _ _ _ _ h => by cases h) (fun _ h => by cases h) ⟨?oD0, ?oD1, ?oD2, ?oD3, ?oD4, ?oD5, ?oD6, ?oD7, ?oD8, ?oD9, ?oD10, ?oD11, ?oD12, ?oD13, ?oD14, ?oD15, ?oD16, ?oD17, ?oD18, ?oD19, ?oD20, ?oD21, ?oD22, ?oD23, ?oD24, ?oD25, ?oD26, ?oD27, ?oD28, ?oD29, ?oD30, ?oD31, ?oD32, ?oD33, trivial⟩ (by kernel_rfl) ?fD
    case oD0 =>
      intro ev wo hev hC hs hph
      have e4 := see_env hA28 hs 4 (by kernel_rfl) (by kernel_rfl) rfl
      exact ob_det (wanted_none rfl) rfl (by kernel_rfl) hC (TSp.of rfl (Grows.refl _)) (by simp [go_sem, e4, w0, w1, w2, w3, jj, k0, k1, k2, k3, u0 _ l0, u0 _ l1, u0 _ l2, u0 _ l3, s24, s16, s8, o1, o2, o3]; try first | exact ⟨rfl, rfl⟩ | rfl)
    case oD1 =>
      intro ev wo hev hC hs hph
      have e0 := see_env hA28 hs 0 (by kernel_rfl) (by kernel_rfl) rfl
      exact ob_det (wanted_none rfl) rfl (by kernel_rfl) hC (TSp.of rfl (Grows.refl _)) (by simp [go_sem, e0, w0, w1, w2, w3, jj, k0, k1, k2, k3, u0 _ l0, u0 _ l1, u0 _ l2, u0 _ l3, s24, s16, s8, o1, o2, o3]; try first | exact ⟨rfl, rfl⟩ | rfl)
    case oD2 =>
      intro ev wo hev hC hs hph
      have e4 := see_env hA28 hs 4 (by kernel_rfl) (by kernel_rfl) rfl
      exact ob_det (wanted_none rfl) rfl (by kernel_rfl) hC (TSp.of rfl (Grows.refl _)) (by simp [go_sem, e4, w0, w1, w2, w3, jj, k0, k1, k2, k3, u0 _ l0, u0 _ l1, u0 _ l2, u0 _ l3, s24, s16, s8, o1, o2, o3]; try first | exact ⟨rfl, rfl⟩ | rfl)
    case oD3 =>
      intro ev wo hev hC hs hph
      have e15 := see_det hs 15 2 (by kernel_rfl) (by kernel_rfl) rfl
      exact ob_det (wanted_none rfl) rfl (by kernel_rfl) hC (TSp.of rfl (Grows.refl _)) (by simp [go_sem, e15, hev.const, w0, w1, w2, w3, jj, k0, k1, k2, k3, u0 _ l0, u0 _ l1, u0 _ l2, u0 _ l3, s24, s16, s8, o1, o2, o3]; try first | exact ⟨rfl, rfl⟩ | rfl)
    case oD4 =>
      intro ev wo hev hC hs hph
      have e14 := see_det hs 14 1 (by kernel_rfl) (by kernel_rfl) rfl
      have e16 := see_det hs 16 3 (by kernel_rfl) (by kernel_rfl) rfl
      exact ob_det (wanted_none rfl) rfl (by kernel_rfl) hC (TSp.of rfl (Grows.refl _)) (by simp [go_sem, e14, e16, w0, w1, w2, w3, jj, k0, k1, k2, k3, u0 _ l0, u0 _ l1, u0 _ l2, u0 _ l3, s24, s16, s8, o1, o2, o3]; try first | exact ⟨rfl, rfl⟩ | rfl)
    case oD5 =>
      intro ev wo hev hC hs hph
      have e17 := see_det hs 17 4 (by kernel_rfl) (by kernel_rfl) rfl
      have q0 := (hC.cell (p := ad.add j0) (by rw [block_of_add]; exact had)).trans c0
      have q1 := (hC.cell (p := ad.add j1) (by rw [block_of_add]; exact had)).trans c1
      have q2 := (hC.cell (p := ad.add j2) (by rw [block_of_add]; exact had)).trans c2
      have q3 := (hC.cell (p := ad.add j3) (by rw [block_of_add]; exact had)).trans c3
      exact ob_det (wanted_none rfl) rfl (by kernel_rfl) hC (TSp.of rfl (Grows.refl _)) (by simp [go_sem, e17, q0, q1, q2, q3, w0, w1, w2, w3, jj, k0, k1, k2, k3, u0 _ l0, u0 _ l1, u0 _ l2, u0 _ l3, s24, s16, s8, o1, o2, o3]; try first | exact ⟨rfl, rfl⟩ | rfl)
    case oD6 =>
      intro ev wo hev hC hs hph
      have e18 := see_det hs 18 5 (by kernel_rfl) (by kernel_rfl) rfl
      exact ob_det (wanted_none rfl) rfl (by kernel_rfl) hC (TSp.of rfl (Grows.refl _)) (by simp [go_sem, e18, w0, w1, w2, w3, jj, k0, k1, k2, k3, u0 _ l0, u0 _ l1, u0 _ l2, u0 _ l3, s24, s16, s8, o1, o2, o3]; try first | exact ⟨rfl, rfl⟩ | rfl)
    case oD7 =>
      intro ev wo hev hC hs hph
      have e19 := see_det hs 19 6 (by kernel_rfl) (by kernel_rfl) rfl
      exact ob_det (wanted_none rfl) rfl (by kernel_rfl) hC (TSp.of rfl (Grows.refl _)) (by simp [go_sem, e19, hev.const, w0, w1, w2, w3, jj, k0, k1, k2, k3, u0 _ l0, u0 _ l1, u0 _ l2, u0 _ l3, s24, s16, s8, o1, o2, o3]; try first | exact ⟨rfl, rfl⟩ | rfl)
    case oD8 =>
      intro ev wo hev hC hs hph
      have e0 := see_env hA28 hs 0 (by kernel_rfl) (by kernel_rfl) rfl
      exact ob_det (wanted_none rfl) rfl (by kernel_rfl) hC (TSp.of rfl (Grows.refl _)) (by simp [go_sem, e0, w0, w1, w2, w3, jj, k0, k1, k2, k3, u0 _ l0, u0 _ l1, u0 _ l2, u0 _ l3, s24, s16, s8, o1, o2, o3]; try first | exact ⟨rfl, rfl⟩ | rfl)
    case oD9 =>
      intro ev wo hev hC hs hph
      have e4 := see_env hA28 hs 4 (by kernel_rfl) (by kernel_rfl) rfl
      exact ob_det (wanted_none rfl) rfl (by kernel_rfl) hC (TSp.of rfl (Grows.refl _)) (by simp [go_sem, e4, w0, w1, w2, w3, jj, k0, k1, k2, k3, u0 _ l0, u0 _ l1, u0 _ l2, u0 _ l3, s24, s16, s8, o1, o2, o3]; try first | exact ⟨rfl, rfl⟩ | rfl)
    case oD10 =>
      intro ev wo hev hC hs hph
      have e22 := see_det hs 22 9 (by kernel_rfl) (by kernel_rfl) rfl
      exact ob_det (wanted_none rfl) rfl (by kernel_rfl) hC (TSp.of rfl (Grows.refl _)) (by simp [go_sem, e22, hev.const, w0, w1, w2, w3, jj, k0, k1, k2, k3, u0 _ l0, u0 _ l1, u0 _ l2, u0 _ l3, s24, s16, s8, o1, o2, o3]; try first | exact ⟨rfl, rfl⟩ | rfl)
    case oD11 =>
      intro ev wo hev hC hs hph
      have e23 := see_det hs 23 10 (by kernel_rfl) (by kernel_rfl) rfl
      exact ob_det (wanted_none rfl) rfl (by kernel_rfl) hC (TSp.of rfl (Grows.refl _)) (by simp [go_sem, e23, hev.const, w0, w1, w2, w3, jj, k0, k1, k2, k3, u0 _ l0, u0 _ l1, u0 _ l2, u0 _ l3, s24, s16, s8, o1, o2, o3]; try first | exact ⟨rfl, rfl⟩ | rfl)
    case oD12 =>
      intro ev wo hev hC hs hph
      have e21 := see_det hs 21 8 (by kernel_rfl) (by kernel_rfl) rfl
      have e24 := see_det hs 24 11 (by kernel_rfl) (by kernel_rfl) rfl
      exact ob_det (wanted_none rfl) rfl (by kernel_rfl) hC (TSp.of rfl (Grows.refl _)) (by simp [go_sem, e21, e24, w0, w1, w2, w3, jj, k0, k1, k2, k3, u0 _ l0, u0 _ l1, u0 _ l2, u0 _ l3, s24, s16, s8, o1, o2, o3]; try first | exact ⟨rfl, rfl⟩ | rfl)
    case oD13 =>
      intro ev wo hev hC hs hph
      have e25 := see_det hs 25 12 (by kernel_rfl) (by kernel_rfl) rfl
      have q0 := (hC.cell (p := ad.add j0) (by rw [block_of_add]; exact had)).trans c0
      have q1 := (hC.cell (p := ad.add j1) (by rw [block_of_add]; exact had)).trans c1
      have q2 := (hC.cell (p := ad.add j2) (by rw [block_of_add]; exact had)).trans c2
      have q3 := (hC.cell (p := ad.add j3) (by rw [block_of_add]; exact had)).trans c3
      exact ob_det (wanted_none rfl) rfl (by kernel_rfl) hC (TSp.of rfl (Grows.refl _)) (by simp [go_sem, e25, q0, q1, q2, q3, w0, w1, w2, w3, jj, k0, k1, k2, k3, u0 _ l0, u0 _ l1, u0 _ l2, u0 _ l3, s24, s16, s8, o1, o2, o3]; try first | exact ⟨rfl, rfl⟩ | rfl)
    case oD14 =>
      intro ev wo hev hC hs hph
      have e26 := see_det hs 26 13 (by kernel_rfl) (by kernel_rfl) rfl
      exact ob_det (wanted_none rfl) rfl (by kernel_rfl) hC (TSp.of rfl (Grows.refl _)) (by simp [go_sem, e26, w0, w1, w2, w3, jj, k0, k1, k2, k3, u0 _ l0, u0 _ l1, u0 _ l2, u0 _ l3, s24, s16, s8, o1, o2, o3]; try first | exact ⟨rfl, rfl⟩ | rfl)
    case oD15 =>
      intro ev wo hev hC hs hph
      have e27 := see_det hs 27 14 (by kernel_rfl) (by kernel_rfl) rfl
      exact ob_det (wanted_none rfl) rfl (by kernel_rfl) hC (TSp.of rfl (Grows.refl _)) (by simp [go_sem, e27, hev.const, w0, w1, w2, w3, jj, k0, k1, k2, k3, u0 _ l0, u0 _ l1, u0 _ l2, u0 _ l3, s24, s16, s8, o1, o2, o3]; try first | exact ⟨rfl, rfl⟩ | rfl)
    case oD16 =>
      intro ev wo hev hC hs hph
      have e20 := see_det hs 20 7 (by kernel_rfl) (by kernel_rfl) rfl
      have e28 := see_det hs 28 15 (by kernel_rfl) (by kernel_rfl) rfl
      exact ob_det (wanted_none rfl) rfl (by kernel_rfl) hC (TSp.of rfl (Grows.refl _)) (by simp [go_sem, e20, e28, w0, w1, w2, w3, jj, k0, k1, k2, k3, u0 _ l0, u0 _ l1, u0 _ l2, u0 _ l3, s24, s16, s8, o1, o2, o3]; try first | exact ⟨rfl, rfl⟩ | rfl)
    case oD17 =>
      intro ev wo hev hC hs hph
      have e0 := see_env hA28 hs 0 (by kernel_rfl) (by kernel_rfl) rfl
      exact ob_det (wanted_none rfl) rfl (by kernel_rfl) hC (TSp.of rfl (Grows.refl _)) (by simp [go_sem, e0, w0, w1, w2, w3, jj, k0, k1, k2, k3, u0 _ l0, u0 _ l1, u0 _ l2, u0 _ l3, s24, s16, s8, o1, o2, o3]; try first | exact ⟨rfl, rfl⟩ | rfl)
    case oD18 =>
      intro ev wo hev hC hs hph
      have e4 := see_env hA28 hs 4 (by kernel_rfl) (by kernel_rfl) rfl
      exact ob_det (wanted_none rfl) rfl (by kernel_rfl) hC (TSp.of rfl (Grows.refl _)) (by simp [go_sem, e4, w0, w1, w2, w3, jj, k0, k1, k2, k3, u0 _ l0, u0 _ l1, u0 _ l2, u0 _ l3, s24, s16, s8, o1, o2, o3]; try first | exact ⟨rfl, rfl⟩ | rfl)
    case oD19 =>
      intro ev wo hev hC hs hph
      have e31 := see_det hs 31 18 (by kernel_rfl) (by kernel_rfl) rfl
      exact ob_det (wanted_none rfl) rfl (by kernel_rfl) hC (TSp.of rfl (Grows.refl _)) (by simp [go_sem, e31, hev.const, w0, w1, w2, w3, jj, k0, k1, k2, k3, u0 _ l0, u0 _ l1, u0 _ l2, u0 _ l3, s24, s16, s8, o1, o2, o3]; try first | exact ⟨rfl, rfl⟩ | rfl)
    case oD20 =>
      intro ev wo hev hC hs hph
      have e32 := see_det hs 32 19 (by kernel_rfl) (by kernel_rfl) rfl
      exact ob_det (wanted_none rfl) rfl (by kernel_rfl) hC (TSp.of rfl (Grows.refl _)) (by simp [go_sem, e32, hev.const, w0, w1, w2, w3, jj, k0, k1, k2, k3, u0 _ l0, u0 _ l1, u0 _ l2, u0 _ l3, s24, s16, s8, o1, o2, o3]; try first | exact ⟨rfl, rfl⟩ | rfl)
    case oD21 =>
      intro ev wo hev hC hs hph
      have e30 := see_det hs 30 17 (by kernel_rfl) (by kernel_rfl) rfl
      have e33 := see_det hs 33 20 (by kernel_rfl) (by kernel_rfl) rfl
      exact ob_det (wanted_none rfl) rfl (by kernel_rfl) hC (TSp.of rfl (Grows.refl _)) (by simp [go_sem, e30, e33, w0, w1, w2, w3, jj, k0, k1, k2, k3, u0 _ l0, u0 _ l1, u0 _ l2, u0 _ l3, s24, s16, s8, o1, o2, o3]; try first | exact ⟨rfl, rfl⟩ | rfl)
    case oD22 =>
      intro ev wo hev hC hs hph
      have e34 := see_det hs 34 21 (by kernel_rfl) (by kernel_rfl) rfl
      have q0 := (hC.cell (p := ad.add j0) (by rw [block_of_add]; exact had)).trans c0
      have q1 := (hC.cell (p := ad.add j1) (by rw [block_of_add]; exact had)).trans c1
      have q2 := (hC.cell (p := ad.add j2) (by rw [block_of_add]; exact had)).trans c2
      have q3 := (hC.cell (p := ad.add j3) (by rw [block_of_add]; exact had)).trans c3
      exact ob_det (wanted_none rfl) rfl (by kernel_rfl) hC (TSp.of rfl (Grows.refl _)) (by simp [go_sem, e34, q0, q1, q2, q3, w0, w1, w2, w3, jj, k0, k1, k2, k3, u0 _ l0, u0 _ l1, u0 _ l2, u0 _ l3, s24, s16, s8, o1, o2, o3]; try first | exact ⟨rfl, rfl⟩ | rfl)
    case oD23 =>
      intro ev wo hev hC hs hph
      have e35 := see_det hs 35 22 (by kernel_rfl) (by kernel_rfl) rfl
      exact ob_det (wanted_none rfl) rfl (by kernel_rfl) hC (TSp.of rfl (Grows.refl _)) (by simp [go_sem, e35, w0, w1, w2, w3, jj, k0, k1, k2, k3, u0 _ l0, u0 _ l1, u0 _ l2, u0 _ l3, s24, s16, s8, o1, o2, o3]; try first | exact ⟨rfl, rfl⟩ | rfl)
    case oD24 =>
      intro ev wo hev hC hs hph
      have e36 := see_det hs 36 23 (by kernel_rfl) (by kernel_rfl) rfl
      exact ob_det (wanted_none rfl) rfl (by kernel_rfl) hC (TSp.of rfl (Grows.refl _)) (by simp [go_sem, e36, hev.const, w0, w1, w2, w3, jj, k0, k1, k2, k3, u0 _ l0, u0 _ l1, u0 _ l2, u0 _ l3, s24, s16, s8, o1, o2, o3]; try first | exact ⟨rfl, rfl⟩ | rfl)
    case oD25 =>
      intro ev wo hev hC hs hph
      have e29 := see_det hs 29 16 (by kernel_rfl) (by kernel_rfl) rfl
      have e37 := see_det hs 37 24 (by kernel_rfl) (by kernel_rfl) rfl
      exact ob_det (wanted_none rfl) rfl (by kernel_rfl) hC (TSp.of rfl (Grows.refl _)) (by simp [go_sem, e29, e37, w0, w1, w2, w3, jj, k0, k1, k2, k3, u0 _ l0, u0 _ l1, u0 _ l2, u0 _ l3, s24, s16, s8, o1, o2, o3]; try first | exact ⟨rfl, rfl⟩ | rfl)
    case oD26 =>
      intro ev wo hev hC hs hph
      have e0 := see_env hA28 hs 0 (by kernel_rfl) (by kernel_rfl) rfl
      exact ob_det (wanted_none rfl) rfl (by kernel_rfl) hC (TSp.of rfl (Grows.refl _)) (by simp [go_sem, e0, w0, w1, w2, w3, jj, k0, k1, k2, k3, u0 _ l0, u0 _ l1, u0 _ l2, u0 _ l3, s24, s16, s8, o1, o2, o3]; try first | exact ⟨rfl, rfl⟩ | rfl)
    case oD27 =>
      intro ev wo hev hC hs hph
      have e4 := see_env hA28 hs 4 (by kernel_rfl) (by kernel_rfl) rfl
      exact ob_det (wanted_none rfl) rfl (by kernel_rfl) hC (TSp.of rfl (Grows.refl _)) (by simp [go_sem, e4, w0, w1, w2, w3, jj, k0, k1, k2, k3, u0 _ l0, u0 _ l1, u0 _ l2, u0 _ l3, s24, s16, s8, o1, o2, o3]; try first | exact ⟨rfl, rfl⟩ | rfl)
    case oD28 =>
      intro ev wo hev hC hs hph
      have e40 := see_det hs 40 27 (by kernel_rfl) (by kernel_rfl) rfl
      exact ob_det (wanted_none rfl) rfl (by kernel_rfl) hC (TSp.of rfl (Grows.refl _)) (by simp [go_sem, e40, hev.const, w0, w1, w2, w3, jj, k0, k1, k2, k3, u0 _ l0, u0 _ l1, u0 _ l2, u0 _ l3, s24, s16, s8, o1, o2, o3]; try first | exact ⟨rfl, rfl⟩ | rfl)
    case oD29 =>
      intro ev wo hev hC hs hph
      have e41 := see_det hs 41 28 (by kernel_rfl) (by kernel_rfl) rfl
      exact ob_det (wanted_none rfl) rfl (by kernel_rfl) hC (TSp.of rfl (Grows.refl _)) (by simp [go_sem, e41, hev.const, w0, w1, w2, w3, jj, k0, k1, k2, k3, u0 _ l0, u0 _ l1, u0 _ l2, u0 _ l3, s24, s16, s8, o1, o2, o3]; try first | exact ⟨rfl, rfl⟩ | rfl)
    case oD30 =>
      intro ev wo hev hC hs hph
      have e39 := see_det hs 39 26 (by kernel_rfl) (by kernel_rfl) rfl
      have e42 := see_det hs 42 29 (by kernel_rfl) (by kernel_rfl) rfl
      exact ob_det (wanted_none rfl) rfl (by kernel_rfl) hC (TSp.of rfl (Grows.refl _)) (by simp [go_sem, e39, e42, w0, w1, w2, w3, jj, k0, k1, k2, k3, u0 _ l0, u0 _ l1, u0 _ l2, u0 _ l3, s24, s16, s8, o1, o2, o3]; try first | exact ⟨rfl, rfl⟩ | rfl)
    case oD31 =>
      intro ev wo hev hC hs hph
      have e43 := see_det hs 43 30 (by kernel_rfl) (by kernel_rfl) rfl
      have q0 := (hC.cell (p := ad.add j0) (by rw [block_of_add]; exact had)).trans c0
      have q1 := (hC.cell (p := ad.add j1) (by rw [block_of_add]; exact had)).trans c1
      have q2 := (hC.cell (p := ad.add j2) (by rw [block_of_add]; exact had)).trans c2
      have q3 := (hC.cell (p := ad.add j3) (by rw [block_of_add]; exact had)).trans c3
      exact ob_det (wanted_none rfl) rfl (by kernel_rfl) hC (TSp.of rfl (Grows.refl _)) (by simp [go_sem, e43, q0, q1, q2, q3, w0, w1, w2, w3, jj, k0, k1, k2, k3, u0 _ l0, u0 _ l1, u0 _ l2, u0 _ l3, s24, s16, s8, o1, o2, o3]; try first | exact ⟨rfl, rfl⟩ | rfl)
    case oD32 =>
      intro ev wo hev hC hs hph
      have e44 := see_det hs 44 31 (by kernel_rfl) (by kernel_rfl) rfl
      exact ob_det (wanted_none rfl) rfl (by kernel_rfl) hC (TSp.of rfl (Grows.refl _)) (by simp [go_sem, e44, w0, w1, w2, w3, jj, k0, k1, k2, k3, u0 _ l0, u0 _ l1, u0 _ l2, u0 _ l3, s24, s16, s8, o1, o2, o3]; try first | exact ⟨rfl, rfl⟩ | rfl)
    case oD33 =>
      intro ev wo hev hC hs hph
      have e38 := see_det hs 38 25 (by kernel_rfl) (by kernel_rfl) rfl
      have e45 := see_det hs 45 32 (by kernel_rfl) (by kernel_rfl) rfl
      exact ob_det (wanted_none rfl) rfl (by kernel_rfl) hC (TSp.of rfl (Grows.refl _)) (by simp [go_sem, e38, e45, w0, w1, w2, w3, jj, k0, k1, k2, k3, u0 _ l0, u0 _ l1, u0 _ l2, u0 _ l3, s24, s16, s8, o1, o2, o3]; try first | exact ⟨rfl, rfl⟩ | rfl)
    intro sg wf hC hph
    intro a29 hA29
    have hA30 := hA29.keep [0, 2, 3, 10, 13, 46]
    simp only [argsE, keepE, lookS, Nat.reduceBEq, cond_true, cond_false, Nat.reduceAdd, gv_tt, gv_ff, Bool.true_and, Bool.false_and, Bool.true_or, Bool.false_or] at hA30
    clear hA28 hA29 a27
    have K2f := K2.below hC K2.lt
    have K3f := K3.below hC K3.lt
    have HBf := HB.trans (hC.mono HB.size)
    have hlen : (shaW b i).length = i := shaW_length b i
    have hci := shaCells_zero (l := shaW b i) (j := i) (by omega) (by omega)
    have ki : (i : Int) < 64 := by omega
    refine wl_op hA30 rfl rfl (by decide) (fun ev h => by simp [go_sem, h.get 3 rfl, h.get 13 rfl, jj, ki, add0, hci]; try first | exact ⟨rfl, rfl⟩ | rfl) fun a31 hA31 => ?_
    -- stop store slot None
    refine wl_setf ((shaCells (shaW b i)).set i (.int .u32 (V : Nat))) _ hA31 rfl rfl K3f (j := i) (by rfl) (fun ev h => by simp [go_sem, h.get 47 rfl, h.get 46 rfl, jj, ki, add0, hci, K3f.cell, K3f.frozen]; try first | exact ⟨rfl, rfl⟩ | rfl) fun w5 (K3f : Blk _ _ _ _) hs => ?_
    have hwi : IntKind.i64.wrap ((i : Int) + 1) = ((i + 1 : Nat) : Int) := by rw [IntWalk.i64_in _ (by omega)]; omega
    refine wl_nil ?_
    refine n_block ?_
    refine n_then ?_
    have hA32 := hA31.keep [0, 2, 3, 10]
    simp only [argsE, keepE, lookS, Nat.reduceBEq, cond_true, cond_false, Nat.reduceAdd, gv_tt, gv_ff, Bool.true_and, Bool.false_and, Bool.true_or, Bool.false_or] at hA32
    clear hA30 hA31 a29
    refine wp_region_lit ?_
    refine wl_op hA32 rfl rfl (by decide) (fun ev h => by simp [go_sem, h.c, h.get 10 rfl, hwi]; try first | exact ⟨rfl, rfl⟩ | rfl) fun a33 hA33 => ?_
    refine wl_op hA33 rfl rfl (by decide) (fun ev h => by simp [go_sem, h.get 48 rfl, hwi]; try first | exact ⟨rfl, rfl⟩ | rfl) fun a34 hA34 => ?_
    refine wl_nil ?_
    refine n_then ?_
    have hA35 := hA34.keep [0, 2, 3, 10]
    simp only [argsE, keepE, lookS, Nat.reduceBEq, cond_true, cond_false, Nat.reduceAdd, gv_tt, gv_ff, Bool.true_and, Bool.false_and, Bool.true_or, Bool.false_or] at hA35
    clear hA32 hA33 hA34 a31 a33
    -- round
    refine ⟨k - 1, by omega, i + 1, by omega, hA35, hs.blk K2f h23, ?_, hs.below HBf h3⟩
    have e := shaCells_set (l := shaW b i) (by omega) V
    rw [hlen] at e
    rw [show shaW b (i + 1) = shaW b i ++ [V] by rw [← hV]; show shaW b i ++ _ = _; rw [if_pos hi], ← e]
    exact K3f
  case nL =>
    have hi : i = 16 := by simp at hq; omega
    subst hi
    clear hr hik hq
    refine wp_exit ?_
    refine x_then ?_
    refine x_then ?_
    refine x_block ?_
    refine n_then ?_
    have hA36 := hA25.keep [2, 3]
    simp only [argsE, keepE, lookS, Nat.reduceBEq, cond_true, cond_false, Nat.reduceAdd, gv_tt, gv_ff, Bool.true_and, Bool.false_and, Bool.true_or, Bool.false_or] at hA36
    clear hA25
    refine wp_seq ?_
    refine wp_seq ?_
    refine wp_region_lit ?_
    refine wl_op hA36 rfl rfl (by decide) (fun ev h => by simp [go_sem, h.c]; try first | exact ⟨rfl, rfl⟩ | rfl) fun a37 hA37 => ?_
    refine wl_nil ?_
    refine n_then ?_
    have hA38 := hA37.keep [2, 3, 5]
    simp only [argsE, keepE, lookS, Nat.reduceBEq, cond_true, cond_false, Nat.reduceAdd, gv_tt, gv_ff, Bool.true_and, Bool.false_and, Bool.true_or, Bool.false_or] at hA38
    clear hA36 hA37
    refine wp_block ?_
    -- loop
    refine wp_loop_at (fun k a wx => ∃ (i : Nat), i + k = 64 ∧ 16 ≤ i ∧ At 93 [(2, .pointer (some ⟨g2, 0, none⟩)), (3, .pointer (some ⟨g3, 0, none⟩)), (5, .int .i64 (i : Nat))] a ∧ Blk wx g2 151 (shaCells []).toArray ∧ Blk wx g3 151 (shaCells (shaW b i)).toArray ∧ Below w.heap.size w wx) (48) ?_ ?_
    · exact ⟨16, by omega, by omega, hA38, K2, K3, HB⟩
    clear K2 K3 HB
    rintro k a wx ⟨i, hik, hi16, hA, K2, K3, HB⟩
    refine wp_seq ?_
    refine wp_seq ?_
    refine wp_region_lit ?_
    refine wl_op hA rfl rfl (by decide) (fun ev h => by simp [go_sem, h.get 5 rfl]; try first | exact ⟨rfl, rfl⟩ | rfl) fun a39 hA39 => ?_
    refine wl_op hA39 rfl rfl (by decide) (fun ev h => by simp [go_sem, h.c, h.get 49 rfl]; try first | exact ⟨rfl, rfl⟩ | rfl) fun a40 hA40 => ?_
    refine wl_nil ?_
    refine n_then ?_
    have hA41 := hA40.keep [2, 3, 5, 50]
    simp only [argsE, keepE, lookS, Nat.reduceBEq, cond_true, cond_false, Nat.reduceAdd, gv_tt, gv_ff, Bool.true_and, Bool.false_and, Bool.true_or, Bool.false_or] at hA41
    clear hA hA39 hA40 a39
    -- cond
    refine wp_if hA41 50 _ rfl (fun hq => ?yM) (fun hq => ?nM)
    case yM =>
      have hi : i < 64 := by simp at hq; omega
      refine wp_skip ?_
      refine n_then ?_
      refine wp_seq ?_
      refine wp_block ?_
      refine wp_seq ?_
      -- any
      obtain ⟨j15, hj15⟩ : ∃ j, i - 15 = j := ⟨_, rfl⟩
      obtain ⟨j16, hj16⟩ : ∃ j, i - 16 = j := ⟨_, rfl⟩
      obtain ⟨j7, hj7⟩ : ∃ j, i - 7 = j := ⟨_, rfl⟩
      obtain ⟨j2, hj2⟩ : ∃ j, i - 2 = j := ⟨_, rfl⟩
      have w15 : IntKind.i64.wrap ((i : Int) - 15) = (j15 : Int) := by rw [IntWalk.i64_in _ (by omega)]; omega
      have w16 : IntKind.i64.wrap ((i : Int) - 16) = (j16 : Int) := by rw [IntWalk.i64_in _ (by omega)]; omega
      have w7 : IntKind.i64.wrap ((i : Int) - 7) = (j7 : Int) := by rw [IntWalk.i64_in _ (by omega)]; omega
      have w2 : IntKind.i64.wrap ((i : Int) - 2) = (j2 : Int) := by rw [IntWalk.i64_in _ (by omega)]; omega
      have hlen : (shaW b i).length = i := shaW_length b i
      have c15 := shaCells_at (l := shaW b i) (j := j15) (by omega)
      have c16 := shaCells_at (l := shaW b i) (j := j16) (by omega)
      have c7 := shaCells_at (l := shaW b i) (j := j7) (by omega)
      have c2 := shaCells_at (l := shaW b i) (j := j2) (by omega)
      have hnx : shaNext (shaW b i) i = shaNext4 ((shaW b i).getD j16 0) ((shaW b i).getD j15 0) ((shaW b i).getD j7 0) ((shaW b i).getD j2 0) := by unfold shaNext shaNext4; rw [hj15, hj16, hj7, hj2]
      have l15 := shaW_getD_lt b i j15
      have l16 := shaW_getD_lt b i j16
      have l7 := shaW_getD_lt b i j7
      have l2 := shaW_getD_lt b i j2
      obtain ⟨x15, hx15⟩ : ∃ x, (shaW b i).getD j15 0 = x := ⟨_, rfl⟩
      obtain ⟨x16, hx16⟩ : ∃ x, (shaW b i).getD j16 0 = x := ⟨_, rfl⟩
      obtain ⟨x7, hx7⟩ : ∃ x, (shaW b i).getD j7 0 = x := ⟨_, rfl⟩
      obtain ⟨x2, hx2⟩ : ∃ x, (shaW b i).getD j2 0 = x := ⟨_, rfl⟩
      rw [hx15, hx16, hx7, hx2] at hnx
      rw [hx15] at c15 l15
      rw [hx16] at c16 l16
      rw [hx7] at c7 l7
      rw [hx2] at c2 l2
      clear hx15 hx16 hx7 hx2
      unfold u32v at c15 c16 c7 c2
      have jj : ∀ j : Nat, (0 : Int) ≤ (j : Int) := fun j => by omega
      have k15 : (j15 : Int) < 64 := by omega
      have k16 : (j16 : Int) < 64 := by omega
      have k7 : (j7 : Int) < 64 := by omega
      have k2 : (j2 : Int) < 64 := by omega
      refine wp_any_at hA41 [(.det ?dE0), (.det ?dE1), (.det ?dE2), (.det ?dE3), (.det ?dE4), (.det ?dE5), (.det ?dE6), (.det ?dE7), (.det ?dE8), (.det ?dE9)] [] (fun wy => Below wx.heap.size wx wy) (TSp [] Grows) (by kernel_rfl) rfl (by kernel_rfl) (by kernel_rfl) rfl ((Below.refl _ _).drew) (stab_sp [] [true, true, true, true, true, true, true, true, true, true] [true, true, true, true, true, true, true, true, true, true] [] rfl rfl rfl (by kernel_rfl) ⟨trivial, trivial, trivial, trivial, trivial, trivial, trivial, trivial, trivial, trivial, trivial⟩ trivial) (fun _ h => by cases h) (fun _ _ _ _ _ h => by cases h) (fun _ h => by cases h) ⟨?oE0, ?oE1, ?oE2, ?oE3, ?oE4, ?oE5, ?oE6, ?oE7, ?oE8, ?oE9, trivial⟩ (by kernel_rfl) ?fE
      case oE0 =>
        intro ev wo hev hC hs hph
        have e5 := see_env hA41 hs 5 (by kernel_rfl) (by kernel_rfl) rfl
        exact ob_det (wanted_none rfl) rfl (by kernel_rfl) hC (TSp.of rfl (Grows.refl _)) (by simp [go_sem, e5, w15, w2, jj, k15, k2, add0]; try first | exact ⟨rfl, rfl⟩ | rfl)
      case oE1 =>
        intro ev wo hev hC hs hph
        have e53 := see_det hs 53 0 (by kernel_rfl) (by kernel_rfl) rfl
        exact ob_det (wanted_none rfl) rfl (by kernel_rfl) hC (TSp.of rfl (Grows.refl _)) (by simp [go_sem, e53, hev.const, w15, w2, jj, k15, k2, add0]; try first | exact ⟨rfl, rfl⟩ | rfl)
      case oE2 =>
        intro ev wo hev hC hs hph
        have e3 := see_env hA41 hs 3 (by kernel_rfl) (by kernel_rfl) rfl
        have e54 := see_det hs 54 1 (by kernel_rfl) (by kernel_rfl) rfl
        exact ob_det (wanted_none rfl) rfl (by kernel_rfl) hC (TSp.of rfl (Grows.refl _)) (by simp [go_sem, e3, e54, w15, w2, jj, k15, k2, add0]; try first | exact ⟨rfl, rfl⟩ | rfl)
      case oE3 =>
        intro ev wo hev hC hs hph
        have e55 := see_det hs 55 2 (by kernel_rfl) (by kernel_rfl) rfl
        have Kx := K3.below hC K3.lt
        exact ob_det (wanted_none rfl) rfl (by kernel_rfl) hC (TSp.of rfl (Grows.refl _)) (by simp [go_sem, e55, Kx.cell, c15, c2, w15, w2, jj, k15, k2, add0]; try first | exact ⟨rfl, rfl⟩ | rfl)
      case oE4 =>
        intro ev wo hev hC hs hph
        have e5 := see_env hA41 hs 5 (by kernel_rfl) (by kernel_rfl) rfl
        exact ob_det (wanted_none rfl) rfl (by kernel_rfl) hC (TSp.of rfl (Grows.refl _)) (by simp [go_sem, e5, w15, w2, jj, k15, k2, add0]; try first | exact ⟨rfl, rfl⟩ | rfl)
      case oE5 =>
        intro ev wo hev hC hs hph
        have e57 := see_det hs 57 4 (by kernel_rfl) (by kernel_rfl) rfl
        exact ob_det (wanted_none rfl) rfl (by kernel_rfl) hC (TSp.of rfl (Grows.refl _)) (by simp [go_sem, e57, hev.const, w15, w2, jj, k15, k2, add0]; try first | exact ⟨rfl, rfl⟩ | rfl)
      case oE6 =>
        intro ev wo hev hC hs hph
        have e3 := see_env hA41 hs 3 (by kernel_rfl) (by kernel_rfl) rfl
        have e58 := see_det hs 58 5 (by kernel_rfl) (by kernel_rfl) rfl
        exact ob_det (wanted_none rfl) rfl (by kernel_rfl) hC (TSp.of rfl (Grows.refl _)) (by simp [go_sem, e3, e58, w15, w2, jj, k15, k2, add0]; try first | exact ⟨rfl, rfl⟩ | rfl)
      case oE7 =>
        intro ev wo hev hC hs hph
        have e59 := see_det hs 59 6 (by kernel_rfl) (by kernel_rfl) rfl
        have Kx := K3.below hC K3.lt
        exact ob_det (wanted_none rfl) rfl (by kernel_rfl) hC (TSp.of rfl (Grows.refl _)) (by simp [go_sem, e59, Kx.cell, c15, c2, w15, w2, jj, k15, k2, add0]; try first | exact ⟨rfl, rfl⟩ | rfl)
      case oE8 =>
        intro ev wo hev hC hs hph
        have e56 := see_det hs 56 3 (by kernel_rfl) (by kernel_rfl) rfl
        exact ob_det (wanted_none rfl) rfl (by kernel_rfl) hC (TSp.of rfl (Grows.refl _)) (by simp [go_sem, e56, w15, w2, jj, k15, k2, add0]; try first | exact ⟨rfl, rfl⟩ | rfl)
      case oE9 =>
        intro ev wo hev hC hs hph
        have e60 := see_det hs 60 7 (by kernel_rfl) (by kernel_rfl) rfl
        exact ob_det (wanted_none rfl) rfl (by kernel_rfl) hC (TSp.of rfl (Grows.refl _)) (by simp [go_sem, e60, w15, w2, jj, k15, k2, add0]; try first | exact ⟨rfl, rfl⟩ | rfl)
      intro sg wf hC hph
      intro a42 hA42
      refine n_then ?_
      have hA43 := hA42.keep [2, 3, 5, 6, 7]
      simp only [argsE, keepE, lookS, Nat.reduceBEq, cond_true, cond_false, Nat.reduceAdd, gv_tt, gv_ff, Bool.true_and, Bool.false_and, Bool.true_or, Bool.false_or] at hA43
      clear hA41 hA42
      have K2f := K2.below hC K2.lt
      have K3f := K3.below hC K3.lt
      have HBf := HB.trans (hC.mono HB.size)
      have r7 := rotr_lt x15 7
      have r18 := rotr_lt x15 18
      have r17 := rotr_lt x2 17
      have r19 := rotr_lt x2 19
      have s3 : (x15 : Int) / 8 = ((sr x15 3 : Nat) : Int) := shr_u32 x15 3
      have s10 : (x2 : Int) / 1024 = ((sr x2 10 : Nat) : Int) := shr_u32 x2 10
      have e1 := w_xo r7 r18
      have e2 := w_xo (xo_lt r7 r18) (sr_lt (n := 3) l15)
      have e3 := w_xo r17 r19
      have e4 := w_xo (xo_lt r17 r19) (sr_lt (n := 10) l2)
      refine wp_seq ?_
      refine wp_region_lit ?_
      refine wl_op hA43 rfl rfl (by decide) (fun ev h => by simp [go_sem, h.get 6 rfl, s3, e1, e2, s10, e3, e4]; try first | exact ⟨rfl, rfl⟩ | rfl) fun a44 hA44 => ?_
      -- stop call slot 62
      refine wl_call hA44 rfl rfl (by decide) (fun ev h => exec_call Tryz.func96 (by kernel_rfl) rfl (h.f _) (by first | (simp only [List.map_toArray, List.map_cons, List.map_nil, h.get 61 rfl, h.c]; done) | (simp only [List.map_toArray, List.map_cons, List.map_nil, h.get 61 rfl, h.c]; rfl) | (simp [List.map_toArray, List.map_cons, List.map_nil, h.get 61 rfl, h.c, s3, e1, e2, s10, e3, e4]; done) | (simp [List.map_toArray, List.map_cons, List.map_nil, h.get 61 rfl, h.c, s3, e1, e2, s10, e3, e4]; rfl) | rfl)) (rot_any x15 7 (-7) rfl l15 (by decide) (by decide) _) ?_
      rintro e wa ⟨rfl, rfl⟩
      refine ⟨_, rfl, fun a45 hA45 => ?_⟩
      refine wl_op hA45 rfl rfl (by decide) (fun ev h => by simp [go_sem, h.get 6 rfl, s3, e1, e2, s10, e3, e4]; try first | exact ⟨rfl, rfl⟩ | rfl) fun a46 hA46 => ?_
      -- stop call slot 64
      refine wl_call hA46 rfl rfl (by decide) (fun ev h => exec_call Tryz.func96 (by kernel_rfl) rfl (h.f _) (by first | (simp only [List.map_toArray, List.map_cons, List.map_nil, h.get 63 rfl, h.c]; done) | (simp only [List.map_toArray, List.map_cons, List.map_nil, h.get 63 rfl, h.c]; rfl) | (simp [List.map_toArray, List.map_cons, List.map_nil, h.get 63 rfl, h.c, s3, e1, e2, s10, e3, e4]; done) | (simp [List.map_toArray, List.map_cons, List.map_nil, h.get 63 rfl, h.c, s3, e1, e2, s10, e3, e4]; rfl) | rfl)) (rot_any x15 18 (-18) rfl l15 (by decide) (by decide) _) ?_
      rintro e wa ⟨rfl, rfl⟩
      refine ⟨_, rfl, fun a47 hA47 => ?_⟩
      refine wl_op hA47 rfl rfl (by decide) (fun ev h => by simp [go_sem, h.get 62 rfl, h.get 64 rfl, s3, e1, e2, s10, e3, e4]; try first | exact ⟨rfl, rfl⟩ | rfl) fun a48 hA48 => ?_
      refine wl_op hA48 rfl rfl (by decide) (fun ev h => by simp [go_sem, h.get 6 rfl, s3, e1, e2, s10, e3, e4]; try first | exact ⟨rfl, rfl⟩ | rfl) fun a49 hA49 => ?_
      refine wl_op hA49 rfl rfl (by decide) (fun ev h => by simp [go_sem, h.c, h.get 66 rfl, s3, e1, e2, s10, e3, e4]; try first | exact ⟨rfl, rfl⟩ | rfl) fun a50 hA50 => ?_
      refine wl_op hA50 rfl rfl (by decide) (fun ev h => by simp [go_sem, h.get 65 rfl, h.get 67 rfl, s3, e1, e2, s10, e3, e4]; try first | exact ⟨rfl, rfl⟩ | rfl) fun a51 hA51 => ?_
      refine wl_op hA51 rfl rfl (by decide) (fun ev h => by simp [go_sem, h.get 68 rfl, s3, e1, e2, s10, e3, e4]; try first | exact ⟨rfl, rfl⟩ | rfl) fun a52 hA52 => ?_
      refine wl_nil ?_
      refine n_then ?_
      have hA53 := hA52.keep [2, 3, 5, 7, 8]
      simp only [argsE, keepE, lookS, Nat.reduceBEq, cond_true, cond_false, Nat.reduceAdd, gv_tt, gv_ff, Bool.true_and, Bool.false_and, Bool.true_or, Bool.false_or] at hA53
      clear hA43 hA44 hA45 hA46 hA47 hA48 hA49 hA50 hA51 hA52 a42 a44 a45 a46 a47 a48 a49 a50 a51
      refine wp_seq ?_
      refine wp_region_lit ?_
      refine wl_op hA53 rfl rfl (by decide) (fun ev h => by simp [go_sem, h.get 7 rfl, s3, e1, e2, s10, e3, e4]; try first | exact ⟨rfl, rfl⟩ | rfl) fun a54 hA54 => ?_
      -- stop call slot 70
      refine wl_call hA54 rfl rfl (by decide) (fun ev h => exec_call Tryz.func96 (by kernel_rfl) rfl (h.f _) (by first | (simp only [List.map_toArray, List.map_cons, List.map_nil, h.get 69 rfl, h.c]; done) | (simp only [List.map_toArray, List.map_cons, List.map_nil, h.get 69 rfl, h.c]; rfl) | (simp [List.map_toArray, List.map_cons, List.map_nil, h.get 69 rfl, h.c, s3, e1, e2, s10, e3, e4]; done) | (simp [List.map_toArray, List.map_cons, List.map_nil, h.get 69 rfl, h.c, s3, e1, e2, s10, e3, e4]; rfl) | rfl)) (rot_any x2 17 (-17) rfl l2 (by decide) (by decide) _) ?_
      rintro e wa ⟨rfl, rfl⟩
      refine ⟨_, rfl, fun a55 hA55 => ?_⟩
      refine wl_op hA55 rfl rfl (by decide) (fun ev h => by simp [go_sem, h.get 7 rfl, s3, e1, e2, s10, e3, e4]; try first | exact ⟨rfl, rfl⟩ | rfl) fun a56 hA56 => ?_
      -- stop call slot 72
      refine wl_call hA56 rfl rfl (by decide) (fun ev h => exec_call Tryz.func96 (by kernel_rfl) rfl (h.f _) (by first | (simp only [List.map_toArray, List.map_cons, List.map_nil, h.get 71 rfl, h.c]; done) | (simp only [List.map_toArray, List.map_cons, List.map_nil, h.get 71 rfl, h.c]; rfl) | (simp [List.map_toArray, List.map_cons, List.map_nil, h.get 71 rfl, h.c, s3, e1, e2, s10, e3, e4]; done) | (simp [List.map_toArray, List.map_cons, List.map_nil, h.get 71 rfl, h.c, s3, e1, e2, s10, e3, e4]; rfl) | rfl)) (rot_any x2 19 (-19) rfl l2 (by decide) (by decide) _) ?_
      rintro e wa ⟨rfl, rfl⟩
      refine ⟨_, rfl, fun a57 hA57 => ?_⟩
      refine wl_op hA57 rfl rfl (by decide) (fun ev h => by simp [go_sem, h.get 70 rfl, h.get 72 rfl, s3, e1, e2, s10, e3, e4]; try first | exact ⟨rfl, rfl⟩ | rfl) fun a58 hA58 => ?_
      refine wl_op hA58 rfl rfl (by decide) (fun ev h => by simp [go_sem, h.get 7 rfl, s3, e1, e2, s10, e3, e4]; try first | exact ⟨rfl, rfl⟩ | rfl) fun a59 hA59 => ?_
      refine wl_op hA59 rfl rfl (by decide) (fun ev h => by simp [go_sem, h.c, h.get 74 rfl, s3, e1, e2, s10, e3, e4]; try first | exact ⟨rfl, rfl⟩ | rfl) fun a60 hA60 => ?_
      refine wl_op hA60 rfl rfl (by decide) (fun ev h => by simp [go_sem, h.get 73 rfl, h.get 75 rfl, s3, e1, e2, s10, e3, e4]; try first | exact ⟨rfl, rfl⟩ | rfl) fun a61 hA61 => ?_
      refine wl_op hA61 rfl rfl (by decide) (fun ev h => by simp [go_sem, h.get 76 rfl, s3, e1, e2, s10, e3, e4]; try first | exact ⟨rfl, rfl⟩ | rfl) fun a62 hA62 => ?_
      refine wl_nil ?_
      refine n_then ?_
      have hA63 := hA62.keep [2, 3, 5, 8, 9]
      simp only [argsE, keepE, lookS, Nat.reduceBEq, cond_true, cond_false, Nat.reduceAdd, gv_tt, gv_ff, Bool.true_and, Bool.false_and, Bool.true_or, Bool.false_or] at hA63
      clear hA53 hA54 hA55 hA56 hA57 hA58 hA59 hA60 hA61 hA62 a52 a54 a55 a56 a57 a58 a59 a60 a61
      -- any
      refine wp_region_split 14 ?_
      simp only [List.take_succ_cons, List.take_zero, List.drop_succ_cons, List.drop_zero]
      refine wp_any_split_at hA63 [(.det ?dF0), (.det ?dF1), (.det ?dF2), (.det ?dF3), (.det ?dF4), (.det ?dF5), (.det ?dF6), (.det ?dF7), (.det ?dF8), (.det ?dF9), (.det ?dF10), (.det ?dF11), (.det ?dF12), (.det ?dF13)] [] (fun wy => Below wa.heap.size wa wy) (TSp [] Grows) (by kernel_rfl) rfl (by kernel_rfl) (by kernel_rfl) rfl (by kernel_rfl) (by kernel_rfl) (by kernel_rfl) (by kernel_rfl) ((Below.refl _ _).drew) (stab_sp [] [true, true, true, true, true, true, true, true, true, true, true, true, true, true] [true, true, true, true, true, true, true, true, true, true, true, true, true, true] [] rfl rfl rfl (by kernel_rfl) ⟨trivial, trivial, trivial, trivial, trivial, trivial, trivial, trivial, trivial, trivial, trivial, trivial, trivial, trivial, trivial⟩ trivial) (fun _ h => by cases h) (fun _ _ _ _ _ h => by cases h) (fun _ h => by cases h) ⟨?oF0, ?oF1, ?oF2, ?oF3, ?oF4, ?oF5, ?oF6, ?oF7, ?oF8, ?oF9, ?oF10, ?oF11, ?oF12, ?oF13, trivial⟩ (by kernel_rfl) ?fF
      case oF0 =>
        intro ev wo hev hC hs hph
        have e5 := see_env hA63 hs 5 (by kernel_rfl) (by kernel_rfl) rfl
        exact ob_det (wanted_none rfl) rfl (by kernel_rfl) hC (TSp.of rfl (Grows.refl _)) (by simp [go_sem, e5, w16, w7, jj, k16, k7, add0, w_ad]; try first | exact ⟨rfl, rfl⟩ | rfl)
      case oF1 =>
        intro ev wo hev hC hs hph
        have e5 := see_env hA63 hs 5 (by kernel_rfl) (by kernel_rfl) rfl
        exact ob_det (wanted_none rfl) rfl (by kernel_rfl) hC (TSp.of rfl (Grows.refl _)) (by simp [go_sem, e5, w16, w7, jj, k16, k7, add0, w_ad]; try first | exact ⟨rfl, rfl⟩ | rfl)
      case oF2 =>
        intro ev wo hev hC hs hph
        have e78 := see_det hs 78 1 (by kernel_rfl) (by kernel_rfl) rfl
        exact ob_det (wanted_none rfl) rfl (by kernel_rfl) hC (TSp.of rfl (Grows.refl _)) (by simp [go_sem, e78, hev.const, w16, w7, jj, k16, k7, add0, w_ad]; try first | exact ⟨rfl, rfl⟩ | rfl)
      case oF3 =>
        intro ev wo hev hC hs hph
        have e3 := see_env hA63 hs 3 (by kernel_rfl) (by kernel_rfl) rfl
        have e79 := see_det hs 79 2 (by kernel_rfl) (by kernel_rfl) rfl
        exact ob_det (wanted_none rfl) rfl (by kernel_rfl) hC (TSp.of rfl (Grows.refl _)) (by simp [go_sem, e3, e79, w16, w7, jj, k16, k7, add0, w_ad]; try first | exact ⟨rfl, rfl⟩ | rfl)
      case oF4 =>
        intro ev wo hev hC hs hph
        have e80 := see_det hs 80 3 (by kernel_rfl) (by kernel_rfl) rfl
        have Kx := K3f.below hC K3f.lt
        exact ob_det (wanted_none rfl) rfl (by kernel_rfl) hC (TSp.of rfl (Grows.refl _)) (by simp [go_sem, e80, Kx.cell, c16, c7, s3, e1, e2, s10, e3, e4, w16, w7, jj, k16, k7, add0, w_ad]; try first | exact ⟨rfl, rfl⟩ | rfl)
      case oF5 =>
        intro ev wo hev hC hs hph
        have e8 := see_env hA63 hs 8 (by kernel_rfl) (by kernel_rfl) rfl
        exact ob_det (wanted_none rfl) rfl (by kernel_rfl) hC (TSp.of rfl (Grows.refl _)) (by simp [go_sem, e8, w16, w7, jj, k16, k7, add0, w_ad]; try first | exact ⟨rfl, rfl⟩ | rfl)
      case oF6 =>
        intro ev wo hev hC hs hph
        have e81 := see_det hs 81 4 (by kernel_rfl) (by kernel_rfl) rfl
        have e82 := see_det hs 82 5 (by kernel_rfl) (by kernel_rfl) rfl
        exact ob_det (wanted_none rfl) rfl (by kernel_rfl) hC (TSp.of rfl (Grows.refl _)) (by simp [go_sem, e81, e82, w16, w7, jj, k16, k7, add0, w_ad]; try first | exact ⟨rfl, rfl⟩ | rfl)
      case oF7 =>
        intro ev wo hev hC hs hph
        have e5 := see_env hA63 hs 5 (by kernel_rfl) (by kernel_rfl) rfl
        exact ob_det (wanted_none rfl) rfl (by kernel_rfl) hC (TSp.of rfl (Grows.refl _)) (by simp [go_sem, e5, w16, w7, jj, k16, k7, add0, w_ad]; try first | exact ⟨rfl, rfl⟩ | rfl)
      case oF8 =>
        intro ev wo hev hC hs hph
        have e84 := see_det hs 84 7 (by kernel_rfl) (by kernel_rfl) rfl
        exact ob_det (wanted_none rfl) rfl (by kernel_rfl) hC (TSp.of rfl (Grows.refl _)) (by simp [go_sem, e84, hev.const, w16, w7, jj, k16, k7, add0, w_ad]; try first | exact ⟨rfl, rfl⟩ | rfl)
      case oF9 =>
        intro ev wo hev hC hs hph
        have e3 := see_env hA63 hs 3 (by kernel_rfl) (by kernel_rfl) rfl
        have e85 := see_det hs 85 8 (by kernel_rfl) (by kernel_rfl) rfl
        exact ob_det (wanted_none rfl) rfl (by kernel_rfl) hC (TSp.of rfl (Grows.refl _)) (by simp [go_sem, e3, e85, w16, w7, jj, k16, k7, add0, w_ad]; try first | exact ⟨rfl, rfl⟩ | rfl)
      case oF10 =>
        intro ev wo hev hC hs hph
        have e86 := see_det hs 86 9 (by kernel_rfl) (by kernel_rfl) rfl
        have Kx := K3f.below hC K3f.lt
        exact ob_det (wanted_none rfl) rfl (by kernel_rfl) hC (TSp.of rfl (Grows.refl _)) (by simp [go_sem, e86, Kx.cell, c16, c7, s3, e1, e2, s10, e3, e4, w16, w7, jj, k16, k7, add0, w_ad]; try first | exact ⟨rfl, rfl⟩ | rfl)
      case oF11 =>
        intro ev wo hev hC hs hph
        have e83 := see_det hs 83 6 (by kernel_rfl) (by kernel_rfl) rfl
        have e87 := see_det hs 87 10 (by kernel_rfl) (by kernel_rfl) rfl
        exact ob_det (wanted_none rfl) rfl (by kernel_rfl) hC (TSp.of rfl (Grows.refl _)) (by simp [go_sem, e83, e87, w16, w7, jj, k16, k7, add0, w_ad]; try first | exact ⟨rfl, rfl⟩ | rfl)
      case oF12 =>
        intro ev wo hev hC hs hph
        have e9 := see_env hA63 hs 9 (by kernel_rfl) (by kernel_rfl) rfl
        exact ob_det (wanted_none rfl) rfl (by kernel_rfl) hC (TSp.of rfl (Grows.refl _)) (by simp [go_sem, e9, w16, w7, jj, k16, k7, add0, w_ad]; try first | exact ⟨rfl, rfl⟩ | rfl)
      case oF13 =>
        intro ev wo hev hC hs hph
        have e88 := see_det hs 88 11 (by kernel_rfl) (by kernel_rfl) rfl
        have e89 := see_det hs 89 12 (by kernel_rfl) (by kernel_rfl) rfl
        exact ob_det (wanted_none rfl) rfl (by kernel_rfl) hC (TSp.of rfl (Grows.refl _)) (by simp [go_sem, e88, e89, w16, w7, jj, k16, k7, add0, w_ad]; try first | exact ⟨rfl, rfl⟩ | rfl)
      intro sg wf hC hph
      intro a64 hA64
      have hA65 := hA64.keep [2, 3, 5, 77, 90]
      simp only [argsE, keepE, lookS, Nat.reduceBEq, cond_true, cond_false, Nat.reduceAdd, gv_tt, gv_ff, Bool.true_and, Bool.false_and, Bool.true_or, Bool.false_or] at hA65
      clear hA63 hA64 a62
      have K2g := K2f.below hC K2f.lt
      have K3g := K3f.below hC K3f.lt
      have HBg := HBf.trans (hC.mono HBf.size)
      have hci := shaCells_zero (l := shaW b i) (j := i) (by omega) (by omega)
      have ki : (i : Int) < 64 := by omega
      obtain ⟨V, hV⟩ : ∃ V, shaNext (shaW b i) i = V := ⟨_, rfl⟩
      have hVe : ad (ad (ad x16 (xo (xo (rotr x15 7) (rotr x15 18)) (sr x15 3))) x7) (xo (xo (rotr x2 17) (rotr x2 19)) (sr x2 10)) = V := by
        rw [← hV, hnx]
        unfold shaNext4 smallS smallT ad xo sr
        omega
      rw [hVe] at hA65
      refine wl_op hA65 rfl rfl (by decide) (fun ev h => by simp [go_sem, h.get 3 rfl, h.get 77 rfl, jj, ki, add0, hci]; try first | exact ⟨rfl, rfl⟩ | rfl) fun a66 hA66 => ?_
      -- stop store slot None
      refine wl_setf ((shaCells (shaW b i)).set i (.int .u32 (V : Nat))) _ hA66 rfl rfl K3g (j := i) (by rfl) (fun ev h => by simp [go_sem, h.get 91 rfl, h.get 90 rfl, jj, ki, add0, hci, K3g.cell, K3g.frozen]; try first | exact ⟨rfl, rfl⟩ | rfl) fun w5 (K3g : Blk _ _ _ _) hs => ?_
      have hwi : IntKind.i64.wrap ((i : Int) + 1) = ((i + 1 : Nat) : Int) := by rw [IntWalk.i64_in _ (by omega)]; omega
      refine wl_nil ?_
      refine n_block ?_
      refine n_then ?_
      have hA67 := hA66.keep [2, 3, 5]
      simp only [argsE, keepE, lookS, Nat.reduceBEq, cond_true, cond_false, Nat.reduceAdd, gv_tt, gv_ff, Bool.true_and, Bool.false_and, Bool.true_or, Bool.false_or] at hA67
      clear hA65 hA66 a64
      refine wp_region_lit ?_
      refine wl_op hA67 rfl rfl (by decide) (fun ev h => by simp [go_sem, h.get 5 rfl, hwi]; try first | exact ⟨rfl, rfl⟩ | rfl) fun a68 hA68 => ?_
      refine wl_op hA68 rfl rfl (by decide) (fun ev h => by simp [go_sem, h.c, h.get 51 rfl, hwi]; try first | exact ⟨rfl, rfl⟩ | rfl) fun a69 hA69 => ?_
      refine wl_op hA69 rfl rfl (by decide) (fun ev h => by simp [go_sem, h.get 52 rfl, hwi]; try first | exact ⟨rfl, rfl⟩ | rfl) fun a70 hA70 => ?_
      refine wl_nil ?_
      refine n_then ?_
      have hA71 := hA70.keep [2, 3, 5]
      simp only [argsE, keepE, lookS, Nat.reduceBEq, cond_true, cond_false, Nat.reduceAdd, gv_tt, gv_ff, Bool.true_and, Bool.false_and, Bool.true_or, Bool.false_or] at hA71
      clear hA67 hA68 hA69 hA70 a66 a68 a69
      -- round
      refine ⟨k - 1, by omega, i + 1, by omega, by omega, hA71, hs.blk K2g h23, ?_, hs.below HBg h3⟩
      have e := shaCells_set (l := shaW b i) (by omega) V
      rw [hlen] at e
      rw [show shaW b (i + 1) = shaW b i ++ [V] by rw [← hV]; show shaW b i ++ _ = _; rw [if_neg (by omega)], ← e]
      exact K3g
    case nM =>
      have hi : i = 64 := by simp at hq; omega
      subst hi
      refine wp_exit ?_
      refine x_then ?_
      refine x_then ?_
      refine x_block ?_
      refine n_then ?_
      have hA72 := hA41.keep [2, 3]
      simp only [argsE, keepE, lookS, Nat.reduceBEq, cond_true, cond_false, Nat.reduceAdd, gv_tt, gv_ff, Bool.true_and, Bool.false_and, Bool.true_or, Bool.false_or] at hA72
      clear hA41
      refine wp_seq ?_
      refine wp_region_lit ?_
      -- limit load slot 92
      have h64 : (shaCells (shaW b 64)).length = 64 := shaCells_len (Nat.le_of_eq (shaW_length b 64))
      refine wl_op hA72 rfl rfl (by decide) (fun ev h => exec_loadA K3 Tryz.underlying151 rfl (by kernel_rfl) h64 rfl (h.get 3 rfl)) fun a73 hA73 => ?_
      refine wl_setw (shaCells (shaW b 64)) hA73 rfl rfl K2 (shaCells_len (l := []) (by decide)) h64 (by kernel_rfl) (shaCells_one _) rfl (fun ev h => ⟨h.get 2 rfl, h.get 92 rfl⟩) fun w6 (K2 : Blk _ _ _ _) hs => ?_
      refine wl_nil ?_
      refine n_then ?_
      have hA74 := hA73.keep [2]
      simp only [argsE, keepE, lookS, Nat.reduceBEq, cond_true, cond_false, Nat.reduceAdd, gv_tt, gv_ff, Bool.true_and, Bool.false_and, Bool.true_or, Bool.false_or] at hA74
      clear hA72 hA73
      refine wp_ret ?_
      refine ret_cell hA74 2 rfl rfl K2 Tryz.underlying151 rfl (by kernel_rfl) h64 ?_
      exact ⟨by rw [shaCells_full (shaW_length b 64)], hs.below HB (by omega)⟩
end Go.Proofs.YtmjikfeaopmejaaGreatDoor
/-
  Walk: a state turned by a block (sum.mix).
-/
namespace Go.Proofs.YtmjikfeaopmejaaGreatDoor
open Go.RowKit
set_option linter.unusedSimpArgs false
set_option linter.unusedVariables false
structure ShaS.Ok (s : ShaS) : Prop where
  a : s.a < 4294967296
  b : s.b < 4294967296
  c : s.c < 4294967296
  d : s.d < 4294967296
  e : s.e < 4294967296
  f : s.f < 4294967296
  g : s.g < 4294967296
  h : s.h < 4294967296
theorem shaStep_ok {s : ShaS} (k w : Nat) (h : s.Ok) : (shaStep k w s).Ok := ⟨Nat.mod_lt _ (by decide), h.a, h.b, h.c, Nat.mod_lt _ (by decide), h.e, h.f, h.g⟩
theorem shaSteps_ok {s : ShaS} (w : List Nat) (h : s.Ok) : ∀ i, (shaSteps w s i).Ok
  | 0 => h
  | i + 1 => shaStep_ok _ _ (shaSteps_ok w h i)
theorem shaAdd_ok (s t : ShaS) : (shaAdd s t).Ok := ⟨Nat.mod_lt _ (by decide), Nat.mod_lt _ (by decide), Nat.mod_lt _ (by decide), Nat.mod_lt _ (by decide), Nat.mod_lt _ (by decide), Nat.mod_lt _ (by decide), Nat.mod_lt _ (by decide), Nat.mod_lt _ (by decide)⟩
def mixN (t s : ShaS) (i : Nat) : List Nat := (List.range 8).map fun j => if j < i then ad (t.l.getD j 0) (s.l.getD j 0) else t.l.getD j 0
theorem mixN_get {t s : ShaS} {i : Nat} (h : i < 8) : ((mixN t s i).map u32v)[i]? = some (.int .u32 ((t.l.getD i 0 : Nat) : Int)) := by
  unfold mixN
  rw [List.getElem?_map, List.getElem?_map, List.getElem?_range h]
  simp [u32v]
theorem l_get {s : ShaS} {i : Nat} (h : i < 8) : (s.l.map u32v)[i]? = some (.int .u32 ((s.l.getD i 0 : Nat) : Int)) := by
  rw [List.getElem?_map, List.getD_eq_getElem?_getD, List.getElem?_eq_getElem (show i < s.l.length from h)]
  rfl
theorem mixN_set {t s : ShaS} {i : Nat} (h : i < 8) : ((mixN t s i).map u32v).set i (.int .u32 ((ad (t.l.getD i 0) (s.l.getD i 0) : Nat) : Int)) = (mixN t s (i + 1)).map u32v := by
  have hc : i = 0 ∨ i = 1 ∨ i = 2 ∨ i = 3 ∨ i = 4 ∨ i = 5 ∨ i = 6 ∨ i = 7 := by omega
  rcases hc with rfl | rfl | rfl | rfl | rfl | rfl | rfl | rfl <;> rfl
theorem mixN_len (t s : ShaS) (i : Nat) : ((mixN t s i).map u32v).length = 8 := by unfold mixN; simp
theorem l_len (s : ShaS) : (s.l.map u32v).length = 8 := rfl
theorem shaK_lt : ∀ x ∈ shaK, x < 4294967296 := by decide
theorem shaK_at {i : Nat} (h : i < 64) : (shaK.map u32v)[i]? = some (.int .u32 ((shaK.getD i 0 : Nat) : Int)) := by
  rw [List.getElem?_map, List.getD_eq_getElem?_getD, List.getElem?_eq_getElem (show i < shaK.length from h)]
  rfl
theorem map_one (l : List Nat) : (l.map u32v).all (·.oneCell') = true := by
  rw [List.all_map, List.all_eq_true]
  intro x _
  rfl
theorem w_not {a : Nat} (ha : a < 4294967296) : bits .xor .u32 (if IntKind.u32.signed = true then -1 else IntKind.u32.max) (a : Int) = ((no32 a : Nat) : Int) := by
  have e : 4294967295 ^^^ a = no32 a := by
    apply Nat.eq_of_testBit_eq
    intro i
    have h1 : (4294967295 : Nat).testBit i = decide (i < 32) := by
      have := Nat.testBit_two_pow_sub_one 32 i
      simpa using this
    unfold no32
    rw [Nat.testBit_xor, h1, compl_bit ha]
    by_cases hi : i < 32
    · simp [hi]
    · have : a.testBit i = false := Nat.testBit_lt_two_pow (Nat.lt_of_lt_of_le (show a < 2 ^ 32 from ha) (Nat.pow_le_pow_right (by omega) (by omega)))
      simp [hi, this]
  have := u32_xor_nat 4294967295 a (by decide) ha
  rw [e] at this
  exact this
theorem shaStep_cells {va vb vc vd ve vf vg vh kk ww V1 V2 : Nat} (hV1 : ad (ad (ad (ad vh (xo (xo (rotr ve 6) (rotr ve 11)) (rotr ve 25))) (xo (an ve vf) (an (no32 ve) vg))) kk) ww = V1) (hV2 : ad (xo (xo (rotr va 2) (rotr va 13)) (rotr va 22)) (xo (xo (an va vb) (an va vc)) (an vb vc)) = V2) :
    (shaStep kk ww ⟨va, vb, vc, vd, ve, vf, vg, vh⟩).l.map u32v = [.int .u32 (ad V1 V2 : Nat), .int .u32 (va : Nat), .int .u32 (vb : Nat), .int .u32 (vc : Nat), .int .u32 (ad vd V1 : Nat), .int .u32 (ve : Nat), .int .u32 (vf : Nat), .int .u32 (vg : Nat)] := by
  have ea : (vh + bigS ve + choose ve vf vg + kk + ww + bigT va + most va vb vc) % 4294967296 = ad V1 V2 := by
    rw [← hV1, ← hV2]
    unfold bigS choose bigT most ad xo an no32
    omega
  have eb : (vd + (vh + bigS ve + choose ve vf vg + kk + ww)) % 4294967296 = ad vd V1 := by
    rw [← hV1]
    unfold bigS choose ad xo an no32
    omega
  unfold shaStep ShaS.l
  simp only [List.map_cons, List.map_nil]
  rw [ea, eb]
  rfl
theorem mix0 (t s : ShaS) : (mixN t s 0).map u32v = t.l.map u32v := rfl
theorem mix8 (t s : ShaS) : (mixN t s 8).map u32v = (shaAdd t s).l.map u32v := by
  congr 1
theorem rot_below (x n : Nat) (m : Int) (hm : m = -(n : Int)) (hx : x < 4294967296) (h1 : 1 ≤ n) (h2 : n ≤ 31) (w : World) :
    Calls Tryz.prog 96 #[.int .u32 (x : Nat), .int .i64 m] w fun ev w' => ev = .returned (.int .u32 (rotr x n : Nat)) ∧ Below w.heap.size w w' :=
  (rot_any x n m hm hx h1 h2 w).mono fun _ _ h => ⟨h.1, h.2 ▸ Below.refl _ _⟩
set_option maxRecDepth 100000 in
theorem steps_any (w : World) : Calls Tryz.prog 95 #[] w fun ev w' => ev = .returned (.agg (shaK.map u32v).toArray) ∧ Below w.heap.size w w' := by
  refine calls_at 2 Tryz.func95 rfl rfl (Nat.le_of_ble_eq_true rfl) ?_
  intro a hA
  simp only [argsE, keepE, lookS, Nat.reduceBEq, cond_true, cond_false, Nat.reduceAdd, gv_tt, gv_ff, Bool.true_and, Bool.false_and, Bool.true_or, Bool.false_or] at hA
  refine wp_seq ?_
  refine wp_region_lit ?_
  -- stop alloc slot 0
  refine wl_new hA rfl rfl (by decide) (fun ev h => by simp [go_sem]; try first | exact ⟨rfl, rfl⟩ | rfl) fun w1 a1 (K0 : Blk _ _ _ _) hz0 hb0 hA1 => ?_
  replace K0 : Blk w1 w.heap.size 151 (shaCells []).toArray := K0
  refine wl_nil ?_
  refine n_then ?_
  have hA2 := hA1.keep [0]
  simp only [argsE, keepE, lookS, Nat.reduceBEq, cond_true, cond_false, Nat.reduceAdd, gv_tt, gv_ff, Bool.true_and, Bool.false_and, Bool.true_or, Bool.false_or] at hA2
  clear hA hA1
  refine wp_seq ?_
  refine wp_region_lit ?_
  -- limit build slot 1
  refine wl_op hA2 rfl rfl (by decide) (fun ev h => exec_buildC (v := .agg (shaK.map u32v).toArray) h rfl (by kernel_rfl) (by kernel_rfl)) fun a3 hA3 => ?_
  -- stop store slot None
  refine wl_setw (shaK.map u32v) hA3 rfl rfl K0 (shaCells_len (l := []) (by decide)) (rfl : (shaK.map u32v).length = 64) (by kernel_rfl) (map_one _) rfl (fun ev h => ⟨h.get 0 rfl, h.get 1 rfl⟩) fun w2 (K0 : Blk _ _ _ _) hs => ?_
  refine wl_nil ?_
  refine n_then ?_
  have hA4 := hA3.keep [0]
  simp only [argsE, keepE, lookS, Nat.reduceBEq, cond_true, cond_false, Nat.reduceAdd, gv_tt, gv_ff, Bool.true_and, Bool.false_and, Bool.true_or, Bool.false_or] at hA4
  clear hA2 hA3 a1
  refine wp_ret ?_
  refine ret_cell hA4 0 rfl rfl K0 Tryz.underlying151 rfl (by kernel_rfl) (rfl : (shaK.map u32v).length = 64) ?_
  exact ⟨rfl, hs.below hb0 (Nat.le_refl _)⟩
set_option maxRecDepth 100000 in
set_option maxHeartbeats 1000000 in
theorem mix_any (s : ShaS) (hs0 : s.Ok) (A : Option Addr) (c : Nat) (b : List UInt8) (hl : b.length = 64) (w : World) (hr : Reads w w.heap.size 1 A 64 (u8s b)) :
    Calls Tryz.prog 80 #[.agg (s.l.map u32v).toArray, .slice A 64 c] w fun ev w' => ev = .returned (.agg ((shaMix s b).l.map u32v).toArray) ∧ Below w.heap.size w w' := by
  refine calls_at 111 Tryz.func80 rfl rfl (Nat.le_of_ble_eq_true rfl) ?_
  intro a hA
  simp only [argsE, keepE, lookS, Nat.reduceBEq, cond_true, cond_false, Nat.reduceAdd, gv_tt, gv_ff, Bool.true_and, Bool.false_and, Bool.true_or, Bool.false_or] at hA
  refine wp_seq ?_
  refine wp_region_lit ?_
  -- stop box slot 2
  refine wl_new hA rfl rfl (by decide) (fun ev h => by simp [go_sem, h.get 0 rfl]; try first | exact ⟨rfl, rfl⟩ | rfl) fun w1 a5 (K2 : Blk _ _ _ _) hz1 hb1 hA5 => ?_
  obtain ⟨g2, hg2⟩ : ∃ g, w.heap.size = g := ⟨_, rfl⟩
  rw [hg2] at K2 hA5
  replace K2 : Blk w1 g2 137 (s.l.map u32v).toArray := K2
  have HB : Below w.heap.size w w1 := hb1
  -- stop alloc slot 4
  refine wl_new hA5 rfl rfl (by decide) (fun ev h => by simp [go_sem]; try first | exact ⟨rfl, rfl⟩ | rfl) fun w2 a6 (K4 : Blk _ _ _ _) hz2 hb2 hA6 => ?_
  replace HB := HB.trans (hb2.mono HB.size)
  replace K2 := K2.below hb2 K2.lt
  obtain ⟨g4, hg4⟩ : ∃ g, w1.heap.size = g := ⟨_, rfl⟩
  rw [hg4] at K4 hA6
  have h24 : g2 ≠ g4 := by omega
  have h4 : w.heap.size ≤ g4 := by omega
  refine wl_nil ?_
  refine n_then ?_
  have hA7 := hA6.keep [1, 2, 4]
  simp only [argsE, keepE, lookS, Nat.reduceBEq, cond_true, cond_false, Nat.reduceAdd, gv_tt, gv_ff, Bool.true_and, Bool.false_and, Bool.true_or, Bool.false_or] at hA7
  clear hA hA5 hA6 a5
  refine wp_seq ?_
  refine wp_region_lit ?_
  refine wl_op hA7 rfl rfl (by decide) (fun ev h => by simp [go_sem, h.get 1 rfl]; try first | exact ⟨rfl, rfl⟩ | rfl) fun a8 hA8 => ?_
  -- stop call slot 15
  refine wl_call hA8 rfl rfl (by decide) (fun ev h => exec_call Tryz.func94 (by kernel_rfl) rfl (h.f _) (by first | (simp only [List.map_toArray, List.map_cons, List.map_nil, h.get 14 rfl, h.c]; done) | (simp only [List.map_toArray, List.map_cons, List.map_nil, h.get 14 rfl, h.c]; rfl) | (simp [List.map_toArray, List.map_cons, List.map_nil, h.get 14 rfl, h.c]; done) | (simp [List.map_toArray, List.map_cons, List.map_nil, h.get 14 rfl, h.c]; rfl) | rfl)) (schedule_any A c b hl _ ((hr.below HB).more HB.size)) ?_
  rintro e w3 ⟨rfl, hb3⟩
  refine ⟨_, rfl, fun a9 hA9 => ?_⟩
  replace HB := HB.trans (hb3.mono HB.size)
  replace K2 := K2.below hb3 K2.lt
  replace K4 := K4.below hb3 K4.lt
  -- stop call slot 16
  refine wl_call hA9 rfl rfl (by decide) (fun ev h => exec_call Tryz.func95 (by kernel_rfl) rfl (h.f _) (by first | (simp only [List.map_toArray, List.map_cons, List.map_nil, h.c]; done) | (simp only [List.map_toArray, List.map_cons, List.map_nil, h.c]; rfl) | (simp [List.map_toArray, List.map_cons, List.map_nil, h.c]; done) | (simp [List.map_toArray, List.map_cons, List.map_nil, h.c]; rfl) | rfl)) (steps_any _) ?_
  rintro e w4 ⟨rfl, hb4⟩
  refine ⟨_, rfl, fun a10 hA10 => ?_⟩
  replace HB := HB.trans (hb4.mono HB.size)
  replace K2 := K2.below hb4 K2.lt
  replace K4 := K4.below hb4 K4.lt
  have HBw := HB
  -- stop alloc slot 5
  have h3g : w.heap.size ≤ w4.heap.size := HB.size
  have l2 := K2.lt
  have l4 := K4.lt
  refine wl_new hA10 rfl rfl (by decide) (fun ev h => by simp [go_sem]; try first | exact ⟨rfl, rfl⟩ | rfl) fun w5 a11 (K5 : Blk _ _ _ _) hz5 hb5 hA11 => ?_
  replace HB := HB.trans (hb5.mono HB.size)
  replace K2 := K2.below hb5 K2.lt
  replace K4 := K4.below hb5 K4.lt
  obtain ⟨g5, hg5⟩ : ∃ g, w4.heap.size = g := ⟨_, rfl⟩
  rw [hg5] at K5 hA11
  replace K5 : Blk w5 g5 151 (shaCells []).toArray := K5
  have h25 : g2 < g5 := by omega
  have h45 : g4 < g5 := by omega
  -- stop alloc slot 6
  refine wl_new hA11 rfl rfl (by decide) (fun ev h => by simp [go_sem]; try first | exact ⟨rfl, rfl⟩ | rfl) fun w6 a12 (K6 : Blk _ _ _ _) hz6 hb6 hA12 => ?_
  replace HB := HB.trans (hb6.mono HB.size)
  replace K2 := K2.below hb6 K2.lt
  replace K4 := K4.below hb6 K4.lt
  replace K5 := K5.below hb6 K5.lt
  obtain ⟨g6, hg6⟩ : ∃ g, w5.heap.size = g := ⟨_, rfl⟩
  rw [hg6] at K6 hA12
  replace K6 : Blk w6 g6 151 (shaCells []).toArray := K6
  have h56 : g5 < g6 := by omega
  have hB5 : w.heap.size ≤ g5 := by omega
  have hW : ((shaW b 64).map u32v).length = 64 := by rw [List.length_map, shaW_length]
  -- stop store slot None
  refine wl_setw ((shaW b 64).map u32v) hA12 rfl rfl K5 (shaCells_len (l := []) (by decide)) hW (by kernel_rfl) (map_one _) rfl (fun ev h => ⟨h.get 5 rfl, h.get 15 rfl⟩) fun w7 (K5 : Blk _ _ _ _) hs5 => ?_
  replace K6 := hs5.blk K6 (by omega)
  replace K2 := hs5.blk K2 (by omega)
  replace K4 := hs5.blk K4 (by omega)
  replace HB := hs5.below HB hB5
  -- stop store slot None
  refine wl_setw (shaK.map u32v) hA12 rfl rfl K6 (shaCells_len (l := []) (by decide)) (rfl : (shaK.map u32v).length = 64) (by kernel_rfl) (map_one _) rfl (fun ev h => ⟨h.get 6 rfl, h.get 16 rfl⟩) fun w8 (K6 : Blk _ _ _ _) hs6 => ?_
  replace K5 := hs6.blk K5 (by omega)
  replace K2 := hs6.blk K2 (by omega)
  replace K4 := hs6.blk K4 (by omega)
  replace HB := hs6.below HB (by omega)
  refine wl_nil ?_
  refine n_then ?_
  have hA13 := hA12.keep [2, 4, 5, 6]
  simp only [argsE, keepE, lookS, Nat.reduceBEq, cond_true, cond_false, Nat.reduceAdd, gv_tt, gv_ff, Bool.true_and, Bool.false_and, Bool.true_or, Bool.false_or] at hA13
  clear hA7 hA8 hA9 hA10 hA11 hA12 a6 a8 a9 a10 a11
  refine wp_seq ?_
  refine wp_region_lit ?_
  -- limit load slot 17
  refine wl_op hA13 rfl rfl (by decide) (fun ev h => exec_loadA K2 Tryz.underlying137 rfl (by kernel_rfl) (l_len s) rfl (h.get 2 rfl)) fun a14 hA14 => ?_
  -- stop alloc slot 7
  have l6 := K6.lt
  refine wl_new hA14 rfl rfl (by decide) (fun ev h => by simp [go_sem]; try first | exact ⟨rfl, rfl⟩ | rfl) fun w9 a15 (K7 : Blk _ _ _ _) hz9 hb9 hA15 => ?_
  replace HB := HB.trans (hb9.mono HB.size)
  replace K2 := K2.below hb9 K2.lt
  replace K4 := K4.below hb9 K4.lt
  replace K5 := K5.below hb9 K5.lt
  replace K6 := K6.below hb9 K6.lt
  obtain ⟨g7, hg7⟩ : ∃ g, w8.heap.size = g := ⟨_, rfl⟩
  rw [hg7] at K7 hA15
  have h67 : g6 < g7 := by omega
  -- stop store slot None
  refine wl_setw (s.l.map u32v) hA15 rfl rfl K7 (by rfl) (l_len s) (by kernel_rfl) (map_one _) rfl (fun ev h => ⟨h.get 7 rfl, h.get 17 rfl⟩) fun w10 (K7 : Blk _ _ _ _) hs7 => ?_
  replace K5 := hs7.blk K5 (by omega)
  replace K6 := hs7.blk K6 (by omega)
  replace K2 := hs7.blk K2 (by omega)
  replace K4 := hs7.blk K4 (by omega)
  replace HB := hs7.below HB (by omega)
  obtain ⟨W, hWe⟩ : ∃ W, shaW b 64 = W := ⟨_, rfl⟩
  have hlW : W.length = 64 := by rw [← hWe, shaW_length]
  have hWlt : ∀ j, W.getD j 0 < 4294967296 := fun j => by rw [← hWe]; exact shaW_getD_lt b 64 j
  have hcW : ∀ j, j < 64 → (W.map u32v)[j]? = some (.int .u32 ((W.getD j 0 : Nat) : Int)) := fun j hj => by
    rw [List.getElem?_map, List.getD_eq_getElem?_getD, List.getElem?_eq_getElem (by omega)]
    rfl
  have hfin : shaMix s b = shaAdd (shaSteps W s 64) s := by unfold shaMix; rw [hWe]
  rw [hWe] at K5
  clear hs5 hs6 hs7 hb9 hb6 hb5 hb1 hb2 hb3 hb4 hWe hr
  refine wl_nil ?_
  refine n_then ?_
  have hA16 := hA15.keep [2, 4, 5, 6, 7]
  simp only [argsE, keepE, lookS, Nat.reduceBEq, cond_true, cond_false, Nat.reduceAdd, gv_tt, gv_ff, Bool.true_and, Bool.false_and, Bool.true_or, Bool.false_or] at hA16
  clear hA13 hA14 hA15 a12 a14
  refine wp_seq ?_
  refine wp_seq ?_
  refine wp_region_lit ?_
  refine wl_op hA16 rfl rfl (by decide) (fun ev h => by simp [go_sem, h.c]; try first | exact ⟨rfl, rfl⟩ | rfl) fun a17 hA17 => ?_
  refine wl_nil ?_
  refine n_then ?_
  have hA18 := hA17.keep [2, 4, 5, 6, 7, 18]
  simp only [argsE, keepE, lookS, Nat.reduceBEq, cond_true, cond_false, Nat.reduceAdd, gv_tt, gv_ff, Bool.true_and, Bool.false_and, Bool.true_or, Bool.false_or] at hA18
  clear hA16 hA17 a15
  refine wp_block ?_
  -- loop
  refine wp_loop_at (fun k a wx => ∃ (i : Nat), i + k = 64 ∧ At 111 [(2, .pointer (some ⟨g2, 0, none⟩)), (4, .pointer (some ⟨g4, 0, none⟩)), (5, .pointer (some ⟨g5, 0, none⟩)), (6, .pointer (some ⟨g6, 0, none⟩)), (7, .pointer (some ⟨g7, 0, none⟩)), (18, .int .i64 (i : Nat))] a ∧ Blk wx g2 137 (s.l.map u32v).toArray ∧ Blk wx g4 137 #[.int .u32 0, .int .u32 0, .int .u32 0, .int .u32 0, .int .u32 0, .int .u32 0, .int .u32 0, .int .u32 0] ∧ Blk wx g5 151 (W.map u32v).toArray ∧ Blk wx g6 151 (shaK.map u32v).toArray ∧ Blk wx g7 137 ((shaSteps W s i).l.map u32v).toArray ∧ Below w.heap.size w wx) (64) ?_ ?_
  · exact ⟨0, by omega, hA18, K2, K4, K5, K6, K7, HB⟩
  clear K2 K4 K5 K6 K7 HB
  rintro k a wx ⟨i, hik, hA, K2, K4, K5, K6, K7, HB⟩
  refine wp_seq ?_
  refine wp_region_lit ?_
  refine wl_op hA rfl rfl (by decide) (fun ev h => by simp [go_sem, h.c, h.get 18 rfl]; try first | exact ⟨rfl, rfl⟩ | rfl) fun a19 hA19 => ?_
  refine wl_nil ?_
  refine n_then ?_
  have hA20 := hA19.keep [2, 4, 5, 6, 7, 18, 19]
  simp only [argsE, keepE, lookS, Nat.reduceBEq, cond_true, cond_false, Nat.reduceAdd, gv_tt, gv_ff, Bool.true_and, Bool.false_and, Bool.true_or, Bool.false_or] at hA20
  clear hA hA19
  refine wp_seq ?_
  -- cond
  refine wp_if hA20 19 _ rfl (fun hq => ?yL) (fun hq => ?nL)
  case yL =>
    have hi : i < 64 := by simp at hq; omega
    have hok := shaSteps_ok W hs0 i
    have hnext : shaSteps W s (i + 1) = shaStep (shaK.getD i 0) (W.getD i 0) (shaSteps W s i) := rfl
    have ck := shaK_at hi
    have cw := hcW i hi
    have lk : shaK.getD i 0 < 4294967296 := by
      rw [List.getD_eq_getElem?_getD, List.getElem?_eq_getElem (show i < shaK.length from hi)]
      exact shaK_lt _ (List.getElem_mem _)
    have lw := hWlt i
    obtain ⟨kk, hkk⟩ : ∃ x, shaK.getD i 0 = x := ⟨_, rfl⟩
    obtain ⟨ww, hww⟩ : ∃ x, W.getD i 0 = x := ⟨_, rfl⟩
    rw [hkk] at ck lk hnext
    rw [hww] at cw lw hnext
    generalize shaSteps W s i = st at *
    obtain ⟨va, vb, vc, vd, ve, vf, vg, vh⟩ := st
    obtain ⟨la, lb, lc, ld, le, lf, lg, lh⟩ := hok
    simp only at la lb lc ld le lf lg lh
    have K7c : Blk wx g7 137 #[.int .u32 (va : Nat), .int .u32 (vb : Nat), .int .u32 (vc : Nat), .int .u32 (vd : Nat), .int .u32 (ve : Nat), .int .u32 (vf : Nat), .int .u32 (vg : Nat), .int .u32 (vh : Nat)] := K7
    clear K7
    refine wp_skip ?_
    refine n_then ?_
    refine wp_seq ?_
    refine wp_block ?_
    refine wp_seq ?_
    refine wp_region_lit ?_
    refine wl_op hA20 rfl rfl (by decide) (fun ev h => by simp [go_sem, h.get 18 rfl]; try first | exact ⟨rfl, rfl⟩ | rfl) fun a21 hA21 => ?_
    refine wl_op hA21 rfl rfl (by decide) (fun ev h => by simp [go_sem, h.get 20 rfl]; try first | exact ⟨rfl, rfl⟩ | rfl) fun a22 hA22 => ?_
    refine wl_nil ?_
    refine n_then ?_
    have hA23 := hA22.keep [2, 4, 5, 6, 7, 8, 18]
    simp only [argsE, keepE, lookS, Nat.reduceBEq, cond_true, cond_false, Nat.reduceAdd, gv_tt, gv_ff, Bool.true_and, Bool.false_and, Bool.true_or, Bool.false_or] at hA23
    clear hA20 hA21 hA22 a21
    refine wp_seq ?_
    -- any
    refine wp_any_at hA23 [(.det ?dD0), (.det ?dD1), (.det ?dD2), (.det ?dD3), (.det ?dD4), (.det ?dD5)] [] (fun wy => Below wx.heap.size wx wy) (TSp [] Grows) (by kernel_rfl) rfl (by kernel_rfl) (by kernel_rfl) rfl ((Below.refl _ _).drew) (stab_sp [] [true, true, true, true, true, true] [true, true, true, true, true, true] [] rfl rfl rfl (by kernel_rfl) ⟨trivial, trivial, trivial, trivial, trivial, trivial, trivial⟩ trivial) (fun _ h => by cases h) (fun _ _ _ _ _ h => by cases h) (fun _ h => by cases h) ⟨?oD0, ?oD1, ?oD2, ?oD3, ?oD4, ?oD5, trivial⟩ (by kernel_rfl) ?fD
    case oD0 =>
      intro ev wo hev hC hs hph
      have e7 := see_env hA23 hs 7 (by kernel_rfl) (by kernel_rfl) rfl
      exact ob_det (wanted_none rfl) rfl (by kernel_rfl) hC (TSp.of rfl (Grows.refl _)) (by simp [go_sem, e7, hev.const]; try first | exact ⟨rfl, rfl⟩ | rfl)
    case oD1 =>
      intro ev wo hev hC hs hph
      have e21 := see_det hs 21 0 (by kernel_rfl) (by kernel_rfl) rfl
      have Kx := K7c.below hC K7c.lt
      exact ob_det (wanted_none rfl) rfl (by kernel_rfl) hC (TSp.of rfl (Grows.refl _)) (by simp [go_sem, e21, Kx.cell]; try first | exact ⟨rfl, rfl⟩ | rfl)
    case oD2 =>
      intro ev wo hev hC hs hph
      have e7 := see_env hA23 hs 7 (by kernel_rfl) (by kernel_rfl) rfl
      exact ob_det (wanted_none rfl) rfl (by kernel_rfl) hC (TSp.of rfl (Grows.refl _)) (by simp [go_sem, e7, hev.const]; try first | exact ⟨rfl, rfl⟩ | rfl)
    case oD3 =>
      intro ev wo hev hC hs hph
      have e23 := see_det hs 23 2 (by kernel_rfl) (by kernel_rfl) rfl
      have Kx := K7c.below hC K7c.lt
      exact ob_det (wanted_none rfl) rfl (by kernel_rfl) hC (TSp.of rfl (Grows.refl _)) (by simp [go_sem, e23, Kx.cell]; try first | exact ⟨rfl, rfl⟩ | rfl)
    case oD4 =>
      intro ev wo hev hC hs hph
      have e22 := see_det hs 22 1 (by kernel_rfl) (by kernel_rfl) rfl
      exact ob_det (wanted_none rfl) rfl (by kernel_rfl) hC (TSp.of rfl (Grows.refl _)) (by simp [go_sem, e22]; try first | exact ⟨rfl, rfl⟩ | rfl)
    case oD5 =>
      intro ev wo hev hC hs hph
      have e24 := see_det hs 24 3 (by kernel_rfl) (by kernel_rfl) rfl
      exact ob_det (wanted_none rfl) rfl (by kernel_rfl) hC (TSp.of rfl (Grows.refl _)) (by simp [go_sem, e24]; try first | exact ⟨rfl, rfl⟩ | rfl)
    intro sg wf hC hph
    intro a24 hA24
    refine n_then ?_
    have hA25 := hA24.keep [2, 4, 5, 6, 7, 8, 9, 10, 18]
    simp only [argsE, keepE, lookS, Nat.reduceBEq, cond_true, cond_false, Nat.reduceAdd, gv_tt, gv_ff, Bool.true_and, Bool.false_and, Bool.true_or, Bool.false_or] at hA25
    clear hA23 hA24 a22
    replace HB := HB.trans (hC.mono HB.size)
    replace K2 := K2.below hC K2.lt
    replace K4 := K4.below hC K4.lt
    replace K5 := K5.below hC K5.lt
    replace K6 := K6.below hC K6.lt
    replace K7c := K7c.below hC K7c.lt
    clear hC hph
    have r6 := rotr_lt ve 6
    have r11 := rotr_lt ve 11
    have r25 := rotr_lt ve 25
    have r2 := rotr_lt va 2
    have r13 := rotr_lt va 13
    have r22 := rotr_lt va 22
    have x1 := w_xo r6 r11
    have x2 := w_xo (xo_lt r6 r11) r25
    have a1 := w_an le lf
    have a2 := w_an (no32_lt ve) lg
    have x3 := w_xo (an_lt (b := vf) le) (an_lt (b := vg) (no32_lt ve))
    have n1 := w_not le
    have jj : (0 : Int) ≤ (i : Int) := by omega
    have ji : (i : Int) < 64 := by omega
    refine wp_seq ?_
    -- any
    refine wp_any_at hA25 ((.det ?dE0) :: (.det ?dE1) :: (.det ?dE2) :: (.det ?dE3) :: (.det ?dE4) :: (.det ?dE5) :: (.det ?dE6) :: (.det ?dE7) :: (.det ?dE8) :: (.det ?dE9) :: (.det ?dE10) :: (.det ?dE11) :: (.det ?dE12) :: (.det ?dE13) :: (.det ?dE14) :: (.det ?dE15) :: (.det ?dE16) :: (.det ?dE17) :: (.det ?dE18) :: (.det ?dE19) :: (.det ?dE20) :: (.det ?dE21) :: (.det ?dE22) :: (.det ?dE23) :: (.det ?dE24) :: (.det ?dE25) :: (.det ?dE26) :: (.det ?dE27) :: (.det ?dE28) :: (.det ?dE29) :: (.det ?dE30) :: []) [] (fun wy => Below wf.heap.size wf wy) (TSp [] Grows) (by kernel_rfl) rfl (by kernel_rfl) (by kernel_rfl) rfl ((Below.refl _ _).drew) (stab_sp [] (true :: true :: true :: true :: true :: true :: true :: true :: true :: true :: true :: true :: true :: true :: true :: true :: true :: true :: true :: true :: true :: true :: true :: true :: true :: true :: true :: true :: true :: true :: true :: []) (true :: true :: true :: true :: true :: true :: true :: true :: true :: true :: true :: true :: true :: true :: true :: true :: true :: true :: true :: true :: true :: true :: true :: true :: true :: true :: true :: true :: true :: true :: true :: []) [] rfl rfl rfl (by kernel_rfl) ⟨trivial, trivial, trivial, trivial, trivial, trivial, trivial, trivial, trivial, trivial, trivial, trivial, trivial, trivial, trivial, trivial, trivial, trivial, trivial, trivial, trivial, trivial, trivial, trivial, trivial, trivial, trivial, trivial, trivial, trivial, trivial, trivial⟩ trivial) (fun _ h => by cases h) (fun _ _ _ _ _ h => by cases h) (fun _ h => by cases h) ⟨?oE0, ?oE1, ?oE2, ?oE3, ?oE4, ?oE5, ?oE6, ?oE7, ?oE8, ?oE9, ?oE10, ?oE11, ?oE12, ?oE13, ?oE14, ?oE15, ?oE16, ?oE17, ?oE18, ?oE19, ?oE20, ?oE21, ?oE22, ?oE23, ?oE24, ?oE25, ?oE26, ?oE27, ?oE28, ?oE29, ?oE30, trivial⟩ (by kernel_rfl) ?fE
    case oE0 =>
      intro ev wo hev hC hs hph
      have e7 := see_env hA25 hs 7 (by kernel_rfl) (by kernel_rfl) rfl
      exact ob_det (wanted_none rfl) rfl (by kernel_rfl) hC (TSp.of rfl (Grows.refl _)) (by simp [go_sem, e7, hev.const, w_ad, x1, x2, a1, a2, x3, n1, jj, ji, add0]; try first | exact ⟨rfl, rfl⟩ | rfl)
    case oE1 =>
      intro ev wo hev hC hs hph
      have e25 := see_det hs 25 0 (by kernel_rfl) (by kernel_rfl) rfl
      have Kx := K7c.below hC K7c.lt
      have Ky := K6.below hC K6.lt
      have Kz := K5.below hC K5.lt
      exact ob_det (wanted_none rfl) rfl (by kernel_rfl) hC (TSp.of rfl (Grows.refl _)) (by simp [go_sem, e25, Kx.cell, Ky.cell, Kz.cell, ck, cw, w_ad, x1, x2, a1, a2, x3, n1, jj, ji, add0]; try first | exact ⟨rfl, rfl⟩ | rfl)
    case oE2 =>
      intro ev wo hev hC hs hph
      have e9 := see_env hA25 hs 9 (by kernel_rfl) (by kernel_rfl) rfl
      exact ob_det (wanted_none rfl) rfl (by kernel_rfl) hC (TSp.of rfl (Grows.refl _)) (by simp [go_sem, e9, w_ad, x1, x2, a1, a2, x3, n1, jj, ji, add0]; try first | exact ⟨rfl, rfl⟩ | rfl)
    case oE3 =>
      intro ev wo hev hC hs hph
      have e27 := see_det hs 27 2 (by kernel_rfl) (by kernel_rfl) rfl
      have Kx := K7c.below hC K7c.lt
      have Ky := K6.below hC K6.lt
      have Kz := K5.below hC K5.lt
      exact ob_dcall (wanted_none rfl) rfl (by kernel_rfl) (rot_below ve 6 (-6) rfl le (by decide) (by decide) wo) (exec_call Tryz.func96 (by kernel_rfl) rfl (hev.func _) (by first | (simp only [List.map_toArray, List.map_cons, List.map_nil, e27, hev.const]; done) | (simp only [List.map_toArray, List.map_cons, List.map_nil, e27, hev.const]; rfl) | (simp [List.map_toArray, List.map_cons, List.map_nil, e27, hev.const]; done) | (simp [List.map_toArray, List.map_cons, List.map_nil, e27, hev.const]; rfl) | rfl)) (by rfl) (fun w3 hb3 => ⟨hC.trans (hb3.mono hC.size), TSp.of rfl hb3⟩)
    case oE4 =>
      intro ev wo hev hC hs hph
      have e9 := see_env hA25 hs 9 (by kernel_rfl) (by kernel_rfl) rfl
      exact ob_det (wanted_none rfl) rfl (by kernel_rfl) hC (TSp.of rfl (Grows.refl _)) (by simp [go_sem, e9, w_ad, x1, x2, a1, a2, x3, n1, jj, ji, add0]; try first | exact ⟨rfl, rfl⟩ | rfl)
    case oE5 =>
      intro ev wo hev hC hs hph
      have e29 := see_det hs 29 4 (by kernel_rfl) (by kernel_rfl) rfl
      have Kx := K7c.below hC K7c.lt
      have Ky := K6.below hC K6.lt
      have Kz := K5.below hC K5.lt
      exact ob_dcall (wanted_none rfl) rfl (by kernel_rfl) (rot_below ve 11 (-11) rfl le (by decide) (by decide) wo) (exec_call Tryz.func96 (by kernel_rfl) rfl (hev.func _) (by first | (simp only [List.map_toArray, List.map_cons, List.map_nil, e29, hev.const]; done) | (simp only [List.map_toArray, List.map_cons, List.map_nil, e29, hev.const]; rfl) | (simp [List.map_toArray, List.map_cons, List.map_nil, e29, hev.const]; done) | (simp [List.map_toArray, List.map_cons, List.map_nil, e29, hev.const]; rfl) | rfl)) (by rfl) (fun w3 hb3 => ⟨hC.trans (hb3.mono hC.size), TSp.of rfl hb3⟩)
    case oE6 =>
      intro ev wo hev hC hs hph
      have e28 := see_det hs 28 3 (by kernel_rfl) (by kernel_rfl) rfl
      have e30 := see_det hs 30 5 (by kernel_rfl) (by kernel_rfl) rfl
      exact ob_det (wanted_none rfl) rfl (by kernel_rfl) hC (TSp.of rfl (Grows.refl _)) (by simp [go_sem, e28, e30, w_ad, x1, x2, a1, a2, x3, n1, jj, ji, add0]; try first | exact ⟨rfl, rfl⟩ | rfl)
    case oE7 =>
      intro ev wo hev hC hs hph
      have e9 := see_env hA25 hs 9 (by kernel_rfl) (by kernel_rfl) rfl
      exact ob_det (wanted_none rfl) rfl (by kernel_rfl) hC (TSp.of rfl (Grows.refl _)) (by simp [go_sem, e9, w_ad, x1, x2, a1, a2, x3, n1, jj, ji, add0]; try first | exact ⟨rfl, rfl⟩ | rfl)
    case oE8 =>
      intro ev wo hev hC hs hph
      have e32 := see_det hs 32 7 (by kernel_rfl) (by kernel_rfl) rfl
      have Kx := K7c.below hC K7c.lt
      have Ky := K6.below hC K6.lt
      have Kz := K5.below hC K5.lt
      exact ob_dcall (wanted_none rfl) rfl (by kernel_rfl) (rot_below ve 25 (-25) rfl le (by decide) (by decide) wo) (exec_call Tryz.func96 (by kernel_rfl) rfl (hev.func _) (by first | (simp only [List.map_toArray, List.map_cons, List.map_nil, e32, hev.const]; done) | (simp only [List.map_toArray, List.map_cons, List.map_nil, e32, hev.const]; rfl) | (simp [List.map_toArray, List.map_cons, List.map_nil, e32, hev.const]; done) | (simp [List.map_toArray, List.map_cons, List.map_nil, e32, hev.const]; rfl) | rfl)) (by rfl) (fun w3 hb3 => ⟨hC.trans (hb3.mono hC.size), TSp.of rfl hb3⟩)
    case oE9 =>
      intro ev wo hev hC hs hph
      have e31 := see_det hs 31 6 (by kernel_rfl) (by kernel_rfl) rfl
      have e33 := see_det hs 33 8 (by kernel_rfl) (by kernel_rfl) rfl
      exact ob_det (wanted_none rfl) rfl (by kernel_rfl) hC (TSp.of rfl (Grows.refl _)) (by simp [go_sem, e31, e33, w_ad, x1, x2, a1, a2, x3, n1, jj, ji, add0]; try first | exact ⟨rfl, rfl⟩ | rfl)
    case oE10 =>
      intro ev wo hev hC hs hph
      have e26 := see_det hs 26 1 (by kernel_rfl) (by kernel_rfl) rfl
      have e34 := see_det hs 34 9 (by kernel_rfl) (by kernel_rfl) rfl
      exact ob_det (wanted_none rfl) rfl (by kernel_rfl) hC (TSp.of rfl (Grows.refl _)) (by simp [go_sem, e26, e34, w_ad, x1, x2, a1, a2, x3, n1, jj, ji, add0]; try first | exact ⟨rfl, rfl⟩ | rfl)
    case oE11 =>
      intro ev wo hev hC hs hph
      have e9 := see_env hA25 hs 9 (by kernel_rfl) (by kernel_rfl) rfl
      exact ob_det (wanted_none rfl) rfl (by kernel_rfl) hC (TSp.of rfl (Grows.refl _)) (by simp [go_sem, e9, w_ad, x1, x2, a1, a2, x3, n1, jj, ji, add0]; try first | exact ⟨rfl, rfl⟩ | rfl)
    case oE12 =>
      intro ev wo hev hC hs hph
      have e7 := see_env hA25 hs 7 (by kernel_rfl) (by kernel_rfl) rfl
      exact ob_det (wanted_none rfl) rfl (by kernel_rfl) hC (TSp.of rfl (Grows.refl _)) (by simp [go_sem, e7, hev.const, w_ad, x1, x2, a1, a2, x3, n1, jj, ji, add0]; try first | exact ⟨rfl, rfl⟩ | rfl)
    case oE13 =>
      intro ev wo hev hC hs hph
      have e37 := see_det hs 37 12 (by kernel_rfl) (by kernel_rfl) rfl
      have Kx := K7c.below hC K7c.lt
      have Ky := K6.below hC K6.lt
      have Kz := K5.below hC K5.lt
      exact ob_det (wanted_none rfl) rfl (by kernel_rfl) hC (TSp.of rfl (Grows.refl _)) (by simp [go_sem, e37, Kx.cell, Ky.cell, Kz.cell, ck, cw, w_ad, x1, x2, a1, a2, x3, n1, jj, ji, add0]; try first | exact ⟨rfl, rfl⟩ | rfl)
    case oE14 =>
      intro ev wo hev hC hs hph
      have e36 := see_det hs 36 11 (by kernel_rfl) (by kernel_rfl) rfl
      have e38 := see_det hs 38 13 (by kernel_rfl) (by kernel_rfl) rfl
      exact ob_det (wanted_none rfl) rfl (by kernel_rfl) hC (TSp.of rfl (Grows.refl _)) (by simp [go_sem, e36, e38, w_ad, x1, x2, a1, a2, x3, n1, jj, ji, add0]; try first | exact ⟨rfl, rfl⟩ | rfl)
    case oE15 =>
      intro ev wo hev hC hs hph
      have e9 := see_env hA25 hs 9 (by kernel_rfl) (by kernel_rfl) rfl
      exact ob_det (wanted_none rfl) rfl (by kernel_rfl) hC (TSp.of rfl (Grows.refl _)) (by simp [go_sem, e9, w_ad, x1, x2, a1, a2, x3, n1, jj, ji, add0]; try first | exact ⟨rfl, rfl⟩ | rfl)
    case oE16 =>
      intro ev wo hev hC hs hph
      have e40 := see_det hs 40 15 (by kernel_rfl) (by kernel_rfl) rfl
      exact ob_det (wanted_none rfl) rfl (by kernel_rfl) hC (TSp.of rfl (Grows.refl _)) (by simp [go_sem, e40, w_ad, x1, x2, a1, a2, x3, n1, jj, ji, add0]; try first | exact ⟨rfl, rfl⟩ | rfl)
    case oE17 =>
      intro ev wo hev hC hs hph
      have e7 := see_env hA25 hs 7 (by kernel_rfl) (by kernel_rfl) rfl
      exact ob_det (wanted_none rfl) rfl (by kernel_rfl) hC (TSp.of rfl (Grows.refl _)) (by simp [go_sem, e7, hev.const, w_ad, x1, x2, a1, a2, x3, n1, jj, ji, add0]; try first | exact ⟨rfl, rfl⟩ | rfl)
    case oE18 =>
      intro ev wo hev hC hs hph
      have e42 := see_det hs 42 17 (by kernel_rfl) (by kernel_rfl) rfl
      have Kx := K7c.below hC K7c.lt
      have Ky := K6.below hC K6.lt
      have Kz := K5.below hC K5.lt
      exact ob_det (wanted_none rfl) rfl (by kernel_rfl) hC (TSp.of rfl (Grows.refl _)) (by simp [go_sem, e42, Kx.cell, Ky.cell, Kz.cell, ck, cw, w_ad, x1, x2, a1, a2, x3, n1, jj, ji, add0]; try first | exact ⟨rfl, rfl⟩ | rfl)
    case oE19 =>
      intro ev wo hev hC hs hph
      have e41 := see_det hs 41 16 (by kernel_rfl) (by kernel_rfl) rfl
      have e43 := see_det hs 43 18 (by kernel_rfl) (by kernel_rfl) rfl
      exact ob_det (wanted_none rfl) rfl (by kernel_rfl) hC (TSp.of rfl (Grows.refl _)) (by simp [go_sem, e41, e43, w_ad, x1, x2, a1, a2, x3, n1, jj, ji, add0]; try first | exact ⟨rfl, rfl⟩ | rfl)
    case oE20 =>
      intro ev wo hev hC hs hph
      have e39 := see_det hs 39 14 (by kernel_rfl) (by kernel_rfl) rfl
      have e44 := see_det hs 44 19 (by kernel_rfl) (by kernel_rfl) rfl
      exact ob_det (wanted_none rfl) rfl (by kernel_rfl) hC (TSp.of rfl (Grows.refl _)) (by simp [go_sem, e39, e44, w_ad, x1, x2, a1, a2, x3, n1, jj, ji, add0]; try first | exact ⟨rfl, rfl⟩ | rfl)
    case oE21 =>
      intro ev wo hev hC hs hph
      have e35 := see_det hs 35 10 (by kernel_rfl) (by kernel_rfl) rfl
      have e45 := see_det hs 45 20 (by kernel_rfl) (by kernel_rfl) rfl
      exact ob_det (wanted_none rfl) rfl (by kernel_rfl) hC (TSp.of rfl (Grows.refl _)) (by simp [go_sem, e35, e45, w_ad, x1, x2, a1, a2, x3, n1, jj, ji, add0]; try first | exact ⟨rfl, rfl⟩ | rfl)
    case oE22 =>
      intro ev wo hev hC hs hph
      have e8 := see_env hA25 hs 8 (by kernel_rfl) (by kernel_rfl) rfl
      exact ob_det (wanted_none rfl) rfl (by kernel_rfl) hC (TSp.of rfl (Grows.refl _)) (by simp [go_sem, e8, w_ad, x1, x2, a1, a2, x3, n1, jj, ji, add0]; try first | exact ⟨rfl, rfl⟩ | rfl)
    case oE23 =>
      intro ev wo hev hC hs hph
      have e6 := see_env hA25 hs 6 (by kernel_rfl) (by kernel_rfl) rfl
      have e47 := see_det hs 47 22 (by kernel_rfl) (by kernel_rfl) rfl
      exact ob_det (wanted_none rfl) rfl (by kernel_rfl) hC (TSp.of rfl (Grows.refl _)) (by simp [go_sem, e6, e47, w_ad, x1, x2, a1, a2, x3, n1, jj, ji, add0]; try first | exact ⟨rfl, rfl⟩ | rfl)
    case oE24 =>
      intro ev wo hev hC hs hph
      have e48 := see_det hs 48 23 (by kernel_rfl) (by kernel_rfl) rfl
      have Kx := K7c.below hC K7c.lt
      have Ky := K6.below hC K6.lt
      have Kz := K5.below hC K5.lt
      exact ob_det (wanted_none rfl) rfl (by kernel_rfl) hC (TSp.of rfl (Grows.refl _)) (by simp [go_sem, e48, Kx.cell, Ky.cell, Kz.cell, ck, cw, w_ad, x1, x2, a1, a2, x3, n1, jj, ji, add0]; try first | exact ⟨rfl, rfl⟩ | rfl)
    case oE25 =>
      intro ev wo hev hC hs hph
      have e46 := see_det hs 46 21 (by kernel_rfl) (by kernel_rfl) rfl
      have e49 := see_det hs 49 24 (by kernel_rfl) (by kernel_rfl) rfl
      exact ob_det (wanted_none rfl) rfl (by kernel_rfl) hC (TSp.of rfl (Grows.refl _)) (by simp [go_sem, e46, e49, w_ad, x1, x2, a1, a2, x3, n1, jj, ji, add0]; try first | exact ⟨rfl, rfl⟩ | rfl)
    case oE26 =>
      intro ev wo hev hC hs hph
      have e8 := see_env hA25 hs 8 (by kernel_rfl) (by kernel_rfl) rfl
      exact ob_det (wanted_none rfl) rfl (by kernel_rfl) hC (TSp.of rfl (Grows.refl _)) (by simp [go_sem, e8, w_ad, x1, x2, a1, a2, x3, n1, jj, ji, add0]; try first | exact ⟨rfl, rfl⟩ | rfl)
    case oE27 =>
      intro ev wo hev hC hs hph
      have e5 := see_env hA25 hs 5 (by kernel_rfl) (by kernel_rfl) rfl
      have e51 := see_det hs 51 26 (by kernel_rfl) (by kernel_rfl) rfl
      exact ob_det (wanted_none rfl) rfl (by kernel_rfl) hC (TSp.of rfl (Grows.refl _)) (by simp [go_sem, e5, e51, w_ad, x1, x2, a1, a2, x3, n1, jj, ji, add0]; try first | exact ⟨rfl, rfl⟩ | rfl)
    case oE28 =>
      intro ev wo hev hC hs hph
      have e52 := see_det hs 52 27 (by kernel_rfl) (by kernel_rfl) rfl
      have Kx := K7c.below hC K7c.lt
      have Ky := K6.below hC K6.lt
      have Kz := K5.below hC K5.lt
      exact ob_det (wanted_none rfl) rfl (by kernel_rfl) hC (TSp.of rfl (Grows.refl _)) (by simp [go_sem, e52, Kx.cell, Ky.cell, Kz.cell, ck, cw, w_ad, x1, x2, a1, a2, x3, n1, jj, ji, add0]; try first | exact ⟨rfl, rfl⟩ | rfl)
    case oE29 =>
      intro ev wo hev hC hs hph
      have e50 := see_det hs 50 25 (by kernel_rfl) (by kernel_rfl) rfl
      have e53 := see_det hs 53 28 (by kernel_rfl) (by kernel_rfl) rfl
      exact ob_det (wanted_none rfl) rfl (by kernel_rfl) hC (TSp.of rfl (Grows.refl _)) (by simp [go_sem, e50, e53, w_ad, x1, x2, a1, a2, x3, n1, jj, ji, add0]; try first | exact ⟨rfl, rfl⟩ | rfl)
    case oE30 =>
      intro ev wo hev hC hs hph
      have e54 := see_det hs 54 29 (by kernel_rfl) (by kernel_rfl) rfl
      exact ob_det (wanted_none rfl) rfl (by kernel_rfl) hC (TSp.of rfl (Grows.refl _)) (by simp [go_sem, e54, w_ad, x1, x2, a1, a2, x3, n1, jj, ji, add0]; try first | exact ⟨rfl, rfl⟩ | rfl)
    intro sg wf hC hph
    intro a26 hA26
    refine n_then ?_
    have hA27 := hA26.keep [2, 4, 5, 6, 7, 9, 10, 11, 18]
    simp only [argsE, keepE, lookS, Nat.reduceBEq, cond_true, cond_false, Nat.reduceAdd, gv_tt, gv_ff, Bool.true_and, Bool.false_and, Bool.true_or, Bool.false_or] at hA27
    clear hA25 hA26 a24
    replace HB := HB.trans (hC.mono HB.size)
    replace K2 := K2.below hC K2.lt
    replace K4 := K4.below hC K4.lt
    replace K5 := K5.below hC K5.lt
    replace K6 := K6.below hC K6.lt
    replace K7c := K7c.below hC K7c.lt
    clear hC hph x1 x2 a1 a2 x3 n1 ck cw
    obtain ⟨V1, hV1⟩ : ∃ x, ad (ad (ad (ad vh (xo (xo (rotr ve 6) (rotr ve 11)) (rotr ve 25))) (xo (an ve vf) (an (no32 ve) vg))) kk) ww = x := ⟨_, rfl⟩
    rw [hV1] at hA27
    have y1 := w_xo r2 r13
    have y2 := w_xo (xo_lt r2 r13) r22
    have y3 := w_an la lb
    have y4 := w_an la lc
    have y5 := w_an lb lc
    have y6 := w_xo (an_lt (b := vb) la) (an_lt (b := vc) la)
    have y7 := w_xo (xo_lt (an_lt (b := vb) la) (an_lt (b := vc) la)) (an_lt (b := vc) lb)
    refine wp_seq ?_
    -- any
    refine wp_any_at hA27 [(.det ?dF0), (.det ?dF1), (.det ?dF2), (.det ?dF3), (.det ?dF4), (.det ?dF5), (.det ?dF6), (.det ?dF7), (.det ?dF8), (.det ?dF9), (.det ?dF10), (.det ?dF11), (.det ?dF12), (.det ?dF13), (.det ?dF14), (.det ?dF15), (.det ?dF16), (.det ?dF17), (.det ?dF18), (.det ?dF19), (.det ?dF20), (.det ?dF21), (.det ?dF22), (.det ?dF23), (.det ?dF24)] [] (fun wy => Below wf.heap.size wf wy) (TSp [] Grows) (by kernel_rfl) rfl (by kernel_rfl) (by kernel_rfl) rfl ((Below.refl _ _).drew) (stab_sp [] [true, true, true, true, true, true, true, true, true, true, true, true, true, true, true, true, true, true, true, true, true, true, true, true, true] [true, true, true, true, true, true, true, true, true, true, true, true, true, true, true, true, true, true, true, true, true, true, true, true, true] [] rfl rfl rfl (by kernel_rfl) ⟨trivial, trivial, trivial, trivial, trivial, trivial, trivial, trivial, trivial, trivial, trivial, trivial, trivial, trivial, trivial, trivial, trivial, trivial, trivial, trivial, trivial, trivial, trivial, trivial, trivial, trivial⟩ trivial) (fun _ h => by cases h) (fun _ _ _ _ _ h => by cases h) (fun _ h => by cases h) ⟨?oF0, ?oF1, ?oF2, ?oF3, ?oF4, ?oF5, ?oF6, ?oF7, ?oF8, ?oF9, ?oF10, ?oF11, ?oF12, ?oF13, ?oF14, ?oF15, ?oF16, ?oF17, ?oF18, ?oF19, ?oF20, ?oF21, ?oF22, ?oF23, ?oF24, trivial⟩ (by kernel_rfl) ?fF
    case oF0 =>
      intro ev wo hev hC hs hph
      have e10 := see_env hA27 hs 10 (by kernel_rfl) (by kernel_rfl) rfl
      exact ob_det (wanted_none rfl) rfl (by kernel_rfl) hC (TSp.of rfl (Grows.refl _)) (by simp [go_sem, e10, w_ad, y1, y2, y3, y4, y5, y6, y7]; try first | exact ⟨rfl, rfl⟩ | rfl)
    case oF1 =>
      intro ev wo hev hC hs hph
      have e55 := see_det hs 55 0 (by kernel_rfl) (by kernel_rfl) rfl
      have Kx := K7c.below hC K7c.lt
      exact ob_dcall (wanted_none rfl) rfl (by kernel_rfl) (rot_below va 2 (-2) rfl la (by decide) (by decide) wo) (exec_call Tryz.func96 (by kernel_rfl) rfl (hev.func _) (by first | (simp only [List.map_toArray, List.map_cons, List.map_nil, e55, hev.const]; done) | (simp only [List.map_toArray, List.map_cons, List.map_nil, e55, hev.const]; rfl) | (simp [List.map_toArray, List.map_cons, List.map_nil, e55, hev.const]; done) | (simp [List.map_toArray, List.map_cons, List.map_nil, e55, hev.const]; rfl) | rfl)) (by rfl) (fun w3 hb3 => ⟨hC.trans (hb3.mono hC.size), TSp.of rfl hb3⟩)
    case oF2 =>
      intro ev wo hev hC hs hph
      have e10 := see_env hA27 hs 10 (by kernel_rfl) (by kernel_rfl) rfl
      exact ob_det (wanted_none rfl) rfl (by kernel_rfl) hC (TSp.of rfl (Grows.refl _)) (by simp [go_sem, e10, w_ad, y1, y2, y3, y4, y5, y6, y7]; try first | exact ⟨rfl, rfl⟩ | rfl)
    case oF3 =>
      intro ev wo hev hC hs hph
      have e57 := see_det hs 57 2 (by kernel_rfl) (by kernel_rfl) rfl
      have Kx := K7c.below hC K7c.lt
      exact ob_dcall (wanted_none rfl) rfl (by kernel_rfl) (rot_below va 13 (-13) rfl la (by decide) (by decide) wo) (exec_call Tryz.func96 (by kernel_rfl) rfl (hev.func _) (by first | (simp only [List.map_toArray, List.map_cons, List.map_nil, e57, hev.const]; done) | (simp only [List.map_toArray, List.map_cons, List.map_nil, e57, hev.const]; rfl) | (simp [List.map_toArray, List.map_cons, List.map_nil, e57, hev.const]; done) | (simp [List.map_toArray, List.map_cons, List.map_nil, e57, hev.const]; rfl) | rfl)) (by rfl) (fun w3 hb3 => ⟨hC.trans (hb3.mono hC.size), TSp.of rfl hb3⟩)
    case oF4 =>
      intro ev wo hev hC hs hph
      have e56 := see_det hs 56 1 (by kernel_rfl) (by kernel_rfl) rfl
      have e58 := see_det hs 58 3 (by kernel_rfl) (by kernel_rfl) rfl
      exact ob_det (wanted_none rfl) rfl (by kernel_rfl) hC (TSp.of rfl (Grows.refl _)) (by simp [go_sem, e56, e58, w_ad, y1, y2, y3, y4, y5, y6, y7]; try first | exact ⟨rfl, rfl⟩ | rfl)
    case oF5 =>
      intro ev wo hev hC hs hph
      have e10 := see_env hA27 hs 10 (by kernel_rfl) (by kernel_rfl) rfl
      exact ob_det (wanted_none rfl) rfl (by kernel_rfl) hC (TSp.of rfl (Grows.refl _)) (by simp [go_sem, e10, w_ad, y1, y2, y3, y4, y5, y6, y7]; try first | exact ⟨rfl, rfl⟩ | rfl)
    case oF6 =>
      intro ev wo hev hC hs hph
      have e60 := see_det hs 60 5 (by kernel_rfl) (by kernel_rfl) rfl
      have Kx := K7c.below hC K7c.lt
      exact ob_dcall (wanted_none rfl) rfl (by kernel_rfl) (rot_below va 22 (-22) rfl la (by decide) (by decide) wo) (exec_call Tryz.func96 (by kernel_rfl) rfl (hev.func _) (by first | (simp only [List.map_toArray, List.map_cons, List.map_nil, e60, hev.const]; done) | (simp only [List.map_toArray, List.map_cons, List.map_nil, e60, hev.const]; rfl) | (simp [List.map_toArray, List.map_cons, List.map_nil, e60, hev.const]; done) | (simp [List.map_toArray, List.map_cons, List.map_nil, e60, hev.const]; rfl) | rfl)) (by rfl) (fun w3 hb3 => ⟨hC.trans (hb3.mono hC.size), TSp.of rfl hb3⟩)
    case oF7 =>
      intro ev wo hev hC hs hph
      have e59 := see_det hs 59 4 (by kernel_rfl) (by kernel_rfl) rfl
      have e61 := see_det hs 61 6 (by kernel_rfl) (by kernel_rfl) rfl
      exact ob_det (wanted_none rfl) rfl (by kernel_rfl) hC (TSp.of rfl (Grows.refl _)) (by simp [go_sem, e59, e61, w_ad, y1, y2, y3, y4, y5, y6, y7]; try first | exact ⟨rfl, rfl⟩ | rfl)
    case oF8 =>
      intro ev wo hev hC hs hph
      have e10 := see_env hA27 hs 10 (by kernel_rfl) (by kernel_rfl) rfl
      exact ob_det (wanted_none rfl) rfl (by kernel_rfl) hC (TSp.of rfl (Grows.refl _)) (by simp [go_sem, e10, w_ad, y1, y2, y3, y4, y5, y6, y7]; try first | exact ⟨rfl, rfl⟩ | rfl)
    case oF9 =>
      intro ev wo hev hC hs hph
      have e7 := see_env hA27 hs 7 (by kernel_rfl) (by kernel_rfl) rfl
      exact ob_det (wanted_none rfl) rfl (by kernel_rfl) hC (TSp.of rfl (Grows.refl _)) (by simp [go_sem, e7, hev.const, w_ad, y1, y2, y3, y4, y5, y6, y7]; try first | exact ⟨rfl, rfl⟩ | rfl)
    case oF10 =>
      intro ev wo hev hC hs hph
      have e64 := see_det hs 64 9 (by kernel_rfl) (by kernel_rfl) rfl
      have Kx := K7c.below hC K7c.lt
      exact ob_det (wanted_none rfl) rfl (by kernel_rfl) hC (TSp.of rfl (Grows.refl _)) (by simp [go_sem, e64, Kx.cell, w_ad, y1, y2, y3, y4, y5, y6, y7]; try first | exact ⟨rfl, rfl⟩ | rfl)
    case oF11 =>
      intro ev wo hev hC hs hph
      have e63 := see_det hs 63 8 (by kernel_rfl) (by kernel_rfl) rfl
      have e65 := see_det hs 65 10 (by kernel_rfl) (by kernel_rfl) rfl
      exact ob_det (wanted_none rfl) rfl (by kernel_rfl) hC (TSp.of rfl (Grows.refl _)) (by simp [go_sem, e63, e65, w_ad, y1, y2, y3, y4, y5, y6, y7]; try first | exact ⟨rfl, rfl⟩ | rfl)
    case oF12 =>
      intro ev wo hev hC hs hph
      have e10 := see_env hA27 hs 10 (by kernel_rfl) (by kernel_rfl) rfl
      exact ob_det (wanted_none rfl) rfl (by kernel_rfl) hC (TSp.of rfl (Grows.refl _)) (by simp [go_sem, e10, w_ad, y1, y2, y3, y4, y5, y6, y7]; try first | exact ⟨rfl, rfl⟩ | rfl)
    case oF13 =>
      intro ev wo hev hC hs hph
      have e7 := see_env hA27 hs 7 (by kernel_rfl) (by kernel_rfl) rfl
      exact ob_det (wanted_none rfl) rfl (by kernel_rfl) hC (TSp.of rfl (Grows.refl _)) (by simp [go_sem, e7, hev.const, w_ad, y1, y2, y3, y4, y5, y6, y7]; try first | exact ⟨rfl, rfl⟩ | rfl)
    case oF14 =>
      intro ev wo hev hC hs hph
      have e68 := see_det hs 68 13 (by kernel_rfl) (by kernel_rfl) rfl
      have Kx := K7c.below hC K7c.lt
      exact ob_det (wanted_none rfl) rfl (by kernel_rfl) hC (TSp.of rfl (Grows.refl _)) (by simp [go_sem, e68, Kx.cell, w_ad, y1, y2, y3, y4, y5, y6, y7]; try first | exact ⟨rfl, rfl⟩ | rfl)
    case oF15 =>
      intro ev wo hev hC hs hph
      have e67 := see_det hs 67 12 (by kernel_rfl) (by kernel_rfl) rfl
      have e69 := see_det hs 69 14 (by kernel_rfl) (by kernel_rfl) rfl
      exact ob_det (wanted_none rfl) rfl (by kernel_rfl) hC (TSp.of rfl (Grows.refl _)) (by simp [go_sem, e67, e69, w_ad, y1, y2, y3, y4, y5, y6, y7]; try first | exact ⟨rfl, rfl⟩ | rfl)
    case oF16 =>
      intro ev wo hev hC hs hph
      have e66 := see_det hs 66 11 (by kernel_rfl) (by kernel_rfl) rfl
      have e70 := see_det hs 70 15 (by kernel_rfl) (by kernel_rfl) rfl
      exact ob_det (wanted_none rfl) rfl (by kernel_rfl) hC (TSp.of rfl (Grows.refl _)) (by simp [go_sem, e66, e70, w_ad, y1, y2, y3, y4, y5, y6, y7]; try first | exact ⟨rfl, rfl⟩ | rfl)
    case oF17 =>
      intro ev wo hev hC hs hph
      have e7 := see_env hA27 hs 7 (by kernel_rfl) (by kernel_rfl) rfl
      exact ob_det (wanted_none rfl) rfl (by kernel_rfl) hC (TSp.of rfl (Grows.refl _)) (by simp [go_sem, e7, hev.const, w_ad, y1, y2, y3, y4, y5, y6, y7]; try first | exact ⟨rfl, rfl⟩ | rfl)
    case oF18 =>
      intro ev wo hev hC hs hph
      have e72 := see_det hs 72 17 (by kernel_rfl) (by kernel_rfl) rfl
      have Kx := K7c.below hC K7c.lt
      exact ob_det (wanted_none rfl) rfl (by kernel_rfl) hC (TSp.of rfl (Grows.refl _)) (by simp [go_sem, e72, Kx.cell, w_ad, y1, y2, y3, y4, y5, y6, y7]; try first | exact ⟨rfl, rfl⟩ | rfl)
    case oF19 =>
      intro ev wo hev hC hs hph
      have e7 := see_env hA27 hs 7 (by kernel_rfl) (by kernel_rfl) rfl
      exact ob_det (wanted_none rfl) rfl (by kernel_rfl) hC (TSp.of rfl (Grows.refl _)) (by simp [go_sem, e7, hev.const, w_ad, y1, y2, y3, y4, y5, y6, y7]; try first | exact ⟨rfl, rfl⟩ | rfl)
    case oF20 =>
      intro ev wo hev hC hs hph
      have e74 := see_det hs 74 19 (by kernel_rfl) (by kernel_rfl) rfl
      have Kx := K7c.below hC K7c.lt
      exact ob_det (wanted_none rfl) rfl (by kernel_rfl) hC (TSp.of rfl (Grows.refl _)) (by simp [go_sem, e74, Kx.cell, w_ad, y1, y2, y3, y4, y5, y6, y7]; try first | exact ⟨rfl, rfl⟩ | rfl)
    case oF21 =>
      intro ev wo hev hC hs hph
      have e73 := see_det hs 73 18 (by kernel_rfl) (by kernel_rfl) rfl
      have e75 := see_det hs 75 20 (by kernel_rfl) (by kernel_rfl) rfl
      exact ob_det (wanted_none rfl) rfl (by kernel_rfl) hC (TSp.of rfl (Grows.refl _)) (by simp [go_sem, e73, e75, w_ad, y1, y2, y3, y4, y5, y6, y7]; try first | exact ⟨rfl, rfl⟩ | rfl)
    case oF22 =>
      intro ev wo hev hC hs hph
      have e71 := see_det hs 71 16 (by kernel_rfl) (by kernel_rfl) rfl
      have e76 := see_det hs 76 21 (by kernel_rfl) (by kernel_rfl) rfl
      exact ob_det (wanted_none rfl) rfl (by kernel_rfl) hC (TSp.of rfl (Grows.refl _)) (by simp [go_sem, e71, e76, w_ad, y1, y2, y3, y4, y5, y6, y7]; try first | exact ⟨rfl, rfl⟩ | rfl)
    case oF23 =>
      intro ev wo hev hC hs hph
      have e62 := see_det hs 62 7 (by kernel_rfl) (by kernel_rfl) rfl
      have e77 := see_det hs 77 22 (by kernel_rfl) (by kernel_rfl) rfl
      exact ob_det (wanted_none rfl) rfl (by kernel_rfl) hC (TSp.of rfl (Grows.refl _)) (by simp [go_sem, e62, e77, w_ad, y1, y2, y3, y4, y5, y6, y7]; try first | exact ⟨rfl, rfl⟩ | rfl)
    case oF24 =>
      intro ev wo hev hC hs hph
      have e78 := see_det hs 78 23 (by kernel_rfl) (by kernel_rfl) rfl
      exact ob_det (wanted_none rfl) rfl (by kernel_rfl) hC (TSp.of rfl (Grows.refl _)) (by simp [go_sem, e78, w_ad, y1, y2, y3, y4, y5, y6, y7]; try first | exact ⟨rfl, rfl⟩ | rfl)
    intro sg wf hC hph
    intro a28 hA28
    refine n_then ?_
    have hA29 := hA28.keep [2, 4, 5, 6, 7, 9, 10, 11, 12, 18]
    simp only [argsE, keepE, lookS, Nat.reduceBEq, cond_true, cond_false, Nat.reduceAdd, gv_tt, gv_ff, Bool.true_and, Bool.false_and, Bool.true_or, Bool.false_or] at hA29
    clear hA27 hA28 a26
    replace HB := HB.trans (hC.mono HB.size)
    replace K2 := K2.below hC K2.lt
    replace K4 := K4.below hC K4.lt
    replace K5 := K5.below hC K5.lt
    replace K6 := K6.below hC K6.lt
    replace K7c := K7c.below hC K7c.lt
    clear hC hph y1 y2 y3 y4 y5 y6 y7
    obtain ⟨V2, hV2⟩ : ∃ x, ad (xo (xo (rotr va 2) (rotr va 13)) (rotr va 22)) (xo (xo (an va vb) (an va vc)) (an vb vc)) = x := ⟨_, rfl⟩
    rw [hV2] at hA29
    refine wp_region_lit ?_
    refine wl_op hA29 rfl rfl (by decide) (fun ev h => by simp [go_sem, h.get 11 rfl, K7c.cell, w_ad]; try first | exact ⟨rfl, rfl⟩ | rfl) fun a30 hA30 => ?_
    refine wl_op hA30 rfl rfl (by decide) (fun ev h => by simp [go_sem, h.get 12 rfl, K7c.cell, w_ad]; try first | exact ⟨rfl, rfl⟩ | rfl) fun a31 hA31 => ?_
    refine wl_op hA31 rfl rfl (by decide) (fun ev h => by simp [go_sem, h.get 79 rfl, h.get 80 rfl, K7c.cell, w_ad]; try first | exact ⟨rfl, rfl⟩ | rfl) fun a32 hA32 => ?_
    refine wl_op hA32 rfl rfl (by decide) (fun ev h => by simp [go_sem, h.get 10 rfl, K7c.cell, w_ad]; try first | exact ⟨rfl, rfl⟩ | rfl) fun a33 hA33 => ?_
    refine wl_op hA33 rfl rfl (by decide) (fun ev h => by simp [go_sem, h.c, h.get 7 rfl, K7c.cell, w_ad]; try first | exact ⟨rfl, rfl⟩ | rfl) fun a34 hA34 => ?_
    refine wl_op hA34 rfl rfl (by decide) (fun ev h => by simp [go_sem, h.get 83 rfl, K7c.cell, w_ad]; try first | exact ⟨rfl, rfl⟩ | rfl) fun a35 hA35 => ?_
    refine wl_op hA35 rfl rfl (by decide) (fun ev h => by simp [go_sem, h.c, h.get 7 rfl, K7c.cell, w_ad]; try first | exact ⟨rfl, rfl⟩ | rfl) fun a36 hA36 => ?_
    refine wl_op hA36 rfl rfl (by decide) (fun ev h => by simp [go_sem, h.get 85 rfl, K7c.cell, w_ad]; try first | exact ⟨rfl, rfl⟩ | rfl) fun a37 hA37 => ?_
    refine wl_op hA37 rfl rfl (by decide) (fun ev h => by simp [go_sem, h.c, h.get 7 rfl, K7c.cell, w_ad]; try first | exact ⟨rfl, rfl⟩ | rfl) fun a38 hA38 => ?_
    refine wl_op hA38 rfl rfl (by decide) (fun ev h => by simp [go_sem, h.get 87 rfl, K7c.cell, w_ad]; try first | exact ⟨rfl, rfl⟩ | rfl) fun a39 hA39 => ?_
    refine wl_op hA39 rfl rfl (by decide) (fun ev h => by simp [go_sem, h.get 11 rfl, K7c.cell, w_ad]; try first | exact ⟨rfl, rfl⟩ | rfl) fun a40 hA40 => ?_
    refine wl_op hA40 rfl rfl (by decide) (fun ev h => by simp [go_sem, h.get 88 rfl, h.get 89 rfl, K7c.cell, w_ad]; try first | exact ⟨rfl, rfl⟩ | rfl) fun a41 hA41 => ?_
    refine wl_op hA41 rfl rfl (by decide) (fun ev h => by simp [go_sem, h.get 9 rfl, K7c.cell, w_ad]; try first | exact ⟨rfl, rfl⟩ | rfl) fun a42 hA42 => ?_
    refine wl_op hA42 rfl rfl (by decide) (fun ev h => by simp [go_sem, h.c, h.get 7 rfl, K7c.cell, w_ad]; try first | exact ⟨rfl, rfl⟩ | rfl) fun a43 hA43 => ?_
    refine wl_op hA43 rfl rfl (by decide) (fun ev h => by simp [go_sem, h.get 92 rfl, K7c.cell, w_ad]; try first | exact ⟨rfl, rfl⟩ | rfl) fun a44 hA44 => ?_
    refine wl_op hA44 rfl rfl (by decide) (fun ev h => by simp [go_sem, h.c, h.get 7 rfl, K7c.cell, w_ad]; try first | exact ⟨rfl, rfl⟩ | rfl) fun a45 hA45 => ?_
    refine wl_op hA45 rfl rfl (by decide) (fun ev h => by simp [go_sem, h.get 94 rfl, K7c.cell, w_ad]; try first | exact ⟨rfl, rfl⟩ | rfl) fun a46 hA46 => ?_
    refine wl_op hA46 rfl rfl (by decide) (fun ev h => by simp [go_sem, h.get 81 rfl, h.get 82 rfl, h.get 84 rfl, h.get 86 rfl, h.get 90 rfl, h.get 91 rfl, h.get 93 rfl, h.get 95 rfl, K7c.cell, w_ad]; try first | exact ⟨rfl, rfl⟩ | rfl) fun a47 hA47 => ?_
    -- stop store slot None
    refine wl_setw ([.int .u32 (ad V1 V2 : Nat), .int .u32 (va : Nat), .int .u32 (vb : Nat), .int .u32 (vc : Nat), .int .u32 (ad vd V1 : Nat), .int .u32 (ve : Nat), .int .u32 (vf : Nat), .int .u32 (vg : Nat)]) hA47 rfl rfl K7c (by rfl) (by rfl) (by kernel_rfl) (by rfl) rfl (fun ev h => ⟨h.get 7 rfl, h.get 96 rfl⟩) fun w11 (K7c : Blk _ _ _ _) hs => ?_
    have hwi : IntKind.i64.wrap ((i : Int) + 1) = ((i + 1 : Nat) : Int) := by rw [IntWalk.i64_in _ (by omega)]; omega
    refine wl_nil ?_
    refine n_block ?_
    refine n_then ?_
    have hA48 := hA47.keep [2, 4, 5, 6, 7, 18]
    simp only [argsE, keepE, lookS, Nat.reduceBEq, cond_true, cond_false, Nat.reduceAdd, gv_tt, gv_ff, Bool.true_and, Bool.false_and, Bool.true_or, Bool.false_or] at hA48
    clear hA29 hA30 hA31 hA32 hA33 hA34 hA35 hA36 hA37 hA38 hA39 hA40 hA41 hA42 hA43 hA44 hA45 hA46 hA47 a28 a30 a31 a32 a33 a34 a35 a36 a37 a38 a39 a40 a41 a42 a43 a44 a45 a46
    refine wp_region_lit ?_
    refine wl_op hA48 rfl rfl (by decide) (fun ev h => by simp [go_sem, h.c, h.get 18 rfl, hwi]; try first | exact ⟨rfl, rfl⟩ | rfl) fun a49 hA49 => ?_
    refine wl_op hA49 rfl rfl (by decide) (fun ev h => by simp [go_sem, h.get 97 rfl, hwi]; try first | exact ⟨rfl, rfl⟩ | rfl) fun a50 hA50 => ?_
    refine wl_nil ?_
    refine n_then ?_
    have hA51 := hA50.keep [2, 4, 5, 6, 7, 18]
    simp only [argsE, keepE, lookS, Nat.reduceBEq, cond_true, cond_false, Nat.reduceAdd, gv_tt, gv_ff, Bool.true_and, Bool.false_and, Bool.true_or, Bool.false_or] at hA51
    clear hA48 hA49 hA50 a47 a49
    -- round
    refine ⟨k - 1, by omega, i + 1, by omega, hA51, hs.blk K2 (by omega), hs.blk K4 (by omega), hs.blk K5 (by omega), hs.blk K6 (by omega), ?_, hs.below HB (by omega)⟩
    have e := shaStep_cells (vd := vd) hV1 hV2
    rw [← hnext] at e
    rw [e]
    exact K7c
  case nL =>
    have hi : i = 64 := by simp at hq; omega
    subst hi
    clear hik hq
    generalize shaSteps W s 64 = t at *
    refine wp_exit ?_
    refine x_then ?_
    refine x_then ?_
    refine x_block ?_
    refine n_then ?_
    have hA52 := hA20.keep [2, 4, 7]
    simp only [argsE, keepE, lookS, Nat.reduceBEq, cond_true, cond_false, Nat.reduceAdd, gv_tt, gv_ff, Bool.true_and, Bool.false_and, Bool.true_or, Bool.false_or] at hA52
    clear hA20
    refine wp_seq ?_
    refine wp_seq ?_
    refine wp_region_lit ?_
    refine wl_op hA52 rfl rfl (by decide) (fun ev h => by simp [go_sem, h.c]; try first | exact ⟨rfl, rfl⟩ | rfl) fun a53 hA53 => ?_
    refine wl_nil ?_
    refine n_then ?_
    have hA54 := hA53.keep [2, 4, 7, 98]
    simp only [argsE, keepE, lookS, Nat.reduceBEq, cond_true, cond_false, Nat.reduceAdd, gv_tt, gv_ff, Bool.true_and, Bool.false_and, Bool.true_or, Bool.false_or] at hA54
    clear hA52 hA53
    refine wp_block ?_
    -- loop
    refine wp_loop_at (fun k a wx => ∃ (i : Nat), i + k = 8 ∧ At 111 [(2, .pointer (some ⟨g2, 0, none⟩)), (4, .pointer (some ⟨g4, 0, none⟩)), (7, .pointer (some ⟨g7, 0, none⟩)), (98, .int .i64 (i : Nat))] a ∧ Blk wx g2 137 (s.l.map u32v).toArray ∧ Blk wx g4 137 #[.int .u32 0, .int .u32 0, .int .u32 0, .int .u32 0, .int .u32 0, .int .u32 0, .int .u32 0, .int .u32 0] ∧ Blk wx g7 137 ((mixN t s i).map u32v).toArray ∧ Below w.heap.size w wx) (8) ?_ ?_
    · exact ⟨0, by omega, hA54, K2, K4, by rw [mix0]; exact K7, HB⟩
    clear K2 K4 K5 K6 K7 HB
    rintro k a wx ⟨i, hik, hA, K2, K4, K7, HB⟩
    refine wp_seq ?_
    refine wp_region_lit ?_
    refine wl_op hA rfl rfl (by decide) (fun ev h => by simp [go_sem, h.c, h.get 98 rfl]; try first | exact ⟨rfl, rfl⟩ | rfl) fun a55 hA55 => ?_
    refine wl_nil ?_
    refine n_then ?_
    have hA56 := hA55.keep [2, 4, 7, 98, 99]
    simp only [argsE, keepE, lookS, Nat.reduceBEq, cond_true, cond_false, Nat.reduceAdd, gv_tt, gv_ff, Bool.true_and, Bool.false_and, Bool.true_or, Bool.false_or] at hA56
    clear hA hA55
    refine wp_seq ?_
    -- cond
    refine wp_if hA56 99 _ rfl (fun hq => ?yM) (fun hq => ?nM)
    case yM =>
      have hi : i < 8 := by simp at hq; omega
      have c1 := mixN_get (t := t) (s := s) hi
      have c2 := l_get (s := s) hi
      have jj : (0 : Int) ≤ (i : Int) := by omega
      have ji : (i : Int) < 8 := by omega
      refine wp_skip ?_
      refine n_then ?_
      refine wp_seq ?_
      refine wp_block ?_
      refine wp_seq ?_
      refine wp_region_lit ?_
      refine wl_op hA56 rfl rfl (by decide) (fun ev h => by simp [go_sem, h.get 98 rfl]; try first | exact ⟨rfl, rfl⟩ | rfl) fun a57 hA57 => ?_
      refine wl_op hA57 rfl rfl (by decide) (fun ev h => by simp [go_sem, h.get 100 rfl]; try first | exact ⟨rfl, rfl⟩ | rfl) fun a58 hA58 => ?_
      refine wl_nil ?_
      refine n_then ?_
      have hA59 := hA58.keep [2, 4, 7, 13, 98]
      simp only [argsE, keepE, lookS, Nat.reduceBEq, cond_true, cond_false, Nat.reduceAdd, gv_tt, gv_ff, Bool.true_and, Bool.false_and, Bool.true_or, Bool.false_or] at hA59
      clear hA56 hA57 hA58 a57
      -- any
      refine wp_region_split 7 ?_
      simp only [List.take_succ_cons, List.take_zero, List.drop_succ_cons, List.drop_zero]
      refine wp_any_split_at hA59 [(.det ?dG0), (.det ?dG1), (.det ?dG2), (.det ?dG3), (.det ?dG4), (.det ?dG5), (.det ?dG6)] [] (fun wy => Below wx.heap.size wx wy) (TSp [] Grows) (by kernel_rfl) rfl (by kernel_rfl) (by kernel_rfl) rfl (by kernel_rfl) (by kernel_rfl) (by kernel_rfl) (by kernel_rfl) ((Below.refl _ _).drew) (stab_sp [] [true, true, true, true, true, true, true] [true, true, true, true, true, true, true] [] rfl rfl rfl (by kernel_rfl) ⟨trivial, trivial, trivial, trivial, trivial, trivial, trivial, trivial⟩ trivial) (fun _ h => by cases h) (fun _ _ _ _ _ h => by cases h) (fun _ h => by cases h) ⟨?oG0, ?oG1, ?oG2, ?oG3, ?oG4, ?oG5, ?oG6, trivial⟩ (by kernel_rfl) ?fG
      case oG0 =>
        intro ev wo hev hC hs hph
        have e13 := see_env hA59 hs 13 (by kernel_rfl) (by kernel_rfl) rfl
        exact ob_det (wanted_none rfl) rfl (by kernel_rfl) hC (TSp.of rfl (Grows.refl _)) (by simp [go_sem, e13, w_ad, jj, ji, add0]; try first | exact ⟨rfl, rfl⟩ | rfl)
      case oG1 =>
        intro ev wo hev hC hs hph
        have e7 := see_env hA59 hs 7 (by kernel_rfl) (by kernel_rfl) rfl
        have e101 := see_det hs 101 0 (by kernel_rfl) (by kernel_rfl) rfl
        exact ob_det (wanted_none rfl) rfl (by kernel_rfl) hC (TSp.of rfl (Grows.refl _)) (by simp [go_sem, e7, e101, w_ad, jj, ji, add0]; try first | exact ⟨rfl, rfl⟩ | rfl)
      case oG2 =>
        intro ev wo hev hC hs hph
        have e102 := see_det hs 102 1 (by kernel_rfl) (by kernel_rfl) rfl
        have Kx := K7.below hC K7.lt
        have Ky := K2.below hC K2.lt
        exact ob_det (wanted_none rfl) rfl (by kernel_rfl) hC (TSp.of rfl (Grows.refl _)) (by simp [go_sem, e102, Kx.cell, Ky.cell, c1, c2, w_ad, jj, ji, add0]; try first | exact ⟨rfl, rfl⟩ | rfl)
      case oG3 =>
        intro ev wo hev hC hs hph
        have e13 := see_env hA59 hs 13 (by kernel_rfl) (by kernel_rfl) rfl
        exact ob_det (wanted_none rfl) rfl (by kernel_rfl) hC (TSp.of rfl (Grows.refl _)) (by simp [go_sem, e13, w_ad, jj, ji, add0]; try first | exact ⟨rfl, rfl⟩ | rfl)
      case oG4 =>
        intro ev wo hev hC hs hph
        have e2 := see_env hA59 hs 2 (by kernel_rfl) (by kernel_rfl) rfl
        have e104 := see_det hs 104 3 (by kernel_rfl) (by kernel_rfl) rfl
        exact ob_det (wanted_none rfl) rfl (by kernel_rfl) hC (TSp.of rfl (Grows.refl _)) (by simp [go_sem, e2, e104, w_ad, jj, ji, add0]; try first | exact ⟨rfl, rfl⟩ | rfl)
      case oG5 =>
        intro ev wo hev hC hs hph
        have e105 := see_det hs 105 4 (by kernel_rfl) (by kernel_rfl) rfl
        have Kx := K7.below hC K7.lt
        have Ky := K2.below hC K2.lt
        exact ob_det (wanted_none rfl) rfl (by kernel_rfl) hC (TSp.of rfl (Grows.refl _)) (by simp [go_sem, e105, Kx.cell, Ky.cell, c1, c2, w_ad, jj, ji, add0]; try first | exact ⟨rfl, rfl⟩ | rfl)
      case oG6 =>
        intro ev wo hev hC hs hph
        have e103 := see_det hs 103 2 (by kernel_rfl) (by kernel_rfl) rfl
        have e106 := see_det hs 106 5 (by kernel_rfl) (by kernel_rfl) rfl
        exact ob_det (wanted_none rfl) rfl (by kernel_rfl) hC (TSp.of rfl (Grows.refl _)) (by simp [go_sem, e103, e106, w_ad, jj, ji, add0]; try first | exact ⟨rfl, rfl⟩ | rfl)
      intro sg wf hC hph
      intro a60 hA60
      have hA61 := hA60.keep [2, 4, 7, 98, 101, 107]
      simp only [argsE, keepE, lookS, Nat.reduceBEq, cond_true, cond_false, Nat.reduceAdd, gv_tt, gv_ff, Bool.true_and, Bool.false_and, Bool.true_or, Bool.false_or] at hA61
      clear hA59 hA60 a58
      replace HB := HB.trans (hC.mono HB.size)
      replace K2 := K2.below hC K2.lt
      replace K4 := K4.below hC K4.lt
      replace K7 := K7.below hC K7.lt
      refine wl_op hA61 rfl rfl (by decide) (fun ev h => by simp [go_sem, h.get 7 rfl, h.get 101 rfl, jj, ji, add0, c1]; try first | exact ⟨rfl, rfl⟩ | rfl) fun a62 hA62 => ?_
      -- stop store slot None
      refine wl_setf (((mixN t s i).map u32v).set i (.int .u32 ((ad (t.l.getD i 0) (s.l.getD i 0) : Nat) : Int))) _ hA62 rfl rfl K7 (j := i) (by rfl) (fun ev h => by simp [go_sem, h.get 108 rfl, h.get 107 rfl, jj, ji, add0, c1, K7.cell, K7.frozen]; try first | exact ⟨rfl, rfl⟩ | rfl) fun w12 (K7 : Blk _ _ _ _) hs => ?_
      have hwi : IntKind.i64.wrap ((i : Int) + 1) = ((i + 1 : Nat) : Int) := by rw [IntWalk.i64_in _ (by omega)]; omega
      refine wl_nil ?_
      refine n_block ?_
      refine n_then ?_
      have hA63 := hA62.keep [2, 4, 7, 98]
      simp only [argsE, keepE, lookS, Nat.reduceBEq, cond_true, cond_false, Nat.reduceAdd, gv_tt, gv_ff, Bool.true_and, Bool.false_and, Bool.true_or, Bool.false_or] at hA63
      clear hA61 hA62 a60
      refine wp_region_lit ?_
      refine wl_op hA63 rfl rfl (by decide) (fun ev h => by simp [go_sem, h.c, h.get 98 rfl, hwi]; try first | exact ⟨rfl, rfl⟩ | rfl) fun a64 hA64 => ?_
      refine wl_op hA64 rfl rfl (by decide) (fun ev h => by simp [go_sem, h.get 109 rfl, hwi]; try first | exact ⟨rfl, rfl⟩ | rfl) fun a65 hA65 => ?_
      refine wl_nil ?_
      refine n_then ?_
      have hA66 := hA65.keep [2, 4, 7, 98]
      simp only [argsE, keepE, lookS, Nat.reduceBEq, cond_true, cond_false, Nat.reduceAdd, gv_tt, gv_ff, Bool.true_and, Bool.false_and, Bool.true_or, Bool.false_or] at hA66
      clear hA63 hA64 hA65 a62 a64
      -- round
      rw [mixN_set hi] at K7
      exact ⟨k - 1, by omega, i + 1, by omega, hA66, hs.blk K2 (by omega), hs.blk K4 (by omega), K7, hs.below HB (by omega)⟩
    case nM =>
      have hi : i = 8 := by simp at hq; omega
      subst hi
      refine wp_exit ?_
      refine x_then ?_
      refine x_then ?_
      refine x_block ?_
      refine n_then ?_
      have hA67 := hA56.keep [4, 7]
      simp only [argsE, keepE, lookS, Nat.reduceBEq, cond_true, cond_false, Nat.reduceAdd, gv_tt, gv_ff, Bool.true_and, Bool.false_and, Bool.true_or, Bool.false_or] at hA67
      clear hA56
      refine wp_seq ?_
      refine wp_region_lit ?_
      -- limit load slot 110
      refine wl_op hA67 rfl rfl (by decide) (fun ev h => exec_loadA K7 Tryz.underlying137 rfl (by kernel_rfl) (mixN_len t s 8) rfl (h.get 7 rfl)) fun a68 hA68 => ?_
      refine wl_setw ((mixN t s 8).map u32v) hA68 rfl rfl K4 (by rfl) (mixN_len t s 8) (by kernel_rfl) (map_one _) rfl (fun ev h => ⟨h.get 4 rfl, h.get 110 rfl⟩) fun w13 (K4 : Blk _ _ _ _) hs => ?_
      refine wl_nil ?_
      refine n_then ?_
      have hA69 := hA68.keep [4]
      simp only [argsE, keepE, lookS, Nat.reduceBEq, cond_true, cond_false, Nat.reduceAdd, gv_tt, gv_ff, Bool.true_and, Bool.false_and, Bool.true_or, Bool.false_or] at hA69
      clear hA67 hA68
      refine wp_ret ?_
      refine ret_cell hA69 4 rfl rfl K4 Tryz.underlying137 rfl (by kernel_rfl) (mixN_len t s 8) ?_
      refine ⟨?_, hs.below HB h4⟩
      rw [hfin, mix8]
end Go.Proofs.YtmjikfeaopmejaaGreatDoor
/-
  Walk of the document's numbers in bytes.
-/
namespace Go.Proofs.YtmjikfeaopmejaaGreatDoor
open Go.RowKit
theorem u8s_set (l : List UInt8) (i : Nat) (c : UInt8) : u8s (l.set i c) = (u8s l).set i (.int .u8 ((c.toNat : Nat) : Int)) := by simp [u8s, List.map_set]
theorem zeros_be (m j v : Nat) : (List.replicate (m + 1) (0 : UInt8) ++ be j v).set m (UInt8.ofNat (v / 256 ^ j)) = List.replicate m 0 ++ be (j + 1) v := by
  rw [List.replicate_succ', List.append_assoc, List.set_append_right _ _ (by simp)]
  simp [be]
theorem made8 (n : Nat) : madeCells (Value.int IntKind.u8 0).cells n = (u8s (List.replicate n 0)).toArray := by
  unfold madeCells u8s
  apply Array.ext
  · simp
  · intro i h1 h2; simp [Value.cells, Nat.mod_one]
set_option maxRecDepth 100000 in
theorem refBytes_any (v n : Nat) (hv : v < 18446744073709551616) (hn : n ≤ 1000) (w : World) :
    Calls Tryz.prog 46 #[.int .u64 (v : Nat), .int .i64 (n : Nat)] w fun e w' => ∃ r, e = .returned r ∧ w'.ownsRow w.heap.size 5 1 r n (u8s (be n v)) ∧ Below w.heap.size w w' := by
  obtain ⟨i0, hi0, hz0, hz1, hz2⟩ := info_parts u8_info
  have hmk := run_make_rowN (P := Tryz.prog) 23 5 i0 (.int .u8 0) Tryz.underlying23 hi0 hz0 .i64 .i64 n n (Nat.le_refl _) (by rw [hz2]; omega) (by omega) w
  rw [hz1, Nat.mul_one, made8] at hmk
  have hown : (w.alloc (.cells (u8s (List.replicate n 0)).toArray 5)).ownsRow w.heap.size 5 1 (.slice (some ⟨w.heap.size, 0, none⟩) n n) n (u8s (List.replicate n 0 ++ be 0 v)) := by
    have := World.ownsRow_lit (base := w.heap.size) (e := 5) (size := 1) w (u8s (List.replicate n 0)).toArray n (Nat.le_refl _) (by unfold maxLen; omega) (by simp [u8s])
    simpa [be] using this
  have HO := Lib.hid hown
  have HB := Lib.hid ((Below.refl w.heap.size w).alloc (Nat.le_refl _) (.cells (u8s (List.replicate n 0)).toArray 5))
  obtain ⟨g, hg⟩ : ∃ g, w.heap.size = g := ⟨_, rfl⟩
  rw [hg] at HO
  have HG := Lib.hid hg
  clear hown
  go_enter Tryz.func46, Tryz.ntmps46
  go_wp2
  clear hg hmk
  go_loopw [0, 6] (fun z i wr => ∃ (m j vj : Nat), m + j = n ∧ i = .int .i64 ((m : Int) - 1) ∧ z = .int .u64 (vj : Nat) ∧ Hid (vj = v / 256 ^ j) ∧ Hid (wr.ownsRow g 5 1 (.slice (some ⟨g, 0, none⟩) n n) n (u8s (List.replicate m 0 ++ be j v))) ∧ Hid (Below w.heap.size w wr)) (fun _ i _ => (intOf i + 1).toNat)
  case atStart => exact ⟨n, 0, v, by omega, rfl, rfl, by show v = _; simp, HO, HB⟩
  case round =>
    obtain ⟨m, j, vj, hmj, rfl, rfl, hvj, ho, hb⟩ := hrel
    rcases m with _ | m
    · go_wp2
      go_ret
      have hj : j = n := by omega
      subst hj
      refine ⟨_, rfl, ?_, hb.out⟩
      have := ho.out
      rw [HG.out]
      simpa using this
    · have hc0 : wr.cell? ⟨g, m, none⟩ = some (.int .u8 0) := by
        rw [ho.out.cellAt m (by omega), u8s_get, List.getElem?_append_left (by simp)]
        simp
      have hf0 := ho.out.frozenAt m
      have hvl : vj < 18446744073709551616 := by rw [hvj.out]; exact Nat.lt_of_le_of_lt (Nat.div_le_self _ _) hv
      have hst := (ho.out.stored m (.int .u8 (((UInt8.ofNat (v / 256 ^ j)).toNat : Nat) : Int)))
      rw [← u8s_set, zeros_be, ← hvj.out] at hst
      have hs8 : (((UInt8.ofNat vj).toNat : Nat) : Int) = (vj : Int) % 256 := by simp
      rw [hs8] at hst
      have HS := Lib.hid hst.1
      have hb2 := hb.out.grown hst.2 (by have := HB.out.size; exact hb.out.size) (fun k hk => by injection hk with hk; have := HG.out; omega)
      have HB2 := Lib.hid hb2
      have HV2 : Hid (vj / 256 = v / 256 ^ (j + 1)) := by rw [hvj.out, Nat.div_div_eq_div_mul, ← Nat.pow_succ]; exact rfl
      have e : (((m + 1 : Nat) : Int) - 1) = (m : Int) := by omega
      have m0 : (0 : Int) ≤ (m : Int) := by omega
      have m1 : (m : Int) < (n : Int) := by omega
      rw [e]
      clear hst hb2 hvj e hs8
      go_wp2
      go_roundw
      case rel => exact ⟨m, j + 1, vj / 256, by omega, by first | go_num | rfl, by rw [Int.natCast_ediv]; rfl, HV2, HS, HB2⟩
      case measure => simp [intOf]
end Go.Proofs.YtmjikfeaopmejaaGreatDoor
/-
  Walk: bytes up to whole blocks (sum.padded).
-/
namespace Go.Proofs.YtmjikfeaopmejaaGreatDoor
open Go.RowKit
set_option linter.unusedSimpArgs false
set_option linter.unusedVariables false
theorem zeros_stop {n j : Nat} (h : j ≤ shaZeros n) : (n + 1 + j) % 64 = 56 ↔ j = shaZeros n := by
  unfold shaZeros at *
  omega
theorem padZ_succ (b : List UInt8) (j : Nat) : b ++ [128] ++ List.replicate (j + 1) 0 = b ++ [128] ++ List.replicate j 0 ++ [0] := by
  rw [List.replicate_succ', List.append_assoc, List.append_assoc, List.append_assoc]
theorem be_take (v : Nat) : ∀ (n i : Nat), i < n → (be n v).take (i + 1) = (be n v).take i ++ [UInt8.ofNat (v / 256 ^ (n - 1 - i))]
  | 0, i, h => by omega
  | n + 1, 0, _ => by simp [be]
  | n + 1, i + 1, h => by
    have ih := be_take v n i (by omega)
    have e : n + 1 - 1 - (i + 1) = n - 1 - i := by omega
    rw [e]
    simp only [be, List.take_succ_cons, List.cons_append]
    rw [ih]
theorem sha_shr (v m : Nat) : (v : Int) / 2 ^ (8 * m) = ((v / 256 ^ m : Nat) : Int) := by
  have e : (256 : Nat) ^ m = 2 ^ (8 * m) := by rw [Nat.pow_mul]
  rw [e, Int.natCast_ediv, Int.natCast_pow]; rfl
theorem sha_shift (N i : Nat) (h : i < 8) : Op.shift .shr .u64 (N : Int) .i64 (56 - 8 * (i : Int)) = pure (.int .u64 ((N / 256 ^ (7 - i) : Nat) : Int)) := by
  rw [shift_shr_any _ _ _ _ (by omega), show min (56 - 8 * (i : Int)).toNat IntKind.u64.bits = 8 * (7 - i) by show min (56 - 8 * (i : Int)).toNat 64 = _; omega, sha_shr]
/-- a new row without bytes, with room -/
theorem make8 (c : Nat) (hc : c ≤ 1000000000) (w : World) : ∃ x : Obj, (Instr.makeSlice 23 (.int .i64 0) (.int .i64 (c : Nat))).run Tryz.prog w = .ok (.slice (some ⟨w.heap.size, 0, none⟩) 0 c) (w.alloc x) ∧ Own8 w.heap.size (w.alloc x) (.slice (some ⟨w.heap.size, 0, none⟩) 0 c) [] := by
  obtain ⟨i0, hi0, hz0, hz1, hz2⟩ := info_parts u8_info
  have hmk := run_make_rowN (P := Tryz.prog) 23 5 i0 (.int .u8 0) Tryz.underlying23 hi0 hz0 .i64 .i64 0 c (Nat.zero_le _) (by rw [hz2]; omega) (by omega) w
  rw [hz1, Nat.mul_one, made8] at hmk
  exact ⟨_, hmk, World.ownsRow_made (base := w.heap.size) (e := 5) (size := 1) w (u8s (List.replicate c 0)).toArray c (Nat.le_refl _) (by unfold maxLen; omega) (by simp [u8s])⟩
set_option maxRecDepth 100000 in
theorem padded_any (A : Option Addr) (n c : Nat) (b : List UInt8) (hl : b.length = n) (hn : n ≤ 1000000) (w : World) (hr : Reads w w.heap.size 1 A n (u8s b)) :
    Calls Tryz.prog 79 #[.slice A n c] w fun ev w' => ∃ r, ev = .returned r ∧ Own8 w.heap.size w' r (shaPad b) ∧ Below w.heap.size w w' := by
  have hadd : IntKind.i64.wrap ((n : Int) + 128) = (n : Int) + 128 := IntWalk.i64_in _ (by omega)
  subst hl
  refine calls_at 37 Tryz.func79 rfl rfl (Nat.le_of_ble_eq_true rfl) ?_
  intro a hA
  simp only [argsE, keepE, lookS, Nat.reduceBEq, cond_true, cond_false, Nat.reduceAdd, gv_tt, gv_ff, Bool.true_and, Bool.false_and, Bool.true_or, Bool.false_or] at hA
  refine wp_seq ?_
  refine wp_region_lit ?_
  refine wl_op hA rfl rfl (by decide) (fun ev h => by simp [go_sem, h.c, hadd]; try first | exact ⟨rfl, rfl⟩ | rfl) fun a1 hA1 => ?_
  refine wl_nil ?_
  refine n_then ?_
  have hA2 := hA1.keep [0]
  simp only [argsE, keepE, lookS, Nat.reduceBEq, cond_true, cond_false, Nat.reduceAdd, gv_tt, gv_ff, Bool.true_and, Bool.false_and, Bool.true_or, Bool.false_or] at hA2
  clear hA hA1
  refine wp_seq ?_
  refine wp_region_lit ?_
  refine wl_op hA2 rfl rfl (by decide) (fun ev h => by simp [go_sem, h.get 0 rfl, hadd]; try first | exact ⟨rfl, rfl⟩ | rfl) fun a3 hA3 => ?_
  refine wl_op hA3 rfl rfl (by decide) (fun ev h => by simp [go_sem, h.get 6 rfl, hadd]; try first | exact ⟨rfl, rfl⟩ | rfl) fun a4 hA4 => ?_
  refine wl_op hA4 rfl rfl (by decide) (fun ev h => by simp [go_sem, h.c, h.get 7 rfl, hadd]; try first | exact ⟨rfl, rfl⟩ | rfl) fun a5 hA5 => ?_
  -- stop makeSlice slot 9
  obtain ⟨x, hmk, ho⟩ := make8 (b.length + 128) (by omega) w
  rw [show ((b.length + 128 : Nat) : Int) = (b.length : Int) + 128 by omega] at hmk
  have hb0 := (Below.refl w.heap.size w).alloc (Nat.le_refl _) x
  refine wl_op hA5 rfl rfl (by decide) (fun ev h => by simp [go_sem, h.c, h.get 8 rfl, hadd, hmk]; try first | exact ⟨rfl, rfl⟩ | rfl) fun a6 hA6 => ?_
  refine wl_op hA6 rfl rfl (by decide) (fun ev h => by simp [go_sem, h.get 0 rfl, hadd]; try first | exact ⟨rfl, rfl⟩ | rfl) fun a7 hA7 => ?_
  -- stop call slot 11
  obtain ⟨r1, w1, hr1, ho1, hg1⟩ := run_app8 ho (u := .slice A b.length c) ⟨A, c, rfl, (hr.below hb0).more hb0.size⟩ (by simp; omega) hb0.size
  have hb1 := below_app8 hb0 ho hg1 (Nat.le_refl _) hb0.size
  refine wl_op hA7 rfl rfl (by decide) (fun ev h => exec_append rfl (h.get 9 rfl) (h.get 10 rfl) hr1) fun a8 hA8 => ?_
  -- stop buildSlice slot 12
  refine wl_new hA8 rfl rfl (by decide) (fun ev h => by simp [go_sem, h.c, hadd]; try first | exact ⟨rfl, rfl⟩ | rfl) fun w2 a9 (K : Blk _ _ _ _) hz hb hA9 => ?_
  replace hb1 := hb1.trans (hb.mono hb1.size)
  replace ho1 := ho1.below hb
  obtain ⟨r3, w3, hr3, ho3, hg3⟩ := run_app8 ho1 (took_blk (c := 128) K) (by simp; omega) hb1.size
  have hb3 := below_app8 hb1 ho1 hg3 (Nat.le_refl _) hb1.size
  refine wl_op hA9 rfl rfl (by decide) (fun ev h => exec_append rfl (h.get 11 rfl) (h.get 12 rfl) hr3) fun a10 hA10 => ?_
  refine wl_op hA10 rfl rfl (by decide) (fun ev h => by simp [go_sem, h.get 13 rfl, hadd]; try first | exact ⟨rfl, rfl⟩ | rfl) fun a11 hA11 => ?_
  refine wl_nil ?_
  refine n_then ?_
  have hA12 := hA11.keep [0, 3]
  simp only [argsE, keepE, lookS, Nat.reduceBEq, cond_true, cond_false, Nat.reduceAdd, gv_tt, gv_ff, Bool.true_and, Bool.false_and, Bool.true_or, Bool.false_or] at hA12
  clear hA2 hA3 hA4 hA5 hA6 hA7 hA8 hA9 hA10 hA11 a1 a3 a4 a5 a6 a7 a8 a9 a10
  refine wp_seq ?_
  refine wp_block ?_
  -- loop
  refine wp_loop_at (fun k a wx => ∃ (j : Nat) (v : Value), j + k = shaZeros b.length ∧ At 37 [(0, .slice A b.length c), (3, v)] a ∧ Own8 w.heap.size wx v (b ++ [128] ++ List.replicate j 0) ∧ Below w.heap.size w wx) (shaZeros b.length) ?_ ?_
  · exact ⟨0, _, by omega, hA12, by simpa using ho3, hb3⟩
  clear ho3 hb3
  rintro k a wx ⟨j, v, hjk, hA, ho, HB⟩
  have hz64 : shaZeros b.length < 64 := Nat.mod_lt _ (by omega)
  obtain ⟨Av, cv, rfl, hrv⟩ := ho.took
  obtain ⟨L, hL⟩ : ∃ L, (b ++ [128] ++ List.replicate j 0).length = L := ⟨_, rfl⟩
  have hL2 : L = b.length + 1 + j := by rw [← hL]; simp; omega
  rw [hL] at hA
  refine wp_seq ?_
  refine wp_seq ?_
  refine wp_region_lit ?_
  refine wl_op hA rfl rfl (by decide) (fun ev h => by simp [go_sem, h.get 3 rfl]; try first | exact ⟨rfl, rfl⟩ | rfl) fun a13 hA13 => ?_
  refine wl_op hA13 rfl rfl (by decide) (fun ev h => by simp [go_sem, h.get 14 rfl]; try first | exact ⟨rfl, rfl⟩ | rfl) fun a14 hA14 => ?_
  refine wl_op hA14 rfl rfl (by decide) (fun ev h => by simp [go_sem, h.c, h.get 15 rfl]; try first | exact ⟨rfl, rfl⟩ | rfl) fun a15 hA15 => ?_
  refine wl_op hA15 rfl rfl (by decide) (fun ev h => by simp [go_sem, h.c, h.get 16 rfl]; try first | exact ⟨rfl, rfl⟩ | rfl) fun a16 hA16 => ?_
  refine wl_nil ?_
  refine n_then ?_
  have hA17 := hA16.keep [0, 3, 17]
  simp only [argsE, keepE, lookS, Nat.reduceBEq, cond_true, cond_false, Nat.reduceAdd, gv_tt, gv_ff, Bool.true_and, Bool.false_and, Bool.true_or, Bool.false_or] at hA17
  clear hA hA13 hA14 hA15 hA16 a13 a14 a15
  -- cond
  refine wp_if hA17 17 _ rfl (fun hq => ?yP) (fun hq => ?nP)
  case yP =>
    have hne : j ≠ shaZeros b.length := fun e => by
      have := (zeros_stop (n := b.length) (j := j) (by omega)).2 e
      simp [Int.tmod_eq_emod_of_nonneg] at hq
      omega
    refine wp_skip ?_
    refine n_then ?_
    refine wp_block ?_
    refine wp_region_lit ?_
    refine wl_op hA17 rfl rfl (by decide) (fun ev h => by simp [go_sem, h.get 3 rfl]; try first | exact ⟨rfl, rfl⟩ | rfl) fun a18 hA18 => ?_
    -- stop buildSlice slot 19
    refine wl_new hA18 rfl rfl (by decide) (fun ev h => by simp [go_sem, h.c]; try first | exact ⟨rfl, rfl⟩ | rfl) fun w4 a19 (K4 : Blk _ _ _ _) hz4 hb4 hA19 => ?_
    replace HB := HB.trans (hb4.mono HB.size)
    replace ho := ho.below hb4
    obtain ⟨r5, w5, hr5, ho5, hg5⟩ := run_app8 ho (took_blk (c := 0) K4) (by simp; omega) HB.size
    rw [← hL] at hA19
    refine wl_op hA19 rfl rfl (by decide) (fun ev h => exec_append rfl (h.get 18 rfl) (h.get 19 rfl) hr5) fun a20 hA20 => ?_
    refine wl_op hA20 rfl rfl (by decide) (fun ev h => by simp [go_sem, h.get 20 rfl]; try first | exact ⟨rfl, rfl⟩ | rfl) fun a21 hA21 => ?_
    refine wl_nil ?_
    refine n_block ?_
    refine n_then ?_
    have hA22 := hA21.keep [0, 3]
    simp only [argsE, keepE, lookS, Nat.reduceBEq, cond_true, cond_false, Nat.reduceAdd, gv_tt, gv_ff, Bool.true_and, Bool.false_and, Bool.true_or, Bool.false_or] at hA22
    clear hA17 hA18 hA19 hA20 hA21 a18 a19 a20
    -- round
    exact ⟨k - 1, by omega, j + 1, _, by omega, hA22, by rw [padZ_succ]; exact ho5, below_app8 HB ho hg5 (Nat.le_refl _) HB.size⟩
  case nP =>
    have hje : j = shaZeros b.length := by
      refine (zeros_stop (n := b.length) (j := j) (by omega)).1 ?_
      simp [Int.tmod_eq_emod_of_nonneg] at hq
      omega
    have hw8 : IntKind.u64.wrap (b.length : Int) = (b.length : Int) := IntWalk.u64_in _ (by omega)
    have hw9 : IntKind.u64.wrap ((b.length : Int) * 8) = (b.length : Int) * 8 := IntWalk.u64_in _ (by omega)
    rw [hL] at ho
    refine wp_exit ?_
    refine x_then ?_
    refine x_then ?_
    refine x_block ?_
    refine n_then ?_
    have hA23 := hA17.keep [0, 3]
    simp only [argsE, keepE, lookS, Nat.reduceBEq, cond_true, cond_false, Nat.reduceAdd, gv_tt, gv_ff, Bool.true_and, Bool.false_and, Bool.true_or, Bool.false_or] at hA23
    clear hA17
    refine wp_seq ?_
    refine wp_region_lit ?_
    refine wl_op hA23 rfl rfl (by decide) (fun ev h => by simp [go_sem, h.get 0 rfl, hw8, hw9]; try first | exact ⟨rfl, rfl⟩ | rfl) fun a24 hA24 => ?_
    refine wl_op hA24 rfl rfl (by decide) (fun ev h => by simp [go_sem, h.get 21 rfl, hw8, hw9]; try first | exact ⟨rfl, rfl⟩ | rfl) fun a25 hA25 => ?_
    refine wl_op hA25 rfl rfl (by decide) (fun ev h => by simp [go_sem, h.get 22 rfl, hw8, hw9]; try first | exact ⟨rfl, rfl⟩ | rfl) fun a26 hA26 => ?_
    refine wl_op hA26 rfl rfl (by decide) (fun ev h => by simp [go_sem, h.c, h.get 23 rfl, hw8, hw9]; try first | exact ⟨rfl, rfl⟩ | rfl) fun a27 hA27 => ?_
    refine wl_op hA27 rfl rfl (by decide) (fun ev h => by simp [go_sem, h.get 24 rfl, hw8, hw9]; try first | exact ⟨rfl, rfl⟩ | rfl) fun a28 hA28 => ?_
    refine wl_nil ?_
    refine n_then ?_
    have hA29 := hA28.keep [3, 4]
    simp only [argsE, keepE, lookS, Nat.reduceBEq, cond_true, cond_false, Nat.reduceAdd, gv_tt, gv_ff, Bool.true_and, Bool.false_and, Bool.true_or, Bool.false_or] at hA29
    clear hA23 hA24 hA25 hA26 hA27 hA28 a24 a25 a26 a27
    refine wp_seq ?_
    refine wp_seq ?_
    refine wp_region_lit ?_
    refine wl_op hA29 rfl rfl (by decide) (fun ev h => by simp [go_sem, h.c, hw8, hw9]; try first | exact ⟨rfl, rfl⟩ | rfl) fun a30 hA30 => ?_
    refine wl_nil ?_
    refine n_then ?_
    have hA31 := hA30.keep [3, 4, 5]
    simp only [argsE, keepE, lookS, Nat.reduceBEq, cond_true, cond_false, Nat.reduceAdd, gv_tt, gv_ff, Bool.true_and, Bool.false_and, Bool.true_or, Bool.false_or] at hA31
    clear hA29 hA30 a28
    refine wp_block ?_
    -- loop
    refine wp_loop_at (fun k a wx => ∃ (i : Nat) (v : Value), i + k = 8 ∧ At 37 [(3, v), (4, .int .u64 ((b.length : Int) * 8)), (5, .int .i64 (56 - 8 * (i : Int)))] a ∧ Own8 w.heap.size wx v (b ++ [128] ++ List.replicate (shaZeros b.length) 0 ++ (be 8 (b.length * 8)).take i) ∧ Below w.heap.size w wx) (8) ?_ ?_
    · exact ⟨0, _, by omega, hA31, by rw [← hje]; simpa using ho, HB⟩
    clear ho HB hrv
    rintro k a wx ⟨i, v, hik, hA, ho, HB⟩
    refine wp_seq ?_
    refine wp_seq ?_
    refine wp_region_lit ?_
    refine wl_op hA rfl rfl (by decide) (fun ev h => by simp [go_sem, h.get 5 rfl]; try first | exact ⟨rfl, rfl⟩ | rfl) fun a32 hA32 => ?_
    refine wl_op hA32 rfl rfl (by decide) (fun ev h => by simp [go_sem, h.c, h.get 25 rfl]; try first | exact ⟨rfl, rfl⟩ | rfl) fun a33 hA33 => ?_
    refine wl_nil ?_
    refine n_then ?_
    have hA34 := hA33.keep [3, 4, 5, 26]
    simp only [argsE, keepE, lookS, Nat.reduceBEq, cond_true, cond_false, Nat.reduceAdd, gv_tt, gv_ff, Bool.true_and, Bool.false_and, Bool.true_or, Bool.false_or] at hA34
    clear hA hA32 hA33 a32
    -- cond
    refine wp_if hA34 26 _ rfl (fun hq2 => ?yR) (fun hq2 => ?nR)
    case yR =>
      have hi8 : i < 8 := by simp at hq2; omega
      have hsh := sha_shift (b.length * 8) i hi8
      rw [show ((b.length * 8 : Nat) : Int) = (b.length : Int) * 8 by omega] at hsh
      have hwb : ∀ q : Nat, IntKind.u8.wrap (q : Int) = (((UInt8.ofNat q).toNat : Nat) : Int) := fun q => by rw [IntKind.wrap_u8']; simp
      have hw5 : IntKind.i64.wrap (56 - 8 * (i : Int) - 8) = 56 - 8 * ((i + 1 : Nat) : Int) := by rw [IntWalk.i64_in _ (by omega)]; omega
      refine wp_skip ?_
      refine n_then ?_
      refine wp_seq ?_
      refine wp_block ?_
      refine wp_region_lit ?_
      refine wl_op hA34 rfl rfl (by decide) (fun ev h => by simp [go_sem, h.get 3 rfl]; try first | exact ⟨rfl, rfl⟩ | rfl) fun a35 hA35 => ?_
      refine wl_op hA35 rfl rfl (by decide) (fun ev h => by simp [go_sem, h.get 4 rfl]; try first | exact ⟨rfl, rfl⟩ | rfl) fun a36 hA36 => ?_
      refine wl_op hA36 rfl rfl (by decide) (fun ev h => by simp [go_sem, h.get 5 rfl]; try first | exact ⟨rfl, rfl⟩ | rfl) fun a37 hA37 => ?_
      refine wl_op hA37 rfl rfl (by decide) (fun ev h => by simp [go_sem, h.get 30 rfl, h.get 31 rfl]; try first | exact ⟨rfl, rfl⟩ | rfl) fun a38 hA38 => ?_
      refine wl_op hA38 rfl rfl (by decide) (fun ev h => by simp [go_sem, h.get 32 rfl]; try first | exact ⟨rfl, rfl⟩ | rfl) fun a39 hA39 => ?_
      -- stop buildSlice slot 34
      refine wl_new hA39 rfl rfl (by decide) (fun ev h => by simp [go_sem, h.get 33 rfl]; try first | exact ⟨rfl, rfl⟩ | rfl) fun w6 a40 (K6 : Blk _ _ _ _) hz6 hb6 hA40 => ?_
      replace HB := HB.trans (hb6.mono HB.size)
      replace ho := ho.below hb6
      have hby : IntKind.u8.wrap ((b.length : Int) * 8 / 2 ^ (56 - 8 * (i : Int)).toNat) = (((UInt8.ofNat (b.length * 8 / 256 ^ (7 - i))).toNat : Nat) : Int) := by
        rw [show (56 - 8 * (i : Int)).toNat = 8 * (7 - i) by omega, show (b.length : Int) * 8 = ((b.length * 8 : Nat) : Int) by omega, sha_shr, hwb]
      rw [hby] at K6
      obtain ⟨r7, w7, hr7, ho7, hg7⟩ := run_app8 ho (took_blk K6) (by simp [be_length]; omega) HB.size
      refine wl_op hA40 rfl rfl (by decide) (fun ev h => exec_append rfl (h.get 29 rfl) (h.get 34 rfl) hr7) fun a41 hA41 => ?_
      refine wl_op hA41 rfl rfl (by decide) (fun ev h => by simp [go_sem, h.get 35 rfl, hw5]; try first | exact ⟨rfl, rfl⟩ | rfl) fun a42 hA42 => ?_
      refine wl_nil ?_
      refine n_block ?_
      refine n_then ?_
      have hA43 := hA42.keep [3, 4, 5]
      simp only [argsE, keepE, lookS, Nat.reduceBEq, cond_true, cond_false, Nat.reduceAdd, gv_tt, gv_ff, Bool.true_and, Bool.false_and, Bool.true_or, Bool.false_or] at hA43
      clear hA34 hA35 hA36 hA37 hA38 hA39 hA40 hA41 hA42 a35 a36 a37 a38 a39 a40 a41
      refine wp_region_lit ?_
      refine wl_op hA43 rfl rfl (by decide) (fun ev h => by simp [go_sem, h.get 5 rfl, hw5]; try first | exact ⟨rfl, rfl⟩ | rfl) fun a44 hA44 => ?_
      refine wl_op hA44 rfl rfl (by decide) (fun ev h => by simp [go_sem, h.c, h.get 27 rfl, hw5]; try first | exact ⟨rfl, rfl⟩ | rfl) fun a45 hA45 => ?_
      refine wl_op hA45 rfl rfl (by decide) (fun ev h => by simp [go_sem, h.get 28 rfl, hw5]; try first | exact ⟨rfl, rfl⟩ | rfl) fun a46 hA46 => ?_
      refine wl_nil ?_
      refine n_then ?_
      have hA47 := hA46.keep [3, 4, 5]
      simp only [argsE, keepE, lookS, Nat.reduceBEq, cond_true, cond_false, Nat.reduceAdd, gv_tt, gv_ff, Bool.true_and, Bool.false_and, Bool.true_or, Bool.false_or] at hA47
      clear hA43 hA44 hA45 hA46 a42 a44 a45
      -- round
      exact ⟨k - 1, by omega, i + 1, _, by omega, hA47, by rw [be_take _ 8 i hi8, ← List.append_assoc]; exact ho7, below_app8 HB ho hg7 (Nat.le_refl _) HB.size⟩
    case nR =>
      refine wp_exit ?_
      refine x_then ?_
      refine x_then ?_
      refine x_block ?_
      refine n_then ?_
      have hA48 := hA34.keep [3]
      simp only [argsE, keepE, lookS, Nat.reduceBEq, cond_true, cond_false, Nat.reduceAdd, gv_tt, gv_ff, Bool.true_and, Bool.false_and, Bool.true_or, Bool.false_or] at hA48
      clear hA34
      refine wp_seq ?_
      refine wp_region_lit ?_
      refine wl_op hA48 rfl rfl (by decide) (fun ev h => by simp [go_sem, h.get 3 rfl]; try first | exact ⟨rfl, rfl⟩ | rfl) fun a49 hA49 => ?_
      refine wl_op hA49 rfl rfl (by decide) (fun ev h => by simp [go_sem, h.get 36 rfl]; try first | exact ⟨rfl, rfl⟩ | rfl) fun a50 hA50 => ?_
      refine wl_nil ?_
      refine n_then ?_
      have hA51 := hA50.keep [2]
      simp only [argsE, keepE, lookS, Nat.reduceBEq, cond_true, cond_false, Nat.reduceAdd, gv_tt, gv_ff, Bool.true_and, Bool.false_and, Bool.true_or, Bool.false_or] at hA51
      clear hA48 hA49 hA50 a49
      refine wp_ret ?_
      -- ret
      refine ret_1 hA51 2 rfl rfl ?_
      have hi : i = 8 := by simp at hq2; omega
      subst hi
      exact ⟨_, rfl, by unfold shaPad; rw [List.take_of_length_le (by rw [be_length]; omega)] at ho; exact ho, HB⟩
end Go.Proofs.YtmjikfeaopmejaaGreatDoor
/-
  Frames and scans, plainly.
-/
namespace Go.Proofs.YtmjikfeaopmejaaGreatDoor
def frameHd (k : Nat) (p : List UInt8) : List UInt8 := [99, 117, 98, UInt8.ofNat k] ++ be 4 p.length
def frameB (k : Nat) (p : List UInt8) : List UInt8 := frameHd k p ++ be 4 (crc (frameHd k p)) ++ digest p ++ p
theorem ShaS.l_len (s : ShaS) : (s.l.flatMap (be 4)).length = 32 := by
  simp [ShaS.l, be_length]
theorem digest_length (b : List UInt8) : (digest b).length = 32 := ShaS.l_len _
theorem frameHd_length (k : Nat) (p : List UInt8) : (frameHd k p).length = 8 := by unfold frameHd; simp [be_length]
theorem frameB_length (k : Nat) (p : List UInt8) : (frameB k p).length = 44 + p.length := by
  unfold frameB; simp [be_length, frameHd_length, digest_length]; omega
/-- what a head tells -/
def hdKind (b : List UInt8) : Nat := (b.getD 3 0).toNat
def hdLen (b : List UInt8) : Nat := beVal ((b.drop 4).take 4)
def hdCrc (b : List UInt8) : Nat := beVal ((b.drop 8).take 4)
def headOk (b : List UInt8) : Bool := decide (44 ≤ b.length) && (b.take 3 == [99, 117, 98]) && (decide (1 ≤ hdKind b) && decide (hdKind b ≤ 3) && decide (hdLen b ≤ 30000) && (hdCrc b == crc (b.take 8)))
theorem headOk_len {b : List UInt8} (h : headOk b = true) : 44 ≤ b.length := by
  unfold headOk at h
  simp only [Bool.and_eq_true, decide_eq_true_eq] at h
  exact h.1.1
theorem headOk_short {b : List UInt8} (h : b.length < 44) : headOk b = false := by
  cases hb : headOk b with
  | false => rfl
  | true => have := headOk_len hb; omega
/-- a record: where, of which kind, what -/
structure RecB where
  at_ : Nat
  kind : Nat
  b : List UInt8
def payOf (b : List UInt8) : List UInt8 := (b.drop 44).take (hdLen b)
def recsAt (b : List UInt8) (at_ : Nat) : List RecB := bif digest (payOf (b.drop at_)) == ((b.drop at_).drop 12).take 32 then [⟨at_, hdKind (b.drop at_), payOf (b.drop at_)⟩] else []
/-- all records from a place on; where the rest is torn -/
def scanAt (b : List UInt8) (at_ torn : Nat) (l : List RecB) : List RecB × Nat :=
  if h : at_ < b.length then
    if headOk (b.drop at_) = true then
      if hdLen (b.drop at_) + 44 + at_ > b.length then (l, at_)
      else scanAt b (at_ + 44 + hdLen (b.drop at_)) (at_ + 44 + hdLen (b.drop at_)) (l ++ recsAt b at_)
    else scanAt b (at_ + 1) torn l
  else (l, torn)
termination_by b.length - at_
def scan (b : List UInt8) : List RecB × Nat := scanAt b 0 0 []
section
variable {b : List UInt8} {at_ torn : Nat} {l : List RecB}
theorem scan_end (h : b.length ≤ at_) : scanAt b at_ torn l = (l, torn) := by
  rw [scanAt, dif_neg (by omega)]
theorem scan_torn (h : headOk (b.drop at_) = true) (h2 : b.length < hdLen (b.drop at_) + 44 + at_) : scanAt b at_ torn l = (l, at_) := by
  have h3 := headOk_len h
  rw [List.length_drop] at h3
  rw [scanAt, dif_pos (by omega), if_pos h, if_pos h2]
theorem scan_rec (h : headOk (b.drop at_) = true) (h2 : hdLen (b.drop at_) + 44 + at_ ≤ b.length) : scanAt b at_ torn l = scanAt b (at_ + 44 + hdLen (b.drop at_)) (at_ + 44 + hdLen (b.drop at_)) (l ++ recsAt b at_) := by
  have h3 := headOk_len h
  rw [List.length_drop] at h3
  rw [scanAt, dif_pos (by omega), if_pos h, if_neg (by omega)]
theorem scan_next (h : headOk (b.drop at_) = false) (h2 : at_ < b.length) : scanAt b at_ torn l = scanAt b (at_ + 1) torn l := by
  rw [scanAt, dif_pos h2, if_neg (by rw [h]; decide)]
/-- nothing stands between -/
theorem scan_skip : ∀ (k at_ : Nat), (∀ j, at_ ≤ j → j < at_ + k → headOk (b.drop j) = false) → at_ + k ≤ b.length → scanAt b at_ torn l = scanAt b (at_ + k) torn l
  | 0, _, _, _ => rfl
  | k + 1, at_, h, hl => by
    rw [scan_next (h at_ (Nat.le_refl _) (by omega)) (by omega)]
    have := scan_skip k (at_ + 1) (fun j h1 h2 => h j (by omega) (by omega)) (by omega)
    rw [this]
    congr 1
    omega
theorem scan_none (h : ∀ j, at_ ≤ j → headOk (b.drop j) = false) : scanAt b at_ torn l = (l, torn) := by
  rcases Nat.lt_or_ge at_ b.length with h1 | h1
  · rw [scan_skip (b.length - at_) at_ (fun j h2 _ => h j h2) (by omega)]
    exact scan_end (by omega)
  · exact scan_end h1
end
-- frames are found
theorem frame_parts (k : Nat) (p r : List UInt8) : frameB k p ++ r = [99, 117, 98, UInt8.ofNat k] ++ (be 4 p.length ++ (be 4 (crc (frameHd k p)) ++ (digest p ++ (p ++ r)))) := by
  unfold frameB frameHd
  simp only [List.append_assoc]
theorem crc_bound (l : List UInt8) : crc l < 4294967296 := by
  unfold crc
  exact Nat.xor_lt_two_pow (n := 32) (crcGo_lt _ (by decide)) (by decide)
theorem beVal_be' (n v : Nat) (h : v < 256 ^ n) : beVal (be n v) = v := by
  exact beVal_be n v h
theorem frame_head {k : Nat} {p : List UInt8} (r : List UInt8) (h1 : 1 ≤ k) (h2 : k ≤ 3) (hp : p.length ≤ 30000) : headOk (frameB k p ++ r) = true ∧ hdKind (frameB k p ++ r) = k ∧ hdLen (frameB k p ++ r) = p.length ∧ payOf (frameB k p ++ r) = p ∧ ((frameB k p ++ r).drop 12).take 32 = digest p := by
  have e1 : hdKind (frameB k p ++ r) = k := by
    rw [frame_parts]
    unfold hdKind
    show (UInt8.ofNat k).toNat = k
    simp; omega
  have e2 : hdLen (frameB k p ++ r) = p.length := by
    rw [frame_parts]
    unfold hdLen
    rw [List.drop_left' (by rfl), List.take_left' (be_length _ _)]
    exact beVal_be' 4 _ (by show _ < 4294967296; omega)
  have e3 : hdCrc (frameB k p ++ r) = crc (frameHd k p) := by
    rw [frame_parts]
    unfold hdCrc
    rw [← List.append_assoc, List.drop_left' (by simp [be_length]), List.take_left' (be_length _ _)]
    exact beVal_be' 4 _ (crc_bound _)
  have e4 : (frameB k p ++ r).take 8 = frameHd k p := by
    unfold frameB
    rw [List.append_assoc, List.append_assoc, List.append_assoc, List.take_left' (frameHd_length k p)]
  have e5 : (frameB k p ++ r).take 3 = [99, 117, 98] := by rw [frame_parts]; rfl
  refine ⟨?_, e1, e2, ?_, ?_⟩
  · unfold headOk
    rw [e1, e2, e3, e4, e5, List.length_append, frameB_length]
    simp [h1, h2, hp]
    omega
  · unfold payOf
    rw [e2, frame_parts, ← List.append_assoc, ← List.append_assoc, ← List.append_assoc, List.drop_left' (by simp [be_length, digest_length]), List.take_left' rfl]
  · rw [frame_parts, ← List.append_assoc, ← List.append_assoc, List.drop_left' (by simp [be_length]), List.take_left' (digest_length p)]
theorem scan_frame {b r : List UInt8} {k at_ torn : Nat} {p : List UInt8} {l : List RecB} (hb : b.drop at_ = frameB k p ++ r) (h1 : 1 ≤ k) (h2 : k ≤ 3) (hp : p.length ≤ 30000) : scanAt b at_ torn l = scanAt b (at_ + 44 + p.length) (at_ + 44 + p.length) (l ++ [⟨at_, k, p⟩]) := by
  obtain ⟨e1, e2, e3, e4, e5⟩ := frame_head r h1 h2 hp
  have hl := congrArg List.length hb
  rw [List.length_drop, List.length_append, frameB_length] at hl
  rw [← hb] at e1 e2 e3 e4 e5
  rw [scan_rec e1 (by rw [e3]; omega), e3]
  congr 2
  unfold recsAt
  rw [e4, e5, e2]
  simp
end Go.Proofs.YtmjikfeaopmejaaGreatDoor
/-
  Rows of what takes k cells each.
-/
namespace Go.Proofs.YtmjikfeaopmejaaGreatDoor
open Go.RowKit
section
variable {M : Type} {f : M → List Value} {k : Nat}
theorem flatK_len (hf : ∀ x, (f x).length = k) : ∀ l : List M, (l.flatMap f).length = l.length * k
  | [] => by simp
  | x :: r => by rw [List.flatMap_cons, List.length_append, hf, flatK_len hf r, List.length_cons, Nat.succ_mul]; omega
theorem flatK_at (hf : ∀ x, (f x).length = k) : ∀ (l : List M) (i j : Nat) (x : M), l[i]? = some x → j < k → (l.flatMap f)[i * k + j]? = (f x)[j]?
  | y :: r, 0, j, x, h, hj => by
    have e : y = x := by simpa using h
    subst e
    rw [List.flatMap_cons, Nat.zero_mul, Nat.zero_add, List.getElem?_append_left (by rw [hf]; exact hj)]
  | y :: r, i + 1, j, x, h, hj => by
    have ih := flatK_at hf r i j x (by simpa using h) hj
    rw [List.flatMap_cons, List.getElem?_append_right (by rw [hf, Nat.succ_mul]; omega)]
    have e : (i + 1) * k + j - (f y).length = i * k + j := by rw [hf, Nat.succ_mul]; omega
    rw [e]; exact ih
theorem flatK_take (hf : ∀ x, (f x).length = k) (l : List M) (i : Nat) : (l.take i).flatMap f = (l.flatMap f).take (i * k) := by
  induction l generalizing i with
  | nil => simp
  | cons y r ih =>
    cases i with
    | zero => simp
    | succ i =>
      have h1 : (f y).take ((i + 1) * k) = f y := List.take_of_length_le (by rw [hf, Nat.succ_mul]; omega)
      have h2 : (i + 1) * k - (f y).length = i * k := by rw [hf, Nat.succ_mul]; omega
      rw [List.take_succ_cons, List.flatMap_cons, List.flatMap_cons, List.take_append, h1, h2, ih i]
theorem add_kj (ad : Addr) (i j : Nat) (hj : 0 < j) : ad.add (i + j) = ⟨(ad.add i).block, (ad.add i).off + j, none⟩ := by
  unfold Addr.add; by_cases h : i = 0 <;> simp [h] <;> omega
/-- an element's cells -/
theorem rowK_at {w : World} {B n i : Nat} {A : Option Addr} {l : List M} {x : M} (hf : ∀ x, (f x).length = k) (h : Reads w B k A n (l.flatMap f)) (hn : 0 < n) (hx : l[i]? = some x) :
    ∃ ad, A = some ad ∧ ad.block < B ∧ (∀ u, (f x)[0]? = some u → w.cell? (ad.add (i * k)) = some u) ∧ ∀ j u, 0 < j → (f x)[j]? = some u → w.cell? ⟨(ad.add (i * k)).block, (ad.add (i * k)).off + j, none⟩ = some u := by
  obtain ⟨ad, rfl, hb, hc⟩ := h.2 hn
  have hk : ∀ j u, (f x)[j]? = some u → j < k := fun j u hu => by
    have := (List.getElem?_eq_some_iff.1 hu).1
    rw [hf] at this; exact this
  refine ⟨ad, rfl, hb, fun u hu => ?_, fun j u hj hu => ?_⟩
  · have := hc (i * k + 0) u (by rw [flatK_at hf l i 0 x hx (hk 0 u hu)]; exact hu)
    simpa using this
  · have := hc (i * k + j) u (by rw [flatK_at hf l i j x hx (hk j u hu)]; exact hu)
    rwa [add_kj _ _ _ hj] at this
theorem Reads.takeK {w : World} {B n : Nat} {A : Option Addr} {l : List M} (hf : ∀ x, (f x).length = k) (h : Reads w B k A n (l.flatMap f)) (hl : l.length = n) {i : Nat} (hi : i ≤ n) : Reads w B k A i ((l.take i).flatMap f) := by
  refine ⟨by rw [flatK_len hf, List.length_take]; congr 1; omega, fun hp => ?_⟩
  obtain ⟨ad, e, hb, hc⟩ := h.2 (by omega)
  refine ⟨ad, e, hb, fun j u hu => hc j u ?_⟩
  rw [flatK_take hf, List.getElem?_take] at hu
  split at hu
  · exact hu
  · cases hu
end
end Go.Proofs.YtmjikfeaopmejaaGreatDoor
/-
  Rows of structs of one's own: a row that is one's own, the bytes of its parts elsewhere.
-/
namespace Go.Proofs.YtmjikfeaopmejaaGreatDoor
open Go.RowKit
/-- a kind of struct: its type, the type of its rows, its cells, its parts -/
structure Sh (M : Type) where
  T : TypeId
  S : TypeId
  k : Nat
  by_ : Nat
  z : Value
  f : M → List Value
  parts : M → List (Option Addr × List UInt8)
  len : ∀ x, (f x).length = k
  one : ∀ x, ∀ u ∈ f x, u.oneCell' = true
  und : Tryz.prog.underlying S = some (.slice T)
  info : (Tryz.prog.info? T).map (fun i => (i.zero, i.size, i.bytes)) = some (some z, k, by_)
  zk : z.cells.size = k
  pos : 0 < k
  small : by_ ≤ 1000
/-- bytes lie apart from a block -/
def OffP (g : Nat) (p : Option Addr × List UInt8) : Prop := 0 < p.2.length → ∀ ad, p.1 = some ad → ad.block ≠ g
abbrev ReadsP (w : World) (p : Option Addr × List UInt8) : Prop := Reads w w.heap.size 1 p.1 p.2.length (u8s p.2)
structure RowR {M : Type} (s : Sh M) (w : World) (A : Option Addr) (l : List M) : Prop where
  row : Reads w w.heap.size s.k A l.length (l.flatMap s.f)
  octs : ∀ m ∈ l, ∀ p ∈ s.parts m, ReadsP w p
structure OwnR {M : Type} (s : Sh M) (B : Nat) (w : World) (v : Value) (l : List M) : Prop where
  row : w.ownsRow B s.T s.k v l.length (l.flatMap s.f)
  octs : ∀ m ∈ l, ∀ p ∈ s.parts m, ReadsP w p
  off : ∀ g, v.ownBlock = some g → ∀ m ∈ l, ∀ p ∈ s.parts m, OffP g p
theorem ReadsP.below {w w' : World} {p : Option Addr × List UInt8} (h : ReadsP w p) (hb : Below w.heap.size w w') : ReadsP w' p := (Reads.below h hb).more hb.size
theorem readsP_apart {w w' : World} {g : Nat} {p : Option Addr × List UInt8} (h : ReadsP w p) (hg : OffP g p) (hb : ∀ k, k < w.heap.size → k ≠ g → w'.heap[k]? = w.heap[k]?) (hs : w.heap.size ≤ w'.heap.size) : ReadsP w' p := by
  refine ⟨h.1, fun hn => ?_⟩
  obtain ⟨ad, e, hlt, hc⟩ := h.2 hn
  refine ⟨ad, e, by omega, fun j u hu => ?_⟩
  have := hc j u hu
  rwa [← World.cell?_of_block (w' := w') (hb _ (by rw [block_of_add]; exact hlt) (by rw [block_of_add]; exact hg hn ad e))] at this
theorem readsP_off {w : World} {p : Option Addr × List UInt8} (h : ReadsP w p) {g : Nat} (hg : w.heap.size ≤ g) : OffP g p := fun hn ad ha => by
  obtain ⟨ad', e, hlt, _⟩ := h.2 hn
  rw [ha] at e
  injection e with e
  subst e
  omega
/-- no cell of bytes -/
def noB8 : Value → Bool
  | .int .u8 _ => false
  | _ => true
theorem readsP_blk {w : World} {p : Option Addr × List UInt8} {g : Nat} {T : TypeId} {cs : Array Value} (h : ReadsP w p) (K : Blk w g T cs) (hno : cs.toList.all noB8 = true) : OffP g p := fun hn ad ha he => by
  obtain ⟨ad', e, _, hc⟩ := h.2 hn
  rw [ha] at e
  injection e with e
  subst e
  have h0 : (u8s p.2)[0]? = some (.int .u8 (((p.2[0]'hn).toNat : Nat) : Int)) := by rw [u8s_get, List.getElem?_eq_getElem hn]; rfl
  have h1 := hc 0 _ h0
  have h2 : ad.add 0 = ad := by unfold Addr.add; simp
  rw [h2] at h1
  unfold World.cell? at h1
  unfold Blk at K
  rw [he, K] at h1
  simp only at h1
  split at h1
  · cases h1
  · have hm : Value.int .u8 (((p.2[0]'hn).toNat : Nat) : Int) ∈ cs.toList := by
      have := Array.mem_of_getElem? h1
      simpa using this
    have := List.all_eq_true.1 hno _ hm
    cases this
/-- bytes stay, as a block without bytes turns -/
theorem reads_only {w w' : World} {A : Option Addr} {n g : Nat} {l : List UInt8} {T : TypeId} {cs : Array Value} (h : Reads w w.heap.size 1 A n (u8s l)) (hs : Only g w w') (K : Blk w g T cs) (hno : cs.toList.all noB8 = true) : Reads w' w'.heap.size 1 A n (u8s l) := by
  have hl : l.length = n := by have := h.1; rw [u8s_length] at this; omega
  subst hl
  exact readsP_apart (p := (A, l)) h (readsP_blk (p := (A, l)) h K hno) (fun j _ hj => hs.block j hj) (by rw [hs.size]; exact Nat.le_refl _)
section
variable {M : Type} {s : Sh M} {B : Nat} {w w' : World} {v : Value} {l : List M}
theorem RowR.below {A : Option Addr} (h : RowR s w A l) (hb : Below w.heap.size w w') : RowR s w' A l := ⟨(h.row.below hb).more hb.size, fun m hm p hp => (h.octs m hm p hp).below hb⟩
theorem RowR.nil (A : Option Addr) : RowR s w A [] := ⟨⟨by simp, fun h => absurd h (by simp)⟩, fun _ h => (by cases h)⟩
theorem OwnR.below (h : OwnR s B w v l) (hb : Below w.heap.size w w') : OwnR s B w' v l := ⟨own_below h.row hb, fun m hm p hp => (h.octs m hm p hp).below hb, h.off⟩
theorem OwnR.mono {B' : Nat} (h : OwnR s B w v l) (hb : B' ≤ B) : OwnR s B' w v l := ⟨own_mono h.row hb, h.octs, h.off⟩
theorem OwnR.reads (h : OwnR s B w v l) : ∃ A c, v = .slice A l.length c ∧ RowR s w A l ∧ l.length ≤ c := by
  obtain ⟨A, c, e, hr, hc⟩ := own_reads h.row
  exact ⟨A, c, e, ⟨hr, h.octs⟩, hc⟩
theorem OwnR.nil (B : Nat) (w : World) : OwnR s B w (.slice none 0 0) [] := ⟨World.ownsRow_nil _ _ _ _, fun _ h => (by cases h), fun _ _ _ h => (by cases h)⟩
theorem OwnR.empty {g : Nat} (K : Blk w g s.T #[]) (hb : B ≤ g) : OwnR s B w (.slice (some ⟨g, 0, none⟩) 0 0) [] := ⟨ownsRow_empty K hb, fun _ h => (by cases h), fun _ _ _ h => (by cases h)⟩
theorem RowR.parts_off {A : Option Addr} {g : Nat} (h : RowR s w A l) (hg : w.heap.size ≤ g) : ∀ m ∈ l, ∀ p ∈ s.parts m, OffP g p := fun m hm p hp => readsP_off (h.octs m hm p hp) hg
/-- an element's cells -/
theorem RowR.cell {A : Option Addr} {i : Nat} {x : M} (h : RowR s w A l) (hx : l[i]? = some x) : ∃ ad, A = some ad ∧ ad.block < w.heap.size ∧ (∀ u, (s.f x)[0]? = some u → w.cell? (ad.add (i * s.k)) = some u) ∧ ∀ j u, 0 < j → (s.f x)[j]? = some u → w.cell? ⟨(ad.add (i * s.k)).block, (ad.add (i * s.k)).off + j, none⟩ = some u :=
  rowK_at s.len h.row (by have := (List.getElem?_eq_some_iff.1 hx).1; omega) hx
theorem OwnR.at_ (h : OwnR s B w v l) (hl : 0 < l.length) : ∃ g c, v = .slice (some ⟨g, 0, none⟩) l.length c ∧ B ≤ g ∧ g < w.heap.size := by
  obtain ⟨g, cap, hv, hg, hlt⟩ := h.row.form hl
  exact ⟨g, cap, hv, hg, hlt⟩
theorem OwnR.only {k : Nat} (h : OwnR s B w v l) (hs : Only k w w') (hne : ∀ g, v.ownBlock = some g → g ≠ k) (hoff : ∀ m ∈ l, ∀ p ∈ s.parts m, OffP k p) : OwnR s B w' v l :=
  ⟨own_keep h.row fun g hg => hs.block g (hne g hg), fun m hm p hp => readsP_apart (h.octs m hm p hp) (hoff m hm p hp) (fun j _ hj => hs.block j hj) (by rw [hs.size]; exact Nat.le_refl _), h.off⟩
theorem OwnR.onlyK {k : Nat} {T : TypeId} {cs : Array Value} (h : OwnR s B w v l) (hs : Only k w w') (K : Blk w k T cs) (hT : T ≠ s.T) (hno : cs.toList.all noB8 = true) : OwnR s B w' v l :=
  h.only hs (own_ne h.row K hT) fun m hm p hp => readsP_blk (h.octs m hm p hp) K hno
theorem run_app0 {P : Program} {t ty e : TypeId} {i : TypeInfo} {base size n : Nat} {xs : List Value} (ht : P.underlying t = some (.slice e)) (hi : P.info? e = some i) (hown : w.ownsRow base e size v n xs) (c : Nat) :
    (Builtin.append_ #[t, t] ty #[v, .slice none 0 c]).run P w = .ok v w := by
  rcases hown.2 with ⟨rfl, rfl⟩ | ⟨g, cap, cur, rfl, _, _, hnc, _⟩
  · simp [Builtin.append_, run_underlying ht, sizeOf, typeInfo, hi, Builtin.lenOf, Builtin.firstCells, Result.andThen]
  · have := run_append_room_src (P := P) w t t ty e i ht hi g 0 n cap (.slice none 0 c) 0 [] (Src.ofNil w ht c) (by omega) (fun j hj => by simp at hj) (fun j hj => by simp at hj)
    rw [setCells_nil] at this
    exact this
theorem flat_one' (l : List M) : ∀ u ∈ l.flatMap s.f, u.oneCell' = true := by
  intro u hu
  obtain ⟨m, _, hm⟩ := List.mem_flatMap.1 hu
  exact s.one m u hm
/-- structs are appended -/
theorem run_appR {k : List M} {A : Option Addr} {c : Nat} (h : OwnR s B w v l) (hk : RowR s w A k) (hoff : ∀ g, v.ownBlock = some g → ∀ m ∈ k, ∀ p ∈ s.parts m, OffP g p) (hlen : l.length + k.length ≤ 100000000) (hB : B ≤ w.heap.size) :
    ∃ r w', (Builtin.append_ #[s.S, s.S] s.S #[v, .slice A k.length c]).run Tryz.prog w = .ok r w' ∧ OwnR s B w' r (l ++ k) ∧ w.grownBy w' v.ownBlock ∧ (r.ownBlock = v.ownBlock ∨ r.ownBlock = some w.heap.size) := by
  obtain ⟨i0, hi0, hz0, hz1, hz2⟩ := info_parts s.info
  have hmul : (l.length + k.length) * s.by_ ≤ 140737488355328 := Nat.le_trans (Nat.mul_le_mul hlen s.small) (by omega)
  have key : ∃ r w', (Builtin.append_ #[s.S, s.S] s.S #[v, .slice A k.length c]).run Tryz.prog w = .ok r w' ∧ w'.ownsRow B s.T s.k r (l.length + k.length) (l.flatMap s.f ++ k.flatMap s.f) ∧ w.grownBy w' v.ownBlock ∧ (r.ownBlock = v.ownBlock ∨ r.ownBlock = some w.heap.size) := by
    cases A with
    | some ad =>
      have hc : ∀ j u, (k.flatMap s.f)[j]? = some u → w.cell? (ad.add j) = some u := by
        rcases Nat.eq_zero_or_pos k.length with h0 | h0
        · intro j u hj
          rw [List.length_eq_zero_iff.1 h0] at hj
          cases hj
        · obtain ⟨ad', e, _, hc⟩ := hk.row.2 h0
          injection e with e; subst e; exact hc
      obtain ⟨v', w', hr, h2, h3, _, h5⟩ := run_append_own_at (P := Tryz.prog) w B s.S s.S s.T i0 s.z s.k s.by_ s.und hi0 hz0 hz1 hz2 s.zk s.pos v l.length _ h.row ad k.length c _ hk.row.1 hc (flat_one' k) (by unfold maxLen; omega) hmul hB
      exact ⟨v', w', hr, h2, h3, h5⟩
    | none =>
      have h0 : k.length = 0 := by
        rcases Nat.eq_zero_or_pos k.length with h0 | h0
        · exact h0
        · obtain ⟨ad, e, _⟩ := hk.row.2 h0; cases e
      have hk0 : k = [] := List.length_eq_zero_iff.1 h0
      subst hk0
      exact ⟨v, w, run_app0 s.und hi0 h.row c, by simpa using h.row, ⟨rfl, rfl, rfl, Nat.le_refl _, fun _ _ _ => rfl⟩, .inl rfl⟩
  obtain ⟨r, w', hr, h2, h3, h4⟩ := key
  have hoffB : ∀ {p : Option Addr × List UInt8}, ReadsP w p → (∀ g, v.ownBlock = some g → OffP g p) → ∀ g, r.ownBlock = some g → OffP g p := fun {p} hm ho g hg => by
    rcases h4 with e | e
    · exact ho g (e ▸ hg)
    · rw [e] at hg
      injection hg with hg
      subst hg
      exact readsP_off hm (Nat.le_refl _)
  have hkeep : ∀ {p : Option Addr × List UInt8}, ReadsP w p → (∀ g, v.ownBlock = some g → OffP g p) → ReadsP w' p := fun {p} hm ho => by
    cases hb : v.ownBlock with
    | none => exact (Reads.grown hm h3 (Nat.le_refl _) fun g hg => by rw [hb] at hg; cases hg).more h3.size
    | some g => exact readsP_apart hm (ho g hb) (fun j hj hne => h3.block j hj (fun e => by rw [hb] at e; exact hne (Option.some.inj e))) h3.size
  refine ⟨r, w', hr, ⟨?_, fun m hm p hp => ?_, fun g hg m hm p hp => ?_⟩, h3, h4⟩
  · rw [List.length_append, List.flatMap_append]; exact h2
  · rcases List.mem_append.1 hm with hm | hm
    · exact hkeep (h.octs m hm p hp) fun g hg => h.off g hg m hm p hp
    · exact hkeep (hk.octs m hm p hp) fun g hg => hoff g hg m hm p hp
  · rcases List.mem_append.1 hm with hm | hm
    · exact hoffB (h.octs m hm p hp) (fun g hg => h.off g hg m hm p hp) g hg
    · exact hoffB (hk.octs m hm p hp) (fun g hg => hoff g hg m hm p hp) g hg
/-- one struct, in a block of its own, as a row -/
theorem rowR_blk {g : Nat} {x : M} (K : Blk w g s.T (s.f x).toArray) (hp : ∀ p ∈ s.parts x, ReadsP w p) : RowR s w (some ⟨g, 0, none⟩) [x] := by
  refine ⟨⟨by simp [s.len], fun _ => ⟨⟨g, 0, none⟩, rfl, K.lt, fun j u hu => ?_⟩⟩, fun m hm => ?_⟩
  · rw [List.flatMap_cons, List.flatMap_nil, List.append_nil] at hu
    rw [add0]
    unfold World.cell?
    unfold Blk at K
    rw [K]
    simpa using hu
  · rw [List.mem_singleton.1 hm]; exact hp
theorem below_appR {W : World} {B0 : Nat} (hb : Below B0 W w) (h : OwnR s B w v l) (hg : w.grownBy w' v.ownBlock) (h0 : B0 ≤ B) (hB : B0 ≤ w.heap.size) : Below B0 W w' :=
  hb.grown hg hB fun k hk => Nat.le_trans h0 (World.ownsRow.lt h.row k hk).1
/-- what is known of a part stays, as one's row grows -/
theorem grown_part {p : Option Addr × List UInt8} (hg : w.grownBy w' v.ownBlock) (hm : ReadsP w p) (ho : ∀ g, v.ownBlock = some g → OffP g p) : ReadsP w' p := by
  cases hb : v.ownBlock with
  | none => exact (Reads.grown hm hg (Nat.le_refl _) fun g hg' => by rw [hb] at hg'; cases hg').more hg.size
  | some g => exact readsP_apart hm (ho g hb) (fun j hj hne => hg.block j hj (fun e => by rw [hb] at e; exact hne (Option.some.inj e))) hg.size
end
end Go.Proofs.YtmjikfeaopmejaaGreatDoor
/-
  Walk: SHA-256 (sum.Digest).
-/
namespace Go.Proofs.YtmjikfeaopmejaaGreatDoor
open Go.RowKit
set_option linter.unusedSimpArgs false
set_option linter.unusedVariables false
theorem sha0_ok : sha0.Ok := ⟨by decide, by decide, by decide, by decide, by decide, by decide, by decide, by decide⟩
theorem shaGo_ok (l : List UInt8) : ∀ i, (shaGo l i).Ok
  | 0 => sha0_ok
  | i + 1 => shaAdd_ok _ _
def u8v (x : UInt8) : Value := .int .u8 ((x.toNat : Nat) : Int)
theorem u8s_map (l : List UInt8) : u8s l = l.map u8v := rfl
/-- bytes, and noughts behind them, 32 in all -/
def digCells (l : List UInt8) : List Value := (l ++ List.replicate (32 - l.length) 0).map u8v
theorem digCells_len {l : List UInt8} (h : l.length ≤ 32) : (digCells l).length = 32 := by unfold digCells; simp; omega
theorem digCells_set {l : List UInt8} (h : l.length < 32) (x : UInt8) : (digCells l).set l.length (u8v x) = digCells (l ++ [x]) := by
  unfold digCells
  have e : List.replicate (32 - l.length) (0 : UInt8) = 0 :: List.replicate (32 - (l ++ [x]).length) 0 := by
    rw [List.length_append, show 32 - l.length = (32 - (l.length + [x].length)) + 1 by simp; omega, List.replicate_succ]
  rw [e, List.map_append, List.map_cons, List.set_append_right _ _ (by simp), List.length_map, Nat.sub_self, List.set_cons_zero, List.append_assoc, List.map_append]
  simp
theorem digCells_zero {l : List UInt8} {j : Nat} (h : l.length ≤ j) (h2 : j < 32) : (digCells l)[j]? = some (.int .u8 0) := by
  unfold digCells
  rw [List.getElem?_map, List.getElem?_append_right h, List.getElem?_replicate, if_pos (by omega)]
  rfl
theorem digCells_full {l : List UInt8} (h : l.length = 32) : digCells l = u8s l := by unfold digCells; rw [h]; simp; rfl
theorem digCells_one (l : List UInt8) : (digCells l).all (·.oneCell') = true := by
  unfold digCells
  rw [List.all_map, List.all_eq_true]
  intro x _
  rfl
theorem flat_take (s : ShaS) {i : Nat} (h : i < 32) : (s.l.flatMap (be 4)).take (i + 1) = (s.l.flatMap (be 4)).take i ++ [UInt8.ofNat (s.l.getD (i / 4) 0 / 256 ^ (3 - i % 4))] := by
  have hl : (s.l.flatMap (be 4)).length = 32 := ShaS.l_len s
  rw [List.take_add_one, List.getElem?_eq_getElem (by omega)]
  congr 1
  have hc : ∀ k : Fin 32, (s.l.flatMap (be 4))[k.1]? = some (UInt8.ofNat (s.l.getD (k.1 / 4) 0 / 256 ^ (3 - k.1 % 4))) := by
    intro k
    obtain ⟨k, hk⟩ := k
    have hcs : k = 0 ∨ k = 1 ∨ k = 2 ∨ k = 3 ∨ k = 4 ∨ k = 5 ∨ k = 6 ∨ k = 7 ∨ k = 8 ∨ k = 9 ∨ k = 10 ∨ k = 11 ∨ k = 12 ∨ k = 13 ∨ k = 14 ∨ k = 15 ∨ k = 16 ∨ k = 17 ∨ k = 18 ∨ k = 19 ∨ k = 20 ∨ k = 21 ∨ k = 22 ∨ k = 23 ∨ k = 24 ∨ k = 25 ∨ k = 26 ∨ k = 27 ∨ k = 28 ∨ k = 29 ∨ k = 30 ∨ k = 31 := by omega
    rcases hcs with rfl | rfl | rfl | rfl | rfl | rfl | rfl | rfl | rfl | rfl | rfl | rfl | rfl | rfl | rfl | rfl | rfl | rfl | rfl | rfl | rfl | rfl | rfl | rfl | rfl | rfl | rfl | rfl | rfl | rfl | rfl | rfl <;> simp [ShaS.l, be]
  have := hc ⟨i, h⟩
  rw [List.getElem?_eq_getElem (by omega)] at this
  simpa using this
theorem l_getD_lt {s : ShaS} (h : s.Ok) (j : Nat) : s.l.getD j 0 < 4294967296 := by
  have hc : ∀ x ∈ s.l, x < 4294967296 := by
    intro x hx
    unfold ShaS.l at hx
    simp only [List.mem_cons, List.not_mem_nil, or_false] at hx
    obtain ⟨ha, hb, hc, hd, he, hf, hg, hh⟩ := h
    rcases hx with rfl | rfl | rfl | rfl | rfl | rfl | rfl | rfl <;> assumption
  rw [List.getD_eq_getElem?_getD]
  cases hj : s.l[j]? with
  | none => decide
  | some x => exact hc x (List.mem_of_getElem? hj)
theorem dig_shift (v m : Nat) (hm : m < 4) : Op.shift .shr .u32 (v : Int) .i64 (24 - 8 * (m : Int)) = pure (.int .u32 ((v / 256 ^ (3 - m) : Nat) : Int)) := by
  rw [shift_shr_any _ _ _ _ (by omega), show min (24 - 8 * (m : Int)).toNat IntKind.u32.bits = 8 * (3 - m) by show min (24 - 8 * (m : Int)).toNat 32 = _; omega, sha_shr]
theorem map_no8 (l : List Nat) : (l.map u32v).toArray.toList.all noB8 = true := by
  rw [List.all_map, List.all_eq_true]
  intro x _
  rfl
theorem reads_cut8 {w : World} {B n k cap : Nat} {A : Option Addr} {l : List UInt8} (h : Reads w B 1 A n (u8s l)) (hk : k ≤ n) (hc : n ≤ cap) (h0 : 0 < k) : Reads w B 1 (if cap = k then A else Option.map (fun x => (⟨x.block, x.off + k, none⟩ : Addr)) A) (n - k) (u8s (l.drop k)) := by
  have := h.cut hk hc
  rw [Nat.mul_one] at this
  have e : (fun x : Addr => (⟨x.block, x.off + k, none⟩ : Addr)) = fun x => x.add k := by
    funext x
    unfold Addr.add
    rw [if_neg (by omega)]
  rw [e, show u8s (l.drop k) = (u8s l).drop k by rw [u8s_map, u8s_map, List.map_drop]]
  exact this
set_option maxRecDepth 100000 in
set_option maxHeartbeats 1000000 in
theorem digest_any (A : Option Addr) (n c : Nat) (b : List UInt8) (hl : b.length = n) (hn : n ≤ 1000000) (w : World) (hr : Reads w w.heap.size 1 A n (u8s b)) :
    Calls Tryz.prog 61 #[.slice A n c] w fun ev w' => ev = .returned (.agg (u8s (digest b)).toArray) ∧ Below w.heap.size w w' := by
  refine calls_at 36 Tryz.func61 rfl rfl (Nat.le_of_ble_eq_true rfl) ?_
  intro a hA
  simp only [argsE, keepE, lookS, Nat.reduceBEq, cond_true, cond_false, Nat.reduceAdd, gv_tt, gv_ff, Bool.true_and, Bool.false_and, Bool.true_or, Bool.false_or] at hA
  refine wp_seq ?_
  refine wp_region_lit ?_
  -- stop alloc slot 2
  refine wl_new hA rfl rfl (by decide) (fun ev h => by simp [go_sem]; try first | exact ⟨rfl, rfl⟩ | rfl) fun w1 a1 (K2 : Blk _ _ _ _) hz1 hb1 hA1 => ?_
  obtain ⟨g2, hg2⟩ : ∃ g, w.heap.size = g := ⟨_, rfl⟩
  rw [hg2] at K2 hA1
  replace K2 : Blk w1 g2 91 (digCells []).toArray := K2
  have HB : Below w.heap.size w w1 := hb1
  refine wl_nil ?_
  refine n_then ?_
  have hA2 := hA1.keep [0, 2]
  simp only [argsE, keepE, lookS, Nat.reduceBEq, cond_true, cond_false, Nat.reduceAdd, gv_tt, gv_ff, Bool.true_and, Bool.false_and, Bool.true_or, Bool.false_or] at hA2
  clear hA hA1
  refine wp_seq ?_
  refine wp_region_lit ?_
  -- limit build slot 7
  refine wl_op hA2 rfl rfl (by decide) (fun ev h => exec_buildC (v := .agg (sha0.l.map u32v).toArray) h rfl (by kernel_rfl) (by kernel_rfl)) fun a3 hA3 => ?_
  -- stop alloc slot 3
  refine wl_new hA3 rfl rfl (by decide) (fun ev h => by simp [go_sem]; try first | exact ⟨rfl, rfl⟩ | rfl) fun w2 a4 (K3 : Blk _ _ _ _) hz2 hb2 hA4 => ?_
  replace HB := HB.trans (hb2.mono HB.size)
  replace K2 := K2.below hb2 K2.lt
  obtain ⟨g3, hg3⟩ : ∃ g, w1.heap.size = g := ⟨_, rfl⟩
  rw [hg3] at K3 hA4
  have h23 : g2 < g3 := by omega
  have hB2 : w.heap.size ≤ g2 := by omega
  -- stop store slot None
  refine wl_setw (sha0.l.map u32v) hA4 rfl rfl K3 (by rfl) (l_len sha0) (by kernel_rfl) (map_one _) rfl (fun ev h => ⟨h.get 3 rfl, h.get 7 rfl⟩) fun w3 (K3 : Blk _ _ _ _) hs3 => ?_
  replace K2 := hs3.blk K2 (by omega)
  replace HB := hs3.below HB (by omega)
  refine wl_nil ?_
  refine n_then ?_
  have hA5 := hA4.keep [0, 2, 3]
  simp only [argsE, keepE, lookS, Nat.reduceBEq, cond_true, cond_false, Nat.reduceAdd, gv_tt, gv_ff, Bool.true_and, Bool.false_and, Bool.true_or, Bool.false_or] at hA5
  clear hA2 hA3 hA4 a1 a3
  refine wp_seq ?_
  refine wp_seq ?_
  refine wp_region_lit ?_
  refine wl_op hA5 rfl rfl (by decide) (fun ev h => by simp [go_sem, h.get 0 rfl]; try first | exact ⟨rfl, rfl⟩ | rfl) fun a6 hA6 => ?_
  -- stop call slot 9
  refine wl_call hA6 rfl rfl (by decide) (fun ev h => exec_call Tryz.func79 (by kernel_rfl) rfl (h.f _) (by first | (simp only [List.map_toArray, List.map_cons, List.map_nil, h.get 8 rfl, h.c]; done) | (simp only [List.map_toArray, List.map_cons, List.map_nil, h.get 8 rfl, h.c]; rfl) | (simp [List.map_toArray, List.map_cons, List.map_nil, h.get 8 rfl, h.c]; done) | (simp [List.map_toArray, List.map_cons, List.map_nil, h.get 8 rfl, h.c]; rfl) | rfl)) (padded_any A n c b hl hn _ ((hr.below HB).more HB.size)) ?_
  rintro e w4 ⟨r, rfl, ho, hb4⟩
  refine ⟨_, rfl, fun a7 hA7 => ?_⟩
  replace HB := HB.trans (hb4.mono HB.size)
  replace K2 := K2.below hb4 K2.lt
  replace K3 := K3.below hb4 K3.lt
  obtain ⟨L, hL⟩ : ∃ L, shaPad b = L := ⟨_, rfl⟩
  have hL64 := shaPad_length b
  have hLen : L.length ≤ 2000000 := by rw [← hL]; unfold shaPad; simp [be_length, shaZeros]; omega
  rw [hL] at ho hL64
  obtain ⟨M, hM⟩ : ∃ M, L.length = 64 * M := ⟨L.length / 64, by omega⟩
  have hfin : digest b = (shaGo L M).l.flatMap (be 4) := by unfold digest; rw [hL, hM, Nat.mul_div_cancel_left _ (by decide)]
  obtain ⟨Ar, cr, e0, hrr, hcr⟩ := own_reads ho
  subst e0
  refine wl_op hA7 rfl rfl (by decide) (fun ev h => by simp [go_sem, h.get 9 rfl]; try first | exact ⟨rfl, rfl⟩ | rfl) fun a8 hA8 => ?_
  refine wl_nil ?_
  refine n_then ?_
  have hA9 := hA8.keep [2, 3, 4]
  simp only [argsE, keepE, lookS, Nat.reduceBEq, cond_true, cond_false, Nat.reduceAdd, gv_tt, gv_ff, Bool.true_and, Bool.false_and, Bool.true_or, Bool.false_or] at hA9
  clear hA5 hA6 hA7 hA8 a4 a6 a7
  refine wp_block ?_
  -- loop
  refine wp_loop_at (fun k a wx => ∃ (i : Nat) (A1 : Option Addr) (n1 c1 : Nat), i + k = M ∧ n1 = 64 * k ∧ n1 ≤ c1 ∧ At 36 [(2, .pointer (some ⟨g2, 0, none⟩)), (3, .pointer (some ⟨g3, 0, none⟩)), (4, .slice A1 n1 c1)] a ∧ Reads wx wx.heap.size 1 A1 n1 (u8s (L.drop (64 * i))) ∧ Blk wx g2 91 (digCells []).toArray ∧ Blk wx g3 137 ((shaGo L i).l.map u32v).toArray ∧ Below w.heap.size w wx) (M) ?_ ?_
  · exact ⟨0, Ar, L.length, cr, by omega, hM, hcr, hA9, hrr, K2, K3, HB⟩
  clear K2 K3 HB hrr ho hr
  rintro k a wx ⟨i, A1, n1, c1, hik, hn1, hc1, hA, hR, K2, K3, HB⟩
  refine wp_seq ?_
  refine wp_seq ?_
  refine wp_region_lit ?_
  refine wl_op hA rfl rfl (by decide) (fun ev h => by simp [go_sem, h.get 4 rfl]; try first | exact ⟨rfl, rfl⟩ | rfl) fun a10 hA10 => ?_
  refine wl_op hA10 rfl rfl (by decide) (fun ev h => by simp [go_sem, h.get 10 rfl]; try first | exact ⟨rfl, rfl⟩ | rfl) fun a11 hA11 => ?_
  refine wl_op hA11 rfl rfl (by decide) (fun ev h => by simp [go_sem, h.c, h.get 11 rfl]; try first | exact ⟨rfl, rfl⟩ | rfl) fun a12 hA12 => ?_
  refine wl_nil ?_
  refine n_then ?_
  have hA13 := hA12.keep [2, 3, 4, 12]
  simp only [argsE, keepE, lookS, Nat.reduceBEq, cond_true, cond_false, Nat.reduceAdd, gv_tt, gv_ff, Bool.true_and, Bool.false_and, Bool.true_or, Bool.false_or] at hA13
  clear hA hA10 hA11 hA12 a10 a11
  -- cond
  refine wp_if hA13 12 _ rfl (fun hq => ?yP) (fun hq => ?nP)
  case yP =>
    have hk : 0 < k := by simp at hq; omega
    refine wp_skip ?_
    refine n_then ?_
    refine wp_seq ?_
    refine wp_block ?_
    -- any
    have z1 : (64 : Int) ≤ (c1 : Int) := by omega
    have z2 : (64 : Int) ≤ (n1 : Int) := by omega
    refine wp_region_split 3 ?_
    simp only [List.take_succ_cons, List.take_zero, List.drop_succ_cons, List.drop_zero]
    refine wp_any_split_at hA13 [(.det (.agg ((shaGo L i).l.map u32v).toArray)), (.det ?dD1), (.det ?dD2)] [] (fun wy => Below wx.heap.size wx wy) (TSp [] Grows) (by kernel_rfl) rfl (by kernel_rfl) (by kernel_rfl) rfl (by kernel_rfl) (by kernel_rfl) (by kernel_rfl) (by kernel_rfl) ((Below.refl _ _).drew) (stab_sp [] [true, true, true] [true, true, true] [] rfl rfl rfl (by kernel_rfl) ⟨trivial, trivial, trivial, trivial⟩ trivial) (fun _ h => by cases h) (fun _ _ _ _ _ h => by cases h) (fun _ h => by cases h) ⟨?oD0, ?oD1, ?oD2, trivial⟩ (by kernel_rfl) ?fD
    case oD0 =>
      intro ev wo hev hC hs hph
      have e3 := see_env hA13 hs 3 (by kernel_rfl) (by kernel_rfl) rfl
      have Kx := K3.below hC K3.lt
      exact ob_det (wanted_none rfl) rfl (by kernel_rfl) hC (TSp.of rfl (Grows.refl _)) (exec_loadA Kx Tryz.underlying137 rfl (by kernel_rfl) (l_len _) rfl e3)
    case oD1 =>
      intro ev wo hev hC hs hph
      have e4 := see_env hA13 hs 4 (by kernel_rfl) (by kernel_rfl) rfl
      exact ob_det (wanted_none rfl) rfl (by kernel_rfl) hC (TSp.of rfl (Grows.refl _)) (by simp [go_sem, e4, z1, z2]; try first | exact ⟨rfl, rfl⟩ | rfl)
    case oD2 =>
      intro ev wo hev hC hs hph
      have e16 := see_det hs 16 1 (by kernel_rfl) (by kernel_rfl) rfl
      exact ob_det (wanted_none rfl) rfl (by kernel_rfl) hC (TSp.of rfl (Grows.refl _)) (by simp [go_sem, e16, hev.const, z1, z2]; try first | exact ⟨rfl, rfl⟩ | rfl)
    intro sg wf hC hph
    intro a14 hA14
    have hA15 := hA14.keep [2, 3, 4, 15, 17]
    simp only [argsE, keepE, lookS, Nat.reduceBEq, cond_true, cond_false, Nat.reduceAdd, gv_tt, gv_ff, Bool.true_and, Bool.false_and, Bool.true_or, Bool.false_or] at hA15
    clear hA13 hA14
    replace HB := HB.trans (hC.mono HB.size)
    replace K2 := K2.below hC K2.lt
    replace K3 := K3.below hC K3.lt
    replace hR := (hR.below hC).more hC.size
    -- stop call slot 18
    refine wl_call hA15 rfl rfl (by decide) (fun ev h => exec_call Tryz.func80 (by kernel_rfl) rfl (h.f _) (by first | (simp only [List.map_toArray, List.map_cons, List.map_nil, h.get 15 rfl, h.get 17 rfl, h.c]; done) | (simp only [List.map_toArray, List.map_cons, List.map_nil, h.get 15 rfl, h.get 17 rfl, h.c]; rfl) | (simp [List.map_toArray, List.map_cons, List.map_nil, h.get 15 rfl, h.get 17 rfl, h.c]; done) | (simp [List.map_toArray, List.map_cons, List.map_nil, h.get 15 rfl, h.get 17 rfl, h.c]; rfl) | rfl)) (mix_any (shaGo L i) (shaGo_ok L i) A1 c1 ((L.drop (64 * i)).take 64) (by rw [List.length_take, List.length_drop]; omega) _ (hR.take8 (by omega))) ?_
    rintro e w5 ⟨rfl, hb5⟩
    refine ⟨_, rfl, fun a16 hA16 => ?_⟩
    replace HB := HB.trans (hb5.mono HB.size)
    replace K2 := K2.below hb5 K2.lt
    replace K3 := K3.below hb5 K3.lt
    replace hR := (hR.below hb5).more hb5.size
    -- stop store slot None
    have K3b := K3
    refine wl_setw ((shaMix (shaGo L i) ((L.drop (64 * i)).take 64)).l.map u32v) hA16 rfl rfl K3 (l_len _) (l_len _) (by kernel_rfl) (map_one _) rfl (fun ev h => ⟨h.get 3 rfl, h.get 18 rfl⟩) fun w6 (K3 : Blk _ _ _ _) hs => ?_
    refine wl_nil ?_
    refine n_block ?_
    refine n_then ?_
    have hA17 := hA16.keep [2, 3, 4]
    simp only [argsE, keepE, lookS, Nat.reduceBEq, cond_true, cond_false, Nat.reduceAdd, gv_tt, gv_ff, Bool.true_and, Bool.false_and, Bool.true_or, Bool.false_or] at hA17
    clear hA15 hA16 a14
    refine wp_region_lit ?_
    refine wl_op hA17 rfl rfl (by decide) (fun ev h => by simp [go_sem, h.get 4 rfl, z1, z2]; try first | exact ⟨rfl, rfl⟩ | rfl) fun a18 hA18 => ?_
    refine wl_op hA18 rfl rfl (by decide) (fun ev h => by simp [go_sem, h.c, h.get 13 rfl, z1, z2]; try first | exact ⟨rfl, rfl⟩ | rfl) fun a19 hA19 => ?_
    refine wl_op hA19 rfl rfl (by decide) (fun ev h => by simp [go_sem, h.get 14 rfl, z1, z2]; try first | exact ⟨rfl, rfl⟩ | rfl) fun a20 hA20 => ?_
    refine wl_nil ?_
    refine n_then ?_
    have hA21 := hA20.keep [2, 3, 4]
    simp only [argsE, keepE, lookS, Nat.reduceBEq, cond_true, cond_false, Nat.reduceAdd, gv_tt, gv_ff, Bool.true_and, Bool.false_and, Bool.true_or, Bool.false_or] at hA21
    clear hA17 hA18 hA19 hA20 a16 a18 a19
    -- round
    refine ⟨k - 1, by omega, i + 1, _, n1 - 64, c1 - 64, by omega, by omega, by omega, hA21, ?_, hs.blk K2 (by omega), K3, hs.below HB (by omega)⟩
    have hR2 := reads_cut8 hR (k := 64) (by omega) hc1 (by omega)
    rw [List.drop_drop, show 64 * i + 64 = 64 * (i + 1) by omega] at hR2
    exact reads_only hR2 hs K3b (map_no8 _)
  case nP =>
    have hk : k = 0 := by simp at hq; omega
    have hi : i = M := by omega
    subst hi
    have hok := shaGo_ok L i
    generalize shaGo L i = s at *
    clear hR
    refine wp_exit ?_
    refine x_then ?_
    refine x_then ?_
    refine x_block ?_
    refine n_then ?_
    have hA22 := hA13.keep [2, 3]
    simp only [argsE, keepE, lookS, Nat.reduceBEq, cond_true, cond_false, Nat.reduceAdd, gv_tt, gv_ff, Bool.true_and, Bool.false_and, Bool.true_or, Bool.false_or] at hA22
    clear hA13
    refine wp_seq ?_
    refine wp_region_lit ?_
    -- stop alloc slot 5
    have l2 := K2.lt
    have l3 := K3.lt
    refine wl_new hA22 rfl rfl (by decide) (fun ev h => by simp [go_sem]; try first | exact ⟨rfl, rfl⟩ | rfl) fun w7 a23 (K5 : Blk _ _ _ _) hz5 hb5 hA23 => ?_
    replace HB := HB.trans (hb5.mono HB.size)
    replace K2 := K2.below hb5 K2.lt
    replace K3 := K3.below hb5 K3.lt
    obtain ⟨g5, hg5⟩ : ∃ g, wx.heap.size = g := ⟨_, rfl⟩
    rw [hg5] at K5 hA23 l2 l3
    have hB5 : w.heap.size ≤ g5 := by omega
    obtain ⟨D, hD⟩ : ∃ D, s.l.flatMap (be 4) = D := ⟨_, rfl⟩
    have hDl : D.length = 32 := by rw [← hD]; exact ShaS.l_len s
    replace K5 : Blk w7 g5 91 (digCells (D.take 0)).toArray := K5
    refine wl_nil ?_
    refine n_then ?_
    have hA24 := hA23.keep [2, 3, 5]
    simp only [argsE, keepE, lookS, Nat.reduceBEq, cond_true, cond_false, Nat.reduceAdd, gv_tt, gv_ff, Bool.true_and, Bool.false_and, Bool.true_or, Bool.false_or] at hA24
    clear hA22 hA23
    refine wp_seq ?_
    refine wp_seq ?_
    refine wp_region_lit ?_
    refine wl_op hA24 rfl rfl (by decide) (fun ev h => by simp [go_sem, h.c]; try first | exact ⟨rfl, rfl⟩ | rfl) fun a25 hA25 => ?_
    refine wl_nil ?_
    refine n_then ?_
    have hA26 := hA25.keep [2, 3, 5, 19]
    simp only [argsE, keepE, lookS, Nat.reduceBEq, cond_true, cond_false, Nat.reduceAdd, gv_tt, gv_ff, Bool.true_and, Bool.false_and, Bool.true_or, Bool.false_or] at hA26
    clear hA24 hA25 a23
    refine wp_block ?_
    -- loop
    refine wp_loop_at (fun k a wy => ∃ (i : Nat), i + k = 32 ∧ At 36 [(2, .pointer (some ⟨g2, 0, none⟩)), (3, .pointer (some ⟨g3, 0, none⟩)), (5, .pointer (some ⟨g5, 0, none⟩)), (19, .int .i64 (i : Nat))] a ∧ Blk wy g2 91 (digCells []).toArray ∧ Blk wy g3 137 (s.l.map u32v).toArray ∧ Blk wy g5 91 (digCells (D.take i)).toArray ∧ Below w.heap.size w wy) (32) ?_ ?_
    · exact ⟨0, by omega, hA26, K2, K3, K5, HB⟩
    clear K2 K3 K5 HB
    rintro k a wy ⟨i, hik2, hA, K2, K3, K5, HB⟩
    refine wp_seq ?_
    refine wp_region_lit ?_
    refine wl_op hA rfl rfl (by decide) (fun ev h => by simp [go_sem, h.c, h.get 19 rfl]; try first | exact ⟨rfl, rfl⟩ | rfl) fun a27 hA27 => ?_
    refine wl_nil ?_
    refine n_then ?_
    have hA28 := hA27.keep [2, 3, 5, 19, 20]
    simp only [argsE, keepE, lookS, Nat.reduceBEq, cond_true, cond_false, Nat.reduceAdd, gv_tt, gv_ff, Bool.true_and, Bool.false_and, Bool.true_or, Bool.false_or] at hA28
    clear hA hA27
    refine wp_seq ?_
    -- cond
    refine wp_if hA28 20 _ rfl (fun hq2 => ?yR) (fun hq2 => ?nR)
    case yR =>
      have hi : i < 32 := by simp at hq2; omega
      have jj : (0 : Int) ≤ (i : Int) := by omega
      have ji : (i : Int) < 32 := by omega
      obtain ⟨q, hqe⟩ : ∃ q, i / 4 = q := ⟨_, rfl⟩
      obtain ⟨m, hme⟩ : ∃ m, i % 4 = m := ⟨_, rfl⟩
      have d1 : IntKind.i64.wrap (q : Int) = (q : Int) := IntWalk.i64_in _ (by omega)
      have d1' : (i : Int).tdiv 4 = (q : Int) := by rw [← hqe]; exact (Int.ofNat_tdiv i 4).symm
      have hm4 : m < 4 := by omega
      have d2 : (i : Int).tmod 4 = (m : Int) := by rw [← hme]; exact (Int.ofNat_tmod i 4).symm
      have d3 : IntKind.i64.wrap (8 * (m : Int)) = 8 * (m : Int) := IntWalk.i64_in _ (by omega)
      have d4 : IntKind.i64.wrap (24 - 8 * (m : Int)) = 24 - 8 * (m : Int) := IntWalk.i64_in _ (by omega)
      have cq := l_get (s := s) (i := q) (by omega)
      have jq : (0 : Int) ≤ (q : Int) := by omega
      have jq8 : (q : Int) < 8 := by omega
      have lv := l_getD_lt hok q
      obtain ⟨v, hv⟩ : ∃ v, s.l.getD q 0 = v := ⟨_, rfl⟩
      rw [hv] at cq lv
      obtain ⟨x, hx⟩ : ∃ x : UInt8, UInt8.ofNat (v / 256 ^ (3 - m)) = x := ⟨_, rfl⟩
      have hby : IntKind.u8.wrap ((v : Int) / 2 ^ (24 - 8 * (m : Int)).toNat) = ((x.toNat : Nat) : Int) := by
        rw [show (24 - 8 * (m : Int)).toNat = 8 * (3 - m) by omega, sha_shr, ← hx, IntKind.wrap_u8']; simp
      have hci := digCells_zero (l := D.take i) (j := i) (by rw [List.length_take]; omega) hi
      refine wp_skip ?_
      refine n_then ?_
      refine wp_seq ?_
      refine wp_block ?_
      refine wp_seq ?_
      refine wp_region_lit ?_
      refine wl_op hA28 rfl rfl (by decide) (fun ev h => by simp [go_sem, h.get 19 rfl, d1, d1', d2, d3, d4, jq, jq8, K3.cell, cq, hby, jj, ji, add0, hci]; try first | exact ⟨rfl, rfl⟩ | rfl) fun a29 hA29 => ?_
      refine wl_op hA29 rfl rfl (by decide) (fun ev h => by simp [go_sem, h.get 21 rfl, d1, d1', d2, d3, d4, jq, jq8, K3.cell, cq, hby, jj, ji, add0, hci]; try first | exact ⟨rfl, rfl⟩ | rfl) fun a30 hA30 => ?_
      refine wl_nil ?_
      refine n_then ?_
      have hA31 := hA30.keep [2, 3, 5, 6, 19]
      simp only [argsE, keepE, lookS, Nat.reduceBEq, cond_true, cond_false, Nat.reduceAdd, gv_tt, gv_ff, Bool.true_and, Bool.false_and, Bool.true_or, Bool.false_or] at hA31
      clear hA28 hA29 hA30 a29
      refine wp_region_lit ?_
      refine wl_op hA31 rfl rfl (by decide) (fun ev h => by simp [go_sem, h.get 6 rfl, d1, d1', d2, d3, d4, jq, jq8, K3.cell, cq, hby, jj, ji, add0, hci]; try first | exact ⟨rfl, rfl⟩ | rfl) fun a32 hA32 => ?_
      refine wl_op hA32 rfl rfl (by decide) (fun ev h => by simp [go_sem, h.get 6 rfl, d1, d1', d2, d3, d4, jq, jq8, K3.cell, cq, hby, jj, ji, add0, hci]; try first | exact ⟨rfl, rfl⟩ | rfl) fun a33 hA33 => ?_
      refine wl_op hA33 rfl rfl (by decide) (fun ev h => by simp [go_sem, h.c, h.get 23 rfl, d1, d1', d2, d3, d4, jq, jq8, K3.cell, cq, hby, jj, ji, add0, hci]; try first | exact ⟨rfl, rfl⟩ | rfl) fun a34 hA34 => ?_
      refine wl_op hA34 rfl rfl (by decide) (fun ev h => by simp [go_sem, h.get 3 rfl, h.get 24 rfl, d1, d1', d2, d3, d4, jq, jq8, K3.cell, cq, hby, jj, ji, add0, hci]; try first | exact ⟨rfl, rfl⟩ | rfl) fun a35 hA35 => ?_
      refine wl_op hA35 rfl rfl (by decide) (fun ev h => by simp [go_sem, h.get 25 rfl, d1, d1', d2, d3, d4, jq, jq8, K3.cell, cq, hby, jj, ji, add0, hci]; try first | exact ⟨rfl, rfl⟩ | rfl) fun a36 hA36 => ?_
      refine wl_op hA36 rfl rfl (by decide) (fun ev h => by simp [go_sem, h.get 6 rfl, d1, d1', d2, d3, d4, jq, jq8, K3.cell, cq, hby, jj, ji, add0, hci]; try first | exact ⟨rfl, rfl⟩ | rfl) fun a37 hA37 => ?_
      refine wl_op hA37 rfl rfl (by decide) (fun ev h => by simp [go_sem, h.c, h.get 27 rfl, d1, d1', d2, d3, d4, jq, jq8, K3.cell, cq, hby, jj, ji, add0, hci]; try first | exact ⟨rfl, rfl⟩ | rfl) fun a38 hA38 => ?_
      refine wl_op hA38 rfl rfl (by decide) (fun ev h => by simp [go_sem, h.c, h.get 28 rfl, d1, d1', d2, d3, d4, jq, jq8, K3.cell, cq, hby, jj, ji, add0, hci]; try first | exact ⟨rfl, rfl⟩ | rfl) fun a39 hA39 => ?_
      refine wl_op hA39 rfl rfl (by decide) (fun ev h => by simp [go_sem, h.c, h.get 29 rfl, d1, d1', d2, d3, d4, jq, jq8, K3.cell, cq, hby, jj, ji, add0, hci]; try first | exact ⟨rfl, rfl⟩ | rfl) fun a40 hA40 => ?_
      refine wl_op hA40 rfl rfl (by decide) (fun ev h => by simp [go_sem, h.get 26 rfl, h.get 30 rfl, d1, d1', d2, d3, d4, jq, jq8, K3.cell, cq, hby, jj, ji, add0, hci]; try first | exact ⟨rfl, rfl⟩ | rfl) fun a41 hA41 => ?_
      refine wl_op hA41 rfl rfl (by decide) (fun ev h => by simp [go_sem, h.get 31 rfl, d1, d1', d2, d3, d4, jq, jq8, K3.cell, cq, hby, jj, ji, add0, hci]; try first | exact ⟨rfl, rfl⟩ | rfl) fun a42 hA42 => ?_
      refine wl_op hA42 rfl rfl (by decide) (fun ev h => by simp [go_sem, h.get 5 rfl, h.get 22 rfl, d1, d1', d2, d3, d4, jq, jq8, K3.cell, cq, hby, jj, ji, add0, hci]; try first | exact ⟨rfl, rfl⟩ | rfl) fun a43 hA43 => ?_
      -- stop store slot None
      refine wl_setf ((digCells (D.take i)).set i (.int .u8 ((x.toNat : Nat) : Int))) _ hA43 rfl rfl K5 (j := i) (by rfl) (fun ev h => by simp [go_sem, h.get 33 rfl, h.get 32 rfl, d1, d1', d2, d3, d4, jq, jq8, K3.cell, cq, hby, jj, ji, add0, hci, K5.cell, K5.frozen]; try first | exact ⟨rfl, rfl⟩ | rfl) fun w8 (K5 : Blk _ _ _ _) hs => ?_
      have hwi : IntKind.i64.wrap ((i : Int) + 1) = ((i + 1 : Nat) : Int) := by rw [IntWalk.i64_in _ (by omega)]; omega
      refine wl_nil ?_
      refine n_block ?_
      refine n_then ?_
      have hA44 := hA43.keep [2, 3, 5, 19]
      simp only [argsE, keepE, lookS, Nat.reduceBEq, cond_true, cond_false, Nat.reduceAdd, gv_tt, gv_ff, Bool.true_and, Bool.false_and, Bool.true_or, Bool.false_or] at hA44
      clear hA31 hA32 hA33 hA34 hA35 hA36 hA37 hA38 hA39 hA40 hA41 hA42 hA43 a30 a32 a33 a34 a35 a36 a37 a38 a39 a40 a41 a42
      refine wp_region_lit ?_
      refine wl_op hA44 rfl rfl (by decide) (fun ev h => by simp [go_sem, h.c, h.get 19 rfl, hwi]; try first | exact ⟨rfl, rfl⟩ | rfl) fun a45 hA45 => ?_
      refine wl_op hA45 rfl rfl (by decide) (fun ev h => by simp [go_sem, h.get 34 rfl, hwi]; try first | exact ⟨rfl, rfl⟩ | rfl) fun a46 hA46 => ?_
      refine wl_nil ?_
      refine n_then ?_
      have hA47 := hA46.keep [2, 3, 5, 19]
      simp only [argsE, keepE, lookS, Nat.reduceBEq, cond_true, cond_false, Nat.reduceAdd, gv_tt, gv_ff, Bool.true_and, Bool.false_and, Bool.true_or, Bool.false_or] at hA47
      clear hA44 hA45 hA46 a43 a45
      -- round
      refine ⟨k - 1, by omega, i + 1, by omega, hA47, hs.blk K2 (by omega), hs.blk K3 (by omega), ?_, hs.below HB hB5⟩
      have e := digCells_set (l := D.take i) (by rw [List.length_take]; omega) x
      rw [show (D.take i).length = i by rw [List.length_take]; omega] at e
      have e2 := flat_take s hi
      rw [hD, hqe, hme, hv, hx] at e2
      rw [e2, ← e]
      exact K5
    case nR =>
      have hi : i = 32 := by simp at hq2; omega
      subst hi
      rw [List.take_of_length_le (by omega)] at K5
      have h32 : (digCells D).length = 32 := digCells_len (by omega)
      refine wp_exit ?_
      refine x_then ?_
      refine x_then ?_
      refine x_block ?_
      refine n_then ?_
      have hA48 := hA28.keep [2, 5]
      simp only [argsE, keepE, lookS, Nat.reduceBEq, cond_true, cond_false, Nat.reduceAdd, gv_tt, gv_ff, Bool.true_and, Bool.false_and, Bool.true_or, Bool.false_or] at hA48
      clear hA28
      refine wp_seq ?_
      refine wp_region_lit ?_
      -- limit load slot 35
      refine wl_op hA48 rfl rfl (by decide) (fun ev h => exec_loadA K5 Tryz.underlying91 rfl (by kernel_rfl) h32 rfl (h.get 5 rfl)) fun a49 hA49 => ?_
      refine wl_setw (digCells D) hA49 rfl rfl K2 (digCells_len (l := []) (by decide)) h32 (by kernel_rfl) (digCells_one _) rfl (fun ev h => ⟨h.get 2 rfl, h.get 35 rfl⟩) fun w9 (K2 : Blk _ _ _ _) hs => ?_
      refine wl_nil ?_
      refine n_then ?_
      have hA50 := hA49.keep [2]
      simp only [argsE, keepE, lookS, Nat.reduceBEq, cond_true, cond_false, Nat.reduceAdd, gv_tt, gv_ff, Bool.true_and, Bool.false_and, Bool.true_or, Bool.false_or] at hA50
      clear hA48 hA49
      refine wp_ret ?_
      refine ret_cell hA50 2 rfl rfl K2 Tryz.underlying91 rfl (by kernel_rfl) h32 ?_
      exact ⟨by rw [hfin, hD, digCells_full hDl], hs.below HB hB2⟩
end Go.Proofs.YtmjikfeaopmejaaGreatDoor
/-
  Walks: the number of some bytes, a word turned (cubbyref01.Number, turned).
-/
namespace Go.Proofs.YtmjikfeaopmejaaGreatDoor
open Go.RowKit
set_option linter.unusedSimpArgs false
set_option linter.unusedVariables false
theorem beVal_stepN {l : List UInt8} {j : Nat} (h : j < l.length) : beVal (l.take (j + 1)) = beVal (l.take j) * 256 + (l.getD j 0).toNat := by
  rw [List.take_add_one, List.getElem?_eq_getElem h, List.getD_eq_getElem?_getD, List.getElem?_eq_getElem h]
  exact beVal_snoc _ _
set_option maxRecDepth 100000 in
theorem refNumber_any (A : Option Addr) (n c : Nat) (l : List UInt8) (hl : l.length = n) (hn : n ≤ 4) (w : World) (hr : Reads w w.heap.size 1 A n (u8s l)) :
    Calls Tryz.prog 66 #[.slice A n c] w fun ev w' => ev = .returned (.int .u64 (beVal l : Nat)) ∧ w' = w := by
  refine calls_at 20 Tryz.func66 rfl rfl (Nat.le_of_ble_eq_true rfl) ?_
  intro a hA
  simp only [argsE, keepE, lookS, Nat.reduceBEq, cond_true, cond_false, Nat.reduceAdd, gv_tt, gv_ff, Bool.true_and, Bool.false_and, Bool.true_or, Bool.false_or] at hA
  refine wp_seq ?_
  refine wp_region_lit ?_
  refine wl_op hA rfl rfl (by decide) (fun ev h => by simp [go_sem, h.c]; try first | exact ⟨rfl, rfl⟩ | rfl) fun a1 hA1 => ?_
  refine wl_nil ?_
  refine n_then ?_
  have hA2 := hA1.keep [0]
  simp only [argsE, keepE, lookS, Nat.reduceBEq, cond_true, cond_false, Nat.reduceAdd, gv_tt, gv_ff, Bool.true_and, Bool.false_and, Bool.true_or, Bool.false_or] at hA2
  clear hA hA1
  refine wp_seq ?_
  refine wp_region_lit ?_
  refine wl_op hA2 rfl rfl (by decide) (fun ev h => by simp [go_sem, h.c]; try first | exact ⟨rfl, rfl⟩ | rfl) fun a3 hA3 => ?_
  refine wl_nil ?_
  refine n_then ?_
  have hA4 := hA3.keep [0, 3]
  simp only [argsE, keepE, lookS, Nat.reduceBEq, cond_true, cond_false, Nat.reduceAdd, gv_tt, gv_ff, Bool.true_and, Bool.false_and, Bool.true_or, Bool.false_or] at hA4
  clear hA2 hA3 a1
  refine wp_seq ?_
  refine wp_seq ?_
  refine wp_region_lit ?_
  refine wl_op hA4 rfl rfl (by decide) (fun ev h => by simp [go_sem, h.get 0 rfl]; try first | exact ⟨rfl, rfl⟩ | rfl) fun a5 hA5 => ?_
  refine wl_op hA5 rfl rfl (by decide) (fun ev h => by simp [go_sem, h.get 5 rfl]; try first | exact ⟨rfl, rfl⟩ | rfl) fun a6 hA6 => ?_
  refine wl_op hA6 rfl rfl (by decide) (fun ev h => by simp [go_sem, h.c]; try first | exact ⟨rfl, rfl⟩ | rfl) fun a7 hA7 => ?_
  refine wl_nil ?_
  refine n_then ?_
  have hA8 := hA7.keep [0, 3, 6, 7]
  simp only [argsE, keepE, lookS, Nat.reduceBEq, cond_true, cond_false, Nat.reduceAdd, gv_tt, gv_ff, Bool.true_and, Bool.false_and, Bool.true_or, Bool.false_or] at hA8
  clear hA4 hA5 hA6 hA7 a3 a5 a6
  refine wp_block ?_
  -- loop
  refine wp_loop_at (fun k a wx => ∃ (j v : Nat), j + k = n ∧ v = beVal (l.take j) ∧ At 20 [(0, .slice A n c), (3, .int .u64 (v : Nat)), (6, .int .i64 (n : Nat)), (7, .int .i64 (j : Nat))] a ∧ wx = w) (n) ?_ ?_
  · exact ⟨0, 0, by omega, rfl, hA8, rfl⟩
  rintro k a wx ⟨j, v, hjk, hv, hA, rfl⟩
  refine wp_seq ?_
  refine wp_region_lit ?_
  refine wl_op hA rfl rfl (by decide) (fun ev h => by simp [go_sem, h.get 7 rfl, h.get 6 rfl]; try first | exact ⟨rfl, rfl⟩ | rfl) fun a9 hA9 => ?_
  refine wl_nil ?_
  refine n_then ?_
  have hA10 := hA9.keep [0, 3, 6, 7, 8]
  simp only [argsE, keepE, lookS, Nat.reduceBEq, cond_true, cond_false, Nat.reduceAdd, gv_tt, gv_ff, Bool.true_and, Bool.false_and, Bool.true_or, Bool.false_or] at hA10
  clear hA hA9
  refine wp_seq ?_
  -- cond
  refine wp_if hA10 8 _ rfl (fun hq => ?yL) (fun hq => ?nL)
  case yL =>
    have hj : j < n := by simp at hq; omega
    obtain ⟨ad, rfl, had, hc⟩ := u8_ats hr hl (by omega)
    have hcj := hc j hj
    have hst := beVal_stepN (l := l) (j := j) (by omega)
    rw [← hv] at hst
    have hlt := beVal_lt (l.take j)
    rw [← hv, List.length_take] at hlt
    have hlt2 : v < 256 ^ 3 := Nat.lt_of_lt_of_le hlt (Nat.pow_le_pow_right (by decide) (by omega))
    have lx := (l.getD j 0).toNat_lt
    obtain ⟨x, hx⟩ : ∃ x, (l.getD j 0).toNat = x := ⟨_, rfl⟩
    rw [hx] at hcj hst lx
    have w1 : IntKind.u64.wrap ((v : Int) * 256) = (v : Int) * 256 := IntWalk.u64_in _ (by omega)
    have w2 : IntKind.u64.wrap (x : Int) = (x : Int) := IntWalk.u64_in _ (by omega)
    have w3 : IntKind.u64.wrap ((v : Int) * 256 + (x : Int)) = ((v * 256 + x : Nat) : Int) := by rw [IntWalk.u64_in _ (by omega)]; omega
    have w4 : IntKind.i64.wrap ((j : Int) + 1) = ((j + 1 : Nat) : Int) := by rw [IntWalk.i64_in _ (by omega)]; omega
    have jj : (0 : Int) ≤ (j : Int) := by omega
    have ji : (j : Int) < (n : Int) := by omega
    obtain ⟨v2, hv2⟩ : ∃ v2, v * 256 + x = v2 := ⟨_, rfl⟩
    rw [hv2] at w3 hst
    refine wp_skip ?_
    refine n_then ?_
    refine wp_seq ?_
    refine wp_block ?_
    refine wp_seq ?_
    refine wp_region_lit ?_
    refine wl_op hA10 rfl rfl (by decide) (fun ev h => by simp [go_sem, h.get 7 rfl, jj, ji, hcj, w1, w2, w3, w4]; try first | exact ⟨rfl, rfl⟩ | rfl) fun a11 hA11 => ?_
    refine wl_op hA11 rfl rfl (by decide) (fun ev h => by simp [go_sem, h.get 9 rfl, jj, ji, hcj, w1, w2, w3, w4]; try first | exact ⟨rfl, rfl⟩ | rfl) fun a12 hA12 => ?_
    refine wl_nil ?_
    refine n_then ?_
    have hA13 := hA12.keep [0, 3, 4, 6, 7]
    simp only [argsE, keepE, lookS, Nat.reduceBEq, cond_true, cond_false, Nat.reduceAdd, gv_tt, gv_ff, Bool.true_and, Bool.false_and, Bool.true_or, Bool.false_or] at hA13
    clear hA10 hA11 hA12 a11
    refine wp_region_lit ?_
    refine wl_op hA13 rfl rfl (by decide) (fun ev h => by simp [go_sem, h.get 3 rfl, jj, ji, hcj, w1, w2, w3, w4]; try first | exact ⟨rfl, rfl⟩ | rfl) fun a14 hA14 => ?_
    refine wl_op hA14 rfl rfl (by decide) (fun ev h => by simp [go_sem, h.c, h.get 10 rfl, jj, ji, hcj, w1, w2, w3, w4]; try first | exact ⟨rfl, rfl⟩ | rfl) fun a15 hA15 => ?_
    refine wl_op hA15 rfl rfl (by decide) (fun ev h => by simp [go_sem, h.get 0 rfl, jj, ji, hcj, w1, w2, w3, w4]; try first | exact ⟨rfl, rfl⟩ | rfl) fun a16 hA16 => ?_
    refine wl_op hA16 rfl rfl (by decide) (fun ev h => by simp [go_sem, h.get 4 rfl, jj, ji, hcj, w1, w2, w3, w4]; try first | exact ⟨rfl, rfl⟩ | rfl) fun a17 hA17 => ?_
    refine wl_op hA17 rfl rfl (by decide) (fun ev h => by simp [go_sem, h.get 12 rfl, h.get 13 rfl, jj, ji, hcj, w1, w2, w3, w4]; try first | exact ⟨rfl, rfl⟩ | rfl) fun a18 hA18 => ?_
    refine wl_op hA18 rfl rfl (by decide) (fun ev h => by simp [go_sem, h.get 14 rfl, jj, ji, hcj, w1, w2, w3, w4]; try first | exact ⟨rfl, rfl⟩ | rfl) fun a19 hA19 => ?_
    refine wl_op hA19 rfl rfl (by decide) (fun ev h => by simp [go_sem, h.get 15 rfl, jj, ji, hcj, w1, w2, w3, w4]; try first | exact ⟨rfl, rfl⟩ | rfl) fun a20 hA20 => ?_
    refine wl_op hA20 rfl rfl (by decide) (fun ev h => by simp [go_sem, h.get 11 rfl, h.get 16 rfl, jj, ji, hcj, w1, w2, w3, w4]; try first | exact ⟨rfl, rfl⟩ | rfl) fun a21 hA21 => ?_
    refine wl_op hA21 rfl rfl (by decide) (fun ev h => by simp [go_sem, h.get 17 rfl, jj, ji, hcj, w1, w2, w3, w4]; try first | exact ⟨rfl, rfl⟩ | rfl) fun a22 hA22 => ?_
    refine wl_nil ?_
    refine n_block ?_
    refine n_then ?_
    have hA23 := hA22.keep [0, 3, 6, 7]
    simp only [argsE, keepE, lookS, Nat.reduceBEq, cond_true, cond_false, Nat.reduceAdd, gv_tt, gv_ff, Bool.true_and, Bool.false_and, Bool.true_or, Bool.false_or] at hA23
    clear hA13 hA14 hA15 hA16 hA17 hA18 hA19 hA20 hA21 hA22 a12 a14 a15 a16 a17 a18 a19 a20 a21
    refine wp_region_lit ?_
    refine wl_op hA23 rfl rfl (by decide) (fun ev h => by simp [go_sem, h.c, h.get 7 rfl, jj, ji, hcj, w1, w2, w3, w4]; try first | exact ⟨rfl, rfl⟩ | rfl) fun a24 hA24 => ?_
    refine wl_op hA24 rfl rfl (by decide) (fun ev h => by simp [go_sem, h.get 18 rfl, jj, ji, hcj, w1, w2, w3, w4]; try first | exact ⟨rfl, rfl⟩ | rfl) fun a25 hA25 => ?_
    refine wl_nil ?_
    refine n_then ?_
    have hA26 := hA25.keep [0, 3, 6, 7]
    simp only [argsE, keepE, lookS, Nat.reduceBEq, cond_true, cond_false, Nat.reduceAdd, gv_tt, gv_ff, Bool.true_and, Bool.false_and, Bool.true_or, Bool.false_or] at hA26
    clear hA23 hA24 hA25 a22 a24
    -- round
    exact ⟨k - 1, by omega, j + 1, v2, by omega, hst.symm, hA26, rfl⟩
  case nL =>
    have hj : j = n := by simp at hq; omega
    subst hj
    refine wp_exit ?_
    refine x_then ?_
    refine x_then ?_
    refine x_block ?_
    refine n_then ?_
    have hA27 := hA10.keep [3]
    simp only [argsE, keepE, lookS, Nat.reduceBEq, cond_true, cond_false, Nat.reduceAdd, gv_tt, gv_ff, Bool.true_and, Bool.false_and, Bool.true_or, Bool.false_or] at hA27
    clear hA10
    refine wp_seq ?_
    refine wp_region_lit ?_
    refine wl_op hA27 rfl rfl (by decide) (fun ev h => by simp [go_sem, h.get 3 rfl]; try first | exact ⟨rfl, rfl⟩ | rfl) fun a28 hA28 => ?_
    refine wl_op hA28 rfl rfl (by decide) (fun ev h => by simp [go_sem, h.get 19 rfl]; try first | exact ⟨rfl, rfl⟩ | rfl) fun a29 hA29 => ?_
    refine wl_nil ?_
    refine n_then ?_
    have hA30 := hA29.keep [2]
    simp only [argsE, keepE, lookS, Nat.reduceBEq, cond_true, cond_false, Nat.reduceAdd, gv_tt, gv_ff, Bool.true_and, Bool.false_and, Bool.true_or, Bool.false_or] at hA30
    clear hA27 hA28 hA29 a28
    refine wp_ret ?_
    -- ret
    refine ret_1 hA30 2 rfl rfl ?_
    exact ⟨by rw [hv, List.take_of_length_le (by omega)], rfl⟩
set_option maxRecDepth 100000 in
theorem turned_any (x n : Nat) (m : Int) (hm : m = (n : Int)) (hx : x < 4294967296) (h1 : 1 ≤ n) (h2 : n ≤ 31) (w : World) :
    Calls Tryz.prog 67 #[.int .u64 (x : Nat), .int .u64 m] w fun ev w' => ev = .returned (.int .u64 (rotr x n : Nat)) ∧ Below w.heap.size w w' := by
  subst hm
  obtain ⟨q, hq⟩ : ∃ q, 32 - n = q := ⟨_, rfl⟩
  have hw : IntKind.u64.wrap (32 - (n : Int)) = (q : Int) := by rw [IntWalk.u64_in _ (by omega)]; omega
  have s4 := shr_u32 x n
  have ly : x <<< q < 18446744073709551616 := by
    rw [Nat.shiftLeft_eq]
    exact Nat.lt_of_lt_of_le (Nat.mul_lt_mul_of_lt_of_le hx (Nat.pow_le_pow_right (by decide) (show q ≤ 31 by omega)) (by decide)) (by decide)
  have sy : (x : Int) * 2 ^ q = ((x <<< q : Nat) : Int) := by rw [Nat.shiftLeft_eq, Int.natCast_mul, Int.natCast_pow]; rfl
  obtain ⟨y, hy⟩ : ∃ y, x <<< q = y := ⟨_, rfl⟩
  rw [hy] at ly sy
  have s1 : IntKind.u64.wrap ((x : Int) * 2 ^ q) = (y : Int) := by
    rw [sy]
    exact IntWalk.u64_in _ (by omega)
  have s2 : Op.shift .shl .u64 (x : Int) .u64 (q : Int) = pure (.int .u64 (y : Int)) := by
    rw [shift_shl_any _ _ _ _ (by omega), show min (q : Int).toNat IntKind.u64.bits = q by show min (q : Int).toNat 64 = q; omega, s1]
  obtain ⟨z, hz⟩ : ∃ z, x >>> n = z := ⟨_, rfl⟩
  have lz : z < 4294967296 := by rw [← hz, Nat.shiftRight_eq_div_pow]; exact Nat.lt_of_le_of_lt (Nat.div_le_self _ _) hx
  rw [hz] at s4
  have s5 := u64_or_nat z y (by omega) ly
  obtain ⟨o, ho⟩ : ∃ o, z ||| y = o := ⟨_, rfl⟩
  have lo : o < 18446744073709551616 := by rw [← ho]; exact Nat.or_lt_two_pow (n := 64) (by omega) ly
  rw [ho] at s5
  have s6 := u64_and_nat o 4294967295 lo (by decide)
  have e : o &&& 4294967295 = rotr x n := by
    rw [show (4294967295 : Nat) = 2 ^ 32 - 1 by decide, Nat.and_two_pow_sub_one_eq_mod, ← ho, ← hz, ← hy, ← hq]
    rfl
  rw [e] at s6
  have s6' : bits .and .u64 (o : Int) 4294967295 = ((rotr x n : Nat) : Int) := s6
  clear ho hy hz e hq s6
  refine calls_at 14 Tryz.func67 rfl rfl (Nat.le_of_ble_eq_true rfl) ?_
  intro a hA
  simp only [argsE, keepE, lookS, Nat.reduceBEq, cond_true, cond_false, Nat.reduceAdd, gv_tt, gv_ff, Bool.true_and, Bool.false_and, Bool.true_or, Bool.false_or] at hA
  refine wp_seq ?_
  refine wp_region_lit ?_
  refine wl_op hA rfl rfl (by decide) (fun ev h => by simp [go_sem, h.c, hw, s1, s2, s4, s5, s6']; try first | exact ⟨rfl, rfl⟩ | rfl) fun a31 hA31 => ?_
  refine wl_nil ?_
  refine n_then ?_
  have hA32 := hA31.keep [0, 1]
  simp only [argsE, keepE, lookS, Nat.reduceBEq, cond_true, cond_false, Nat.reduceAdd, gv_tt, gv_ff, Bool.true_and, Bool.false_and, Bool.true_or, Bool.false_or] at hA32
  clear hA hA31
  refine wp_seq ?_
  refine wp_region_lit ?_
  refine wl_op hA32 rfl rfl (by decide) (fun ev h => by simp [go_sem, h.get 0 rfl, hw, s1, s2, s4, s5, s6']; try first | exact ⟨rfl, rfl⟩ | rfl) fun a33 hA33 => ?_
  refine wl_op hA33 rfl rfl (by decide) (fun ev h => by simp [go_sem, h.get 1 rfl, hw, s1, s2, s4, s5, s6']; try first | exact ⟨rfl, rfl⟩ | rfl) fun a34 hA34 => ?_
  refine wl_op hA34 rfl rfl (by decide) (fun ev h => by simp [go_sem, h.get 5 rfl, h.get 6 rfl, hw, s1, s2, s4, s5, s6']; try first | exact ⟨rfl, rfl⟩ | rfl) fun a35 hA35 => ?_
  refine wl_op hA35 rfl rfl (by decide) (fun ev h => by simp [go_sem, h.get 0 rfl, hw, s1, s2, s4, s5, s6']; try first | exact ⟨rfl, rfl⟩ | rfl) fun a36 hA36 => ?_
  refine wl_op hA36 rfl rfl (by decide) (fun ev h => by simp [go_sem, h.get 1 rfl, hw, s1, s2, s4, s5, s6']; try first | exact ⟨rfl, rfl⟩ | rfl) fun a37 hA37 => ?_
  refine wl_op hA37 rfl rfl (by decide) (fun ev h => by simp [go_sem, h.c, h.get 9 rfl, hw, s1, s2, s4, s5, s6']; try first | exact ⟨rfl, rfl⟩ | rfl) fun a38 hA38 => ?_
  refine wl_op hA38 rfl rfl (by decide) (fun ev h => by simp [go_sem, h.get 8 rfl, h.get 10 rfl, hw, s1, s2, s4, s5, s6']; try first | exact ⟨rfl, rfl⟩ | rfl) fun a39 hA39 => ?_
  refine wl_op hA39 rfl rfl (by decide) (fun ev h => by simp [go_sem, h.get 7 rfl, h.get 11 rfl, hw, s1, s2, s4, s5, s6']; try first | exact ⟨rfl, rfl⟩ | rfl) fun a40 hA40 => ?_
  refine wl_op hA40 rfl rfl (by decide) (fun ev h => by simp [go_sem, h.c, h.get 12 rfl, hw, s1, s2, s4, s5, s6']; try first | exact ⟨rfl, rfl⟩ | rfl) fun a41 hA41 => ?_
  refine wl_op hA41 rfl rfl (by decide) (fun ev h => by simp [go_sem, h.get 13 rfl, hw, s1, s2, s4, s5, s6']; try first | exact ⟨rfl, rfl⟩ | rfl) fun a42 hA42 => ?_
  refine wl_nil ?_
  refine n_then ?_
  have hA43 := hA42.keep [4]
  simp only [argsE, keepE, lookS, Nat.reduceBEq, cond_true, cond_false, Nat.reduceAdd, gv_tt, gv_ff, Bool.true_and, Bool.false_and, Bool.true_or, Bool.false_or] at hA43
  clear hA32 hA33 hA34 hA35 hA36 hA37 hA38 hA39 hA40 hA41 hA42 a31 a33 a34 a35 a36 a37 a38 a39 a40 a41
  refine wp_ret ?_
  -- ret
  refine ret_1 hA43 4 rfl rfl ?_
  exact ⟨rfl, Below.refl _ _⟩
end Go.Proofs.YtmjikfeaopmejaaGreatDoor
