/-
  Walks: flags that are changed; a number among some.
-/
import Derived.Test.YtbbhblnhbgkcaaaDoorFits
import Derived.Laws.BitsAllLaws
import Derived.Laws.Bits128
namespace Go.Proofs.YtbbhblnhbgkcaaaDoor
open Go.RowKit
set_option linter.unusedSimpArgs false
set_option linter.unusedVariables false
def bitI (n : Int) (i : Nat) : Bool := decide (n / 2 ^ i % 2 = 1)
def chB (how : Int) (a c : Bool) : Bool := bif how == 0 then c else bif how == 1 then a || c else bif how == 2 then a && !c else a
def nOf (q : Bool) (k : Nat) : Nat := bif q then k else 0
def chSum (f b how : Int) : Nat → Nat
  | 0 => 0
  | i + 1 => chSum f b how i + nOf (chB how (bitI f i) (bitI b i)) (2 ^ i)
def changeV (f b how : Int) : Nat := chSum f b how 5
theorem chSum_lt (f b how : Int) : ∀ i, chSum f b how i < 2 ^ i
  | 0 => by show 0 < 1; omega
  | i + 1 => by
    have := chSum_lt f b how i
    unfold chSum nOf
    rw [Nat.pow_succ]
    cases chB how (bitI f i) (bitI b i) <;> simp <;> omega
theorem i64_and1 (n : Int) : bits .and .i64 n 1 = n % 2 := by
  have h1 : (BitVec.ofInt 64 1).toNat = 2 ^ 1 - 1 := by decide
  have key : (BitVec.ofInt 64 n &&& BitVec.ofInt 64 1).toNat = (n % ((2 ^ 64 : Nat) : Int)).toNat % 2 ^ 1 := by
    rw [BitVec.toNat_and, BitVec.toNat_ofInt, h1, Nat.and_two_pow_sub_one_eq_mod]
  show IntKind.i64.wrap ((BitVec.ofInt 64 n &&& BitVec.ofInt 64 1).toNat : Nat) = n % 2
  rw [key, IntKind.wrap_i64]
  omega
theorem low5 (z : BitVec 64) : (z &&& BitVec.ofInt 64 31).toNat = nOf (z.getLsbD 0) 1 + nOf (z.getLsbD 1) 2 + nOf (z.getLsbD 2) 4 + nOf (z.getLsbD 3) 8 + nOf (z.getLsbD 4) 16 := by
  have h1 : (BitVec.ofInt 64 31).toNat = 2 ^ 5 - 1 := by decide
  rw [BitVec.toNat_and, h1, Nat.and_two_pow_sub_one_eq_mod]
  have hb : ∀ i, z.getLsbD i = decide (z.toNat / 2 ^ i % 2 = 1) := fun i => by
    rw [BitVec.getLsbD, Nat.testBit_eq_decide_div_mod_eq]
  rw [hb, hb, hb, hb, hb]
  unfold nOf
  generalize z.toNat = m
  simp only [Nat.pow_zero, Nat.pow_one, Nat.reducePow, Nat.div_one]
  have : ∀ (p : Prop) [Decidable p] (k : Nat), (bif decide p then k else 0) = if p then k else 0 := fun p _ k => by by_cases h : p <;> simp [h]
  rw [this, this, this, this, this]
  split <;> split <;> split <;> split <;> split <;> omega
theorem lsb_ofInt (n : Int) : (BitVec.ofInt 64 n).getLsbD 0 = bitI n 0 ∧ (BitVec.ofInt 64 n).getLsbD 1 = bitI n 1 ∧ (BitVec.ofInt 64 n).getLsbD 2 = bitI n 2 ∧ (BitVec.ofInt 64 n).getLsbD 3 = bitI n 3 ∧ (BitVec.ofInt 64 n).getLsbD 4 = bitI n 4 := by
  have hb : ∀ i, (BitVec.ofInt 64 n).getLsbD i = decide ((n % ((2 ^ 64 : Nat) : Int)).toNat / 2 ^ i % 2 = 1) := fun i => by
    rw [BitVec.getLsbD, Nat.testBit_eq_decide_div_mod_eq, BitVec.toNat_ofInt]
  rw [hb, hb, hb, hb, hb]
  unfold bitI
  simp only [Nat.pow_zero, Nat.pow_one, Nat.reducePow, Nat.div_one, Int.pow_zero, Int.reducePow, Int.ediv_one, decide_eq_decide]
  refine ⟨?_, ?_, ?_, ?_, ?_⟩ <;> omega
theorem wrap_low {m : Nat} (h : m < 2 ^ 5) : IntKind.i64.wrap (m : Int) = (m : Int) := IntWalk.i64_in _ (by omega)
theorem and31_of {f b : Int} {how : Int} {z : BitVec 64} (hz : ∀ i, i < 64 → z.getLsbD i = chB how ((BitVec.ofInt 64 f).getLsbD i) ((BitVec.ofInt 64 b).getLsbD i)) : ((z &&& BitVec.ofInt 64 31).toNat) = changeV f b how := by
  obtain ⟨f0, f1, f2, f3, f4⟩ := lsb_ofInt f
  obtain ⟨b0, b1, b2, b3, b4⟩ := lsb_ofInt b
  rw [low5, hz 0 (by omega), hz 1 (by omega), hz 2 (by omega), hz 3 (by omega), hz 4 (by omega), f0, f1, f2, f3, f4, b0, b1, b2, b3, b4]
  unfold changeV
  simp only [chSum, Nat.pow_zero, Nat.pow_one, Nat.reducePow, Nat.zero_add]
theorem ofInt_wrap (z : BitVec 64) : BitVec.ofInt 64 (IntKind.i64.wrap (z.toNat : Int)) = z := by
  apply BitVec.eq_of_toNat_eq
  rw [BitVec.toNat_ofInt, IntKind.wrap_i64]
  have := z.isLt
  omega
theorem mask31 (z : BitVec 64) : IntKind.i64.wrap ((z &&& BitVec.ofInt 64 31).toNat : Int) = ((z &&& BitVec.ofInt 64 31).toNat : Nat) := by
  have h1 : (BitVec.ofInt 64 31).toNat = 2 ^ 5 - 1 := by decide
  refine IntWalk.i64_in _ ?_
  rw [BitVec.toNat_and, h1, Nat.and_two_pow_sub_one_eq_mod]
  omega
theorem change_0 (f b : Int) : bits .and .i64 b 31 = (changeV f b 0 : Nat) := by
  show IntKind.i64.wrap ((BitVec.ofInt 64 b &&& BitVec.ofInt 64 31).toNat : Nat) = _
  rw [mask31, and31_of (f := f) (b := b) (how := 0) (fun i _ => rfl)]
theorem change_1 (f b : Int) : bits .and .i64 (bits .or .i64 f b) 31 = (changeV f b 1 : Nat) := by
  show IntKind.i64.wrap ((BitVec.ofInt 64 (IntKind.i64.wrap ((BitVec.ofInt 64 f ||| BitVec.ofInt 64 b).toNat : Nat)) &&& BitVec.ofInt 64 31).toNat : Nat) = _
  rw [ofInt_wrap, mask31, and31_of (f := f) (b := b) (how := 1) (fun i _ => by rw [BitVec.getLsbD_or]; rfl)]
theorem change_2 (f b : Int) : bits .and .i64 (bits .andNot .i64 f b) 31 = (changeV f b 2 : Nat) := by
  show IntKind.i64.wrap ((BitVec.ofInt 64 (IntKind.i64.wrap ((BitVec.ofInt 64 f &&& ~~~(BitVec.ofInt 64 b)).toNat : Nat)) &&& BitVec.ofInt 64 31).toNat : Nat) = _
  rw [ofInt_wrap, mask31, and31_of (f := f) (b := b) (how := 2) (fun i hi => by rw [BitVec.getLsbD_and, BitVec.getLsbD_not, decide_eq_true hi, Bool.true_and]; rfl)]
theorem change_3 (f b how : Int) (h0 : (how == 0) = false) (h1 : (how == 1) = false) (h2 : (how == 2) = false) : bits .and .i64 f 31 = (changeV f b how : Nat) := by
  show IntKind.i64.wrap ((BitVec.ofInt 64 f &&& BitVec.ofInt 64 31).toNat : Nat) = _
  rw [mask31, and31_of (f := f) (b := b) (how := how) (fun i _ => by unfold chB; rw [h0, h1, h2]; rfl)]
theorem change_any (f b how : Int) (w : World) :
    Calls Tryd.prog 39 #[.int .i64 f, .int .i64 b, .int .i64 how] w fun ev w' => ev = .returned (.int .i64 (changeV f b how : Nat)) ∧ Below w.heap.size w w' := by
  refine calls_at 26 Tryd.func39 rfl rfl (Nat.le_of_ble_eq_true rfl) ?_
  intro a hA
  simp only [argsE, keepE, lookS, Nat.reduceBEq, cond_true, cond_false, Nat.reduceAdd, gv_tt, gv_ff, Bool.true_and, Bool.false_and, Bool.true_or, Bool.false_or] at hA
  refine wp_seq ?_
  refine wp_region_lit ?_
  refine wl_op hA rfl rfl (by decide) (fun ev h => by simp [go_sem, h.c]; try first | exact ⟨rfl, rfl⟩ | rfl) fun a1 hA1 => ?_
  refine wl_nil ?_
  refine n_then ?_
  have hA2 := hA1.keep [0, 1, 2]
  simp only [argsE, keepE, lookS, Nat.reduceBEq, cond_true, cond_false, Nat.reduceAdd, gv_tt, gv_ff, Bool.true_and, Bool.false_and, Bool.true_or, Bool.false_or] at hA2
  clear hA hA1
  refine wp_seq ?_
  refine wp_seq ?_
  refine wp_region_lit ?_
  refine wl_op hA2 rfl rfl (by decide) (fun ev h => by simp [go_sem, h.get 2 rfl]; try first | exact ⟨rfl, rfl⟩ | rfl) fun a3 hA3 => ?_
  refine wl_nil ?_
  refine n_then ?_
  have hA4 := hA3.keep [0, 1, 7]
  simp only [argsE, keepE, lookS, Nat.reduceBEq, cond_true, cond_false, Nat.reduceAdd, gv_tt, gv_ff, Bool.true_and, Bool.false_and, Bool.true_or, Bool.false_or] at hA4
  clear hA2 hA3 a1
  refine wp_block ?_
  refine wp_seq ?_
  refine wp_region_lit ?_
  refine wl_op hA4 rfl rfl (by decide) (fun ev h => by simp [go_sem, h.c, h.get 7 rfl]; try first | exact ⟨rfl, rfl⟩ | rfl) fun a5 hA5 => ?_
  refine wl_op hA5 rfl rfl (by decide) (fun ev h => by simp [go_sem, h.get 9 rfl]; try first | exact ⟨rfl, rfl⟩ | rfl) fun a6 hA6 => ?_
  refine wl_nil ?_
  refine n_then ?_
  have hA7 := hA6.keep [0, 1, 7, 8]
  simp only [argsE, keepE, lookS, Nat.reduceBEq, cond_true, cond_false, Nat.reduceAdd, gv_tt, gv_ff, Bool.true_and, Bool.false_and, Bool.true_or, Bool.false_or] at hA7
  clear hA4 hA5 hA6 a3 a5
  -- cond
  refine wp_if hA7 8 _ rfl (fun h0 => ?yA) (fun h0 => ?nA)
  case yA =>
    obtain rfl : how = 0 := by simpa using h0
    refine wp_seq ?_
    refine wp_region_lit ?_
    refine wl_op hA7 rfl rfl (by decide) (fun ev h => by simp [go_sem, h.get 1 rfl, change_0 f b]; try first | exact ⟨rfl, rfl⟩ | rfl) fun a8 hA8 => ?_
    refine wl_op hA8 rfl rfl (by decide) (fun ev h => by simp [go_sem, h.c, h.get 10 rfl, change_0 f b]; try first | exact ⟨rfl, rfl⟩ | rfl) fun a9 hA9 => ?_
    refine wl_op hA9 rfl rfl (by decide) (fun ev h => by simp [go_sem, h.get 11 rfl, change_0 f b]; try first | exact ⟨rfl, rfl⟩ | rfl) fun a10 hA10 => ?_
    refine wl_nil ?_
    refine n_then ?_
    have hA11 := hA10.keep [6]
    simp only [argsE, keepE, lookS, Nat.reduceBEq, cond_true, cond_false, Nat.reduceAdd, gv_tt, gv_ff, Bool.true_and, Bool.false_and, Bool.true_or, Bool.false_or] at hA11
    clear hA7 hA8 hA9 hA10 a8 a9
    refine wp_ret ?_
    refine r_block ?_
    refine r_then ?_
    refine ret_1 hA11 6 rfl rfl ?_
    exact ⟨rfl, Below.refl _ _⟩
  case nA =>
    refine wp_seq ?_
    refine wp_region_lit ?_
    refine wl_op hA7 rfl rfl (by decide) (fun ev h => by simp [go_sem, h.c, h.get 7 rfl]; try first | exact ⟨rfl, rfl⟩ | rfl) fun a12 hA12 => ?_
    refine wl_op hA12 rfl rfl (by decide) (fun ev h => by simp [go_sem, h.get 13 rfl]; try first | exact ⟨rfl, rfl⟩ | rfl) fun a13 hA13 => ?_
    refine wl_nil ?_
    refine n_then ?_
    have hA14 := hA13.keep [0, 1, 7, 12]
    simp only [argsE, keepE, lookS, Nat.reduceBEq, cond_true, cond_false, Nat.reduceAdd, gv_tt, gv_ff, Bool.true_and, Bool.false_and, Bool.true_or, Bool.false_or] at hA14
    clear hA7 hA12 hA13 a12
    -- cond
    refine wp_if hA14 12 _ rfl (fun h1 => ?yB) (fun h1 => ?nB)
    case yB =>
      obtain rfl : how = 1 := by simpa using h1
      refine wp_seq ?_
      refine wp_region_lit ?_
      refine wl_op hA14 rfl rfl (by decide) (fun ev h => by simp [go_sem, h.get 0 rfl, change_1 f b]; try first | exact ⟨rfl, rfl⟩ | rfl) fun a15 hA15 => ?_
      refine wl_op hA15 rfl rfl (by decide) (fun ev h => by simp [go_sem, h.get 1 rfl, change_1 f b]; try first | exact ⟨rfl, rfl⟩ | rfl) fun a16 hA16 => ?_
      refine wl_op hA16 rfl rfl (by decide) (fun ev h => by simp [go_sem, h.get 14 rfl, h.get 15 rfl, change_1 f b]; try first | exact ⟨rfl, rfl⟩ | rfl) fun a17 hA17 => ?_
      refine wl_op hA17 rfl rfl (by decide) (fun ev h => by simp [go_sem, h.c, h.get 16 rfl, change_1 f b]; try first | exact ⟨rfl, rfl⟩ | rfl) fun a18 hA18 => ?_
      refine wl_op hA18 rfl rfl (by decide) (fun ev h => by simp [go_sem, h.get 17 rfl, change_1 f b]; try first | exact ⟨rfl, rfl⟩ | rfl) fun a19 hA19 => ?_
      refine wl_nil ?_
      refine n_then ?_
      have hA20 := hA19.keep [6]
      simp only [argsE, keepE, lookS, Nat.reduceBEq, cond_true, cond_false, Nat.reduceAdd, gv_tt, gv_ff, Bool.true_and, Bool.false_and, Bool.true_or, Bool.false_or] at hA20
      clear hA14 hA15 hA16 hA17 hA18 hA19 a15 a16 a17 a18
      refine wp_ret ?_
      refine r_block ?_
      refine r_then ?_
      refine ret_1 hA20 6 rfl rfl ?_
      exact ⟨rfl, Below.refl _ _⟩
    case nB =>
      refine wp_seq ?_
      refine wp_region_lit ?_
      refine wl_op hA14 rfl rfl (by decide) (fun ev h => by simp [go_sem, h.c, h.get 7 rfl]; try first | exact ⟨rfl, rfl⟩ | rfl) fun a21 hA21 => ?_
      refine wl_op hA21 rfl rfl (by decide) (fun ev h => by simp [go_sem, h.get 19 rfl]; try first | exact ⟨rfl, rfl⟩ | rfl) fun a22 hA22 => ?_
      refine wl_nil ?_
      refine n_then ?_
      have hA23 := hA22.keep [0, 1, 18]
      simp only [argsE, keepE, lookS, Nat.reduceBEq, cond_true, cond_false, Nat.reduceAdd, gv_tt, gv_ff, Bool.true_and, Bool.false_and, Bool.true_or, Bool.false_or] at hA23
      clear hA14 hA21 hA22 a21
      -- cond
      refine wp_if hA23 18 _ rfl (fun h2 => ?yC) (fun h2 => ?nC)
      case yC =>
        obtain rfl : how = 2 := by simpa using h2
        refine wp_seq ?_
        refine wp_region_lit ?_
        refine wl_op hA23 rfl rfl (by decide) (fun ev h => by simp [go_sem, h.get 0 rfl, change_2 f b]; try first | exact ⟨rfl, rfl⟩ | rfl) fun a24 hA24 => ?_
        refine wl_op hA24 rfl rfl (by decide) (fun ev h => by simp [go_sem, h.get 1 rfl, change_2 f b]; try first | exact ⟨rfl, rfl⟩ | rfl) fun a25 hA25 => ?_
        refine wl_op hA25 rfl rfl (by decide) (fun ev h => by simp [go_sem, h.get 20 rfl, h.get 21 rfl, change_2 f b]; try first | exact ⟨rfl, rfl⟩ | rfl) fun a26 hA26 => ?_
        refine wl_op hA26 rfl rfl (by decide) (fun ev h => by simp [go_sem, h.c, h.get 22 rfl, change_2 f b]; try first | exact ⟨rfl, rfl⟩ | rfl) fun a27 hA27 => ?_
        refine wl_op hA27 rfl rfl (by decide) (fun ev h => by simp [go_sem, h.get 23 rfl, change_2 f b]; try first | exact ⟨rfl, rfl⟩ | rfl) fun a28 hA28 => ?_
        refine wl_nil ?_
        refine n_then ?_
        have hA29 := hA28.keep [6]
        simp only [argsE, keepE, lookS, Nat.reduceBEq, cond_true, cond_false, Nat.reduceAdd, gv_tt, gv_ff, Bool.true_and, Bool.false_and, Bool.true_or, Bool.false_or] at hA29
        clear hA23 hA24 hA25 hA26 hA27 hA28 a24 a25 a26 a27
        refine wp_ret ?_
        refine r_block ?_
        refine r_then ?_
        refine ret_1 hA29 6 rfl rfl ?_
        exact ⟨rfl, Below.refl _ _⟩
      case nC =>
        refine wp_skip ?_
        refine n_block ?_
        refine n_then ?_
        refine wp_seq ?_
        refine wp_region_lit ?_
        refine wl_op hA23 rfl rfl (by decide) (fun ev h => by simp [go_sem, h.get 0 rfl, change_3 f b how h0 h1 h2]; try first | exact ⟨rfl, rfl⟩ | rfl) fun a30 hA30 => ?_
        refine wl_op hA30 rfl rfl (by decide) (fun ev h => by simp [go_sem, h.c, h.get 24 rfl, change_3 f b how h0 h1 h2]; try first | exact ⟨rfl, rfl⟩ | rfl) fun a31 hA31 => ?_
        refine wl_op hA31 rfl rfl (by decide) (fun ev h => by simp [go_sem, h.get 25 rfl, change_3 f b how h0 h1 h2]; try first | exact ⟨rfl, rfl⟩ | rfl) fun a32 hA32 => ?_
        refine wl_nil ?_
        refine n_then ?_
        have hA33 := hA32.keep [6]
        simp only [argsE, keepE, lookS, Nat.reduceBEq, cond_true, cond_false, Nat.reduceAdd, gv_tt, gv_ff, Bool.true_and, Bool.false_and, Bool.true_or, Bool.false_or] at hA33
        clear hA23 hA30 hA31 hA32 a30 a31
        refine wp_ret ?_
        refine ret_1 hA33 6 rfl rfl ?_
        exact ⟨rfl, Below.refl _ _⟩
theorem chE (how : Int) (a c : Bool) : (how == 0 && c || how == 1 && (a || c) || how == 2 && a && !c || (decide (how < 0) || decide (2 < how)) && a) = chB how a c := by
  unfold chB
  by_cases h0 : how = 0
  · subst h0; cases a <;> cases c <;> rfl
  · by_cases h1 : how = 1
    · subst h1; cases a <;> cases c <;> rfl
    · by_cases h2 : how = 2
      · subst h2; cases a <;> cases c <;> rfl
      · have e : (decide (how < 0) || decide (2 < how)) = true := by simp; omega
        rw [e, beq_eq_false_iff_ne.2 h0, beq_eq_false_iff_ne.2 h1, beq_eq_false_iff_ne.2 h2]
        cases a <;> cases c <;> rfl
set_option maxRecDepth 100000 in
set_option maxHeartbeats 1000000 in
theorem refChanged_any (f b how : Int) (w : World) :
    Calls Tryd.prog 41 #[.int .i64 f, .int .i64 b, .int .i64 how] w fun ev w' => ev = .returned (.int .i64 (changeV f b how : Nat)) ∧ Below w.heap.size w w' := by
  refine calls_at 71 Tryd.func41 rfl rfl (Nat.le_of_ble_eq_true rfl) ?_
  intro a hA
  simp only [argsE, keepE, lookS, Nat.reduceBEq, cond_true, cond_false, Nat.reduceAdd, gv_tt, gv_ff, Bool.true_and, Bool.false_and, Bool.true_or, Bool.false_or] at hA
  refine wp_seq ?_
  refine wp_region_lit ?_
  refine wl_op hA rfl rfl (by decide) (fun ev h => by simp [go_sem, h.c]; try first | exact ⟨rfl, rfl⟩ | rfl) fun a34 hA34 => ?_
  refine wl_nil ?_
  refine n_then ?_
  have hA35 := hA34.keep [0, 1, 2]
  simp only [argsE, keepE, lookS, Nat.reduceBEq, cond_true, cond_false, Nat.reduceAdd, gv_tt, gv_ff, Bool.true_and, Bool.false_and, Bool.true_or, Bool.false_or] at hA35
  clear hA hA34
  refine wp_seq ?_
  refine wp_region_lit ?_
  refine wl_op hA35 rfl rfl (by decide) (fun ev h => by simp [go_sem, h.c]; try first | exact ⟨rfl, rfl⟩ | rfl) fun a36 hA36 => ?_
  refine wl_op hA36 rfl rfl (by decide) (fun ev h => by simp [go_sem, h.c]; try first | exact ⟨rfl, rfl⟩ | rfl) fun a37 hA37 => ?_
  refine wl_nil ?_
  refine n_then ?_
  have hA38 := hA37.keep [0, 1, 2, 7, 8]
  simp only [argsE, keepE, lookS, Nat.reduceBEq, cond_true, cond_false, Nat.reduceAdd, gv_tt, gv_ff, Bool.true_and, Bool.false_and, Bool.true_or, Bool.false_or] at hA38
  clear hA35 hA36 hA37 a34 a36
  refine wp_seq ?_
  refine wp_seq ?_
  refine wp_region_lit ?_
  refine wl_op hA38 rfl rfl (by decide) (fun ev h => by simp [go_sem, h.c]; try first | exact ⟨rfl, rfl⟩ | rfl) fun a39 hA39 => ?_
  refine wl_nil ?_
  refine n_then ?_
  have hA40 := hA39.keep [0, 1, 2, 7, 8, 12]
  simp only [argsE, keepE, lookS, Nat.reduceBEq, cond_true, cond_false, Nat.reduceAdd, gv_tt, gv_ff, Bool.true_and, Bool.false_and, Bool.true_or, Bool.false_or] at hA40
  clear hA38 hA39 a37
  refine wp_block ?_
  -- loop
  refine wp_loop_at (fun k a wx => ∃ (i S P : Nat), i + k = 5 ∧ At 71 [(0, .int .i64 f), (1, .int .i64 b), (2, .int .i64 how), (7, .int .i64 (S : Int)), (8, .int .i64 (P : Int)), (12, .int .i64 (i : Nat))] a ∧ S = chSum f b how i ∧ P = 2 ^ i ∧ wx = w) (5) ?_ ?_
  · exact ⟨0, 0, 1, rfl, hA40, rfl, rfl, rfl⟩
  rintro k a wx ⟨i, S, P, hik, hA, hS, hP, rfl⟩
  refine wp_seq ?_
  refine wp_region_lit ?_
  refine wl_op hA rfl rfl (by decide) (fun ev h => by simp [go_sem, h.c, h.get 12 rfl]; try first | exact ⟨rfl, rfl⟩ | rfl) fun a41 hA41 => ?_
  refine wl_nil ?_
  refine n_then ?_
  have hA42 := hA41.keep [0, 1, 2, 7, 8, 12, 13]
  simp only [argsE, keepE, lookS, Nat.reduceBEq, cond_true, cond_false, Nat.reduceAdd, gv_tt, gv_ff, Bool.true_and, Bool.false_and, Bool.true_or, Bool.false_or] at hA42
  clear hA hA41
  refine wp_seq ?_
  -- cond
  refine wp_if hA42 13 _ rfl (fun hq => ?yL) (fun hq => ?nL)
  case yL =>
    have hi : i < 5 := by simp at hq; omega
    have hwi : IntKind.i64.wrap ((i : Int) + 1) = (i : Int) + 1 := IntWalk.i64_in _ (by omega)
    have hwu : IntKind.u64.wrap (i : Int) = (i : Int) := IntWalk.u64_in _ (by omega)
    have hi0 : (0 : Int) ≤ (i : Int) := by omega
    have hi1 : (i : Int) ≤ 64 := by omega
    have hi2 : i ≤ 64 := by omega
    have hP2 : P ≤ 16 := by
      rw [hP]
      rcases (by omega : i = 0 ∨ i = 1 ∨ i = 2 ∨ i = 3 ∨ i = 4) with e | e | e | e | e <;> subst e <;> decide
    have hS2 := chSum_lt f b how i
    rw [← hS, ← hP] at hS2
    have hwS : IntKind.i64.wrap ((S : Int) + (P : Int)) = (S : Int) + (P : Int) := IntWalk.i64_in _ (by omega)
    have hwP : IntKind.i64.wrap ((P : Int) * 2) = (P : Int) * 2 := IntWalk.i64_in _ (by omega)
    have hbf : (f / 2 ^ i % 2 == 1) = bitI f i := by unfold bitI; rw [Bool.eq_iff_iff]; simp
    have hbb : (b / 2 ^ i % 2 == 1) = bitI b i := by unfold bitI; rw [Bool.eq_iff_iff]; simp
    refine wp_skip ?_
    refine n_then ?_
    refine wp_seq ?_
    refine wp_block ?_
    refine wp_seq ?_
    refine wp_region_lit ?_
    refine wl_op hA42 rfl rfl (by decide) (fun ev h => by simp [go_sem, h.get 12 rfl, hwi, hwu, hi0, hi1, hi2, i64_and1, hbf, hbb]; try first | exact ⟨rfl, rfl⟩ | rfl) fun a43 hA43 => ?_
    refine wl_op hA43 rfl rfl (by decide) (fun ev h => by simp [go_sem, h.get 14 rfl, hwi, hwu, hi0, hi1, hi2, i64_and1, hbf, hbb]; try first | exact ⟨rfl, rfl⟩ | rfl) fun a44 hA44 => ?_
    refine wl_nil ?_
    refine n_then ?_
    have hA45 := hA44.keep [0, 1, 2, 7, 8, 9, 12]
    simp only [argsE, keepE, lookS, Nat.reduceBEq, cond_true, cond_false, Nat.reduceAdd, gv_tt, gv_ff, Bool.true_and, Bool.false_and, Bool.true_or, Bool.false_or] at hA45
    clear hA42 hA43 hA44 a43
    refine wp_seq ?_
    refine wp_region_lit ?_
    refine wl_op hA45 rfl rfl (by decide) (fun ev h => by simp [go_sem, h.get 0 rfl, hwi, hwu, hi0, hi1, hi2, i64_and1, hbf, hbb]; try first | exact ⟨rfl, rfl⟩ | rfl) fun a46 hA46 => ?_
    refine wl_op hA46 rfl rfl (by decide) (fun ev h => by simp [go_sem, h.get 9 rfl, hwi, hwu, hi0, hi1, hi2, i64_and1, hbf, hbb]; try first | exact ⟨rfl, rfl⟩ | rfl) fun a47 hA47 => ?_
    refine wl_op hA47 rfl rfl (by decide) (fun ev h => by simp [go_sem, h.get 16 rfl, hwi, hwu, hi0, hi1, hi2, i64_and1, hbf, hbb]; try first | exact ⟨rfl, rfl⟩ | rfl) fun a48 hA48 => ?_
    refine wl_op hA48 rfl rfl (by decide) (fun ev h => by simp [go_sem, h.get 15 rfl, h.get 17 rfl, hwi, hwu, hi0, hi1, hi2, i64_and1, hbf, hbb]; try first | exact ⟨rfl, rfl⟩ | rfl) fun a49 hA49 => ?_
    refine wl_op hA49 rfl rfl (by decide) (fun ev h => by simp [go_sem, h.c, h.get 18 rfl, hwi, hwu, hi0, hi1, hi2, i64_and1, hbf, hbb]; try first | exact ⟨rfl, rfl⟩ | rfl) fun a50 hA50 => ?_
    refine wl_op hA50 rfl rfl (by decide) (fun ev h => by simp [go_sem, h.c, h.get 19 rfl, hwi, hwu, hi0, hi1, hi2, i64_and1, hbf, hbb]; try first | exact ⟨rfl, rfl⟩ | rfl) fun a51 hA51 => ?_
    refine wl_op hA51 rfl rfl (by decide) (fun ev h => by simp [go_sem, h.get 1 rfl, hwi, hwu, hi0, hi1, hi2, i64_and1, hbf, hbb]; try first | exact ⟨rfl, rfl⟩ | rfl) fun a52 hA52 => ?_
    refine wl_op hA52 rfl rfl (by decide) (fun ev h => by simp [go_sem, h.get 9 rfl, hwi, hwu, hi0, hi1, hi2, i64_and1, hbf, hbb]; try first | exact ⟨rfl, rfl⟩ | rfl) fun a53 hA53 => ?_
    refine wl_op hA53 rfl rfl (by decide) (fun ev h => by simp [go_sem, h.get 22 rfl, hwi, hwu, hi0, hi1, hi2, i64_and1, hbf, hbb]; try first | exact ⟨rfl, rfl⟩ | rfl) fun a54 hA54 => ?_
    refine wl_op hA54 rfl rfl (by decide) (fun ev h => by simp [go_sem, h.get 21 rfl, h.get 23 rfl, hwi, hwu, hi0, hi1, hi2, i64_and1, hbf, hbb]; try first | exact ⟨rfl, rfl⟩ | rfl) fun a55 hA55 => ?_
    refine wl_op hA55 rfl rfl (by decide) (fun ev h => by simp [go_sem, h.c, h.get 24 rfl, hwi, hwu, hi0, hi1, hi2, i64_and1, hbf, hbb]; try first | exact ⟨rfl, rfl⟩ | rfl) fun a56 hA56 => ?_
    refine wl_op hA56 rfl rfl (by decide) (fun ev h => by simp [go_sem, h.c, h.get 25 rfl, hwi, hwu, hi0, hi1, hi2, i64_and1, hbf, hbb]; try first | exact ⟨rfl, rfl⟩ | rfl) fun a57 hA57 => ?_
    refine wl_op hA57 rfl rfl (by decide) (fun ev h => by simp [go_sem, h.get 20 rfl, hwi, hwu, hi0, hi1, hi2, i64_and1, hbf, hbb]; try first | exact ⟨rfl, rfl⟩ | rfl) fun a58 hA58 => ?_
    refine wl_op hA58 rfl rfl (by decide) (fun ev h => by simp [go_sem, h.get 26 rfl, hwi, hwu, hi0, hi1, hi2, i64_and1, hbf, hbb]; try first | exact ⟨rfl, rfl⟩ | rfl) fun a59 hA59 => ?_
    refine wl_nil ?_
    refine n_then ?_
    have hA60 := hA59.keep [0, 1, 2, 7, 8, 10, 11, 12]
    simp only [argsE, keepE, lookS, Nat.reduceBEq, cond_true, cond_false, Nat.reduceAdd, gv_tt, gv_ff, Bool.true_and, Bool.false_and, Bool.true_or, Bool.false_or] at hA60
    clear hA45 hA46 hA47 hA48 hA49 hA50 hA51 hA52 hA53 hA54 hA55 hA56 hA57 hA58 hA59 a44 a46 a47 a48 a49 a50 a51 a52 a53 a54 a55 a56 a57 a58
    refine wp_seq ?_
    refine wp_seq ?_
    refine wp_region_lit ?_
    refine wl_op hA60 rfl rfl (by decide) (fun ev h => by simp [go_sem, h.get 2 rfl, hwi, hwu, hi0, hi1, hi2, i64_and1, hbf, hbb]; try first | exact ⟨rfl, rfl⟩ | rfl) fun a61 hA61 => ?_
    refine wl_op hA61 rfl rfl (by decide) (fun ev h => by simp [go_sem, h.c, h.get 27 rfl, hwi, hwu, hi0, hi1, hi2, i64_and1, hbf, hbb]; try first | exact ⟨rfl, rfl⟩ | rfl) fun a62 hA62 => ?_
    refine wl_op hA62 rfl rfl (by decide) (fun ev h => by simp [go_sem, h.get 28 rfl, hwi, hwu, hi0, hi1, hi2, i64_and1, hbf, hbb]; try first | exact ⟨rfl, rfl⟩ | rfl) fun a63 hA63 => ?_
    refine wl_guard _ hA63 rfl rfl rfl rfl (by decide) (fun hq ev h => by simp [go_sem, (h.get 11 rfl), hwi, hwu, hi0, hi1, hi2, i64_and1, hbf, hbb]; try first | exact ⟨rfl, rfl⟩ | rfl) fun a64 hA64 => ?_
    refine wl_op hA64 rfl rfl (by decide) (fun ev h => by first | exact pick_and rfl (h.get 29 rfl) (h.get 30 rfl) (h.c _) | exact pick_or rfl (h.get 29 rfl) (h.get 30 rfl) (h.c _) | (simp [go_sem, h.c, h.get 29 rfl, h.get 30 rfl, hwi, hwu, hi0, hi1, hi2, i64_and1, hbf, hbb, gv_or, gv_and]; try first | exact ⟨rfl, rfl⟩ | rfl)) fun a65 hA65 => ?_
    refine wl_op hA65 rfl rfl (by decide) (fun ev h => by simp [go_sem, h.get 31 rfl, hwi, hwu, hi0, hi1, hi2, i64_and1, hbf, hbb]; try first | exact ⟨rfl, rfl⟩ | rfl) fun a66 hA66 => ?_
    refine wl_guard _ hA66 rfl rfl rfl rfl (by decide) (fun hq ev h => by simp [go_sem, (h.get 2 rfl), hwi, hwu, hi0, hi1, hi2, i64_and1, hbf, hbb]; try first | exact ⟨rfl, rfl⟩ | rfl) fun a67 hA67 => ?_
    refine wl_guard _ hA67 rfl rfl rfl rfl (by decide) (fun hq ev h => by simp [go_sem, h.c, ((h.get 33 rfl).trans (gw_t (beq_t hq))), hwi, hwu, hi0, hi1, hi2, i64_and1, hbf, hbb]; try first | exact ⟨rfl, rfl⟩ | rfl) fun a68 hA68 => ?_
    refine wl_guard _ hA68 rfl rfl rfl rfl (by decide) (fun hq ev h => by simp [go_sem, ((h.get 34 rfl).trans (gw_t (beq_t hq))), hwi, hwu, hi0, hi1, hi2, i64_and1, hbf, hbb]; try first | exact ⟨rfl, rfl⟩ | rfl) fun a69 hA69 => ?_
    refine wl_guard2 _ _ hA69 rfl rfl rfl rfl (by decide) (fun hq hr ev h => by simp [go_sem, (h.get 10 rfl), hwi, hwu, hi0, hi1, hi2, i64_and1, hbf, hbb]; try first | exact ⟨rfl, rfl⟩ | rfl) fun a70 hA70 => ?_
    refine wl_guard2 _ _ hA70 rfl rfl rfl rfl (by decide) (fun hq hr ev h => by simp [go_sem, ((h.get 36 rfl).trans (gw_t (and_beq hq hr))), hwi, hwu, hi0, hi1, hi2, i64_and1, hbf, hbb]; try first | exact ⟨rfl, rfl⟩ | rfl) fun a71 hA71 => ?_
    refine wl_guard2 _ _ hA71 rfl rfl rfl rfl (by decide) (fun hq hr ev h => by simp [go_sem, (h.get 11 rfl), hwi, hwu, hi0, hi1, hi2, i64_and1, hbf, hbb]; try first | exact ⟨rfl, rfl⟩ | rfl) fun a72 hA72 => ?_
    refine wl_guard2 _ _ hA72 rfl rfl rfl rfl (by decide) (fun hq hr ev h => by first | exact pick_and rfl (((h.get 37 rfl).trans (gw_t (and_beq hq hr)))) (h.c _) (((h.get 38 rfl).trans (gw_a (and_beq hq hr)))) | exact pick_or rfl (((h.get 37 rfl).trans (gw_t (and_beq hq hr)))) (h.c _) (((h.get 38 rfl).trans (gw_a (and_beq hq hr)))) | (simp [go_sem, h.c, ((h.get 37 rfl).trans (gw_t (and_beq hq hr))), ((h.get 38 rfl).trans (gw_a (and_beq hq hr))), hwi, hwu, hi0, hi1, hi2, i64_and1, hbf, hbb, gv_or, gv_and]; try first | exact ⟨rfl, rfl⟩ | rfl)) fun a73 hA73 => ?_
    refine wl_guard _ hA73 rfl rfl rfl rfl (by decide) (fun hq ev h => by first | exact pick_and rfl (((h.get 35 rfl).trans (gw_t (beq_t hq)))) (((h.get 39 rfl).trans (gw_a (beq_t hq)))) (h.c _) | exact pick_or rfl (((h.get 35 rfl).trans (gw_t (beq_t hq)))) (((h.get 39 rfl).trans (gw_a (beq_t hq)))) (h.c _) | (simp [go_sem, h.c, ((h.get 35 rfl).trans (gw_t (beq_t hq))), ((h.get 39 rfl).trans (gw_a (beq_t hq))), hwi, hwu, hi0, hi1, hi2, i64_and1, hbf, hbb, gv_or, gv_and]; try first | exact ⟨rfl, rfl⟩ | rfl)) fun a74 hA74 => ?_
    refine wl_op hA74 rfl rfl (by decide) (fun ev h => by first | exact pick_and rfl (h.get 32 rfl) (h.c _) (h.get 40 rfl) | exact pick_or rfl (h.get 32 rfl) (h.c _) (h.get 40 rfl) | (simp [go_sem, h.c, h.get 32 rfl, h.get 40 rfl, hwi, hwu, hi0, hi1, hi2, i64_and1, hbf, hbb, gv_or, gv_and]; try first | exact ⟨rfl, rfl⟩ | rfl)) fun a75 hA75 => ?_
    refine wl_op hA75 rfl rfl (by decide) (fun ev h => by simp [go_sem, h.get 41 rfl, hwi, hwu, hi0, hi1, hi2, i64_and1, hbf, hbb]; try first | exact ⟨rfl, rfl⟩ | rfl) fun a76 hA76 => ?_
    refine wl_guard _ hA76 rfl rfl rfl rfl (by decide) (fun hq ev h => by simp [go_sem, (h.get 2 rfl), hwi, hwu, hi0, hi1, hi2, i64_and1, hbf, hbb]; try first | exact ⟨rfl, rfl⟩ | rfl) fun a77 hA77 => ?_
    refine wl_guard _ hA77 rfl rfl rfl rfl (by decide) (fun hq ev h => by simp [go_sem, h.c, ((h.get 43 rfl).trans (gw_t (beq_t hq))), hwi, hwu, hi0, hi1, hi2, i64_and1, hbf, hbb]; try first | exact ⟨rfl, rfl⟩ | rfl) fun a78 hA78 => ?_
    refine wl_guard _ hA78 rfl rfl rfl rfl (by decide) (fun hq ev h => by simp [go_sem, ((h.get 44 rfl).trans (gw_t (beq_t hq))), hwi, hwu, hi0, hi1, hi2, i64_and1, hbf, hbb]; try first | exact ⟨rfl, rfl⟩ | rfl) fun a79 hA79 => ?_
    refine wl_guard2 _ _ hA79 rfl rfl rfl rfl (by decide) (fun hq hr ev h => by simp [go_sem, (h.get 10 rfl), hwi, hwu, hi0, hi1, hi2, i64_and1, hbf, hbb]; try first | exact ⟨rfl, rfl⟩ | rfl) fun a80 hA80 => ?_
    refine wl_guard _ hA80 rfl rfl rfl rfl (by decide) (fun hq ev h => by first | exact pick_and rfl (((h.get 45 rfl).trans (gw_t (beq_t hq)))) (((h.get 46 rfl).trans (gw_a (beq_t hq)))) (h.c _) | exact pick_or rfl (((h.get 45 rfl).trans (gw_t (beq_t hq)))) (((h.get 46 rfl).trans (gw_a (beq_t hq)))) (h.c _) | (simp [go_sem, h.c, ((h.get 45 rfl).trans (gw_t (beq_t hq))), ((h.get 46 rfl).trans (gw_a (beq_t hq))), hwi, hwu, hi0, hi1, hi2, i64_and1, hbf, hbb, gv_or, gv_and]; try first | exact ⟨rfl, rfl⟩ | rfl)) fun a81 hA81 => ?_
    refine wl_guard _ hA81 rfl rfl rfl rfl (by decide) (fun hq ev h => by simp [go_sem, ((h.get 47 rfl).trans (gw_t (beq_t hq))), hwi, hwu, hi0, hi1, hi2, i64_and1, hbf, hbb]; try first | exact ⟨rfl, rfl⟩ | rfl) fun a82 hA82 => ?_
    refine wl_guard2 _ _ hA82 rfl rfl rfl rfl (by decide) (fun hq hr ev h => by simp [go_sem, (h.get 11 rfl), hwi, hwu, hi0, hi1, hi2, i64_and1, hbf, hbb]; try first | exact ⟨rfl, rfl⟩ | rfl) fun a83 hA83 => ?_
    refine wl_guard2 _ _ hA83 rfl rfl rfl rfl (by decide) (fun hq hr ev h => by simp [go_sem, ((h.get 49 rfl).trans (gw_t (and_beq hq hr))), hwi, hwu, hi0, hi1, hi2, i64_and1, hbf, hbb]; try first | exact ⟨rfl, rfl⟩ | rfl) fun a84 hA84 => ?_
    refine wl_guard _ hA84 rfl rfl rfl rfl (by decide) (fun hq ev h => by first | exact pick_and rfl (((h.get 48 rfl).trans (gw_t (beq_t hq)))) (((h.get 50 rfl).trans (gw_a (beq_t hq)))) (h.c _) | exact pick_or rfl (((h.get 48 rfl).trans (gw_t (beq_t hq)))) (((h.get 50 rfl).trans (gw_a (beq_t hq)))) (h.c _) | (simp [go_sem, h.c, ((h.get 48 rfl).trans (gw_t (beq_t hq))), ((h.get 50 rfl).trans (gw_a (beq_t hq))), hwi, hwu, hi0, hi1, hi2, i64_and1, hbf, hbb, gv_or, gv_and]; try first | exact ⟨rfl, rfl⟩ | rfl)) fun a85 hA85 => ?_
    refine wl_op hA85 rfl rfl (by decide) (fun ev h => by first | exact pick_and rfl (h.get 42 rfl) (h.c _) (h.get 51 rfl) | exact pick_or rfl (h.get 42 rfl) (h.c _) (h.get 51 rfl) | (simp [go_sem, h.c, h.get 42 rfl, h.get 51 rfl, hwi, hwu, hi0, hi1, hi2, i64_and1, hbf, hbb, gv_or, gv_and]; try first | exact ⟨rfl, rfl⟩ | rfl)) fun a86 hA86 => ?_
    refine wl_op hA86 rfl rfl (by decide) (fun ev h => by simp [go_sem, h.get 52 rfl, hwi, hwu, hi0, hi1, hi2, i64_and1, hbf, hbb]; try first | exact ⟨rfl, rfl⟩ | rfl) fun a87 hA87 => ?_
    refine wl_guard _ hA87 rfl rfl rfl rfl (by decide) (fun hq ev h => by simp [go_sem, (h.get 2 rfl), hwi, hwu, hi0, hi1, hi2, i64_and1, hbf, hbb]; try first | exact ⟨rfl, rfl⟩ | rfl) fun a88 hA88 => ?_
    refine wl_guard _ hA88 rfl rfl rfl rfl (by decide) (fun hq ev h => by simp [go_sem, h.c, ((h.get 54 rfl).trans (gw_t (beq_t hq))), hwi, hwu, hi0, hi1, hi2, i64_and1, hbf, hbb]; try first | exact ⟨rfl, rfl⟩ | rfl) fun a89 hA89 => ?_
    refine wl_guard _ hA89 rfl rfl rfl rfl (by decide) (fun hq ev h => by simp [go_sem, ((h.get 55 rfl).trans (gw_t (beq_t hq))), hwi, hwu, hi0, hi1, hi2, i64_and1, hbf, hbb]; try first | exact ⟨rfl, rfl⟩ | rfl) fun a90 hA90 => ?_
    refine wl_guard2 _ _ hA90 rfl rfl rfl rfl (by decide) (fun hq hr ev h => by simp [go_sem, (h.get 2 rfl), hwi, hwu, hi0, hi1, hi2, i64_and1, hbf, hbb]; try first | exact ⟨rfl, rfl⟩ | rfl) fun a91 hA91 => ?_
    refine wl_guard2 _ _ hA91 rfl rfl rfl rfl (by decide) (fun hq hr ev h => by simp [go_sem, h.c, ((h.get 57 rfl).trans (gw_t (and_beq hq hr))), hwi, hwu, hi0, hi1, hi2, i64_and1, hbf, hbb]; try first | exact ⟨rfl, rfl⟩ | rfl) fun a92 hA92 => ?_
    refine wl_guard _ hA92 rfl rfl rfl rfl (by decide) (fun hq ev h => by first | exact pick_and rfl (((h.get 56 rfl).trans (gw_t (beq_t hq)))) (h.c _) (((h.get 58 rfl).trans (gw_a (beq_t hq)))) | exact pick_or rfl (((h.get 56 rfl).trans (gw_t (beq_t hq)))) (h.c _) (((h.get 58 rfl).trans (gw_a (beq_t hq)))) | (simp [go_sem, h.c, ((h.get 56 rfl).trans (gw_t (beq_t hq))), ((h.get 58 rfl).trans (gw_a (beq_t hq))), hwi, hwu, hi0, hi1, hi2, i64_and1, hbf, hbb, gv_or, gv_and]; try first | exact ⟨rfl, rfl⟩ | rfl)) fun a93 hA93 => ?_
    refine wl_guard _ hA93 rfl rfl rfl rfl (by decide) (fun hq ev h => by simp [go_sem, ((h.get 59 rfl).trans (gw_t (beq_t hq))), hwi, hwu, hi0, hi1, hi2, i64_and1, hbf, hbb]; try first | exact ⟨rfl, rfl⟩ | rfl) fun a94 hA94 => ?_
    refine wl_guard2 _ _ hA94 rfl rfl rfl rfl (by decide) (fun hq hr ev h => by simp [go_sem, (h.get 10 rfl), hwi, hwu, hi0, hi1, hi2, i64_and1, hbf, hbb]; try first | exact ⟨rfl, rfl⟩ | rfl) fun a95 hA95 => ?_
    refine wl_guard _ hA95 rfl rfl rfl rfl (by decide) (fun hq ev h => by first | exact pick_and rfl (((h.get 60 rfl).trans (gw_t (beq_t hq)))) (((h.get 61 rfl).trans (gw_a (beq_t hq)))) (h.c _) | exact pick_or rfl (((h.get 60 rfl).trans (gw_t (beq_t hq)))) (((h.get 61 rfl).trans (gw_a (beq_t hq)))) (h.c _) | (simp [go_sem, h.c, ((h.get 60 rfl).trans (gw_t (beq_t hq))), ((h.get 61 rfl).trans (gw_a (beq_t hq))), hwi, hwu, hi0, hi1, hi2, i64_and1, hbf, hbb, gv_or, gv_and]; try first | exact ⟨rfl, rfl⟩ | rfl)) fun a96 hA96 => ?_
    refine wl_op hA96 rfl rfl (by decide) (fun ev h => by first | exact pick_and rfl (h.get 53 rfl) (h.c _) (h.get 62 rfl) | exact pick_or rfl (h.get 53 rfl) (h.c _) (h.get 62 rfl) | (simp [go_sem, h.c, h.get 53 rfl, h.get 62 rfl, hwi, hwu, hi0, hi1, hi2, i64_and1, hbf, hbb, gv_or, gv_and]; try first | exact ⟨rfl, rfl⟩ | rfl)) fun a97 hA97 => ?_
    refine wl_nil ?_
    refine n_then ?_
    have hA98 := hA97.keep [0, 1, 2, 7, 8, 12, 63]
    simp only [argsE, keepE, lookS, Nat.reduceBEq, cond_true, cond_false, Nat.reduceAdd, gv_tt, gv_ff, Bool.true_and, Bool.false_and, Bool.true_or, Bool.false_or] at hA98
    clear hA60 hA61 hA62 hA63 hA64 hA65 hA66 hA67 hA68 hA69 hA70 hA71 hA72 hA73 hA74 hA75 hA76 hA77 hA78 hA79 hA80 hA81 hA82 hA83 hA84 hA85 hA86 hA87 hA88 hA89 hA90 hA91 hA92 hA93 hA94 hA95 hA96 hA97 a59 a61 a62 a63 a64 a65 a66 a67 a68 a69 a70 a71 a72 a73 a74 a75 a76 a77 a78 a79 a80 a81 a82 a83 a84 a85 a86 a87 a88 a89 a90 a91 a92 a93 a94 a95 a96
    -- cond
    rw [chE] at hA98
    have hS3 : chSum f b how (i + 1) = S + nOf (chB how (bitI f i) (bitI b i)) P := by rw [hS, hP]; rfl
    have hP3 : P * 2 = 2 ^ (i + 1) := by rw [hP, Nat.pow_succ]
    refine wp_if hA98 63 _ rfl (fun hq2 => ?yR) (fun hq2 => ?nR)
    case yR =>
      rw [hq2] at hS3
      refine wp_region_lit ?_
      refine wl_op hA98 rfl rfl (by decide) (fun ev h => by simp [go_sem, h.get 7 rfl, hwi, hwS, hwP]; try first | exact ⟨rfl, rfl⟩ | rfl) fun a99 hA99 => ?_
      refine wl_op hA99 rfl rfl (by decide) (fun ev h => by simp [go_sem, h.get 8 rfl, hwi, hwS, hwP]; try first | exact ⟨rfl, rfl⟩ | rfl) fun a100 hA100 => ?_
      refine wl_op hA100 rfl rfl (by decide) (fun ev h => by simp [go_sem, h.get 64 rfl, h.get 65 rfl, hwi, hwS, hwP]; try first | exact ⟨rfl, rfl⟩ | rfl) fun a101 hA101 => ?_
      refine wl_op hA101 rfl rfl (by decide) (fun ev h => by simp [go_sem, h.get 66 rfl, hwi, hwS, hwP]; try first | exact ⟨rfl, rfl⟩ | rfl) fun a102 hA102 => ?_
      refine wl_nil ?_
      refine n_then ?_
      have hA103 := hA102.keep [0, 1, 2, 7, 8, 12]
      simp only [argsE, keepE, lookS, Nat.reduceBEq, cond_true, cond_false, Nat.reduceAdd, gv_tt, gv_ff, Bool.true_and, Bool.false_and, Bool.true_or, Bool.false_or] at hA103
      clear hA98 hA99 hA100 hA101 hA102 a99 a100 a101
      refine wp_region_lit ?_
      refine wl_op hA103 rfl rfl (by decide) (fun ev h => by simp [go_sem, h.get 8 rfl, hwi, hwS, hwP]; try first | exact ⟨rfl, rfl⟩ | rfl) fun a104 hA104 => ?_
      refine wl_op hA104 rfl rfl (by decide) (fun ev h => by simp [go_sem, h.c, h.get 67 rfl, hwi, hwS, hwP]; try first | exact ⟨rfl, rfl⟩ | rfl) fun a105 hA105 => ?_
      refine wl_op hA105 rfl rfl (by decide) (fun ev h => by simp [go_sem, h.get 68 rfl, hwi, hwS, hwP]; try first | exact ⟨rfl, rfl⟩ | rfl) fun a106 hA106 => ?_
      refine wl_nil ?_
      refine n_block ?_
      refine n_then ?_
      have hA107 := hA106.keep [0, 1, 2, 7, 8, 12]
      simp only [argsE, keepE, lookS, Nat.reduceBEq, cond_true, cond_false, Nat.reduceAdd, gv_tt, gv_ff, Bool.true_and, Bool.false_and, Bool.true_or, Bool.false_or] at hA107
      clear hA103 hA104 hA105 hA106 a102 a104 a105
      refine wp_region_lit ?_
      refine wl_op hA107 rfl rfl (by decide) (fun ev h => by simp [go_sem, h.c, h.get 12 rfl, hwi, hwS, hwP]; try first | exact ⟨rfl, rfl⟩ | rfl) fun a108 hA108 => ?_
      refine wl_op hA108 rfl rfl (by decide) (fun ev h => by simp [go_sem, h.get 69 rfl, hwi, hwS, hwP]; try first | exact ⟨rfl, rfl⟩ | rfl) fun a109 hA109 => ?_
      refine wl_nil ?_
      refine n_then ?_
      have hA110 := hA109.keep [0, 1, 2, 7, 8, 12]
      simp only [argsE, keepE, lookS, Nat.reduceBEq, cond_true, cond_false, Nat.reduceAdd, gv_tt, gv_ff, Bool.true_and, Bool.false_and, Bool.true_or, Bool.false_or] at hA110
      clear hA107 hA108 hA109 a106 a108
      -- round
      rw [show ((i : Int) + 1) = ((i + 1 : Nat) : Int) by omega, show (S : Int) + (P : Int) = ((S + P : Nat) : Int) by omega, show (P : Int) * 2 = ((P * 2 : Nat) : Int) by omega] at hA110
      exact ⟨k - 1, by omega, i + 1, S + P, P * 2, by omega, hA110, by rw [hS3]; rfl, hP3, rfl⟩
    case nR =>
      rw [hq2] at hS3
      refine wp_skip ?_
      refine n_then ?_
      refine wp_region_lit ?_
      refine wl_op hA98 rfl rfl (by decide) (fun ev h => by simp [go_sem, h.get 8 rfl, hwi, hwS, hwP]; try first | exact ⟨rfl, rfl⟩ | rfl) fun a111 hA111 => ?_
      refine wl_op hA111 rfl rfl (by decide) (fun ev h => by simp [go_sem, h.c, h.get 67 rfl, hwi, hwS, hwP]; try first | exact ⟨rfl, rfl⟩ | rfl) fun a112 hA112 => ?_
      refine wl_op hA112 rfl rfl (by decide) (fun ev h => by simp [go_sem, h.get 68 rfl, hwi, hwS, hwP]; try first | exact ⟨rfl, rfl⟩ | rfl) fun a113 hA113 => ?_
      refine wl_nil ?_
      refine n_block ?_
      refine n_then ?_
      have hA114 := hA113.keep [0, 1, 2, 7, 8, 12]
      simp only [argsE, keepE, lookS, Nat.reduceBEq, cond_true, cond_false, Nat.reduceAdd, gv_tt, gv_ff, Bool.true_and, Bool.false_and, Bool.true_or, Bool.false_or] at hA114
      clear hA98 hA111 hA112 hA113 a111 a112
      refine wp_region_lit ?_
      refine wl_op hA114 rfl rfl (by decide) (fun ev h => by simp [go_sem, h.c, h.get 12 rfl, hwi, hwS, hwP]; try first | exact ⟨rfl, rfl⟩ | rfl) fun a115 hA115 => ?_
      refine wl_op hA115 rfl rfl (by decide) (fun ev h => by simp [go_sem, h.get 69 rfl, hwi, hwS, hwP]; try first | exact ⟨rfl, rfl⟩ | rfl) fun a116 hA116 => ?_
      refine wl_nil ?_
      refine n_then ?_
      have hA117 := hA116.keep [0, 1, 2, 7, 8, 12]
      simp only [argsE, keepE, lookS, Nat.reduceBEq, cond_true, cond_false, Nat.reduceAdd, gv_tt, gv_ff, Bool.true_and, Bool.false_and, Bool.true_or, Bool.false_or] at hA117
      clear hA114 hA115 hA116 a113 a115
      -- round
      rw [show ((i : Int) + 1) = ((i + 1 : Nat) : Int) by omega, show (P : Int) * 2 = ((P * 2 : Nat) : Int) by omega] at hA117
      exact ⟨k - 1, by omega, i + 1, S, P * 2, by omega, hA117, by rw [hS3]; rfl, hP3, rfl⟩
  case nL =>
    obtain rfl : i = 5 := by simp at hq; omega
    refine wp_exit ?_
    refine x_then ?_
    refine x_then ?_
    refine x_block ?_
    refine n_then ?_
    have hA118 := hA42.keep [7]
    simp only [argsE, keepE, lookS, Nat.reduceBEq, cond_true, cond_false, Nat.reduceAdd, gv_tt, gv_ff, Bool.true_and, Bool.false_and, Bool.true_or, Bool.false_or] at hA118
    clear hA42
    refine wp_seq ?_
    refine wp_region_lit ?_
    refine wl_op hA118 rfl rfl (by decide) (fun ev h => by simp [go_sem, h.get 7 rfl]; try first | exact ⟨rfl, rfl⟩ | rfl) fun a119 hA119 => ?_
    refine wl_op hA119 rfl rfl (by decide) (fun ev h => by simp [go_sem, h.get 70 rfl]; try first | exact ⟨rfl, rfl⟩ | rfl) fun a120 hA120 => ?_
    refine wl_nil ?_
    refine n_then ?_
    have hA121 := hA120.keep [6]
    simp only [argsE, keepE, lookS, Nat.reduceBEq, cond_true, cond_false, Nat.reduceAdd, gv_tt, gv_ff, Bool.true_and, Bool.false_and, Bool.true_or, Bool.false_or] at hA121
    clear hA118 hA119 hA120 a119
    refine wp_ret ?_
    refine ret_1 hA121 6 rfl rfl ?_
    exact ⟨by rw [hS]; rfl, Below.refl _ _⟩
end Go.Proofs.YtbbhblnhbgkcaaaDoor
