/-
  Walk: the note of a payload.
-/
import Derived.Test.YtmjikfeaopmejaaDoorNoteEnc
import Derived.Test.YtmjikfeaopmejaaDoorIn3
namespace Go.Proofs.YtmjikfeaopmejaaDoor
open Go.RowKit
set_option linter.unusedSimpArgs false
set_option linter.unusedVariables false
/-- what is read, part by part -/
def rd1 (p : List UInt8) : Nat × InM := inN ⟨p, false⟩ 4
def rd2 (k : Int) (p : List UInt8) : Nat × InM := bif k == 1 then (0, (rd1 p).2) else inN (rd1 p).2 4
def rd3 (k : Int) (p : List UInt8) : (Nat × Nat) × InM := bif k == 2 then (((inN (rd2 k p).2 6).1, (inN (inN (rd2 k p).2 6).2 1).1), (inN (inN (rd2 k p).2 6).2 1).2) else ((0, 0), (rd2 k p).2)
def rd4 (k : Int) (p : List UInt8) : ByteArray × InM := bif k == 3 then (⟨#[]⟩, (rd3 k p).2) else inText (rd3 k p).2
def rd5 (k : Int) (p : List UInt8) : List UInt8 × InM := inTake (rd4 k p).2 ((rd4 k p).2.rest.length : Nat)
/-- what is read: a message -/
def rdM (k : Int) (p : List UInt8) (a : Option Addr) (c : Nat) : MsgV := ⟨(rd2 k p).1, ((rd3 k p).1.1 : Nat), ((rd3 k p).1.2 : Nat), a, c, (rd5 k p).1⟩
/-- is it a note's? -/
def decOk (k : Int) (p : List UInt8) : Bool := !(rd5 k p).2.bad && (formedV k (rd1 p).1 (rd4 k p).1 (rdM k p none 0) && (encV k (rd1 p).1 (rd4 k p).1 (rdM k p none 0) == p))
theorem formed_ac (k : Int) (e : Nat) (nm : ByteArray) (p : List UInt8) (a : Option Addr) (c : Nat) : formedV k e nm (rdM k p a c) = formedV k e nm (rdM k p none 0) := rfl
theorem enc_ac (k : Int) (e : Nat) (nm : ByteArray) (p : List UInt8) (a : Option Addr) (c : Nat) : encV k e nm (rdM k p a c) = encV k e nm (rdM k p none 0) := rfl
theorem inN_rest (s : InM) (n : Nat) : (inN s n).2.rest.length ≤ s.rest.length := inTake_rest s n
theorem rd2_rest (k : Int) (p : List UInt8) : (rd2 k p).2.rest.length ≤ p.length := by
  have h1 : (rd1 p).2.rest.length ≤ p.length := inN_rest _ _
  unfold rd2
  cases k == 1
  · exact Nat.le_trans (inN_rest _ _) h1
  · exact h1
theorem rd3_rest (k : Int) (p : List UInt8) : (rd3 k p).2.rest.length ≤ p.length := by
  have h2 := rd2_rest k p
  unfold rd3
  cases k == 2
  · exact h2
  · exact Nat.le_trans (inN_rest _ _) (Nat.le_trans (inN_rest _ _) h2)
theorem rd4_rest (k : Int) (p : List UInt8) : (rd4 k p).2.rest.length ≤ p.length := by
  have h3 := rd3_rest k p
  unfold rd4
  cases k == 3
  · exact Nat.le_trans (inText_rest _) h3
  · exact h3
theorem rd2_lt (k : Int) (p : List UInt8) : (rd2 k p).1 < 4294967296 := by
  unfold rd2
  cases k == 1
  · exact inN_lt _ 4
  · show (0 : Nat) < _
    decide
theorem rd3_lt (k : Int) (p : List UInt8) : (rd3 k p).1.1 < 281474976710656 ∧ (rd3 k p).1.2 < 256 := by
  unfold rd3
  cases k == 2
  · exact ⟨show (0 : Nat) < _ by decide, show (0 : Nat) < _ by decide⟩
  · exact ⟨inN_lt _ 6, inN_lt _ 1⟩
theorem text_small (s : InM) : (inText s).1.size < 65536 := by
  have h1 := inN_lt s 2
  have h2 := inTake_len (inN s 2).2 (inN s 2).1
  have h3 : (inText s).1.size = (inTake (inN s 2).2 (inN s 2).1).1.length := by
    show (List.toArray _).size = _
    rw [List.size_toArray]
  rw [h3]
  exact Nat.lt_of_le_of_lt h2 h1
theorem rd4_size (k : Int) (p : List UInt8) : (rd4 k p).1.size < 65536 := by
  unfold rd4
  cases k == 3
  · exact text_small _
  · show (0 : Nat) < _
    decide
theorem own8_at {B n c : Nat} {w : World} {A : Option Addr} {l : List UInt8} (h : Own8 B w (.slice A n c) l) : Reads w w.heap.size 1 A l.length (u8s l) := by
  obtain ⟨A', c', e, hr⟩ := h.took
  injection e with e1
  subst e1
  exact hr
def noteZ : Array Value := #[.int .i64 0, .int .u32 0, .string ⟨#[]⟩, .int .u32 0, .int .i64 0, .int .i64 0, .slice none 0 0]
set_option maxRecDepth 100000 in
set_option maxHeartbeats 4000000 in
theorem decode_any (k : Int) (A : Option Addr) (n c : Nat) (p : List UInt8) (hl : p.length = n) (hn : n ≤ 1000000) (w : World) (hm : MaxCell w) (hg : 2 < w.heap.size) (htab : Lib.TabIs Tryd.prog w "internal/strconv.uint64pow10" .u64 Lib.pow10Tab) (hr : Reads w w.heap.size 1 A n (u8s p)) :
    Calls Tryd.prog 5 #[.int .i64 k, .slice A n c] w fun ev w' => ∃ a c', ev = .returned (.tuple #[.agg (bif decOk k p then noteC k (rd1 p).1 (rd4 k p).1 (rdM k p a c') else noteZ), .int .i64 (bif decOk k p then 0 else 2)]) ∧ (decOk k p = true → Reads w' w'.heap.size 1 a (rd5 k p).1.length (u8s (rd5 k p).1)) ∧ Below w.heap.size w w' := by
  have Ht := Lib.tabBelow_of_tabIs htab
  have q1 : (rd1 p).1 < 4294967296 := inN_lt _ 4
  have q1r : (rd1 p).2.rest.length ≤ p.length := inN_rest _ _
  have q2 := rd2_lt k p
  have q2r := rd2_rest k p
  obtain ⟨q3a, q3b⟩ := rd3_lt k p
  have q3r := rd3_rest k p
  have q4 := rd4_size k p
  have q4r := rd4_rest k p
  obtain ⟨Z, hZ⟩ : ∃ Z : Array Value, Z = noteZ := ⟨_, rfl⟩
  have HB0 := Below.refl w.heap.size w
  refine calls_at 68 Tryd.func5 rfl rfl (Nat.le_of_ble_eq_true rfl) ?_
  intro a hA
  simp only [argsE, keepE, lookS, Nat.reduceBEq, cond_true, cond_false, Nat.reduceAdd, gv_tt, gv_ff, Bool.true_and, Bool.false_and, Bool.true_or, Bool.false_or] at hA
  refine wp_seq ?_
  refine wp_region_lit ?_
  -- stop alloc slot 4
  refine wl_new hA rfl rfl (by decide) (fun ev h => by simp [go_sem]; try first | exact ⟨rfl, rfl⟩ | rfl) fun w1 a1 (K4 : Blk _ _ _ _) hz1 hb0 hA1 => ?_
  obtain ⟨g4, hg4⟩ : ∃ g4, w.heap.size = g4 := ⟨_, rfl⟩
  rw [hg4] at K4 hA1
  have h4 : g4 < w1.heap.size := by omega
  have HB : Below w.heap.size w w1 := hb0
  refine wl_op hA1 rfl rfl (by decide) (fun ev h => by simp [go_sem, h.c]; try first | exact ⟨rfl, rfl⟩ | rfl) fun a2 hA2 => ?_
  refine wl_nil ?_
  refine n_then ?_
  have hA3 := hA2.keep [0, 1, 4]
  simp only [argsE, keepE, lookS, Nat.reduceBEq, cond_true, cond_false, Nat.reduceAdd, gv_tt, gv_ff, Bool.true_and, Bool.false_and, Bool.true_or, Bool.false_or] at hA3
  clear hA hA1 hA2 a1
  refine wp_seq ?_
  refine wp_region_lit ?_
  refine wl_op hA3 rfl rfl (by decide) (fun ev h => by simp [go_sem, h.get 1 rfl]; try first | exact ⟨rfl, rfl⟩ | rfl) fun a4 hA4 => ?_
  -- stop call slot 11
  refine wl_call hA4 rfl rfl (by decide) (fun ev h => by simp [go_sem, h.get 10 rfl, h.f]; try first | exact ⟨rfl, rfl⟩ | rfl) (in_new A n c p hl hn _ ((hr.below hb0).more hb0.size)) ?_
  rintro e w2 ⟨i, v1, rfl, hI, hi, hb⟩
  refine ⟨_, rfl, fun a5 hA5 => ?_⟩
  replace K4 := K4.below hb K4.lt
  replace HB := HB.trans (hb.mono HB.size)
  have h4i : g4 ≠ i := by omega
  refine wl_op hA5 rfl rfl (by decide) (fun ev h => by simp [go_sem, h.get 11 rfl]; try first | exact ⟨rfl, rfl⟩ | rfl) fun a6 hA6 => ?_
  refine wl_nil ?_
  refine n_then ?_
  have hA7 := hA6.keep [0, 1, 4, 6]
  simp only [argsE, keepE, lookS, Nat.reduceBEq, cond_true, cond_false, Nat.reduceAdd, gv_tt, gv_ff, Bool.true_and, Bool.false_and, Bool.true_or, Bool.false_or] at hA7
  clear hA3 hA4 hA5 hA6 a2 a4 a5
  refine wp_seq ?_
  refine wp_region_lit ?_
  refine wl_op hA7 rfl rfl (by decide) (fun ev h => by simp [go_sem, h.get 0 rfl]; try first | exact ⟨rfl, rfl⟩ | rfl) fun a8 hA8 => ?_
  refine wl_op hA8 rfl rfl (by decide) (fun ev h => by simp [go_sem, h.get 6 rfl]; try first | exact ⟨rfl, rfl⟩ | rfl) fun a9 hA9 => ?_
  -- stop call slot 14
  refine wl_call hA9 rfl rfl (by decide) (fun ev h => by simp [go_sem, h.c, h.get 13 rfl, h.f]; try first | exact ⟨rfl, rfl⟩ | rfl) (in_N hI (by show p.length ≤ _; omega) 4 (by omega)) ?_
  rintro e w3 ⟨rfl, ⟨v2, hI⟩, hib⟩
  refine ⟨_, rfl, fun a10 hA10 => ?_⟩
  replace K4 := K4.ibut hib h4i
  replace HB := HB.trans (hib.toBelow HB.size (by omega))
  rw [show (inN ⟨p, false⟩ 4) = rd1 p from rfl] at hI hA10
  have hw1 : IntKind.u32.wrap ((rd1 p).1 : Int) = ((rd1 p).1 : Int) := IntWalk.u32_in _ (by omega)
  refine wl_op hA10 rfl rfl (by decide) (fun ev h => by simp [go_sem, h.get 14 rfl, hw1]; try first | exact ⟨rfl, rfl⟩ | rfl) fun a11 hA11 => ?_
  refine wl_op hA11 rfl rfl (by decide) (fun ev h => by simp [go_sem, h.get 12 rfl, h.get 15 rfl, hw1]; try first | exact ⟨rfl, rfl⟩ | rfl) fun a12 hA12 => ?_
  -- stop alloc slot 7
  have hi3 := hI.cells.lt
  refine wl_local [.int .i64 k, .int .u32 ((rd1 p).1 : Nat), .string ⟨#[]⟩, .int .u32 0, .int .i64 0, .int .i64 0, .slice none 0 0] hA12 rfl rfl (by decide) (fun ev h => by simp [go_sem, hw1]; try first | exact ⟨rfl, rfl⟩ | rfl) rfl rfl (by rfl) (fun w1 g ev hb h => by simp [go_sem, h.get 7 rfl, h.get 16 rfl, hw1, setAll, hb.cell, hb.frozen]) fun w4 a13 (K7 : Blk _ _ _ _) hz4 hb4 hA13 => ?_
  replace K4 := K4.below hb4 K4.lt
  replace HB := HB.trans (hb4.mono HB.size)
  replace hI := hI.below hb4
  obtain ⟨g7, hg7⟩ : ∃ g7, w3.heap.size = g7 := ⟨_, rfl⟩
  have h3w := HB.size
  rw [hg7] at K7 hA13 hi3
  have h47 : g4 ≠ g7 := by have := K4.lt; omega
  have hi7 : i ≠ g7 := by omega
  have hw7 : w.heap.size ≤ g7 := by omega
  have hw4 : w.heap.size ≤ i := by omega
  refine wl_nil ?_
  refine n_then ?_
  have hA14 := hA13.keep [0, 1, 4, 6, 7]
  simp only [argsE, keepE, lookS, Nat.reduceBEq, cond_true, cond_false, Nat.reduceAdd, gv_tt, gv_ff, Bool.true_and, Bool.false_and, Bool.true_or, Bool.false_or] at hA14
  clear hA7 hA8 hA9 hA10 hA11 hA12 hA13 a6 a8 a9 a10 a11 a12
  refine wp_seq ?_
  refine wp_seq ?_
  refine wp_region_lit ?_
  refine wl_op hA14 rfl rfl (by decide) (fun ev h => by simp [go_sem, h.get 0 rfl, hw1]; try first | exact ⟨rfl, rfl⟩ | rfl) fun a15 hA15 => ?_
  refine wl_op hA15 rfl rfl (by decide) (fun ev h => by simp [go_sem, h.c, h.get 17 rfl, hw1]; try first | exact ⟨rfl, rfl⟩ | rfl) fun a16 hA16 => ?_
  refine wl_nil ?_
  refine n_then ?_
  have hA17 := hA16.keep [0, 1, 4, 6, 7, 18]
  simp only [argsE, keepE, lookS, Nat.reduceBEq, cond_true, cond_false, Nat.reduceAdd, gv_tt, gv_ff, Bool.true_and, Bool.false_and, Bool.true_or, Bool.false_or] at hA17
  clear hA14 hA15 hA16 a13 a15
  -- cond
  refine wp_join (fun a wx => ∃ v, At 68 [(0, .int .i64 k), (1, .slice A n c), (4, .pointer (some ⟨g4, 0, none⟩)), (6, .pointer (some ⟨i, 0, none⟩)), (7, .pointer (some ⟨g7, 0, none⟩))] a ∧ InAt wx i (rd2 k p).2 v ∧ Blk wx g4 28 noteZ ∧ Blk wx g7 28 #[.int .i64 k, .int .u32 ((rd1 p).1 : Nat), .string ⟨#[]⟩, .int .u32 ((rd2 k p).1 : Nat), .int .i64 0, .int .i64 0, .slice none 0 0] ∧ Below w.heap.size w wx) ?jfJ ?jrJ
  case jfJ =>
    refine wp_if hA17 18 _ rfl (fun hq => ?yD) (fun hq => ?nD)
    case yD =>
      have hq : (k == 1) = false := by simpa using hq
      have e2 : rd2 k p = inN (rd1 p).2 4 := by unfold rd2; rw [hq, cond_false]
      refine wp_region_lit ?_
      refine wl_op hA17 rfl rfl (by decide) (fun ev h => by simp [go_sem, h.get 6 rfl, hw1]; try first | exact ⟨rfl, rfl⟩ | rfl) fun a18 hA18 => ?_
      -- stop call slot 20
      refine wl_call hA18 rfl rfl (by decide) (fun ev h => by simp [go_sem, h.c, h.get 19 rfl, hw1, h.f]; try first | exact ⟨rfl, rfl⟩ | rfl) (in_N hI (by omega) 4 (by omega)) ?_
      rintro e w5 ⟨rfl, ⟨v5, hI⟩, hib⟩
      refine ⟨_, rfl, fun a19 hA19 => ?_⟩
      rw [← e2] at hI hA19
      replace K4 := K4.ibut hib h4i
      replace K7 := K7.ibut hib hi7.symm
      replace HB := HB.trans (hib.toBelow HB.size hw4)
      have hw2 : IntKind.u32.wrap ((rd2 k p).1 : Int) = ((rd2 k p).1 : Int) := IntWalk.u32_in _ (by omega)
      refine wl_op hA19 rfl rfl (by decide) (fun ev h => by simp [go_sem, h.get 20 rfl, hw2]; try first | exact ⟨rfl, rfl⟩ | rfl) fun a20 hA20 => ?_
      refine wl_op hA20 rfl rfl (by decide) (fun ev h => by simp [go_sem, h.get 7 rfl, hw2]; try first | exact ⟨rfl, rfl⟩ | rfl) fun a21 hA21 => ?_
      refine wl_op hA21 rfl rfl (by decide) (fun ev h => by simp [go_sem, h.get 22 rfl, hw2]; try first | exact ⟨rfl, rfl⟩ | rfl) fun a22 hA22 => ?_
      -- stop store slot None
      have K7b := K7
      refine wl_setf [.int .i64 k, .int .u32 ((rd1 p).1 : Nat), .string ⟨#[]⟩, .int .u32 ((rd2 k p).1 : Nat), .int .i64 0, .int .i64 0, .slice none 0 0] _ hA22 rfl rfl K7 (j := 3) (by rfl) (fun ev h => by simp [go_sem, h.get 23 rfl, h.get 21 rfl, hw2, K7.cell, K7.frozen]; try first | exact ⟨rfl, rfl⟩ | rfl) fun w6 (K7 : Blk _ _ _ _) hs => ?_
      refine wl_nil ?_
      refine n_then ?_
      have hA23 := hA22.keep [0, 1, 4, 6, 7]
      simp only [argsE, keepE, lookS, Nat.reduceBEq, cond_true, cond_false, Nat.reduceAdd, gv_tt, gv_ff, Bool.true_and, Bool.false_and, Bool.true_or, Bool.false_or] at hA23
      clear hA17 hA18 hA19 hA20 hA21 hA22 a18 a19 a20 a21
      -- joined
      exact ⟨_, hA23, hI.only hs hi7 K7b (by decide), hs.blk K4 h47, K7, hs.below HB hw7⟩
    case nD =>
      have hq : (k == 1) = true := by simpa using hq
      have e2 : rd2 k p = (0, (rd1 p).2) := by unfold rd2; rw [hq, cond_true]
      refine wp_skip ?_
      refine n_then ?_
      have hA24 := hA17.keep [0, 1, 4, 6, 7]
      simp only [argsE, keepE, lookS, Nat.reduceBEq, cond_true, cond_false, Nat.reduceAdd, gv_tt, gv_ff, Bool.true_and, Bool.false_and, Bool.true_or, Bool.false_or] at hA24
      clear hA17
      -- joined
      rw [e2]
      exact ⟨_, hA24, hI, K4, K7, HB⟩
  clear hI K4 K7 HB
  rintro a wx ⟨v7, hA, hI, K4, K7, HB⟩
  refine wp_seq ?_
  refine wp_seq ?_
  refine wp_region_lit ?_
  refine wl_op hA rfl rfl (by decide) (fun ev h => by simp [go_sem, h.get 0 rfl, hw1]; try first | exact ⟨rfl, rfl⟩ | rfl) fun a25 hA25 => ?_
  refine wl_op hA25 rfl rfl (by decide) (fun ev h => by simp [go_sem, h.c, h.get 24 rfl, hw1]; try first | exact ⟨rfl, rfl⟩ | rfl) fun a26 hA26 => ?_
  refine wl_nil ?_
  refine n_then ?_
  have hA27 := hA26.keep [0, 1, 4, 6, 7, 25]
  simp only [argsE, keepE, lookS, Nat.reduceBEq, cond_true, cond_false, Nat.reduceAdd, gv_tt, gv_ff, Bool.true_and, Bool.false_and, Bool.true_or, Bool.false_or] at hA27
  clear hA hA25 hA26 a25
  -- cond
  refine wp_join (fun a wx => ∃ v, At 68 [(0, .int .i64 k), (1, .slice A n c), (4, .pointer (some ⟨g4, 0, none⟩)), (6, .pointer (some ⟨i, 0, none⟩)), (7, .pointer (some ⟨g7, 0, none⟩))] a ∧ InAt wx i (rd3 k p).2 v ∧ Blk wx g4 28 noteZ ∧ Blk wx g7 28 #[.int .i64 k, .int .u32 ((rd1 p).1 : Nat), .string ⟨#[]⟩, .int .u32 ((rd2 k p).1 : Nat), .int .i64 ((rd3 k p).1.1 : Nat), .int .i64 ((rd3 k p).1.2 : Nat), .slice none 0 0] ∧ Below w.heap.size w wx) ?jfL ?jrL
  case jfL =>
    refine wp_if hA27 25 _ rfl (fun hq => ?yD2) (fun hq => ?nD2)
    case yD2 =>
      have e3 : rd3 k p = (((inN (rd2 k p).2 6).1, (inN (inN (rd2 k p).2 6).2 1).1), (inN (inN (rd2 k p).2 6).2 1).2) := by unfold rd3; rw [hq, cond_true]
      rw [e3]
      have q6 := inN_rest (rd2 k p).2 6
      refine wp_region_lit ?_
      refine wl_op hA27 rfl rfl (by decide) (fun ev h => by simp [go_sem, h.get 6 rfl, hw1]; try first | exact ⟨rfl, rfl⟩ | rfl) fun a28 hA28 => ?_
      -- stop call slot 27
      refine wl_call hA28 rfl rfl (by decide) (fun ev h => by simp [go_sem, h.c, h.get 26 rfl, hw1, h.f]; try first | exact ⟨rfl, rfl⟩ | rfl) (in_N hI (by omega) 6 (by omega)) ?_
      rintro e w8 ⟨rfl, ⟨v8, hI⟩, hib⟩
      refine ⟨_, rfl, fun a29 hA29 => ?_⟩
      replace K4 := K4.ibut hib h4i
      replace K7 := K7.ibut hib hi7.symm
      replace HB := HB.trans (hib.toBelow HB.size hw4)
      refine wl_op hA29 rfl rfl (by decide) (fun ev h => by simp [go_sem, h.get 6 rfl, hw1]; try first | exact ⟨rfl, rfl⟩ | rfl) fun a30 hA30 => ?_
      -- stop call slot 29
      refine wl_call hA30 rfl rfl (by decide) (fun ev h => by simp [go_sem, h.c, h.get 28 rfl, hw1, h.f]; try first | exact ⟨rfl, rfl⟩ | rfl) (in_N hI (by omega) 1 (by omega)) ?_
      rintro e w9 ⟨rfl, ⟨v9, hI⟩, hib⟩
      refine ⟨_, rfl, fun a31 hA31 => ?_⟩
      replace K4 := K4.ibut hib h4i
      replace K7 := K7.ibut hib hi7.symm
      replace HB := HB.trans (hib.toBelow HB.size hw4)
      refine wl_op hA31 rfl rfl (by decide) (fun ev h => by simp [go_sem, h.get 7 rfl, hw1]; try first | exact ⟨rfl, rfl⟩ | rfl) fun a32 hA32 => ?_
      refine wl_op hA32 rfl rfl (by decide) (fun ev h => by simp [go_sem, h.get 30 rfl, hw1]; try first | exact ⟨rfl, rfl⟩ | rfl) fun a33 hA33 => ?_
      -- stop store slot None
      have K7b := K7
      refine wl_setf [.int .i64 k, .int .u32 ((rd1 p).1 : Nat), .string ⟨#[]⟩, .int .u32 ((rd2 k p).1 : Nat), .int .i64 ((inN (rd2 k p).2 6).1 : Nat), .int .i64 0, .slice none 0 0] _ hA33 rfl rfl K7 (j := 4) (by rfl) (fun ev h => by simp [go_sem, h.get 31 rfl, h.get 27 rfl, hw1, K7.cell, K7.frozen]; try first | exact ⟨rfl, rfl⟩ | rfl) fun w10 (K7 : Blk _ _ _ _) hs => ?_
      replace hI := hI.only hs hi7 K7b (by decide)
      replace K4 := hs.blk K4 h47
      replace HB := hs.below HB hw7
      refine wl_op hA33 rfl rfl (by decide) (fun ev h => by simp [go_sem, h.get 7 rfl, hw1]; try first | exact ⟨rfl, rfl⟩ | rfl) fun a34 hA34 => ?_
      refine wl_op hA34 rfl rfl (by decide) (fun ev h => by simp [go_sem, h.get 32 rfl, hw1]; try first | exact ⟨rfl, rfl⟩ | rfl) fun a35 hA35 => ?_
      -- stop store slot None
      have K7b := K7
      refine wl_setf [.int .i64 k, .int .u32 ((rd1 p).1 : Nat), .string ⟨#[]⟩, .int .u32 ((rd2 k p).1 : Nat), .int .i64 ((inN (rd2 k p).2 6).1 : Nat), .int .i64 ((inN (inN (rd2 k p).2 6).2 1).1 : Nat), .slice none 0 0] _ hA35 rfl rfl K7 (j := 5) (by rfl) (fun ev h => by simp [go_sem, h.get 33 rfl, h.get 29 rfl, hw1, K7.cell, K7.frozen]; try first | exact ⟨rfl, rfl⟩ | rfl) fun w11 (K7 : Blk _ _ _ _) hs => ?_
      refine wl_nil ?_
      refine n_then ?_
      have hA36 := hA35.keep [0, 1, 4, 6, 7]
      simp only [argsE, keepE, lookS, Nat.reduceBEq, cond_true, cond_false, Nat.reduceAdd, gv_tt, gv_ff, Bool.true_and, Bool.false_and, Bool.true_or, Bool.false_or] at hA36
      clear hA27 hA28 hA29 hA30 hA31 hA32 hA33 hA34 hA35 a28 a29 a30 a31 a32 a33 a34
      -- joined
      exact ⟨_, hA36, hI.only hs hi7 K7b (by decide), hs.blk K4 h47, K7, hs.below HB hw7⟩
    case nD2 =>
      have e3 : rd3 k p = ((0, 0), (rd2 k p).2) := by unfold rd3; rw [hq, cond_false]
      refine wp_skip ?_
      refine n_then ?_
      have hA37 := hA27.keep [0, 1, 4, 6, 7]
      simp only [argsE, keepE, lookS, Nat.reduceBEq, cond_true, cond_false, Nat.reduceAdd, gv_tt, gv_ff, Bool.true_and, Bool.false_and, Bool.true_or, Bool.false_or] at hA37
      clear hA27
      -- joined
      rw [e3]
      exact ⟨_, hA37, hI, K4, K7, HB⟩
  clear hI K4 K7 HB
  rintro a wx ⟨v12, hA, hI, K4, K7, HB⟩
  refine wp_seq ?_
  refine wp_seq ?_
  refine wp_region_lit ?_
  refine wl_op hA rfl rfl (by decide) (fun ev h => by simp [go_sem, h.get 0 rfl, hw1]; try first | exact ⟨rfl, rfl⟩ | rfl) fun a38 hA38 => ?_
  refine wl_op hA38 rfl rfl (by decide) (fun ev h => by simp [go_sem, h.c, h.get 34 rfl, hw1]; try first | exact ⟨rfl, rfl⟩ | rfl) fun a39 hA39 => ?_
  refine wl_nil ?_
  refine n_then ?_
  have hA40 := hA39.keep [1, 4, 6, 7, 35]
  simp only [argsE, keepE, lookS, Nat.reduceBEq, cond_true, cond_false, Nat.reduceAdd, gv_tt, gv_ff, Bool.true_and, Bool.false_and, Bool.true_or, Bool.false_or] at hA40
  clear hA hA38 hA39 a38
  -- cond
  refine wp_join (fun a wx => ∃ v, At 68 [(1, .slice A n c), (4, .pointer (some ⟨g4, 0, none⟩)), (6, .pointer (some ⟨i, 0, none⟩)), (7, .pointer (some ⟨g7, 0, none⟩))] a ∧ InAt wx i (rd4 k p).2 v ∧ Blk wx g4 28 noteZ ∧ Blk wx g7 28 #[.int .i64 k, .int .u32 ((rd1 p).1 : Nat), .string (rd4 k p).1, .int .u32 ((rd2 k p).1 : Nat), .int .i64 ((rd3 k p).1.1 : Nat), .int .i64 ((rd3 k p).1.2 : Nat), .slice none 0 0] ∧ Below w.heap.size w wx) ?jfM ?jrM
  case jfM =>
    refine wp_if hA40 35 _ rfl (fun hq => ?yD3) (fun hq => ?nD3)
    case yD3 =>
      have hq : (k == 3) = false := by simpa using hq
      have e4 : rd4 k p = inText (rd3 k p).2 := by unfold rd4; rw [hq, cond_false]
      rw [e4]
      refine wp_region_lit ?_
      refine wl_op hA40 rfl rfl (by decide) (fun ev h => by simp [go_sem, h.get 6 rfl, hw1]; try first | exact ⟨rfl, rfl⟩ | rfl) fun a41 hA41 => ?_
      -- stop call slot 37
      refine wl_call hA41 rfl rfl (by decide) (fun ev h => by simp [go_sem, h.get 36 rfl, hw1, h.f]; try first | exact ⟨rfl, rfl⟩ | rfl) (in_Text hI (by omega)) ?_
      rintro e w13 ⟨rfl, ⟨v13, hI⟩, hib⟩
      refine ⟨_, rfl, fun a42 hA42 => ?_⟩
      replace K4 := K4.ibut hib h4i
      replace K7 := K7.ibut hib hi7.symm
      replace HB := HB.trans (hib.toBelow HB.size hw4)
      refine wl_op hA42 rfl rfl (by decide) (fun ev h => by simp [go_sem, h.get 7 rfl, hw1]; try first | exact ⟨rfl, rfl⟩ | rfl) fun a43 hA43 => ?_
      -- stop store slot None
      have K7b := K7
      refine wl_setf [.int .i64 k, .int .u32 ((rd1 p).1 : Nat), .string (inText (rd3 k p).2).1, .int .u32 ((rd2 k p).1 : Nat), .int .i64 ((rd3 k p).1.1 : Nat), .int .i64 ((rd3 k p).1.2 : Nat), .slice none 0 0] _ hA43 rfl rfl K7 (j := 2) (by rfl) (fun ev h => by simp [go_sem, h.get 38 rfl, h.get 37 rfl, hw1, K7.cell, K7.frozen]; try first | exact ⟨rfl, rfl⟩ | rfl) fun w14 (K7 : Blk _ _ _ _) hs => ?_
      refine wl_nil ?_
      refine n_then ?_
      have hA44 := hA43.keep [1, 4, 6, 7]
      simp only [argsE, keepE, lookS, Nat.reduceBEq, cond_true, cond_false, Nat.reduceAdd, gv_tt, gv_ff, Bool.true_and, Bool.false_and, Bool.true_or, Bool.false_or] at hA44
      clear hA40 hA41 hA42 hA43 a41 a42
      -- joined
      exact ⟨_, hA44, hI.only hs hi7 K7b (by decide), hs.blk K4 h47, K7, hs.below HB hw7⟩
    case nD3 =>
      have hq : (k == 3) = true := by simpa using hq
      have e4 : rd4 k p = (⟨#[]⟩, (rd3 k p).2) := by unfold rd4; rw [hq, cond_true]
      refine wp_skip ?_
      refine n_then ?_
      have hA45 := hA40.keep [1, 4, 6, 7]
      simp only [argsE, keepE, lookS, Nat.reduceBEq, cond_true, cond_false, Nat.reduceAdd, gv_tt, gv_ff, Bool.true_and, Bool.false_and, Bool.true_or, Bool.false_or] at hA45
      clear hA40
      -- joined
      rw [e4]
      exact ⟨_, hA45, hI, K4, K7, HB⟩
  clear hI K4 K7 HB
  rintro a wx ⟨v15, hA, hI, K4, K7, HB⟩
  unfold noteZ at K4
  refine wp_seq ?_
  refine wp_region_lit ?_
  refine wl_op hA rfl rfl (by decide) (fun ev h => by simp [go_sem, h.get 6 rfl, hw1]; try first | exact ⟨rfl, rfl⟩ | rfl) fun a46 hA46 => ?_
  refine wl_op hA46 rfl rfl (by decide) (fun ev h => by simp [go_sem, h.get 6 rfl, hw1]; try first | exact ⟨rfl, rfl⟩ | rfl) fun a47 hA47 => ?_
  -- stop call slot 41
  refine wl_call hA47 rfl rfl (by decide) (fun ev h => by simp [go_sem, h.get 40 rfl, hw1, h.f]; try first | exact ⟨rfl, rfl⟩ | rfl) (in_Left hI) ?_
  rintro e w16 ⟨rfl, hb⟩
  refine ⟨_, rfl, fun a48 hA48 => ?_⟩
  replace K4 := K4.below hb K4.lt
  replace K7 := K7.below hb K7.lt
  replace HB := HB.trans (hb.mono HB.size)
  replace hI := hI.below hb
  -- stop call slot 42
  refine wl_call hA48 rfl rfl (by decide) (fun ev h => by simp [go_sem, h.get 39 rfl, h.get 41 rfl, hw1, h.f]; try first | exact ⟨rfl, rfl⟩ | rfl) (in_Raw hI (by omega) ((rd4 k p).2.rest.length : Nat)) ?_
  rintro e w17 ⟨vr, rfl, hor, ⟨v17, hI⟩, hib⟩
  refine ⟨_, rfl, fun a49 hA49 => ?_⟩
  rw [show (inTake (rd4 k p).2 ((rd4 k p).2.rest.length : Nat)) = rd5 k p from rfl] at hor hI
  have h716 := K7.lt
  replace K4 := K4.ibut hib h4i
  replace K7 := K7.ibut hib hi7.symm
  replace HB := HB.trans (hib.toBelow HB.size hw4)
  obtain ⟨Ao, co, rfl, hro⟩ := hor.took
  clear hro
  refine wl_op hA49 rfl rfl (by decide) (fun ev h => by simp [go_sem, h.get 7 rfl, hw1]; try first | exact ⟨rfl, rfl⟩ | rfl) fun a50 hA50 => ?_
  refine wl_op hA50 rfl rfl (by decide) (fun ev h => by simp [go_sem, h.get 43 rfl, hw1]; try first | exact ⟨rfl, rfl⟩ | rfl) fun a51 hA51 => ?_
  -- stop store slot None
  have K7b := K7
  refine wl_setf [.int .i64 k, .int .u32 ((rd1 p).1 : Nat), .string (rd4 k p).1, .int .u32 ((rd2 k p).1 : Nat), .int .i64 ((rd3 k p).1.1 : Nat), .int .i64 ((rd3 k p).1.2 : Nat), .slice Ao (rd5 k p).1.length co] _ hA51 rfl rfl K7 (j := 6) (by rfl) (fun ev h => by simp [go_sem, h.get 44 rfl, h.get 42 rfl, hw1, K7.cell, K7.frozen]; try first | exact ⟨rfl, rfl⟩ | rfl) fun w18 (K7 : Blk _ _ _ _) hs => ?_
  replace hI := hI.only hs hi7 K7b (by decide)
  replace K4 := hs.blk K4 h47
  replace HB := hs.below HB hw7
  replace hor := hor.keep fun g hg => hs.block g (by have := (World.ownsRow.lt hor g hg).1; omega)
  refine wl_nil ?_
  refine n_then ?_
  have hA52 := hA51.keep [1, 4, 6, 7]
  simp only [argsE, keepE, lookS, Nat.reduceBEq, cond_true, cond_false, Nat.reduceAdd, gv_tt, gv_ff, Bool.true_and, Bool.false_and, Bool.true_or, Bool.false_or] at hA52
  clear hA hA46 hA47 hA48 hA49 hA50 hA51 a46 a47 a48 a49 a50
  refine wp_seq ?_
  refine wp_seq ?_
  refine wp_region_lit ?_
  refine wl_op hA52 rfl rfl (by decide) (fun ev h => by simp [go_sem, h.get 6 rfl, hw1]; try first | exact ⟨rfl, rfl⟩ | rfl) fun a53 hA53 => ?_
  -- stop call slot 46
  refine wl_call hA53 rfl rfl (by decide) (fun ev h => by simp [go_sem, h.get 45 rfl, hw1, h.f]; try first | exact ⟨rfl, rfl⟩ | rfl) (in_Bad hI) ?_
  rintro e w19 ⟨rfl, hb⟩
  refine ⟨_, rfl, fun a54 hA54 => ?_⟩
  replace K4 := K4.below hb K4.lt
  replace K7 := K7.below hb K7.lt
  replace HB := HB.trans (hb.mono HB.size)
  replace hI := hI.below hb
  replace hor := hor.below hb
  refine wl_op hA54 rfl rfl (by decide) (fun ev h => by simp [go_sem, h.get 46 rfl, K7.cell]; try first | exact ⟨rfl, rfl⟩ | rfl) fun a55 hA55 => ?_
  refine wl_guard _ hA55 rfl rfl rfl rfl (by decide) (fun hq ev h => by simp [go_sem, (h.get 7 rfl), K7.cell]; try first | exact ⟨rfl, rfl⟩ | rfl) fun a56 hA56 => ?_
  -- stop call slot 49
  refine wl_gcallv _ hA56 rfl rfl rfl rfl (by decide) (fun hq ev h => by simp [go_sem, ((h.get 48 rfl).trans (gw_t (beq_t hq))), K7.cell, h.f]; try first | exact ⟨rfl, rfl⟩ | rfl) (fun hq => formed_any k (rd1 p).1 (rd4 k p).1 (rdM k p Ao co) _ (hm.below hg HB) (Nat.lt_of_lt_of_le hg HB.size) (htab := Ht _ HB) (by omega)) fun a57 w20 hb hA57 => ?_
  replace K4 := K4.below hb K4.lt
  replace K7 := K7.below hb K7.lt
  replace HB := HB.trans (hb.mono HB.size)
  replace hor := hor.below hb
  refine wl_guard _ hA57 rfl rfl rfl rfl (by decide) (fun hq ev h => by simp [go_sem, ((h.get 49 rfl).trans (gw_t (beq_t hq))), K7.cell]; try first | exact ⟨rfl, rfl⟩ | rfl) fun a58 hA58 => ?_
  refine wl_op hA58 rfl rfl (by decide) (fun ev h => by first | exact pick_and rfl (h.get 47 rfl) (h.c _) (h.get 50 rfl) | exact pick_or rfl (h.get 47 rfl) (h.c _) (h.get 50 rfl) | (simp [go_sem, h.c, h.get 47 rfl, h.get 50 rfl, K7.cell, gv_or, gv_and]; try first | exact ⟨rfl, rfl⟩ | rfl)) fun a59 hA59 => ?_
  refine wl_nil ?_
  refine n_then ?_
  have hA60 := hA59.keep [1, 4, 7, 51]
  simp only [argsE, keepE, lookS, Nat.reduceBEq, cond_true, cond_false, Nat.reduceAdd, gv_tt, gv_ff, Bool.true_and, Bool.false_and, Bool.true_or, Bool.false_or] at hA60
  clear hA52 hA53 hA54 hA55 hA56 hA57 hA58 hA59 a51 a53 a54 a55 a56 a57 a58
  -- cond
  refine wp_if hA60 51 _ rfl (fun hq => ?yE) (fun hq => ?nE)
  case yE =>
    have hno : decOk k p = false := by
      rw [formed_ac] at hq
      unfold decOk
      cases hb : (rd5 k p).2.bad with
      | true => rfl
      | false =>
        rw [hb, Bool.false_or] at hq
        have hf : formedV k (rd1 p).1 (rd4 k p).1 (rdM k p none 0) = false := by simpa using hq
        rw [hf]
        rfl
    refine wp_seq ?_
    refine wp_region_lit ?_
    refine wl_op hA60 rfl rfl (by decide) (fun ev h => by simp [go_sem, K7.cell]; try first | exact ⟨rfl, rfl⟩ | rfl) fun a61 hA61 => ?_
    -- stop store slot None
    refine wl_set [.int .i64 0, .int .u32 0, .string ⟨#[]⟩, .int .u32 0, .int .i64 0, .int .i64 0, .slice none 0 0] hA61 rfl rfl K4 (by rfl) (fun ev h => by simp [go_sem, h.get 4 rfl, h.get 52 rfl, K7.cell, setAll, K4.cell, K4.frozen]) fun w21 (K4 : Blk _ _ _ _) hs => ?_
    refine wl_op hA61 rfl rfl (by decide) (fun ev h => by simp [go_sem, h.c, K4.cell]; try first | exact ⟨rfl, rfl⟩ | rfl) fun a62 hA62 => ?_
    refine wl_nil ?_
    refine n_then ?_
    have hA63 := hA62.keep [4, 5]
    simp only [argsE, keepE, lookS, Nat.reduceBEq, cond_true, cond_false, Nat.reduceAdd, gv_tt, gv_ff, Bool.true_and, Bool.false_and, Bool.true_or, Bool.false_or] at hA63
    clear hA60 hA61 hA62 a61
    refine wp_ret ?_
    refine r_then ?_
    refine bodyPost_ret (by simp [results, Tryd.results5, go_sem, hA63.env 4 _ rfl, hA63.env 5 _ rfl, K4.cell]; try first | exact ⟨rfl, rfl⟩ | rfl) hA63.defers ?_
    exact ⟨none, 0, by rw [hno]; rfl, fun h => (by rw [hno] at h; cases h), hs.below HB (by omega)⟩
  case nE =>
    rw [Bool.or_eq_false_iff] at hq
    obtain ⟨hbd, hq⟩ := hq
    have hf : formedV k (rd1 p).1 (rd4 k p).1 (rdM k p Ao co) = true := by simpa using hq
    refine wp_skip ?_
    refine n_then ?_
    refine wp_seq ?_
    refine wp_seq ?_
    refine wp_region_lit ?_
    refine wl_op hA60 rfl rfl (by decide) (fun ev h => by simp [go_sem, h.get 7 rfl, K7.cell]; try first | exact ⟨rfl, rfl⟩ | rfl) fun a64 hA64 => ?_
    -- stop call slot 55
    refine wl_call hA64 rfl rfl (by decide) (fun ev h => by simp [go_sem, h.get 54 rfl, K7.cell, h.f]; try first | exact ⟨rfl, rfl⟩ | rfl) (encode_any k (rd1 p).1 (rd4 k p).1 (rdM k p Ao co) _ (hm.below hg HB) (Nat.lt_of_lt_of_le hg HB.size) (htab := Ht _ HB) (by omega) q1 q2 (own8_at hor)) ?_
    rintro e w22 ⟨r, rfl, hoe, hb⟩
    refine ⟨_, rfl, fun a65 hA65 => ?_⟩
    replace K4 := K4.below hb K4.lt
    replace K7 := K7.below hb K7.lt
    replace HB := HB.trans (hb.mono HB.size)
    replace hor := hor.below hb
    rw [hf, cond_true] at hoe hA65
    obtain ⟨Ar, cr, rfl, hrr⟩ := hoe.took
    refine wl_op hA65 rfl rfl (by decide) (fun ev h => by simp [go_sem, h.get 55 rfl, K7.cell]; try first | exact ⟨rfl, rfl⟩ | rfl) fun a66 hA66 => ?_
    refine wl_op hA66 rfl rfl (by decide) (fun ev h => by simp [go_sem, h.get 53 rfl, K7.cell]; try first | exact ⟨rfl, rfl⟩ | rfl) fun a67 hA67 => ?_
    refine wl_op hA67 rfl rfl (by decide) (fun ev h => by simp [go_sem, h.get 53 rfl, K7.cell]; try first | exact ⟨rfl, rfl⟩ | rfl) fun a68 hA68 => ?_
    refine wl_op hA68 rfl rfl (by decide) (fun ev h => by simp [go_sem, h.get 56 rfl, K7.cell]; try first | exact ⟨rfl, rfl⟩ | rfl) fun a69 hA69 => ?_
    refine wl_op hA69 rfl rfl (by decide) (fun ev h => by simp [go_sem, h.get 57 rfl, K7.cell]; try first | exact ⟨rfl, rfl⟩ | rfl) fun a70 hA70 => ?_
    refine wl_nil ?_
    refine n_then ?_
    have hA71 := hA70.keep [1, 4, 7, 8, 9]
    simp only [argsE, keepE, lookS, Nat.reduceBEq, cond_true, cond_false, Nat.reduceAdd, gv_tt, gv_ff, Bool.true_and, Bool.false_and, Bool.true_or, Bool.false_or] at hA71
    clear hA60 hA64 hA65 hA66 hA67 hA68 hA69 hA70 a64 a65 a66 a67 a68 a69
    refine wp_seq ?_
    refine wp_region_lit ?_
    refine wl_op hA71 rfl rfl (by decide) (fun ev h => by simp [go_sem, h.get 9 rfl, K7.cell]; try first | exact ⟨rfl, rfl⟩ | rfl) fun a72 hA72 => ?_
    refine wl_op hA72 rfl rfl (by decide) (fun ev h => by simp [go_sem, h.c, h.get 58 rfl, K7.cell]; try first | exact ⟨rfl, rfl⟩ | rfl) fun a73 hA73 => ?_
    refine wl_op hA73 rfl rfl (by decide) (fun ev h => by simp [go_sem, h.get 59 rfl, K7.cell]; try first | exact ⟨rfl, rfl⟩ | rfl) fun a74 hA74 => ?_
    refine wl_guard _ hA74 rfl rfl rfl rfl (by decide) (fun hq ev h => by simp [go_sem, (h.get 8 rfl), K7.cell]; try first | exact ⟨rfl, rfl⟩ | rfl) fun a75 hA75 => ?_
    refine wl_guard _ hA75 rfl rfl rfl rfl (by decide) (fun hq ev h => by simp [go_sem, (h.get 1 rfl), K7.cell]; try first | exact ⟨rfl, rfl⟩ | rfl) fun a76 hA76 => ?_
    -- stop call slot 63
    have hrp := (hr.below HB).more HB.size
    refine wl_gcallv _ hA76 rfl rfl rfl rfl (by decide) (fun hq ev h => by simp [go_sem, ((h.get 61 rfl).trans (gw_t (beq_t hq))), ((h.get 62 rfl).trans (gw_t (beq_t hq))), K7.cell, h.f]; try first | exact ⟨rfl, rfl⟩ | rfl) (fun hq => (equal_any Ar A _ cr n c _ p _ rfl hl hrr hrp).mono fun e' w' h => ⟨h.1, h.2 ▸ Below.refl _ _⟩) fun a77 w23 hb hA77 => ?_
    replace K4 := K4.below hb K4.lt
    replace K7 := K7.below hb K7.lt
    replace HB := HB.trans (hb.mono HB.size)
    replace hor := hor.below hb
    refine wl_guard _ hA77 rfl rfl rfl rfl (by decide) (fun hq ev h => by simp [go_sem, ((h.get 63 rfl).trans (gw_t (beq_t hq))), K7.cell]; try first | exact ⟨rfl, rfl⟩ | rfl) fun a78 hA78 => ?_
    refine wl_op hA78 rfl rfl (by decide) (fun ev h => by first | exact pick_and rfl (h.get 60 rfl) (h.c _) (h.get 64 rfl) | exact pick_or rfl (h.get 60 rfl) (h.c _) (h.get 64 rfl) | (simp [go_sem, h.c, h.get 60 rfl, h.get 64 rfl, K7.cell, gv_or, gv_and]; try first | exact ⟨rfl, rfl⟩ | rfl)) fun a79 hA79 => ?_
    refine wl_nil ?_
    refine n_then ?_
    have hA80 := hA79.keep [4, 7, 65]
    simp only [argsE, keepE, lookS, Nat.reduceBEq, cond_true, cond_false, Nat.reduceAdd, gv_tt, gv_ff, Bool.true_and, Bool.false_and, Bool.true_or, Bool.false_or] at hA80
    clear hA71 hA72 hA73 hA74 hA75 hA76 hA77 hA78 hA79 a70 a72 a73 a74 a75 a76 a77 a78
    -- cond
    refine wp_if hA80 65 _ rfl (fun hq2 => ?yF) (fun hq2 => ?nF)
    case yF =>
      have hno : decOk k p = false := by
        have he : (encV k (rd1 p).1 (rd4 k p).1 (rdM k p Ao co) == p) = false := by simpa using hq2
        rw [enc_ac] at he
        unfold decOk
        rw [he, Bool.and_false, Bool.and_false]
      refine wp_seq ?_
      refine wp_region_lit ?_
      refine wl_op hA80 rfl rfl (by decide) (fun ev h => by simp [go_sem, K7.cell]; try first | exact ⟨rfl, rfl⟩ | rfl) fun a81 hA81 => ?_
      -- stop store slot None
      refine wl_set [.int .i64 0, .int .u32 0, .string ⟨#[]⟩, .int .u32 0, .int .i64 0, .int .i64 0, .slice none 0 0] hA81 rfl rfl K4 (by rfl) (fun ev h => by simp [go_sem, h.get 4 rfl, h.get 66 rfl, K7.cell, setAll, K4.cell, K4.frozen]) fun w24 (K4 : Blk _ _ _ _) hs => ?_
      refine wl_op hA81 rfl rfl (by decide) (fun ev h => by simp [go_sem, h.c, K4.cell]; try first | exact ⟨rfl, rfl⟩ | rfl) fun a82 hA82 => ?_
      refine wl_nil ?_
      refine n_then ?_
      have hA83 := hA82.keep [4, 5]
      simp only [argsE, keepE, lookS, Nat.reduceBEq, cond_true, cond_false, Nat.reduceAdd, gv_tt, gv_ff, Bool.true_and, Bool.false_and, Bool.true_or, Bool.false_or] at hA83
      clear hA80 hA81 hA82 a81
      refine wp_ret ?_
      refine r_then ?_
      refine bodyPost_ret (by simp [results, Tryd.results5, go_sem, hA83.env 4 _ rfl, hA83.env 5 _ rfl, K4.cell]; try first | exact ⟨rfl, rfl⟩ | rfl) hA83.defers ?_
      exact ⟨none, 0, by rw [hno]; rfl, fun h => (by rw [hno] at h; cases h), hs.below HB (by omega)⟩
    case nF =>
      have hyes : decOk k p = true := by
        have he : (encV k (rd1 p).1 (rd4 k p).1 (rdM k p Ao co) == p) = true := by simpa using hq2
        rw [enc_ac] at he
        rw [formed_ac] at hf
        unfold decOk
        rw [he, hf, hbd]
        rfl
      refine wp_skip ?_
      refine n_then ?_
      refine wp_seq ?_
      refine wp_region_lit ?_
      refine wl_op hA80 rfl rfl (by decide) (fun ev h => by simp [go_sem, h.get 7 rfl, K7.cell]; try first | exact ⟨rfl, rfl⟩ | rfl) fun a84 hA84 => ?_
      -- stop store slot None
      refine wl_set [.int .i64 k, .int .u32 ((rd1 p).1 : Nat), .string (rd4 k p).1, .int .u32 ((rd2 k p).1 : Nat), .int .i64 ((rd3 k p).1.1 : Nat), .int .i64 ((rd3 k p).1.2 : Nat), .slice Ao (rd5 k p).1.length co] hA84 rfl rfl K4 (by rfl) (fun ev h => by simp [go_sem, h.get 4 rfl, h.get 67 rfl, K7.cell, setAll, K4.cell, K4.frozen]) fun w25 (K4 : Blk _ _ _ _) hs => ?_
      replace hor := hor.keep fun g hg => hs.block g (by have := (World.ownsRow.lt hor g hg).1; omega)
      refine wl_op hA84 rfl rfl (by decide) (fun ev h => by simp [go_sem, h.c, K4.cell]; try first | exact ⟨rfl, rfl⟩ | rfl) fun a85 hA85 => ?_
      refine wl_nil ?_
      refine n_then ?_
      have hA86 := hA85.keep [4, 5]
      simp only [argsE, keepE, lookS, Nat.reduceBEq, cond_true, cond_false, Nat.reduceAdd, gv_tt, gv_ff, Bool.true_and, Bool.false_and, Bool.true_or, Bool.false_or] at hA86
      clear hA80 hA84 hA85 a84
      refine wp_ret ?_
      refine bodyPost_ret (by simp [results, Tryd.results5, go_sem, hA86.env 4 _ rfl, hA86.env 5 _ rfl, K4.cell]; try first | exact ⟨rfl, rfl⟩ | rfl) hA86.defers ?_
      exact ⟨Ao, co, by rw [hyes]; rfl, fun _ => own8_at hor, hs.below HB (by omega)⟩
end Go.Proofs.YtmjikfeaopmejaaDoor
