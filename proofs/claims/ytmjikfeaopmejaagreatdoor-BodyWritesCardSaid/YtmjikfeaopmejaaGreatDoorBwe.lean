/-
  Walk: a note's frame (body.Frame).
-/
import Derived.Test.YtmjikfeaopmejaaGreatDoorBwd
import Derived.Deep.Slices
import Derived.Deep.Fields
import Derived.ChangeSame
import Derived.ChangeSlices
import Derived.Carry
import Derived.SizedLaws
import Derived.Lib.SmallJoins
import Derived.Deep.DeepHandedRow
import Derived.LaidSub
import Derived.Lib.LaidTab
import Derived.MakeChecks
import Derived.Test.YtmjikfeaopmejaaGreatDoorCards
import Derived.Test.YtmjikfeaopmejaaGreatDoorTie
import Derived.SevenTiedAt
namespace Go.Proofs.YtmjikfeaopmejaaGreatDoor
open Go.RowKit
set_option linter.unusedSimpArgs false
set_option linter.unusedVariables false
theorem encV_len {k : Int} {e : Nat} {nm : ByteArray} {m : MsgV} (h : formedV k e nm m = true) : (encV k e nm m).length ≤ 20100 := by
  obtain ⟨_, h60, h20, _, _⟩ := formed_parts h
  have l1 := enc1_len k m
  have l2 := enc2_len k m
  have l3 := enc3_len k nm
  unfold encV
  simp only [List.length_append, be_length]
  omega
theorem formed_kind {k : Int} {e : Nat} {nm : ByteArray} {m : MsgV} (h : formedV k e nm m = true) : ∃ q : Nat, k = (q : Int) ∧ 1 ≤ q ∧ q ≤ 3 := by
  obtain ⟨_, _, _, hk, _⟩ := formed_parts h
  rcases hk with rfl | rfl | rfl
  · exact ⟨1, rfl, by decide, by decide⟩
  · exact ⟨2, rfl, by decide, by decide⟩
  · exact ⟨3, rfl, by decide, by decide⟩
/-- a note's frame -/
def frameV (k : Int) (e : Nat) (nm : ByteArray) (m : MsgV) : List UInt8 := frameB k.toNat (encV k e nm m)
set_option maxRecDepth 100000 in
theorem bodyFrame_any (k : Int) (e : Nat) (nm : ByteArray) (m : MsgV) (w : World) (hm : MaxCell w) (hg : 0 < w.heap.size) (htab : Lib.TabIs Tryz.prog w "internal/strconv.uint64pow10" .u64 Lib.pow10Tab) (hs : nm.size ≤ 9223372036854775807) (he : e < 4294967296) (hu : m.uid < 4294967296) (hr : Reads w w.heap.size 1 m.a m.b.length (u8s m.b)) :
    Calls Tryz.prog 11 #[.agg (noteC k e nm m)] w fun ev w' => ∃ r, ev = .returned (.tuple #[r, .int .i64 (bif formedV k e nm m then 0 else 1)]) ∧ Own8 w.heap.size w' r (bif formedV k e nm m then frameV k e nm m else []) ∧ Below w.heap.size w w' := by
  have Ht := Lib.tabBelow_of_tabIs htab
  refine calls_at 20 Tryz.func11 rfl rfl (Nat.le_of_ble_eq_true rfl) ?_
  intro a hA
  simp only [argsE, keepE, lookS, Nat.reduceBEq, cond_true, cond_false, Nat.reduceAdd, gv_tt, gv_ff, Bool.true_and, Bool.false_and, Bool.true_or, Bool.false_or] at hA
  refine wp_seq ?_
  refine wp_region_lit ?_
  -- stop box slot 1
  refine wl_new hA rfl rfl (by decide) (fun ev h => by simp [go_sem, h.get 0 rfl]; try first | exact ⟨rfl, rfl⟩ | rfl) fun w1 a1 (K : Blk _ _ _ _) hz hb0 hA1 => ?_
  unfold noteC at K
  have HB := hb0
  refine wl_op hA1 rfl rfl (by decide) (fun ev h => by simp [go_sem, h.c, K.cell]; try first | exact ⟨rfl, rfl⟩ | rfl) fun a2 hA2 => ?_
  refine wl_op hA2 rfl rfl (by decide) (fun ev h => by simp [go_sem, h.c, K.cell]; try first | exact ⟨rfl, rfl⟩ | rfl) fun a3 hA3 => ?_
  refine wl_nil ?_
  refine n_then ?_
  have hA4 := hA3.keep [1]
  simp only [argsE, keepE, lookS, Nat.reduceBEq, cond_true, cond_false, Nat.reduceAdd, gv_tt, gv_ff, Bool.true_and, Bool.false_and, Bool.true_or, Bool.false_or] at hA4
  clear hA hA1 hA2 hA3 a1 a2
  refine wp_seq ?_
  refine wp_region_lit ?_
  refine wl_op hA4 rfl rfl (by decide) (fun ev h => by simp [go_sem, h.get 1 rfl, K.cell]; try first | exact ⟨rfl, rfl⟩ | rfl) fun a5 hA5 => ?_
  -- stop call slot 8
  refine wl_call hA5 rfl rfl (by decide) (fun ev h => exec_call Tryz.func10 (by kernel_rfl) rfl (h.f _) (by first | (simp only [List.map_toArray, List.map_cons, List.map_nil, h.get 7 rfl, h.c]; done) | (simp only [List.map_toArray, List.map_cons, List.map_nil, h.get 7 rfl, h.c]; rfl) | (simp [List.map_toArray, List.map_cons, List.map_nil, h.get 7 rfl, h.c, K.cell]; done) | (simp [List.map_toArray, List.map_cons, List.map_nil, h.get 7 rfl, h.c, K.cell]; rfl) | rfl)) (encode_any k e nm m _ (hm.below hg hb0) (Nat.lt_of_lt_of_le hg hb0.size) (htab := Ht _ hb0) hs he hu ((hr.below hb0).more hb0.size)) ?_
  rintro e w2 ⟨r, rfl, ho, hb2⟩
  refine ⟨_, rfl, fun a6 hA6 => ?_⟩
  replace HB := HB.trans (hb2.mono HB.size)
  replace K := K.below hb2 K.lt
  cases hf : formedV k e nm m with
  | false =>
    rw [hf, cond_false] at hA6
    refine wl_op hA6 rfl rfl (by decide) (fun ev h => by simp [go_sem, h.get 8 rfl]; try first | exact ⟨rfl, rfl⟩ | rfl) fun a7 hA7 => ?_
    refine wl_op hA7 rfl rfl (by decide) (fun ev h => by simp [go_sem, h.get 6 rfl]; try first | exact ⟨rfl, rfl⟩ | rfl) fun a8 hA8 => ?_
    refine wl_op hA8 rfl rfl (by decide) (fun ev h => by simp [go_sem, h.get 6 rfl]; try first | exact ⟨rfl, rfl⟩ | rfl) fun a9 hA9 => ?_
    refine wl_op hA9 rfl rfl (by decide) (fun ev h => by simp [go_sem, h.get 9 rfl]; try first | exact ⟨rfl, rfl⟩ | rfl) fun a10 hA10 => ?_
    refine wl_op hA10 rfl rfl (by decide) (fun ev h => by simp [go_sem, h.get 10 rfl]; try first | exact ⟨rfl, rfl⟩ | rfl) fun a11 hA11 => ?_
    refine wl_nil ?_
    refine n_then ?_
    have hA12 := hA11.keep [1, 4, 5]
    simp only [argsE, keepE, lookS, Nat.reduceBEq, cond_true, cond_false, Nat.reduceAdd, gv_tt, gv_ff, Bool.true_and, Bool.false_and, Bool.true_or, Bool.false_or] at hA12
    clear hA4 hA5 hA6 hA7 hA8 hA9 hA10 hA11 a3 a5 a6 a7 a8 a9 a10
    refine wp_seq ?_
    refine wp_seq ?_
    refine wp_region_lit ?_
    refine wl_op hA12 rfl rfl (by decide) (fun ev h => by simp [go_sem, h.get 5 rfl]; try first | exact ⟨rfl, rfl⟩ | rfl) fun a13 hA13 => ?_
    refine wl_op hA13 rfl rfl (by decide) (fun ev h => by simp [go_sem, h.c, h.get 11 rfl]; try first | exact ⟨rfl, rfl⟩ | rfl) fun a14 hA14 => ?_
    refine wl_nil ?_
    refine n_then ?_
    have hA15 := hA14.keep [1, 4, 5, 12]
    simp only [argsE, keepE, lookS, Nat.reduceBEq, cond_true, cond_false, Nat.reduceAdd, gv_tt, gv_ff, Bool.true_and, Bool.false_and, Bool.true_or, Bool.false_or] at hA15
    clear hA12 hA13 hA14 a11 a13
    -- cond
    refine wp_if hA15 12 _ rfl (fun hq => ?yA) (fun hq => ?nA)
    case yA =>
      refine wp_seq ?_
      refine wp_region_lit ?_
      refine wl_op hA15 rfl rfl (by decide) (fun ev h => by simp [go_sem, h.get 5 rfl]; try first | exact ⟨rfl, rfl⟩ | rfl) fun a16 hA16 => ?_
      refine wl_op hA16 rfl rfl (by decide) (fun ev h => by simp [go_sem, h.c]; try first | exact ⟨rfl, rfl⟩ | rfl) fun a17 hA17 => ?_
      refine wl_op hA17 rfl rfl (by decide) (fun ev h => by simp [go_sem, h.get 13 rfl]; try first | exact ⟨rfl, rfl⟩ | rfl) fun a18 hA18 => ?_
      refine wl_nil ?_
      refine n_then ?_
      have hA19 := hA18.keep [2, 3]
      simp only [argsE, keepE, lookS, Nat.reduceBEq, cond_true, cond_false, Nat.reduceAdd, gv_tt, gv_ff, Bool.true_and, Bool.false_and, Bool.true_or, Bool.false_or] at hA19
      clear hA15 hA16 hA17 hA18 a16 a17
      refine wp_ret ?_
      refine r_then ?_
      refine ret_2 hA19 2 3 rfl rfl rfl ?_
      exact ⟨_, rfl, Own8.nil _, HB⟩
    case nA => cases hq
  | true =>
    rw [hf, cond_true] at hA6
    rw [hf, cond_true] at ho
    obtain ⟨q, rfl, hq1, hq3⟩ := formed_kind hf
    have hlen := encV_len hf
    obtain ⟨Ar, cr, e0, hR, _⟩ := own_reads ho
    subst e0
    refine wl_op hA6 rfl rfl (by decide) (fun ev h => by simp [go_sem, h.get 8 rfl, K.cell]; try first | exact ⟨rfl, rfl⟩ | rfl) fun a20 hA20 => ?_
    refine wl_op hA20 rfl rfl (by decide) (fun ev h => by simp [go_sem, h.get 6 rfl, K.cell]; try first | exact ⟨rfl, rfl⟩ | rfl) fun a21 hA21 => ?_
    refine wl_op hA21 rfl rfl (by decide) (fun ev h => by simp [go_sem, h.get 6 rfl, K.cell]; try first | exact ⟨rfl, rfl⟩ | rfl) fun a22 hA22 => ?_
    refine wl_op hA22 rfl rfl (by decide) (fun ev h => by simp [go_sem, h.get 9 rfl, K.cell]; try first | exact ⟨rfl, rfl⟩ | rfl) fun a23 hA23 => ?_
    refine wl_op hA23 rfl rfl (by decide) (fun ev h => by simp [go_sem, h.get 10 rfl, K.cell]; try first | exact ⟨rfl, rfl⟩ | rfl) fun a24 hA24 => ?_
    refine wl_nil ?_
    refine n_then ?_
    have hA25 := hA24.keep [1, 4, 5]
    simp only [argsE, keepE, lookS, Nat.reduceBEq, cond_true, cond_false, Nat.reduceAdd, gv_tt, gv_ff, Bool.true_and, Bool.false_and, Bool.true_or, Bool.false_or] at hA25
    clear hA6 hA20 hA21 hA22 hA23 hA24 a20 a21 a22 a23
    refine wp_seq ?_
    refine wp_seq ?_
    refine wp_region_lit ?_
    refine wl_op hA25 rfl rfl (by decide) (fun ev h => by simp [go_sem, h.get 5 rfl, K.cell]; try first | exact ⟨rfl, rfl⟩ | rfl) fun a26 hA26 => ?_
    refine wl_op hA26 rfl rfl (by decide) (fun ev h => by simp [go_sem, h.c, h.get 11 rfl, K.cell]; try first | exact ⟨rfl, rfl⟩ | rfl) fun a27 hA27 => ?_
    refine wl_nil ?_
    refine n_then ?_
    have hA28 := hA27.keep [1, 4, 5, 12]
    simp only [argsE, keepE, lookS, Nat.reduceBEq, cond_true, cond_false, Nat.reduceAdd, gv_tt, gv_ff, Bool.true_and, Bool.false_and, Bool.true_or, Bool.false_or] at hA28
    clear hA25 hA26 hA27 a24 a26
    -- cond
    refine wp_if hA28 12 _ rfl (fun hq => ?yB) (fun hq => ?nB)
    case yB => cases hq
    case nB =>
      refine wp_skip ?_
      refine n_then ?_
      refine wp_seq ?_
      refine wp_region_lit ?_
      refine wl_op hA28 rfl rfl (by decide) (fun ev h => by simp [go_sem, h.get 1 rfl, K.cell]; try first | exact ⟨rfl, rfl⟩ | rfl) fun a29 hA29 => ?_
      refine wl_op hA29 rfl rfl (by decide) (fun ev h => by simp [go_sem, h.get 14 rfl, K.cell]; try first | exact ⟨rfl, rfl⟩ | rfl) fun a30 hA30 => ?_
      refine wl_op hA30 rfl rfl (by decide) (fun ev h => by simp [go_sem, h.get 4 rfl, K.cell]; try first | exact ⟨rfl, rfl⟩ | rfl) fun a31 hA31 => ?_
      -- stop call slot 17
      refine wl_call hA31 rfl rfl (by decide) (fun ev h => exec_call Tryz.func35 (by kernel_rfl) rfl (h.f _) (by first | (simp only [List.map_toArray, List.map_cons, List.map_nil, h.get 15 rfl, h.get 16 rfl, h.c]; done) | (simp only [List.map_toArray, List.map_cons, List.map_nil, h.get 15 rfl, h.get 16 rfl, h.c]; rfl) | (simp [List.map_toArray, List.map_cons, List.map_nil, h.get 15 rfl, h.get 16 rfl, h.c, K.cell]; done) | (simp [List.map_toArray, List.map_cons, List.map_nil, h.get 15 rfl, h.get 16 rfl, h.c, K.cell]; rfl) | rfl)) (frame_any q hq1 hq3 Ar _ cr (encV q e nm m) rfl (by omega) _ hR) ?_
      rintro e w3 ⟨r3, rfl, ho3, hb3⟩
      refine ⟨_, rfl, fun a32 hA32 => ?_⟩
      replace HB := HB.trans (hb3.mono HB.size)
      replace K := K.below hb3 K.lt
      refine wl_op hA32 rfl rfl (by decide) (fun ev h => by simp [go_sem, h.get 17 rfl, K.cell]; try first | exact ⟨rfl, rfl⟩ | rfl) fun a33 hA33 => ?_
      refine wl_op hA33 rfl rfl (by decide) (fun ev h => by simp [go_sem, h.get 17 rfl, K.cell]; try first | exact ⟨rfl, rfl⟩ | rfl) fun a34 hA34 => ?_
      refine wl_op hA34 rfl rfl (by decide) (fun ev h => by simp [go_sem, h.get 18 rfl, K.cell]; try first | exact ⟨rfl, rfl⟩ | rfl) fun a35 hA35 => ?_
      refine wl_op hA35 rfl rfl (by decide) (fun ev h => by simp [go_sem, h.get 19 rfl, K.cell]; try first | exact ⟨rfl, rfl⟩ | rfl) fun a36 hA36 => ?_
      refine wl_nil ?_
      refine n_then ?_
      have hA37 := hA36.keep [2, 3]
      simp only [argsE, keepE, lookS, Nat.reduceBEq, cond_true, cond_false, Nat.reduceAdd, gv_tt, gv_ff, Bool.true_and, Bool.false_and, Bool.true_or, Bool.false_or] at hA37
      clear hA28 hA29 hA30 hA31 hA32 hA33 hA34 hA35 hA36 a29 a30 a31 a32 a33 a34 a35
      refine wp_ret ?_
      -- ret
      refine ret_2 hA37 2 3 rfl rfl rfl ?_
      exact ⟨_, rfl, own_mono ho3 (Nat.le_trans hb0.size hb2.size), HB⟩
end Go.Proofs.YtmjikfeaopmejaaGreatDoor
/-
  Messages and mailboxes alike: plainly, and by the document.
-/
namespace Go.Proofs.YtmjikfeaopmejaaGreatDoor
open Go.RowKit
set_option linter.unusedSimpArgs false
set_option linter.unusedVariables false
theorem int_beq (a b : Nat) : ((a : Int) == (b : Int)) = (a == b) := by rw [Bool.eq_iff_iff, beq_iff_eq, beq_iff_eq]; omega
-- alike
def sameV (x y : MsgV) : Bool := x.uid == y.uid && x.date == y.date && x.flags == y.flags && x.b == y.b
def sameL : List MsgV → List MsgV → Bool
  | [], [] => true
  | x :: r, y :: s => sameV x y && sameL r s
  | _, _ => false
theorem sameL_len : ∀ {l m : List MsgV}, l.length ≠ m.length → sameL l m = false
  | [], [], h => absurd rfl h
  | [], _ :: _, _ => rfl
  | _ :: _, [], _ => rfl
  | x :: r, y :: s, h => by
    unfold sameL
    rw [sameL_len (l := r) (m := s) (by simpa using h), Bool.and_false]
theorem sameL_at {l m : List MsgV} {j : Nat} {x y : MsgV} (hx : l[j]? = some x) (hy : m[j]? = some y) : sameL (l.drop j) (m.drop j) = (sameV x y && sameL (l.drop (j + 1)) (m.drop (j + 1))) := by
  rw [List.drop_eq_getElem_cons (List.getElem?_eq_some_iff.1 hx).1, (List.getElem?_eq_some_iff.1 hx).2, List.drop_eq_getElem_cons (List.getElem?_eq_some_iff.1 hy).1, (List.getElem?_eq_some_iff.1 hy).2]
  rfl
def boxSame (n1 : ByteArray) (e1 x1 : Nat) (l1 : List MsgV) (n2 : ByteArray) (e2 x2 : Nat) (l2 : List MsgV) : Bool := n1.toList == n2.toList && e1 == e2 && x1 == x2 && sameL l1 l2
theorem refSame_any (x y : MsgV) (w : World) (hx : Reads w w.heap.size 1 x.a x.b.length (u8s x.b)) (hy : Reads w w.heap.size 1 y.a y.b.length (u8s y.b)) :
    Calls Tryz.prog 17 #[.agg #[.int .u32 (x.uid : Nat), .int .i64 x.date, .int .i64 x.flags, .slice x.a x.b.length x.c], .agg #[.int .u32 (y.uid : Nat), .int .i64 y.date, .int .i64 y.flags, .slice y.a y.b.length y.c]] w fun ev w' => ev = .returned (.bool (sameV x y)) ∧ Below w.heap.size w w' := by
  refine calls_at 33 Tryz.func17 rfl rfl (Nat.le_of_ble_eq_true rfl) ?_
  intro a hA
  simp only [argsE, keepE, lookS, Nat.reduceBEq, cond_true, cond_false, Nat.reduceAdd, gv_tt, gv_ff, Bool.true_and, Bool.false_and, Bool.true_or, Bool.false_or] at hA
  refine wp_seq ?_
  refine wp_region_lit ?_
  -- stop box slot 2
  refine wl_new hA rfl rfl (by decide) (fun ev h => by simp [go_sem, h.get 0 rfl]; try first | exact ⟨rfl, rfl⟩ | rfl) fun w1 a1 (K : Blk _ _ _ _) hz0 hb0 hA1 => ?_
  replace hx := (hx.below hb0).more hb0.size
  replace hy := (hy.below hb0).more hb0.size
  refine wl_new hA1 rfl rfl (by decide) (fun ev h => by simp [go_sem, h.get 1 rfl]; try first | exact ⟨rfl, rfl⟩ | rfl) fun w2 a2 (K2 : Blk _ _ _ _) hz2 hb2 hA2 => ?_
  replace hx := (hx.below hb2).more hb2.size
  replace hy := (hy.below hb2).more hb2.size
  replace K := K.below hb2 K.lt
  have HB := hb0.trans (hb2.mono (by omega))
  refine wl_op hA2 rfl rfl (by decide) (fun ev h => by simp [go_sem, h.c, K.cell, K2.cell, conv_reads rfl hx, conv_reads rfl hy]; try first | exact ⟨rfl, rfl⟩ | rfl) fun a3 hA3 => ?_
  refine wl_nil ?_
  refine n_then ?_
  have hA4 := hA3.keep [2, 3]
  simp only [argsE, keepE, lookS, Nat.reduceBEq, cond_true, cond_false, Nat.reduceAdd, gv_tt, gv_ff, Bool.true_and, Bool.false_and, Bool.true_or, Bool.false_or] at hA4
  clear hA hA1 hA2 hA3 a1 a2
  refine wp_seq ?_
  refine wp_region_lit ?_
  refine wl_op hA4 rfl rfl (by decide) (fun ev h => by simp [go_sem, h.get 2 rfl, K.cell, K2.cell, conv_reads rfl hx, conv_reads rfl hy]; try first | exact ⟨rfl, rfl⟩ | rfl) fun a5 hA5 => ?_
  refine wl_op hA5 rfl rfl (by decide) (fun ev h => by simp [go_sem, h.get 5 rfl, K.cell, K2.cell, conv_reads rfl hx, conv_reads rfl hy]; try first | exact ⟨rfl, rfl⟩ | rfl) fun a6 hA6 => ?_
  refine wl_op hA6 rfl rfl (by decide) (fun ev h => by simp [go_sem, h.get 3 rfl, K.cell, K2.cell, conv_reads rfl hx, conv_reads rfl hy]; try first | exact ⟨rfl, rfl⟩ | rfl) fun a7 hA7 => ?_
  refine wl_op hA7 rfl rfl (by decide) (fun ev h => by simp [go_sem, h.get 7 rfl, K.cell, K2.cell, conv_reads rfl hx, conv_reads rfl hy]; try first | exact ⟨rfl, rfl⟩ | rfl) fun a8 hA8 => ?_
  refine wl_op hA8 rfl rfl (by decide) (fun ev h => by simp [go_sem, h.get 6 rfl, h.get 8 rfl, K.cell, K2.cell, conv_reads rfl hx, conv_reads rfl hy]; try first | exact ⟨rfl, rfl⟩ | rfl) fun a9 hA9 => ?_
  refine wl_op hA9 rfl rfl (by decide) (fun ev h => by simp [go_sem, h.get 9 rfl, K.cell, K2.cell, conv_reads rfl hx, conv_reads rfl hy]; try first | exact ⟨rfl, rfl⟩ | rfl) fun a10 hA10 => ?_
  refine wl_guard _ hA10 rfl rfl rfl rfl (by decide) (fun hq ev h => by simp [go_sem, (h.get 2 rfl), K.cell, K2.cell, conv_reads rfl hx, conv_reads rfl hy]; try first | exact ⟨rfl, rfl⟩ | rfl) fun a11 hA11 => ?_
  refine wl_guard _ hA11 rfl rfl rfl rfl (by decide) (fun hq ev h => by simp [go_sem, ((h.get 11 rfl).trans (gw_t (beq_t hq))), K.cell, K2.cell, conv_reads rfl hx, conv_reads rfl hy]; try first | exact ⟨rfl, rfl⟩ | rfl) fun a12 hA12 => ?_
  refine wl_guard _ hA12 rfl rfl rfl rfl (by decide) (fun hq ev h => by simp [go_sem, (h.get 3 rfl), K.cell, K2.cell, conv_reads rfl hx, conv_reads rfl hy]; try first | exact ⟨rfl, rfl⟩ | rfl) fun a13 hA13 => ?_
  refine wl_guard _ hA13 rfl rfl rfl rfl (by decide) (fun hq ev h => by simp [go_sem, ((h.get 13 rfl).trans (gw_t (beq_t hq))), K.cell, K2.cell, conv_reads rfl hx, conv_reads rfl hy]; try first | exact ⟨rfl, rfl⟩ | rfl) fun a14 hA14 => ?_
  refine wl_guard _ hA14 rfl rfl rfl rfl (by decide) (fun hq ev h => by simp [go_sem, ((h.get 12 rfl).trans (gw_t (beq_t hq))), ((h.get 14 rfl).trans (gw_t (beq_t hq))), K.cell, K2.cell, conv_reads rfl hx, conv_reads rfl hy]; try first | exact ⟨rfl, rfl⟩ | rfl) fun a15 hA15 => ?_
  refine wl_op hA15 rfl rfl (by decide) (fun ev h => by first | exact pick_and rfl (h.get 10 rfl) (h.get 15 rfl) (h.c _) | exact pick_or rfl (h.get 10 rfl) (h.get 15 rfl) (h.c _) | (simp [go_sem, h.c, h.get 10 rfl, h.get 15 rfl, K.cell, K2.cell, conv_reads rfl hx, conv_reads rfl hy, gv_or, gv_and]; try first | exact ⟨rfl, rfl⟩ | rfl)) fun a16 hA16 => ?_
  refine wl_op hA16 rfl rfl (by decide) (fun ev h => by simp [go_sem, h.get 16 rfl, K.cell, K2.cell, conv_reads rfl hx, conv_reads rfl hy]; try first | exact ⟨rfl, rfl⟩ | rfl) fun a17 hA17 => ?_
  refine wl_guard _ hA17 rfl rfl rfl rfl (by decide) (fun hq ev h => by simp [go_sem, (h.get 2 rfl), K.cell, K2.cell, conv_reads rfl hx, conv_reads rfl hy]; try first | exact ⟨rfl, rfl⟩ | rfl) fun a18 hA18 => ?_
  refine wl_guard _ hA18 rfl rfl rfl rfl (by decide) (fun hq ev h => by simp [go_sem, ((h.get 18 rfl).trans (gw_t (beq_t hq))), K.cell, K2.cell, conv_reads rfl hx, conv_reads rfl hy]; try first | exact ⟨rfl, rfl⟩ | rfl) fun a19 hA19 => ?_
  refine wl_guard _ hA19 rfl rfl rfl rfl (by decide) (fun hq ev h => by simp [go_sem, (h.get 3 rfl), K.cell, K2.cell, conv_reads rfl hx, conv_reads rfl hy]; try first | exact ⟨rfl, rfl⟩ | rfl) fun a20 hA20 => ?_
  refine wl_guard _ hA20 rfl rfl rfl rfl (by decide) (fun hq ev h => by simp [go_sem, ((h.get 20 rfl).trans (gw_t (beq_t hq))), K.cell, K2.cell, conv_reads rfl hx, conv_reads rfl hy]; try first | exact ⟨rfl, rfl⟩ | rfl) fun a21 hA21 => ?_
  refine wl_guard _ hA21 rfl rfl rfl rfl (by decide) (fun hq ev h => by simp [go_sem, ((h.get 19 rfl).trans (gw_t (beq_t hq))), ((h.get 21 rfl).trans (gw_t (beq_t hq))), K.cell, K2.cell, conv_reads rfl hx, conv_reads rfl hy]; try first | exact ⟨rfl, rfl⟩ | rfl) fun a22 hA22 => ?_
  refine wl_op hA22 rfl rfl (by decide) (fun ev h => by first | exact pick_and rfl (h.get 17 rfl) (h.get 22 rfl) (h.c _) | exact pick_or rfl (h.get 17 rfl) (h.get 22 rfl) (h.c _) | (simp [go_sem, h.c, h.get 17 rfl, h.get 22 rfl, K.cell, K2.cell, conv_reads rfl hx, conv_reads rfl hy, gv_or, gv_and]; try first | exact ⟨rfl, rfl⟩ | rfl)) fun a23 hA23 => ?_
  refine wl_op hA23 rfl rfl (by decide) (fun ev h => by simp [go_sem, h.get 23 rfl, K.cell, K2.cell, conv_reads rfl hx, conv_reads rfl hy]; try first | exact ⟨rfl, rfl⟩ | rfl) fun a24 hA24 => ?_
  refine wl_guard _ hA24 rfl rfl rfl rfl (by decide) (fun hq ev h => by simp [go_sem, (h.get 2 rfl), K.cell, K2.cell, conv_reads rfl hx, conv_reads rfl hy]; try first | exact ⟨rfl, rfl⟩ | rfl) fun a25 hA25 => ?_
  refine wl_guard _ hA25 rfl rfl rfl rfl (by decide) (fun hq ev h => by simp [go_sem, ((h.get 25 rfl).trans (gw_t (beq_t hq))), K.cell, K2.cell, conv_reads rfl hx, conv_reads rfl hy]; try first | exact ⟨rfl, rfl⟩ | rfl) fun a26 hA26 => ?_
  refine wl_guard _ hA26 rfl rfl rfl rfl (by decide) (fun hq ev h => by simp [go_sem, ((h.get 26 rfl).trans (gw_t (beq_t hq))), K.cell, K2.cell, conv_reads rfl hx, conv_reads rfl hy]; try first | exact ⟨rfl, rfl⟩ | rfl) fun a27 hA27 => ?_
  refine wl_guard _ hA27 rfl rfl rfl rfl (by decide) (fun hq ev h => by simp [go_sem, (h.get 3 rfl), K.cell, K2.cell, conv_reads rfl hx, conv_reads rfl hy]; try first | exact ⟨rfl, rfl⟩ | rfl) fun a28 hA28 => ?_
  refine wl_guard _ hA28 rfl rfl rfl rfl (by decide) (fun hq ev h => by simp [go_sem, ((h.get 28 rfl).trans (gw_t (beq_t hq))), K.cell, K2.cell, conv_reads rfl hx, conv_reads rfl hy]; try first | exact ⟨rfl, rfl⟩ | rfl) fun a29 hA29 => ?_
  refine wl_guard _ hA29 rfl rfl rfl rfl (by decide) (fun hq ev h => by simp [go_sem, ((h.get 29 rfl).trans (gw_t (beq_t hq))), K.cell, K2.cell, conv_reads rfl hx, conv_reads rfl hy]; try first | exact ⟨rfl, rfl⟩ | rfl) fun a30 hA30 => ?_
  refine wl_guard _ hA30 rfl rfl rfl rfl (by decide) (fun hq ev h => by simp [go_sem, ((h.get 27 rfl).trans (gw_t (beq_t hq))), ((h.get 30 rfl).trans (gw_t (beq_t hq))), K.cell, K2.cell, conv_reads rfl hx, conv_reads rfl hy]; try first | exact ⟨rfl, rfl⟩ | rfl) fun a31 hA31 => ?_
  refine wl_op hA31 rfl rfl (by decide) (fun ev h => by first | exact pick_and rfl (h.get 24 rfl) (h.get 31 rfl) (h.c _) | exact pick_or rfl (h.get 24 rfl) (h.get 31 rfl) (h.c _) | (simp [go_sem, h.c, h.get 24 rfl, h.get 31 rfl, K.cell, K2.cell, conv_reads rfl hx, conv_reads rfl hy, gv_or, gv_and]; try first | exact ⟨rfl, rfl⟩ | rfl)) fun a32 hA32 => ?_
  refine wl_op hA32 rfl rfl (by decide) (fun ev h => by simp [go_sem, h.get 32 rfl, K.cell, K2.cell, conv_reads rfl hx, conv_reads rfl hy]; try first | exact ⟨rfl, rfl⟩ | rfl) fun a33 hA33 => ?_
  refine wl_nil ?_
  refine n_then ?_
  have hA34 := hA33.keep [4]
  simp only [argsE, keepE, lookS, Nat.reduceBEq, cond_true, cond_false, Nat.reduceAdd, gv_tt, gv_ff, Bool.true_and, Bool.false_and, Bool.true_or, Bool.false_or] at hA34
  clear hA4 hA5 hA6 hA7 hA8 hA9 hA10 hA11 hA12 hA13 hA14 hA15 hA16 hA17 hA18 hA19 hA20 hA21 hA22 hA23 hA24 hA25 hA26 hA27 hA28 hA29 hA30 hA31 hA32 hA33 a3 a5 a6 a7 a8 a9 a10 a11 a12 a13 a14 a15 a16 a17 a18 a19 a20 a21 a22 a23 a24 a25 a26 a27 a28 a29 a30 a31 a32
  refine wp_ret ?_
  -- ret
  refine ret_1 hA34 4 rfl rfl ?_
  exact ⟨ret_bool (by rw [int_beq]; rfl), HB⟩
set_option maxRecDepth 100000 in
set_option maxHeartbeats 1000000 in
theorem refSameBox_any (nm nm2 : ByteArray) (A A2 : Option Addr) (c c2 n n2 e e2 nx nx2 : Nat) (l l2 : List MsgV) (w : World) (hn : n ≤ 140737488355328) (hms : Msgs w A n l) (hms2 : Msgs w A2 n2 l2) :
    Calls Tryz.prog 23 #[.agg (boxC nm e nx A n c), .agg (boxC nm2 e2 nx2 A2 n2 c2)] w fun ev w' => ev = .returned (.bool (boxSame nm e nx l nm2 e2 nx2 l2)) ∧ Below w.heap.size w w' := by
  have hl := hms.len
  have hl2 := hms2.len
  refine calls_at 53 Tryz.func23 rfl rfl (Nat.le_of_ble_eq_true rfl) ?_
  intro a hA
  simp only [argsE, keepE, lookS, Nat.reduceBEq, cond_true, cond_false, Nat.reduceAdd, gv_tt, gv_ff, Bool.true_and, Bool.false_and, Bool.true_or, Bool.false_or] at hA
  refine wp_seq ?_
  refine wp_region_lit ?_
  -- stop box slot 2
  refine wl_new hA rfl rfl (by decide) (fun ev h => by simp [go_sem, h.get 0 rfl]; try first | exact ⟨rfl, rfl⟩ | rfl) fun w1 a35 (K : Blk _ _ _ _) hz0 hb0 hA35 => ?_
  replace hms := hms.below hb0
  replace hms2 := hms2.below hb0
  refine wl_new hA35 rfl rfl (by decide) (fun ev h => by simp [go_sem, h.get 1 rfl]; try first | exact ⟨rfl, rfl⟩ | rfl) fun w2 a36 (K2 : Blk _ _ _ _) hz2 hb2 hA36 => ?_
  replace hms := hms.below hb2
  replace hms2 := hms2.below hb2
  replace K := K.below hb2 K.lt
  have HB := Below.refl w2.heap.size w2
  unfold boxC at K K2
  refine wl_op hA36 rfl rfl (by decide) (fun ev h => by simp [go_sem, h.c, K.cell, K2.cell]; try first | exact ⟨rfl, rfl⟩ | rfl) fun a37 hA37 => ?_
  refine wl_nil ?_
  refine n_then ?_
  have hA38 := hA37.keep [2, 3]
  simp only [argsE, keepE, lookS, Nat.reduceBEq, cond_true, cond_false, Nat.reduceAdd, gv_tt, gv_ff, Bool.true_and, Bool.false_and, Bool.true_or, Bool.false_or] at hA38
  clear hA hA35 hA36 hA37 a35 a36
  refine wp_seq ?_
  refine wp_seq ?_
  refine wp_region_lit ?_
  refine wl_op hA38 rfl rfl (by decide) (fun ev h => by simp [go_sem, h.get 2 rfl, K.cell, K2.cell]; try first | exact ⟨rfl, rfl⟩ | rfl) fun a39 hA39 => ?_
  refine wl_op hA39 rfl rfl (by decide) (fun ev h => by simp [go_sem, h.get 6 rfl, K.cell, K2.cell]; try first | exact ⟨rfl, rfl⟩ | rfl) fun a40 hA40 => ?_
  refine wl_op hA40 rfl rfl (by decide) (fun ev h => by simp [go_sem, h.get 3 rfl, K.cell, K2.cell]; try first | exact ⟨rfl, rfl⟩ | rfl) fun a41 hA41 => ?_
  refine wl_op hA41 rfl rfl (by decide) (fun ev h => by simp [go_sem, h.get 8 rfl, K.cell, K2.cell]; try first | exact ⟨rfl, rfl⟩ | rfl) fun a42 hA42 => ?_
  refine wl_op hA42 rfl rfl (by decide) (fun ev h => by simp [go_sem, h.get 7 rfl, h.get 9 rfl, K.cell, K2.cell]; try first | exact ⟨rfl, rfl⟩ | rfl) fun a43 hA43 => ?_
  refine wl_op hA43 rfl rfl (by decide) (fun ev h => by simp [go_sem, h.get 10 rfl, K.cell, K2.cell]; try first | exact ⟨rfl, rfl⟩ | rfl) fun a44 hA44 => ?_
  refine wl_guard _ hA44 rfl rfl rfl rfl (by decide) (fun hq ev h => by simp [go_sem, (h.get 2 rfl), K.cell, K2.cell]; try first | exact ⟨rfl, rfl⟩ | rfl) fun a45 hA45 => ?_
  refine wl_guard _ hA45 rfl rfl rfl rfl (by decide) (fun hq ev h => by simp [go_sem, ((h.get 12 rfl).trans (gw_t (beq_t hq))), K.cell, K2.cell]; try first | exact ⟨rfl, rfl⟩ | rfl) fun a46 hA46 => ?_
  refine wl_guard _ hA46 rfl rfl rfl rfl (by decide) (fun hq ev h => by simp [go_sem, (h.get 3 rfl), K.cell, K2.cell]; try first | exact ⟨rfl, rfl⟩ | rfl) fun a47 hA47 => ?_
  refine wl_guard _ hA47 rfl rfl rfl rfl (by decide) (fun hq ev h => by simp [go_sem, ((h.get 14 rfl).trans (gw_t (beq_t hq))), K.cell, K2.cell]; try first | exact ⟨rfl, rfl⟩ | rfl) fun a48 hA48 => ?_
  refine wl_guard _ hA48 rfl rfl rfl rfl (by decide) (fun hq ev h => by simp [go_sem, ((h.get 13 rfl).trans (gw_t (beq_t hq))), ((h.get 15 rfl).trans (gw_t (beq_t hq))), K.cell, K2.cell]; try first | exact ⟨rfl, rfl⟩ | rfl) fun a49 hA49 => ?_
  refine wl_op hA49 rfl rfl (by decide) (fun ev h => by first | exact pick_and rfl (h.get 11 rfl) (h.c _) (h.get 16 rfl) | exact pick_or rfl (h.get 11 rfl) (h.c _) (h.get 16 rfl) | (simp [go_sem, h.c, h.get 11 rfl, h.get 16 rfl, K.cell, K2.cell, gv_or, gv_and]; try first | exact ⟨rfl, rfl⟩ | rfl)) fun a50 hA50 => ?_
  refine wl_op hA50 rfl rfl (by decide) (fun ev h => by simp [go_sem, h.get 17 rfl, K.cell, K2.cell]; try first | exact ⟨rfl, rfl⟩ | rfl) fun a51 hA51 => ?_
  refine wl_guard _ hA51 rfl rfl rfl rfl (by decide) (fun hq ev h => by simp [go_sem, (h.get 2 rfl), K.cell, K2.cell]; try first | exact ⟨rfl, rfl⟩ | rfl) fun a52 hA52 => ?_
  refine wl_guard _ hA52 rfl rfl rfl rfl (by decide) (fun hq ev h => by simp [go_sem, ((h.get 19 rfl).trans (gw_t (beq_t hq))), K.cell, K2.cell]; try first | exact ⟨rfl, rfl⟩ | rfl) fun a53 hA53 => ?_
  refine wl_guard _ hA53 rfl rfl rfl rfl (by decide) (fun hq ev h => by simp [go_sem, (h.get 3 rfl), K.cell, K2.cell]; try first | exact ⟨rfl, rfl⟩ | rfl) fun a54 hA54 => ?_
  refine wl_guard _ hA54 rfl rfl rfl rfl (by decide) (fun hq ev h => by simp [go_sem, ((h.get 21 rfl).trans (gw_t (beq_t hq))), K.cell, K2.cell]; try first | exact ⟨rfl, rfl⟩ | rfl) fun a55 hA55 => ?_
  refine wl_guard _ hA55 rfl rfl rfl rfl (by decide) (fun hq ev h => by simp [go_sem, ((h.get 20 rfl).trans (gw_t (beq_t hq))), ((h.get 22 rfl).trans (gw_t (beq_t hq))), K.cell, K2.cell]; try first | exact ⟨rfl, rfl⟩ | rfl) fun a56 hA56 => ?_
  refine wl_op hA56 rfl rfl (by decide) (fun ev h => by first | exact pick_and rfl (h.get 18 rfl) (h.c _) (h.get 23 rfl) | exact pick_or rfl (h.get 18 rfl) (h.c _) (h.get 23 rfl) | (simp [go_sem, h.c, h.get 18 rfl, h.get 23 rfl, K.cell, K2.cell, gv_or, gv_and]; try first | exact ⟨rfl, rfl⟩ | rfl)) fun a57 hA57 => ?_
  refine wl_op hA57 rfl rfl (by decide) (fun ev h => by simp [go_sem, h.get 24 rfl, K.cell, K2.cell]; try first | exact ⟨rfl, rfl⟩ | rfl) fun a58 hA58 => ?_
  refine wl_guard _ hA58 rfl rfl rfl rfl (by decide) (fun hq ev h => by simp [go_sem, (h.get 2 rfl), K.cell, K2.cell]; try first | exact ⟨rfl, rfl⟩ | rfl) fun a59 hA59 => ?_
  refine wl_guard _ hA59 rfl rfl rfl rfl (by decide) (fun hq ev h => by simp [go_sem, ((h.get 26 rfl).trans (gw_t (beq_t hq))), K.cell, K2.cell]; try first | exact ⟨rfl, rfl⟩ | rfl) fun a60 hA60 => ?_
  refine wl_guard _ hA60 rfl rfl rfl rfl (by decide) (fun hq ev h => by simp [go_sem, ((h.get 27 rfl).trans (gw_t (beq_t hq))), K.cell, K2.cell]; try first | exact ⟨rfl, rfl⟩ | rfl) fun a61 hA61 => ?_
  refine wl_guard _ hA61 rfl rfl rfl rfl (by decide) (fun hq ev h => by simp [go_sem, (h.get 3 rfl), K.cell, K2.cell]; try first | exact ⟨rfl, rfl⟩ | rfl) fun a62 hA62 => ?_
  refine wl_guard _ hA62 rfl rfl rfl rfl (by decide) (fun hq ev h => by simp [go_sem, ((h.get 29 rfl).trans (gw_t (beq_t hq))), K.cell, K2.cell]; try first | exact ⟨rfl, rfl⟩ | rfl) fun a63 hA63 => ?_
  refine wl_guard _ hA63 rfl rfl rfl rfl (by decide) (fun hq ev h => by simp [go_sem, ((h.get 30 rfl).trans (gw_t (beq_t hq))), K.cell, K2.cell]; try first | exact ⟨rfl, rfl⟩ | rfl) fun a64 hA64 => ?_
  refine wl_guard _ hA64 rfl rfl rfl rfl (by decide) (fun hq ev h => by simp [go_sem, ((h.get 28 rfl).trans (gw_t (beq_t hq))), ((h.get 31 rfl).trans (gw_t (beq_t hq))), K.cell, K2.cell]; try first | exact ⟨rfl, rfl⟩ | rfl) fun a65 hA65 => ?_
  refine wl_op hA65 rfl rfl (by decide) (fun ev h => by first | exact pick_and rfl (h.get 25 rfl) (h.c _) (h.get 32 rfl) | exact pick_or rfl (h.get 25 rfl) (h.c _) (h.get 32 rfl) | (simp [go_sem, h.c, h.get 25 rfl, h.get 32 rfl, K.cell, K2.cell, gv_or, gv_and]; try first | exact ⟨rfl, rfl⟩ | rfl)) fun a66 hA66 => ?_
  refine wl_nil ?_
  refine n_then ?_
  have hA67 := hA66.keep [2, 3, 33]
  simp only [argsE, keepE, lookS, Nat.reduceBEq, cond_true, cond_false, Nat.reduceAdd, gv_tt, gv_ff, Bool.true_and, Bool.false_and, Bool.true_or, Bool.false_or] at hA67
  clear hA38 hA39 hA40 hA41 hA42 hA43 hA44 hA45 hA46 hA47 hA48 hA49 hA50 hA51 hA52 hA53 hA54 hA55 hA56 hA57 hA58 hA59 hA60 hA61 hA62 hA63 hA64 hA65 hA66 a37 a39 a40 a41 a42 a43 a44 a45 a46 a47 a48 a49 a50 a51 a52 a53 a54 a55 a56 a57 a58 a59 a60 a61 a62 a63 a64 a65
  -- cond
  have hbs : boxSame nm e nx l nm2 e2 nx2 l2 = (!(!nm.toList == nm2.toList || (e : Int) != (e2 : Int) || (nx : Int) != (nx2 : Int) || (n : Int) != (n2 : Int)) && sameL l l2) := by
    unfold boxSame
    simp only [bne, int_beq]
    by_cases h : n = n2
    · subst h; simp
    · rw [sameL_len (by omega)]; simp
  obtain ⟨q, hqe⟩ : ∃ q, (!nm.toList == nm2.toList || (e : Int) != (e2 : Int) || (nx : Int) != (nx2 : Int) || (n : Int) != (n2 : Int)) = q := ⟨_, rfl⟩
  have hnn : q = false → n = n2 := fun h => by rw [h] at hqe; simp at hqe; omega
  rw [hqe] at hbs hA67
  rw [hbs]
  refine wp_if hA67 33 _ rfl (fun hq => ?yE) (fun hq => ?nE)
  case yE =>
    subst hq
    refine wp_seq ?_
    refine wp_region_lit ?_
    refine wl_op hA67 rfl rfl (by decide) (fun ev h => by simp [go_sem, h.c, K.cell, K2.cell]; try first | exact ⟨rfl, rfl⟩ | rfl) fun a68 hA68 => ?_
    refine wl_nil ?_
    refine n_then ?_
    have hA69 := hA68.keep [4]
    simp only [argsE, keepE, lookS, Nat.reduceBEq, cond_true, cond_false, Nat.reduceAdd, gv_tt, gv_ff, Bool.true_and, Bool.false_and, Bool.true_or, Bool.false_or] at hA69
    clear hA67 hA68
    refine wp_ret ?_
    refine r_then ?_
    refine ret_1 hA69 4 rfl rfl ?_
    exact ⟨rfl, hb0.trans ((hb2.trans (HB.mono hb2.size)).mono hb0.size)⟩
  case nE =>
    subst hq
    obtain rfl := hnn rfl
    rw [Bool.not_false, Bool.true_and]
    refine wp_skip ?_
    refine n_then ?_
    refine wp_seq ?_
    refine wp_seq ?_
    refine wp_region_lit ?_
    refine wl_op hA67 rfl rfl (by decide) (fun ev h => by simp [go_sem, h.get 2 rfl, K.cell, K2.cell]; try first | exact ⟨rfl, rfl⟩ | rfl) fun a70 hA70 => ?_
    refine wl_op hA70 rfl rfl (by decide) (fun ev h => by simp [go_sem, h.get 34 rfl, K.cell, K2.cell]; try first | exact ⟨rfl, rfl⟩ | rfl) fun a71 hA71 => ?_
    refine wl_op hA71 rfl rfl (by decide) (fun ev h => by simp [go_sem, h.get 35 rfl, K.cell, K2.cell]; try first | exact ⟨rfl, rfl⟩ | rfl) fun a72 hA72 => ?_
    refine wl_op hA72 rfl rfl (by decide) (fun ev h => by simp [go_sem, h.c, K.cell, K2.cell]; try first | exact ⟨rfl, rfl⟩ | rfl) fun a73 hA73 => ?_
    refine wl_nil ?_
    refine n_then ?_
    have hA74 := hA73.keep [2, 3, 36, 37]
    simp only [argsE, keepE, lookS, Nat.reduceBEq, cond_true, cond_false, Nat.reduceAdd, gv_tt, gv_ff, Bool.true_and, Bool.false_and, Bool.true_or, Bool.false_or] at hA74
    clear hA67 hA70 hA71 hA72 hA73 a70 a71 a72
    refine wp_block ?_
    -- loop
    refine wp_loop_at (fun k a wx => ∃ (j : Nat), j + k = n ∧ At 53 [(2, .pointer (some ⟨w.heap.size, 0, none⟩)), (3, .pointer (some ⟨w1.heap.size, 0, none⟩)), (36, .int .i64 (n : Nat)), (37, .int .i64 (j : Nat))] a ∧ sameL l l2 = sameL (l.drop j) (l2.drop j) ∧ Below w2.heap.size w2 wx) (n) ?_ ?_
    · exact ⟨0, by omega, hA74, rfl, HB⟩
    clear HB
    rintro k a wx ⟨j, hjk, hA, hall, HB⟩
    refine wp_seq ?_
    refine wp_region_lit ?_
    refine wl_op hA rfl rfl (by decide) (fun ev h => by simp [go_sem, h.get 37 rfl, h.get 36 rfl]; try first | exact ⟨rfl, rfl⟩ | rfl) fun a75 hA75 => ?_
    refine wl_nil ?_
    refine n_then ?_
    have hA76 := hA75.keep [2, 3, 36, 37, 38]
    simp only [argsE, keepE, lookS, Nat.reduceBEq, cond_true, cond_false, Nat.reduceAdd, gv_tt, gv_ff, Bool.true_and, Bool.false_and, Bool.true_or, Bool.false_or] at hA76
    clear hA hA75
    refine wp_seq ?_
    -- cond
    refine wp_if hA76 38 _ rfl (fun hq => ?yL) (fun hq => ?nL)
    case yL =>
      have hlt : j < n := by simp at hq; omega
      obtain ⟨x, hx⟩ : ∃ x, l[j]? = some x := ⟨_, List.getElem?_eq_getElem (by omega)⟩
      obtain ⟨y, hy⟩ : ∃ y, l2[j]? = some y := ⟨_, List.getElem?_eq_getElem (by omega)⟩
      rw [sameL_at hx hy] at hall
      obtain ⟨ad, rfl, hadl, k0, k1, k2, k3⟩ := hms.at_ hx
      obtain ⟨ad2, rfl, hadl2, l0, l1, l2', l3⟩ := hms2.at_ hy
      have jj0 : (0 : Int) ≤ (j : Int) := by omega
      have jj1 : (j : Int) < (n : Int) := by omega
      have hwj : IntKind.i64.wrap ((j : Int) + 1) = (j : Int) + 1 := IntWalk.i64_in _ (by omega)
      refine wp_skip ?_
      refine n_then ?_
      refine wp_seq ?_
      refine wp_block ?_
      refine wp_seq ?_
      refine wp_region_lit ?_
      refine wl_op hA76 rfl rfl (by decide) (fun ev h => by simp [go_sem, h.get 37 rfl]; try first | exact ⟨rfl, rfl⟩ | rfl) fun a77 hA77 => ?_
      refine wl_op hA77 rfl rfl (by decide) (fun ev h => by simp [go_sem, h.get 39 rfl]; try first | exact ⟨rfl, rfl⟩ | rfl) fun a78 hA78 => ?_
      refine wl_nil ?_
      refine n_then ?_
      have hA79 := hA78.keep [2, 3, 5, 36, 37]
      simp only [argsE, keepE, lookS, Nat.reduceBEq, cond_true, cond_false, Nat.reduceAdd, gv_tt, gv_ff, Bool.true_and, Bool.false_and, Bool.true_or, Bool.false_or] at hA79
      clear hA76 hA77 hA78 a77
      refine wp_seq ?_
      -- any
      refine wp_any_at hA79 [(.det ?dD0), (.det ?dD1), (.det ?dD2), (.det ?dD3), (.det ?dD4), (.det ?dD5), (.det ?dD6), (.det ?dD7), (.det ?dD8), (.det ?dD9), (.det ?dD10), (.det ?dD11)] [] (fun wy => Below w2.heap.size w2 wy) (TSp [] Grows) (by kernel_rfl) rfl (by kernel_rfl) (by kernel_rfl) rfl (HB.drew) (stab_sp [] [true, true, true, true, true, true, true, true, true, true, true, true] [true, true, true, true, true, true, true, true, true, true, true, true] [] rfl rfl rfl (by kernel_rfl) ⟨trivial, trivial, trivial, trivial, trivial, trivial, trivial, trivial, trivial, trivial, trivial, trivial, trivial⟩ trivial) (fun _ h => by cases h) (fun _ _ _ _ _ h => by cases h) (fun _ h => by cases h) ⟨?oD0, ?oD1, ?oD2, ?oD3, ?oD4, ?oD5, ?oD6, ?oD7, ?oD8, ?oD9, ?oD10, ?oD11, trivial⟩ (by kernel_rfl) ?fD
      case oD0 =>
        intro ev wo hev hC hs hph
        have e2 := see_env hA79 hs 2 (by kernel_rfl) (by kernel_rfl) rfl
        exact ob_det (wanted_none rfl) rfl (by kernel_rfl) hC (TSp.of rfl (Grows.refl _)) (by simp [go_sem, e2]; try first | exact ⟨rfl, rfl⟩ | rfl)
      case oD1 =>
        intro ev wo hev hC hs hph
        have e40 := see_det hs 40 0 (by kernel_rfl) (by kernel_rfl) rfl
        have Kx := K.below hC K.lt
        have Kx2 := K2.below hC K2.lt
        have z0 := (hC.cell hadl).trans k0
        have z1 := (hC.cell (p := ⟨(ad.add (j * 4)).block, (ad.add (j * 4)).off + 1, none⟩) hadl).trans k1
        have z2 := (hC.cell (p := ⟨(ad.add (j * 4)).block, (ad.add (j * 4)).off + 2, none⟩) hadl).trans k2
        have z3 := (hC.cell (p := ⟨(ad.add (j * 4)).block, (ad.add (j * 4)).off + 3, none⟩) hadl).trans k3
        have y0 := (hC.cell hadl2).trans l0
        have y1 := (hC.cell (p := ⟨(ad2.add (j * 4)).block, (ad2.add (j * 4)).off + 1, none⟩) hadl2).trans l1
        have y2 := (hC.cell (p := ⟨(ad2.add (j * 4)).block, (ad2.add (j * 4)).off + 2, none⟩) hadl2).trans l2'
        have y3 := (hC.cell (p := ⟨(ad2.add (j * 4)).block, (ad2.add (j * 4)).off + 3, none⟩) hadl2).trans l3
        exact ob_det (wanted_none rfl) rfl (by kernel_rfl) hC (TSp.of rfl (Grows.refl _)) (by simp [go_sem, e40, Kx.cell, Kx2.cell, z0, z1, z2, z3, y0, y1, y2, y3]; try first | exact ⟨rfl, rfl⟩ | rfl)
      case oD2 =>
        intro ev wo hev hC hs hph
        have e5 := see_env hA79 hs 5 (by kernel_rfl) (by kernel_rfl) rfl
        exact ob_det (wanted_none rfl) rfl (by kernel_rfl) hC (TSp.of rfl (Grows.refl _)) (by simp [go_sem, e5]; try first | exact ⟨rfl, rfl⟩ | rfl)
      case oD3 =>
        intro ev wo hev hC hs hph
        have e41 := see_det hs 41 1 (by kernel_rfl) (by kernel_rfl) rfl
        have e42 := see_det hs 42 2 (by kernel_rfl) (by kernel_rfl) rfl
        have Kx := K.below hC K.lt
        have Kx2 := K2.below hC K2.lt
        have z0 := (hC.cell hadl).trans k0
        have z1 := (hC.cell (p := ⟨(ad.add (j * 4)).block, (ad.add (j * 4)).off + 1, none⟩) hadl).trans k1
        have z2 := (hC.cell (p := ⟨(ad.add (j * 4)).block, (ad.add (j * 4)).off + 2, none⟩) hadl).trans k2
        have z3 := (hC.cell (p := ⟨(ad.add (j * 4)).block, (ad.add (j * 4)).off + 3, none⟩) hadl).trans k3
        have y0 := (hC.cell hadl2).trans l0
        have y1 := (hC.cell (p := ⟨(ad2.add (j * 4)).block, (ad2.add (j * 4)).off + 1, none⟩) hadl2).trans l1
        have y2 := (hC.cell (p := ⟨(ad2.add (j * 4)).block, (ad2.add (j * 4)).off + 2, none⟩) hadl2).trans l2'
        have y3 := (hC.cell (p := ⟨(ad2.add (j * 4)).block, (ad2.add (j * 4)).off + 3, none⟩) hadl2).trans l3
        exact ob_det (wanted_none rfl) rfl (by kernel_rfl) hC (TSp.of rfl (Grows.refl _)) (by simp [go_sem, e41, e42, jj0, jj1]; try first | exact ⟨rfl, rfl⟩ | rfl)
      case oD4 =>
        intro ev wo hev hC hs hph
        have e43 := see_det hs 43 3 (by kernel_rfl) (by kernel_rfl) rfl
        have Kx := K.below hC K.lt
        have Kx2 := K2.below hC K2.lt
        have z0 := (hC.cell hadl).trans k0
        have z1 := (hC.cell (p := ⟨(ad.add (j * 4)).block, (ad.add (j * 4)).off + 1, none⟩) hadl).trans k1
        have z2 := (hC.cell (p := ⟨(ad.add (j * 4)).block, (ad.add (j * 4)).off + 2, none⟩) hadl).trans k2
        have z3 := (hC.cell (p := ⟨(ad.add (j * 4)).block, (ad.add (j * 4)).off + 3, none⟩) hadl).trans k3
        have y0 := (hC.cell hadl2).trans l0
        have y1 := (hC.cell (p := ⟨(ad2.add (j * 4)).block, (ad2.add (j * 4)).off + 1, none⟩) hadl2).trans l1
        have y2 := (hC.cell (p := ⟨(ad2.add (j * 4)).block, (ad2.add (j * 4)).off + 2, none⟩) hadl2).trans l2'
        have y3 := (hC.cell (p := ⟨(ad2.add (j * 4)).block, (ad2.add (j * 4)).off + 3, none⟩) hadl2).trans l3
        exact ob_det (wanted_none rfl) rfl (by kernel_rfl) hC (TSp.of rfl (Grows.refl _)) (by simp [go_sem, e43, Kx.cell, Kx2.cell, z0, z1, z2, z3, y0, y1, y2, y3]; try first | exact ⟨rfl, rfl⟩ | rfl)
      case oD5 =>
        intro ev wo hev hC hs hph
        have e3 := see_env hA79 hs 3 (by kernel_rfl) (by kernel_rfl) rfl
        exact ob_det (wanted_none rfl) rfl (by kernel_rfl) hC (TSp.of rfl (Grows.refl _)) (by simp [go_sem, e3]; try first | exact ⟨rfl, rfl⟩ | rfl)
      case oD6 =>
        intro ev wo hev hC hs hph
        have e45 := see_det hs 45 5 (by kernel_rfl) (by kernel_rfl) rfl
        have Kx := K.below hC K.lt
        have Kx2 := K2.below hC K2.lt
        have z0 := (hC.cell hadl).trans k0
        have z1 := (hC.cell (p := ⟨(ad.add (j * 4)).block, (ad.add (j * 4)).off + 1, none⟩) hadl).trans k1
        have z2 := (hC.cell (p := ⟨(ad.add (j * 4)).block, (ad.add (j * 4)).off + 2, none⟩) hadl).trans k2
        have z3 := (hC.cell (p := ⟨(ad.add (j * 4)).block, (ad.add (j * 4)).off + 3, none⟩) hadl).trans k3
        have y0 := (hC.cell hadl2).trans l0
        have y1 := (hC.cell (p := ⟨(ad2.add (j * 4)).block, (ad2.add (j * 4)).off + 1, none⟩) hadl2).trans l1
        have y2 := (hC.cell (p := ⟨(ad2.add (j * 4)).block, (ad2.add (j * 4)).off + 2, none⟩) hadl2).trans l2'
        have y3 := (hC.cell (p := ⟨(ad2.add (j * 4)).block, (ad2.add (j * 4)).off + 3, none⟩) hadl2).trans l3
        exact ob_det (wanted_none rfl) rfl (by kernel_rfl) hC (TSp.of rfl (Grows.refl _)) (by simp [go_sem, e45, Kx.cell, Kx2.cell, z0, z1, z2, z3, y0, y1, y2, y3]; try first | exact ⟨rfl, rfl⟩ | rfl)
      case oD7 =>
        intro ev wo hev hC hs hph
        have e5 := see_env hA79 hs 5 (by kernel_rfl) (by kernel_rfl) rfl
        exact ob_det (wanted_none rfl) rfl (by kernel_rfl) hC (TSp.of rfl (Grows.refl _)) (by simp [go_sem, e5]; try first | exact ⟨rfl, rfl⟩ | rfl)
      case oD8 =>
        intro ev wo hev hC hs hph
        have e46 := see_det hs 46 6 (by kernel_rfl) (by kernel_rfl) rfl
        have e47 := see_det hs 47 7 (by kernel_rfl) (by kernel_rfl) rfl
        have Kx := K.below hC K.lt
        have Kx2 := K2.below hC K2.lt
        have z0 := (hC.cell hadl).trans k0
        have z1 := (hC.cell (p := ⟨(ad.add (j * 4)).block, (ad.add (j * 4)).off + 1, none⟩) hadl).trans k1
        have z2 := (hC.cell (p := ⟨(ad.add (j * 4)).block, (ad.add (j * 4)).off + 2, none⟩) hadl).trans k2
        have z3 := (hC.cell (p := ⟨(ad.add (j * 4)).block, (ad.add (j * 4)).off + 3, none⟩) hadl).trans k3
        have y0 := (hC.cell hadl2).trans l0
        have y1 := (hC.cell (p := ⟨(ad2.add (j * 4)).block, (ad2.add (j * 4)).off + 1, none⟩) hadl2).trans l1
        have y2 := (hC.cell (p := ⟨(ad2.add (j * 4)).block, (ad2.add (j * 4)).off + 2, none⟩) hadl2).trans l2'
        have y3 := (hC.cell (p := ⟨(ad2.add (j * 4)).block, (ad2.add (j * 4)).off + 3, none⟩) hadl2).trans l3
        exact ob_det (wanted_none rfl) rfl (by kernel_rfl) hC (TSp.of rfl (Grows.refl _)) (by simp [go_sem, e46, e47, jj0, jj1]; try first | exact ⟨rfl, rfl⟩ | rfl)
      case oD9 =>
        intro ev wo hev hC hs hph
        have e48 := see_det hs 48 8 (by kernel_rfl) (by kernel_rfl) rfl
        have Kx := K.below hC K.lt
        have Kx2 := K2.below hC K2.lt
        have z0 := (hC.cell hadl).trans k0
        have z1 := (hC.cell (p := ⟨(ad.add (j * 4)).block, (ad.add (j * 4)).off + 1, none⟩) hadl).trans k1
        have z2 := (hC.cell (p := ⟨(ad.add (j * 4)).block, (ad.add (j * 4)).off + 2, none⟩) hadl).trans k2
        have z3 := (hC.cell (p := ⟨(ad.add (j * 4)).block, (ad.add (j * 4)).off + 3, none⟩) hadl).trans k3
        have y0 := (hC.cell hadl2).trans l0
        have y1 := (hC.cell (p := ⟨(ad2.add (j * 4)).block, (ad2.add (j * 4)).off + 1, none⟩) hadl2).trans l1
        have y2 := (hC.cell (p := ⟨(ad2.add (j * 4)).block, (ad2.add (j * 4)).off + 2, none⟩) hadl2).trans l2'
        have y3 := (hC.cell (p := ⟨(ad2.add (j * 4)).block, (ad2.add (j * 4)).off + 3, none⟩) hadl2).trans l3
        exact ob_det (wanted_none rfl) rfl (by kernel_rfl) hC (TSp.of rfl (Grows.refl _)) (by simp [go_sem, e48, Kx.cell, Kx2.cell, z0, z1, z2, z3, y0, y1, y2, y3]; try first | exact ⟨rfl, rfl⟩ | rfl)
      case oD10 =>
        intro ev wo hev hC hs hph
        have e44 := see_det hs 44 4 (by kernel_rfl) (by kernel_rfl) rfl
        have e49 := see_det hs 49 9 (by kernel_rfl) (by kernel_rfl) rfl
        have Kx := K.below hC K.lt
        have Kx2 := K2.below hC K2.lt
        have z0 := (hC.cell hadl).trans k0
        have z1 := (hC.cell (p := ⟨(ad.add (j * 4)).block, (ad.add (j * 4)).off + 1, none⟩) hadl).trans k1
        have z2 := (hC.cell (p := ⟨(ad.add (j * 4)).block, (ad.add (j * 4)).off + 2, none⟩) hadl).trans k2
        have z3 := (hC.cell (p := ⟨(ad.add (j * 4)).block, (ad.add (j * 4)).off + 3, none⟩) hadl).trans k3
        have y0 := (hC.cell hadl2).trans l0
        have y1 := (hC.cell (p := ⟨(ad2.add (j * 4)).block, (ad2.add (j * 4)).off + 1, none⟩) hadl2).trans l1
        have y2 := (hC.cell (p := ⟨(ad2.add (j * 4)).block, (ad2.add (j * 4)).off + 2, none⟩) hadl2).trans l2'
        have y3 := (hC.cell (p := ⟨(ad2.add (j * 4)).block, (ad2.add (j * 4)).off + 3, none⟩) hadl2).trans l3
        exact ob_dcall (wanted_none rfl) rfl (by kernel_rfl) (refSame_any x y _ (((hms.octs x (List.mem_of_getElem? hx)).below hC).more hC.size) (((hms2.octs y (List.mem_of_getElem? hy)).below hC).more hC.size)) (exec_call Tryz.func17 (by kernel_rfl) rfl (hev.func _) (by first | (simp only [List.map_toArray, List.map_cons, List.map_nil, e44, e49, hev.const]; done) | (simp only [List.map_toArray, List.map_cons, List.map_nil, e44, e49, hev.const]; rfl) | (simp [List.map_toArray, List.map_cons, List.map_nil, e44, e49, hev.const]; done) | (simp [List.map_toArray, List.map_cons, List.map_nil, e44, e49, hev.const]; rfl) | rfl)) (by rfl) (fun w3 hb3 => ⟨hC.trans (hb3.mono hC.size), TSp.of rfl hb3⟩)
      case oD11 =>
        intro ev wo hev hC hs hph
        have e50 := see_det hs 50 10 (by kernel_rfl) (by kernel_rfl) rfl
        exact ob_det (wanted_none rfl) rfl (by kernel_rfl) hC (TSp.of rfl (Grows.refl _)) (by simp [go_sem, e50]; try first | exact ⟨rfl, rfl⟩ | rfl)
      intro sg wf hC hph
      intro a80 hA80
      refine n_then ?_
      have hA81 := hA80.keep [2, 3, 36, 37, 51]
      simp only [argsE, keepE, lookS, Nat.reduceBEq, cond_true, cond_false, Nat.reduceAdd, gv_tt, gv_ff, Bool.true_and, Bool.false_and, Bool.true_or, Bool.false_or] at hA81
      clear hA79 hA80 a78
      refine wp_if hA81 51 _ rfl (fun hq2 => ?yR) (fun hq2 => ?nR)
      case yR =>
        have hq2 : sameV x y = false := by simpa using hq2
        rw [hq2, Bool.false_and] at hall
        refine wp_seq ?_
        refine wp_region_lit ?_
        refine wl_op hA81 rfl rfl (by decide) (fun ev h => by simp [go_sem, h.c, hwj]; try first | exact ⟨rfl, rfl⟩ | rfl) fun a82 hA82 => ?_
        refine wl_nil ?_
        refine n_then ?_
        have hA83 := hA82.keep [4]
        simp only [argsE, keepE, lookS, Nat.reduceBEq, cond_true, cond_false, Nat.reduceAdd, gv_tt, gv_ff, Bool.true_and, Bool.false_and, Bool.true_or, Bool.false_or] at hA83
        clear hA81 hA82
        refine wp_ret ?_
        refine r_block ?_
        refine r_then ?_
        refine r_then ?_
        refine r_block ?_
        refine r_then ?_
        refine ret_1 hA83 4 rfl rfl ?_
        exact ⟨ret_bool hall.symm, hb0.trans ((hb2.trans (hC.mono hb2.size)).mono hb0.size)⟩
      case nR =>
        have hq2 : sameV x y = true := by simpa using hq2
        rw [hq2, Bool.true_and] at hall
        refine wp_skip ?_
        refine n_block ?_
        refine n_then ?_
        refine wp_region_lit ?_
        refine wl_op hA81 rfl rfl (by decide) (fun ev h => by simp [go_sem, h.c, h.get 37 rfl, hwj]; try first | exact ⟨rfl, rfl⟩ | rfl) fun a84 hA84 => ?_
        refine wl_op hA84 rfl rfl (by decide) (fun ev h => by simp [go_sem, h.get 52 rfl, hwj]; try first | exact ⟨rfl, rfl⟩ | rfl) fun a85 hA85 => ?_
        refine wl_nil ?_
        refine n_then ?_
        have hA86 := hA85.keep [2, 3, 36, 37]
        simp only [argsE, keepE, lookS, Nat.reduceBEq, cond_true, cond_false, Nat.reduceAdd, gv_tt, gv_ff, Bool.true_and, Bool.false_and, Bool.true_or, Bool.false_or] at hA86
        clear hA81 hA84 hA85 a84
        -- round
        rw [show ((j : Int) + 1) = ((j + 1 : Nat) : Int) by omega] at hA86
        exact ⟨k - 1, by omega, j + 1, by omega, hA86, hall, hC⟩
    case nL =>
      have hjn : j = n := by simp at hq; omega
      subst hjn
      rw [List.drop_of_length_le (by omega), List.drop_of_length_le (by omega)] at hall
      refine wp_exit ?_
      refine x_then ?_
      refine x_then ?_
      refine x_block ?_
      refine n_then ?_
      have hA87 := hA76.keep []
      simp only [argsE, keepE, lookS, Nat.reduceBEq, cond_true, cond_false, Nat.reduceAdd, gv_tt, gv_ff, Bool.true_and, Bool.false_and, Bool.true_or, Bool.false_or] at hA87
      clear hA76
      refine wp_seq ?_
      refine wp_region_lit ?_
      refine wl_op hA87 rfl rfl (by decide) (fun ev h => by simp [go_sem, h.c]; try first | exact ⟨rfl, rfl⟩ | rfl) fun a88 hA88 => ?_
      refine wl_nil ?_
      refine n_then ?_
      have hA89 := hA88.keep [4]
      simp only [argsE, keepE, lookS, Nat.reduceBEq, cond_true, cond_false, Nat.reduceAdd, gv_tt, gv_ff, Bool.true_and, Bool.false_and, Bool.true_or, Bool.false_or] at hA89
      clear hA87 hA88
      refine wp_ret ?_
      refine ret_1 hA89 4 rfl rfl ?_
      exact ⟨by rw [hall]; rfl, hb0.trans ((hb2.trans (HB.mono hb2.size)).mono hb0.size)⟩
end Go.Proofs.YtmjikfeaopmejaaGreatDoor
/-
  Walk: a note's octets, as the document says.
-/
namespace Go.Proofs.YtmjikfeaopmejaaGreatDoor
open Go.RowKit
set_option linter.unusedSimpArgs false
set_option linter.unusedVariables false
theorem be_one (n : Nat) : be 1 n = [UInt8.ofNat n] := by rw [be_snoc]; rfl
set_option maxRecDepth 100000 in
set_option maxHeartbeats 2000000 in
theorem refNote_any (k : Int) (e : Nat) (nm : ByteArray) (m : MsgV) (w : World) (hv : formedV k e nm m = true) (he : e < 4294967296) (hu : m.uid < 4294967296) (hr : Reads w w.heap.size 1 m.a m.b.length (u8s m.b)) :
    Calls Tryz.prog 15 #[.agg (noteC k e nm m)] w fun ev w' => ∃ r, ev = .returned r ∧ Own8 w.heap.size w' r (encV k e nm m) ∧ Below w.heap.size w w' := by
  obtain ⟨h1e, h60, h20, hk, hdf⟩ := formed_parts hv
  have l1 := enc1_len k m
  have l2 := enc2_len k m
  have l3 := enc3_len k nm
  refine calls_at 47 Tryz.func15 rfl rfl (Nat.le_of_ble_eq_true rfl) ?_
  intro a hA
  simp only [argsE, keepE, lookS, Nat.reduceBEq, cond_true, cond_false, Nat.reduceAdd, gv_tt, gv_ff, Bool.true_and, Bool.false_and, Bool.true_or, Bool.false_or] at hA
  refine wp_seq ?_
  refine wp_region_lit ?_
  -- stop box slot 1
  refine wl_new hA rfl rfl (by decide) (fun ev h => by simp [go_sem, h.get 0 rfl]; try first | exact ⟨rfl, rfl⟩ | rfl) fun w1 a1 (K : Blk _ _ _ _) hz hb0 hA1 => ?_
  unfold noteC at K
  have hwe : IntKind.u64.wrap (e : Int) = (e : Int) := IntWalk.u64_in _ (by omega)
  have hwu : IntKind.u64.wrap (m.uid : Int) = (m.uid : Int) := IntWalk.u64_in _ (by omega)
  have HB := Below.refl w1.heap.size w1
  refine wl_op hA1 rfl rfl (by decide) (fun ev h => by simp [go_sem, h.c, K.cell, hwe]; try first | exact ⟨rfl, rfl⟩ | rfl) fun a2 hA2 => ?_
  refine wl_nil ?_
  refine n_then ?_
  have hA3 := hA2.keep [1]
  simp only [argsE, keepE, lookS, Nat.reduceBEq, cond_true, cond_false, Nat.reduceAdd, gv_tt, gv_ff, Bool.true_and, Bool.false_and, Bool.true_or, Bool.false_or] at hA3
  clear hA hA1 hA2 a1
  refine wp_seq ?_
  refine wp_region_lit ?_
  refine wl_op hA3 rfl rfl (by decide) (fun ev h => by simp [go_sem, h.get 1 rfl, K.cell, hwe]; try first | exact ⟨rfl, rfl⟩ | rfl) fun a4 hA4 => ?_
  refine wl_op hA4 rfl rfl (by decide) (fun ev h => by simp [go_sem, h.get 4 rfl, K.cell, hwe]; try first | exact ⟨rfl, rfl⟩ | rfl) fun a5 hA5 => ?_
  refine wl_op hA5 rfl rfl (by decide) (fun ev h => by simp [go_sem, h.get 5 rfl, K.cell, hwe]; try first | exact ⟨rfl, rfl⟩ | rfl) fun a6 hA6 => ?_
  -- stop call slot 7
  refine wl_call hA6 rfl rfl (by decide) (fun ev h => exec_call Tryz.func46 (by kernel_rfl) rfl (h.f _) (by first | (simp only [List.map_toArray, List.map_cons, List.map_nil, h.get 6 rfl, h.c]; done) | (simp only [List.map_toArray, List.map_cons, List.map_nil, h.get 6 rfl, h.c]; rfl) | (simp [List.map_toArray, List.map_cons, List.map_nil, h.get 6 rfl, h.c, K.cell, hwe]; done) | (simp [List.map_toArray, List.map_cons, List.map_nil, h.get 6 rfl, h.c, K.cell, hwe]; rfl) | rfl)) (refBytes_any e 4 (by omega) (by omega) _) ?_
  rintro e w2 ⟨v2, rfl, ho, hb⟩
  refine ⟨_, rfl, fun a7 hA7 => ?_⟩
  replace HB := HB.trans (hb.mono HB.size)
  have hO : Own8 w1.heap.size w2 v2 (be 4 e) := Own8.of ho
  have K0 := K.below HB K.lt
  refine wl_op hA7 rfl rfl (by decide) (fun ev h => by simp [go_sem, h.get 7 rfl, K0.cell]; try first | exact ⟨rfl, rfl⟩ | rfl) fun a8 hA8 => ?_
  refine wl_nil ?_
  refine n_then ?_
  have hA9 := hA8.keep [1, 3]
  simp only [argsE, keepE, lookS, Nat.reduceBEq, cond_true, cond_false, Nat.reduceAdd, gv_tt, gv_ff, Bool.true_and, Bool.false_and, Bool.true_or, Bool.false_or] at hA9
  clear hA3 hA4 hA5 hA6 hA7 hA8 a2 a4 a5 a6 a7
  refine wp_seq ?_
  refine wp_seq ?_
  refine wp_region_lit ?_
  refine wl_op hA9 rfl rfl (by decide) (fun ev h => by simp [go_sem, h.get 1 rfl, K0.cell]; try first | exact ⟨rfl, rfl⟩ | rfl) fun a10 hA10 => ?_
  refine wl_op hA10 rfl rfl (by decide) (fun ev h => by simp [go_sem, h.get 8 rfl, K0.cell]; try first | exact ⟨rfl, rfl⟩ | rfl) fun a11 hA11 => ?_
  refine wl_op hA11 rfl rfl (by decide) (fun ev h => by simp [go_sem, h.c, h.get 9 rfl, K0.cell]; try first | exact ⟨rfl, rfl⟩ | rfl) fun a12 hA12 => ?_
  refine wl_nil ?_
  refine n_then ?_
  have hA13 := hA12.keep [1, 3, 10]
  simp only [argsE, keepE, lookS, Nat.reduceBEq, cond_true, cond_false, Nat.reduceAdd, gv_tt, gv_ff, Bool.true_and, Bool.false_and, Bool.true_or, Bool.false_or] at hA13
  clear hA9 hA10 hA11 hA12 a8 a10 a11
  -- cond
  refine wp_join (fun a wx => ∃ v, At 47 [(1, .pointer (some ⟨w.heap.size, 0, none⟩)), (3, v)] a ∧ Own8 w1.heap.size wx v (be 4 e ++ enc1 k m) ∧ Below w1.heap.size w1 wx) ?jfJ ?jrJ
  case jfJ =>
    refine wp_if hA13 10 _ rfl (fun hq => ?yD) (fun hq => ?nD)
    case yD =>
      have hq : (k == 1) = false := by
        have : 1 < k := by simpa using hq
        rw [beq_eq_false_iff_ne]
        omega
      refine wp_region_lit ?_
      refine wl_op hA13 rfl rfl (by decide) (fun ev h => by simp [go_sem, h.get 3 rfl, K0.cell, hwu]; try first | exact ⟨rfl, rfl⟩ | rfl) fun a14 hA14 => ?_
      refine wl_op hA14 rfl rfl (by decide) (fun ev h => by simp [go_sem, h.get 1 rfl, K0.cell, hwu]; try first | exact ⟨rfl, rfl⟩ | rfl) fun a15 hA15 => ?_
      refine wl_op hA15 rfl rfl (by decide) (fun ev h => by simp [go_sem, h.get 12 rfl, K0.cell, hwu]; try first | exact ⟨rfl, rfl⟩ | rfl) fun a16 hA16 => ?_
      refine wl_op hA16 rfl rfl (by decide) (fun ev h => by simp [go_sem, h.get 13 rfl, K0.cell, hwu]; try first | exact ⟨rfl, rfl⟩ | rfl) fun a17 hA17 => ?_
      refine wl_op hA17 rfl rfl (by decide) (fun ev h => by simp [go_sem, h.get 14 rfl, K0.cell, hwu]; try first | exact ⟨rfl, rfl⟩ | rfl) fun a18 hA18 => ?_
      -- stop call slot 16
      refine wl_call hA18 rfl rfl (by decide) (fun ev h => exec_call Tryz.func46 (by kernel_rfl) rfl (h.f _) (by first | (simp only [List.map_toArray, List.map_cons, List.map_nil, h.get 15 rfl, h.c]; done) | (simp only [List.map_toArray, List.map_cons, List.map_nil, h.get 15 rfl, h.c]; rfl) | (simp [List.map_toArray, List.map_cons, List.map_nil, h.get 15 rfl, h.c, K0.cell, hwu]; done) | (simp [List.map_toArray, List.map_cons, List.map_nil, h.get 15 rfl, h.c, K0.cell, hwu]; rfl) | rfl)) (refBytes_any m.uid 4 (by omega) (by omega) _) ?_
      rintro e w5 ⟨v5, rfl, ho, hb⟩
      refine ⟨_, rfl, fun a19 hA19 => ?_⟩
      replace HB := HB.trans (hb.mono HB.size)
      replace hO := hO.below hb
      obtain ⟨r, w6, hr6, ho6, hgr⟩ := run_app8 hO (Own8.of ho).took (by simp [be_length]) HB.size
      refine wl_op hA19 rfl rfl (by decide) (fun ev h => exec_append rfl (h.get 11 rfl) (h.get 16 rfl) hr6) fun a20 hA20 => ?_
      refine wl_op hA20 rfl rfl (by decide) (fun ev h => by simp [go_sem, h.get 17 rfl, K0.cell, hwu]; try first | exact ⟨rfl, rfl⟩ | rfl) fun a21 hA21 => ?_
      refine wl_nil ?_
      refine n_then ?_
      have hA22 := hA21.keep [1, 3]
      simp only [argsE, keepE, lookS, Nat.reduceBEq, cond_true, cond_false, Nat.reduceAdd, gv_tt, gv_ff, Bool.true_and, Bool.false_and, Bool.true_or, Bool.false_or] at hA22
      clear hA13 hA14 hA15 hA16 hA17 hA18 hA19 hA20 hA21 a14 a15 a16 a17 a18 a19 a20
      -- joined
      exact ⟨_, hA22, by unfold enc1; rw [hq, cond_false]; exact ho6, below_app8 HB hO hgr (Nat.le_refl _) HB.size⟩
    case nD =>
      have hq : (k == 1) = true := by
        have : ¬ 1 < k := by simpa using hq
        rw [beq_iff_eq]
        omega
      refine wp_skip ?_
      refine n_then ?_
      have hA23 := hA13.keep [1, 3]
      simp only [argsE, keepE, lookS, Nat.reduceBEq, cond_true, cond_false, Nat.reduceAdd, gv_tt, gv_ff, Bool.true_and, Bool.false_and, Bool.true_or, Bool.false_or] at hA23
      clear hA13
      -- joined
      exact ⟨_, hA23, by unfold enc1; rw [hq, cond_true, List.append_nil]; exact hO, HB⟩
  clear hO HB K0
  rintro a wx ⟨v6, hA, hO, HB⟩
  have K0 := K.below HB K.lt
  refine wp_seq ?_
  refine wp_seq ?_
  refine wp_region_lit ?_
  refine wl_op hA rfl rfl (by decide) (fun ev h => by simp [go_sem, h.get 1 rfl, K0.cell]; try first | exact ⟨rfl, rfl⟩ | rfl) fun a24 hA24 => ?_
  refine wl_op hA24 rfl rfl (by decide) (fun ev h => by simp [go_sem, h.get 18 rfl, K0.cell]; try first | exact ⟨rfl, rfl⟩ | rfl) fun a25 hA25 => ?_
  refine wl_op hA25 rfl rfl (by decide) (fun ev h => by simp [go_sem, h.c, h.get 19 rfl, K0.cell]; try first | exact ⟨rfl, rfl⟩ | rfl) fun a26 hA26 => ?_
  refine wl_nil ?_
  refine n_then ?_
  have hA27 := hA26.keep [1, 3, 20]
  simp only [argsE, keepE, lookS, Nat.reduceBEq, cond_true, cond_false, Nat.reduceAdd, gv_tt, gv_ff, Bool.true_and, Bool.false_and, Bool.true_or, Bool.false_or] at hA27
  clear hA hA24 hA25 hA26 a24 a25
  -- cond
  refine wp_join (fun a wx => ∃ v, At 47 [(1, .pointer (some ⟨w.heap.size, 0, none⟩)), (3, v)] a ∧ Own8 w1.heap.size wx v (be 4 e ++ enc1 k m ++ enc2 k m) ∧ Below w1.heap.size w1 wx) ?jfL ?jrL
  case jfL =>
    refine wp_if hA27 20 _ rfl (fun hq => ?yD2) (fun hq => ?nD2)
    case yD2 =>
      obtain ⟨d0, d1, f0, f1⟩ := hdf hq
      obtain ⟨dt, hdt⟩ : ∃ dt : Nat, m.date = (dt : Int) := ⟨m.date.toNat, by omega⟩
      obtain ⟨ft, hft⟩ : ∃ ft : Nat, m.flags = (ft : Int) := ⟨m.flags.toNat, by omega⟩
      have hwd : IntKind.u64.wrap (dt : Int) = (dt : Int) := IntWalk.u64_in _ (by omega)
      have hwf : IntKind.u8.wrap (ft : Int) = (((UInt8.ofNat ft).toNat : Nat) : Int) := by rw [IntKind.wrap_u8']; simp
      have hvo : ∀ g, v6.ownBlock = some g → g < wx.heap.size := fun g hg => (World.ownsRow.lt hO g hg).2
      -- any
      refine wp_any_at hA27 [(.det ?dE0), (.det ?dE1), (.det ?dE2), (.det ?dE3), (.det ?dE4), (.used (fun v wy => Own8 w1.heap.size wy v (be 6 dt))), (.used (fun v wy => Own8 w1.heap.size wy v (be 4 e ++ enc1 k m ++ be 6 dt))), (.det ?dE7), (.det ?dE8), (.det ?dE9), (.det ?dE10), (.used (fun v wy => ∃ g, v = .slice (some ⟨g, 0, none⟩) 1 1 ∧ some g ≠ v6.ownBlock ∧ Blk wy g 5 #[.int .u8 (((UInt8.ofNat ft).toNat : Nat) : Int)])), (.held (fun v wy => Own8 w1.heap.size wy v (be 4 e ++ enc1 k m ++ be 6 dt ++ be 1 ft))), (.held (fun v wy => Own8 w1.heap.size wy v (be 4 e ++ enc1 k m ++ be 6 dt ++ be 1 ft)))] [⟨none, (some 6), [], fun _ => (fun wy => Own8 w1.heap.size wy v6 (be 4 e ++ enc1 k m)), fun _ _ _ _ h => h⟩] (fun wy => Below w1.heap.size w1 wy ∧ wx.heap.size ≤ wy.heap.size) (TSp [(12, fun _ _ => True), (6, (fun w w' => w.grownBy w' v6.ownBlock))] Grows) (by kernel_rfl) rfl (by kernel_rfl) (by kernel_rfl) rfl (⟨HB.drew, Nat.le_refl _⟩) (stab_sp [(12, fun _ _ => True), (6, (fun w w' => w.grownBy w' v6.ownBlock))] [true, true, true, true, true, false, false, true, true, true, true, false, false, false] [true, true, true, true, true, false, false, true, true, true, true, false, true, true] [(6, 11)] rfl rfl rfl (by kernel_rfl) ⟨trivial, trivial, trivial, trivial, trivial, (fun _ _ _ _ hp hb => hp.below hb), (fun _ _ _ _ hp hb => hp.below hb), trivial, trivial, trivial, trivial, (fun _ _ _ _ ⟨g, e, hne, h⟩ hb => ⟨g, e, hne, h.below hb h.lt⟩), (fun _ _ _ _ hp hb => hp.below hb), (fun _ _ _ _ hp hb => hp.below hb), trivial⟩ ⟨(fun _ _ _ _ ⟨g, e, hne, h⟩ hg => ⟨g, e, hne, h.grown hg hne⟩), trivial⟩) (List.forall_mem_cons.2 ⟨(fun hn => hO), (fun _ h => by cases h)⟩) (phase_sp [(12, fun _ _ => True), (6, (fun w w' => w.grownBy w' v6.ownBlock))] [(none, (some 6))] [] rfl (by kernel_rfl) (List.forall_mem_cons.2 ⟨fun _ => fun _ _ _ hp hR => hp.below hR, (fun _ h => by cases h)⟩) trivial) (List.forall_mem_cons.2 ⟨(fun a h => by first | (exact (no_1 h).elim) | (injection h with h; subst h; exact Nat.le_of_ble_eq_true rfl)), (fun _ h => by cases h)⟩) ⟨?oE0, ?oE1, ?oE2, ?oE3, ?oE4, ?oE5, ?oE6, ?oE7, ?oE8, ?oE9, ?oE10, ?oE11, ?oE12, ?oE13, trivial⟩ (by kernel_rfl) ?fE
      case oE0 =>
        intro ev wo hev hC hs hph
        have e3 := see_env hA27 hs 3 (by kernel_rfl) (by kernel_rfl) rfl
        exact ob_det (wanted_none rfl) rfl (by kernel_rfl) hC (TSp.of rfl (Grows.refl _)) (by simp [go_sem, e3]; try first | exact ⟨rfl, rfl⟩ | rfl)
      case oE1 =>
        intro ev wo hev hC hs hph
        have e1 := see_env hA27 hs 1 (by kernel_rfl) (by kernel_rfl) rfl
        exact ob_det (wanted_none rfl) rfl (by kernel_rfl) hC (TSp.of rfl (Grows.refl _)) (by simp [go_sem, e1]; try first | exact ⟨rfl, rfl⟩ | rfl)
      case oE2 =>
        intro ev wo hev hC hs hph
        have e22 := see_det hs 22 1 (by kernel_rfl) (by kernel_rfl) rfl
        exact ob_det (wanted_none rfl) rfl (by kernel_rfl) hC (TSp.of rfl (Grows.refl _)) (by simp [go_sem, e22]; try first | exact ⟨rfl, rfl⟩ | rfl)
      case oE3 =>
        intro ev wo hev hC hs hph
        have e23 := see_det hs 23 2 (by kernel_rfl) (by kernel_rfl) rfl
        have Kx := K.below hC.1 K.lt
        exact ob_det (wanted_none rfl) rfl (by kernel_rfl) hC (TSp.of rfl (Grows.refl _)) (by simp [go_sem, e23, Kx.cell, hdt, hft, K0.cell]; try first | exact ⟨rfl, rfl⟩ | rfl)
      case oE4 =>
        intro ev wo hev hC hs hph
        have e24 := see_det hs 24 3 (by kernel_rfl) (by kernel_rfl) rfl
        have Kx := K.below hC.1 K.lt
        exact ob_det (wanted_none rfl) rfl (by kernel_rfl) hC (TSp.of rfl (Grows.refl _)) (by simp [go_sem, e24, hwd]; try first | exact ⟨rfl, rfl⟩ | rfl)
      case oE5 =>
        intro ev wo hev hC hs hph
        have e25 := see_det hs 25 4 (by kernel_rfl) (by kernel_rfl) rfl
        have Kx := K.below hC.1 K.lt
        exact ob_yes (wanted_none rfl) (does_enter (by simp [go_sem, e25, hev.func, hev.const]; try first | exact ⟨rfl, rfl⟩ | rfl) (Calls.mono (refBytes_any dt 6 (by omega) (by omega) wo) (by
          rintro ev' w3 ⟨r, rfl, ho, hb3⟩
          exact ⟨r, rfl, ⟨hC.1.trans (hb3.mono hC.1.size), Nat.le_trans hC.2 hb3.size⟩, TSp.of rfl hb3, (Own8.of ho).mono hC.1.size, no_start (by kernel_rfl)⟩)))
      case oE6 =>
        intro ev wo hev hC hs hph
        have e21 := see_det hs 21 0 (by kernel_rfl) (by kernel_rfl) rfl
        have u26 := see_used hs 26 5 (by kernel_rfl) (by kernel_rfl) rfl
        have Kx := K.below hC.1 K.lt
        have hP := hph _ List.mem_cons_self (by kernel_rfl)
        obtain ⟨r, w3, hr, ho, hgr⟩ := run_app8 hP u26.took (by simp only [List.length_append, be_length]; omega) hC.1.size
        exact ob_yes (wanted_none rfl) (does_value (exec_append rfl e21 rfl hr) ⟨⟨below_app8 hC.1 hP hgr (Nat.le_refl _) hC.1.size, Nat.le_trans hC.2 hgr.size⟩, TSp.sp rfl hgr, ho, no_start (by kernel_rfl)⟩)
      case oE7 =>
        intro ev wo hev hC hs hph
        have e1 := see_env hA27 hs 1 (by kernel_rfl) (by kernel_rfl) rfl
        exact ob_det (wanted_none rfl) rfl (by kernel_rfl) hC (TSp.of rfl (Grows.refl _)) (by simp [go_sem, e1]; try first | exact ⟨rfl, rfl⟩ | rfl)
      case oE8 =>
        intro ev wo hev hC hs hph
        have e28 := see_det hs 28 7 (by kernel_rfl) (by kernel_rfl) rfl
        exact ob_det (wanted_none rfl) rfl (by kernel_rfl) hC (TSp.of rfl (Grows.refl _)) (by simp [go_sem, e28]; try first | exact ⟨rfl, rfl⟩ | rfl)
      case oE9 =>
        intro ev wo hev hC hs hph
        have e29 := see_det hs 29 8 (by kernel_rfl) (by kernel_rfl) rfl
        have Kx := K.below hC.1 K.lt
        exact ob_det (wanted_none rfl) rfl (by kernel_rfl) hC (TSp.of rfl (Grows.refl _)) (by simp [go_sem, e29, Kx.cell, hdt, hft, K0.cell]; try first | exact ⟨rfl, rfl⟩ | rfl)
      case oE10 =>
        intro ev wo hev hC hs hph
        have e30 := see_det hs 30 9 (by kernel_rfl) (by kernel_rfl) rfl
        have Kx := K.below hC.1 K.lt
        exact ob_det (wanted_none rfl) rfl (by kernel_rfl) hC (TSp.of rfl (Grows.refl _)) (by simp [go_sem, e30, hwf]; try first | exact ⟨rfl, rfl⟩ | rfl)
      case oE11 =>
        intro ev wo hev hC hs hph
        have e31 := see_det hs 31 10 (by kernel_rfl) (by kernel_rfl) rfl
        have Kx := K.below hC.1 K.lt
        have hbn := (Below.refl wo.heap.size wo).alloc (Nat.le_refl _) (.cells #[.int .u8 (((UInt8.ofNat ft).toNat : Nat) : Int)] 5)
        exact ob_yes (wanted_none rfl) (does_value (v := .slice (some ⟨wo.heap.size, 0, none⟩) 1 1) (w' := wo.alloc (.cells #[.int .u8 (((UInt8.ofNat ft).toNat : Nat) : Int)] 5)) (by simp [go_sem, e31]) ⟨⟨hC.1.trans (hbn.mono hC.1.size), Nat.le_trans hC.2 hbn.size⟩, TSp.of rfl hbn, ⟨_, rfl, fun he => by
          have := hvo _ he.symm
          have := hC.2
          omega, Blk.new wo _ _⟩, no_start (by kernel_rfl)⟩)
      case oE12 =>
        intro ev wo hev hC hs hph
        have u27 := see_used hs 27 6 (by kernel_rfl) (by kernel_rfl) rfl
        have u32 := see_used hs 32 11 (by kernel_rfl) (by kernel_rfl) rfl
        have Kx := K.below hC.1 K.lt
        obtain ⟨g, e32, hne, hbk⟩ := u32
        have htk : Took wo (ev (.tmp 32)) [UInt8.ofNat ft] := by rw [e32]; exact took_blk hbk
        obtain ⟨r, w3, hr, ho, hgr⟩ := run_app8 u27 htk (by simp only [List.length_append, be_length, List.length_cons, List.length_nil]; omega) hC.1.size
        rw [← be_one] at ho
        exact ob_yes (wanted_none rfl) (does_value (exec_append rfl rfl rfl hr) ⟨⟨below_app8 hC.1 u27 hgr (Nat.le_refl _) hC.1.size, Nat.le_trans hC.2 hgr.size⟩, TSp.sp rfl trivial, ho, no_start (by kernel_rfl)⟩)
      case oE13 =>
        intro ev wo hev hC hs hph
        have u33 := see_held hs 33 12 (by kernel_rfl) (by kernel_rfl) rfl
        have Kx := K.below hC.1 K.lt
        exact ob_yes (wanted_none rfl) (does_value (v := ev (.tmp 33)) (by simp [go_sem]) ⟨hC, TSp.of rfl (Grows.refl _), u33, no_start (by kernel_rfl)⟩)
      intro sg wf hC hph
      intro x26 hx26
      intro x27 hx27
      intro x32 hx32
      intro x33 hx33 h33
      intro x3 hx3 h3
      intro a28 hA28
      refine n_then ?_
      have hA29 := hA28.keep [1, 3]
      simp only [argsE, keepE, lookS, Nat.reduceBEq, cond_true, cond_false, Nat.reduceAdd, gv_tt, gv_ff, Bool.true_and, Bool.false_and, Bool.true_or, Bool.false_or] at hA29
      clear hA27 hA28
      exact ⟨_, hA29, by unfold enc2; rw [hq, cond_true, hdt, hft, Int.toNat_natCast, Int.toNat_natCast, ← List.append_assoc]; exact h3, hC.1⟩
    case nD2 =>
      refine wp_skip ?_
      refine n_then ?_
      have hA30 := hA27.keep [1, 3]
      simp only [argsE, keepE, lookS, Nat.reduceBEq, cond_true, cond_false, Nat.reduceAdd, gv_tt, gv_ff, Bool.true_and, Bool.false_and, Bool.true_or, Bool.false_or] at hA30
      clear hA27
      -- joined
      exact ⟨_, hA30, by unfold enc2; rw [hq, cond_false, List.append_nil]; exact hO, HB⟩
  clear hO HB K0
  rintro a wx ⟨v9, hA, hO, HB⟩
  have K0 := K.below HB K.lt
  refine wp_seq ?_
  refine wp_seq ?_
  refine wp_region_lit ?_
  refine wl_op hA rfl rfl (by decide) (fun ev h => by simp [go_sem, h.get 1 rfl, K0.cell]; try first | exact ⟨rfl, rfl⟩ | rfl) fun a31 hA31 => ?_
  refine wl_op hA31 rfl rfl (by decide) (fun ev h => by simp [go_sem, h.get 34 rfl, K0.cell]; try first | exact ⟨rfl, rfl⟩ | rfl) fun a32 hA32 => ?_
  refine wl_op hA32 rfl rfl (by decide) (fun ev h => by simp [go_sem, h.c, h.get 35 rfl, K0.cell]; try first | exact ⟨rfl, rfl⟩ | rfl) fun a33 hA33 => ?_
  refine wl_nil ?_
  refine n_then ?_
  have hA34 := hA33.keep [1, 3, 36]
  simp only [argsE, keepE, lookS, Nat.reduceBEq, cond_true, cond_false, Nat.reduceAdd, gv_tt, gv_ff, Bool.true_and, Bool.false_and, Bool.true_or, Bool.false_or] at hA34
  clear hA hA31 hA32 hA33 a31 a32
  -- cond
  refine wp_join (fun a wx => ∃ v, At 47 [(1, .pointer (some ⟨w.heap.size, 0, none⟩)), (3, v)] a ∧ Own8 w1.heap.size wx v (be 4 e ++ enc1 k m ++ enc2 k m ++ enc3 k nm) ∧ Below w1.heap.size w1 wx) ?jfM ?jrM
  case jfM =>
    refine wp_if hA34 36 _ rfl (fun hq => ?yD3) (fun hq => ?nD3)
    case yD3 =>
      have hq : (k == 3) = false := by
        have : k < 3 := by simpa using hq
        rw [beq_eq_false_iff_ne]
        omega
      refine wp_region_lit ?_
      refine wl_op hA34 rfl rfl (by decide) (fun ev h => by simp [go_sem, h.get 3 rfl, K0.cell]; try first | exact ⟨rfl, rfl⟩ | rfl) fun a35 hA35 => ?_
      refine wl_op hA35 rfl rfl (by decide) (fun ev h => by simp [go_sem, h.get 1 rfl, K0.cell]; try first | exact ⟨rfl, rfl⟩ | rfl) fun a36 hA36 => ?_
      refine wl_op hA36 rfl rfl (by decide) (fun ev h => by simp [go_sem, h.get 38 rfl, K0.cell]; try first | exact ⟨rfl, rfl⟩ | rfl) fun a37 hA37 => ?_
      -- stop call slot 40
      refine wl_call hA37 rfl rfl (by decide) (fun ev h => exec_call Tryz.func47 (by kernel_rfl) rfl (h.f _) (by first | (simp only [List.map_toArray, List.map_cons, List.map_nil, h.get 39 rfl, h.c]; done) | (simp only [List.map_toArray, List.map_cons, List.map_nil, h.get 39 rfl, h.c]; rfl) | (simp [List.map_toArray, List.map_cons, List.map_nil, h.get 39 rfl, h.c, K0.cell]; done) | (simp [List.map_toArray, List.map_cons, List.map_nil, h.get 39 rfl, h.c, K0.cell]; rfl) | rfl)) (refText_any nm (by omega) _) ?_
      rintro e w10 ⟨v10, rfl, ho, hb⟩
      refine ⟨_, rfl, fun a38 hA38 => ?_⟩
      replace HB := HB.trans (hb.mono HB.size)
      replace hO := hO.below hb
      obtain ⟨r, w11, hr11, ho11, hgr⟩ := run_app8 hO (Own8.of ho).took (by simp only [List.length_append, be_length, textB_size]; omega) HB.size
      refine wl_op hA38 rfl rfl (by decide) (fun ev h => exec_append rfl (h.get 37 rfl) (h.get 40 rfl) hr11) fun a39 hA39 => ?_
      refine wl_op hA39 rfl rfl (by decide) (fun ev h => by simp [go_sem, h.get 41 rfl, K0.cell]; try first | exact ⟨rfl, rfl⟩ | rfl) fun a40 hA40 => ?_
      refine wl_nil ?_
      refine n_then ?_
      have hA41 := hA40.keep [1, 3]
      simp only [argsE, keepE, lookS, Nat.reduceBEq, cond_true, cond_false, Nat.reduceAdd, gv_tt, gv_ff, Bool.true_and, Bool.false_and, Bool.true_or, Bool.false_or] at hA41
      clear hA34 hA35 hA36 hA37 hA38 hA39 hA40 a35 a36 a37 a38 a39
      -- joined
      exact ⟨_, hA41, by unfold enc3; rw [hq, cond_false]; exact ho11, below_app8 HB hO hgr (Nat.le_refl _) HB.size⟩
    case nD3 =>
      have hq : (k == 3) = true := by
        have : ¬ k < 3 := by simpa using hq
        rw [beq_iff_eq]
        omega
      refine wp_skip ?_
      refine n_then ?_
      have hA42 := hA34.keep [1, 3]
      simp only [argsE, keepE, lookS, Nat.reduceBEq, cond_true, cond_false, Nat.reduceAdd, gv_tt, gv_ff, Bool.true_and, Bool.false_and, Bool.true_or, Bool.false_or] at hA42
      clear hA34
      -- joined
      exact ⟨_, hA42, by unfold enc3; rw [hq, cond_true, List.append_nil]; exact hO, HB⟩
  clear hO HB K0
  rintro a wx ⟨v11, hA, hO, HB⟩
  have K0 := K.below HB K.lt
  have HW := hb0.trans (HB.mono hb0.size)
  refine wp_seq ?_
  refine wp_region_lit ?_
  refine wl_op hA rfl rfl (by decide) (fun ev h => by simp [go_sem, h.get 3 rfl, K0.cell]; try first | exact ⟨rfl, rfl⟩ | rfl) fun a43 hA43 => ?_
  refine wl_op hA43 rfl rfl (by decide) (fun ev h => by simp [go_sem, h.get 1 rfl, K0.cell]; try first | exact ⟨rfl, rfl⟩ | rfl) fun a44 hA44 => ?_
  refine wl_op hA44 rfl rfl (by decide) (fun ev h => by simp [go_sem, h.get 43 rfl, K0.cell]; try first | exact ⟨rfl, rfl⟩ | rfl) fun a45 hA45 => ?_
  refine wl_op hA45 rfl rfl (by decide) (fun ev h => by simp [go_sem, h.get 44 rfl, K0.cell]; try first | exact ⟨rfl, rfl⟩ | rfl) fun a46 hA46 => ?_
  -- stop call slot 46
  obtain ⟨r, w12, hr12, ho12, hgr⟩ := run_app8 hO (u := .slice m.a m.b.length m.c) ⟨m.a, m.c, rfl, (hr.below HW).more HW.size⟩ (by simp only [List.length_append, be_length]; omega) HB.size
  refine wl_op hA46 rfl rfl (by decide) (fun ev h => exec_append rfl (h.get 42 rfl) (h.get 45 rfl) hr12) fun a47 hA47 => ?_
  refine wl_op hA47 rfl rfl (by decide) (fun ev h => by simp [go_sem, h.get 46 rfl, K0.cell]; try first | exact ⟨rfl, rfl⟩ | rfl) fun a48 hA48 => ?_
  refine wl_nil ?_
  refine n_then ?_
  have hA49 := hA48.keep [2]
  simp only [argsE, keepE, lookS, Nat.reduceBEq, cond_true, cond_false, Nat.reduceAdd, gv_tt, gv_ff, Bool.true_and, Bool.false_and, Bool.true_or, Bool.false_or] at hA49
  clear hA hA43 hA44 hA45 hA46 hA47 hA48 a43 a44 a45 a46 a47
  refine wp_ret ?_
  refine ret_1 hA49 2 rfl rfl ?_
  exact ⟨r, rfl, ho12.mono hb0.size, hb0.trans ((below_app8 HB hO hgr (Nat.le_refl _) HB.size).mono hb0.size)⟩
end Go.Proofs.YtmjikfeaopmejaaGreatDoor
/-
  Walk: what a program that does nothing answers wrongly (cubbylaw09.awake).
-/
namespace Go.Proofs.YtmjikfeaopmejaaGreatDoor
open Go.RowKit
set_option linter.unusedSimpArgs false
set_option linter.unusedVariables false
theorem awake_formed : formedV 3 1 ⟨#[]⟩ ⟨2, 0, 0, none, 0, []⟩ = true := by
  unfold formedV
  rw [ByteArray.toList_eq]
  rfl
theorem bodyAwake_any (w : World) (hm : MaxCell w) (hg : 0 < w.heap.size) (htab : Lib.TabIs Tryz.prog w "internal/strconv.uint64pow10" .u64 Lib.pow10Tab) :
    Calls Tryz.prog 8 #[] w fun ev w' => ev = .returned (.bool true) ∧ Below w.heap.size w w' := by
  refine calls_at 16 Tryz.func8 rfl rfl (Nat.le_of_ble_eq_true rfl) ?_
  intro a hA
  simp only [argsE, keepE, lookS, Nat.reduceBEq, cond_true, cond_false, Nat.reduceAdd, gv_tt, gv_ff, Bool.true_and, Bool.false_and, Bool.true_or, Bool.false_or] at hA
  refine wp_seq ?_
  refine wp_region_lit ?_
  refine wl_op hA rfl rfl (by decide) (fun ev h => by simp [go_sem, h.c]; try first | exact ⟨rfl, rfl⟩ | rfl) fun a1 hA1 => ?_
  refine wl_nil ?_
  refine n_then ?_
  have hA2 := hA1.keep []
  simp only [argsE, keepE, lookS, Nat.reduceBEq, cond_true, cond_false, Nat.reduceAdd, gv_tt, gv_ff, Bool.true_and, Bool.false_and, Bool.true_or, Bool.false_or] at hA2
  clear hA hA1
  refine wp_seq ?_
  refine wp_region_lit ?_
  refine wl_op hA2 rfl rfl (by decide) (fun ev h => by simp [go_sem, h.c]; try first | exact ⟨rfl, rfl⟩ | rfl) fun a3 hA3 => ?_
  refine wl_op hA3 rfl rfl (by decide) (fun ev h => by simp [go_sem, h.c, h.get 4 rfl]; try first | exact ⟨rfl, rfl⟩ | rfl) fun a4 hA4 => ?_
  -- stop call slot 6
  refine wl_call hA4 rfl rfl (by decide) (fun ev h => exec_call Tryz.func10 (by kernel_rfl) rfl (h.f _) (by first | (simp only [List.map_toArray, List.map_cons, List.map_nil, h.get 5 rfl, h.c]; done) | (simp only [List.map_toArray, List.map_cons, List.map_nil, h.get 5 rfl, h.c]; rfl) | (simp [List.map_toArray, List.map_cons, List.map_nil, h.get 5 rfl, h.c]; done) | (simp [List.map_toArray, List.map_cons, List.map_nil, h.get 5 rfl, h.c]; rfl) | rfl)) (encode_any 3 1 ⟨#[]⟩ ⟨2, 0, 0, none, 0, []⟩ _ hm hg htab (by decide) (by decide) (by decide) Reads.none8) ?_
  rintro e w1 ⟨r, rfl, ho, hb⟩
  refine ⟨_, rfl, fun a5 hA5 => ?_⟩
  rw [awake_formed, cond_true] at ho hA5
  obtain ⟨A, c, rfl, _⟩ := ho.took
  rw [show (encV 3 1 ⟨#[]⟩ ⟨2, 0, 0, none, 0, []⟩).length = 8 by rfl] at hA5
  refine wl_op hA5 rfl rfl (by decide) (fun ev h => by simp [go_sem, h.get 6 rfl]; try first | exact ⟨rfl, rfl⟩ | rfl) fun a6 hA6 => ?_
  refine wl_op hA6 rfl rfl (by decide) (fun ev h => by simp [go_sem, h.get 3 rfl]; try first | exact ⟨rfl, rfl⟩ | rfl) fun a7 hA7 => ?_
  refine wl_op hA7 rfl rfl (by decide) (fun ev h => by simp [go_sem, h.get 3 rfl]; try first | exact ⟨rfl, rfl⟩ | rfl) fun a8 hA8 => ?_
  refine wl_op hA8 rfl rfl (by decide) (fun ev h => by simp [go_sem, h.get 7 rfl]; try first | exact ⟨rfl, rfl⟩ | rfl) fun a9 hA9 => ?_
  refine wl_op hA9 rfl rfl (by decide) (fun ev h => by simp [go_sem, h.get 8 rfl]; try first | exact ⟨rfl, rfl⟩ | rfl) fun a10 hA10 => ?_
  refine wl_nil ?_
  refine n_then ?_
  have hA11 := hA10.keep [1, 2]
  simp only [argsE, keepE, lookS, Nat.reduceBEq, cond_true, cond_false, Nat.reduceAdd, gv_tt, gv_ff, Bool.true_and, Bool.false_and, Bool.true_or, Bool.false_or] at hA11
  clear hA2 hA3 hA4 hA5 hA6 hA7 hA8 hA9 hA10 a1 a3 a4 a5 a6 a7 a8 a9
  refine wp_seq ?_
  refine wp_region_lit ?_
  refine wl_op hA11 rfl rfl (by decide) (fun ev h => by simp [go_sem, h.get 2 rfl]; try first | exact ⟨rfl, rfl⟩ | rfl) fun a12 hA12 => ?_
  refine wl_op hA12 rfl rfl (by decide) (fun ev h => by simp [go_sem, h.c, h.get 9 rfl]; try first | exact ⟨rfl, rfl⟩ | rfl) fun a13 hA13 => ?_
  refine wl_op hA13 rfl rfl (by decide) (fun ev h => by simp [go_sem, h.get 10 rfl]; try first | exact ⟨rfl, rfl⟩ | rfl) fun a14 hA14 => ?_
  refine wl_guard _ hA14 rfl rfl rfl rfl (by decide) (fun hq ev h => by simp [go_sem, (h.get 1 rfl)]; try first | exact ⟨rfl, rfl⟩ | rfl) fun a15 hA15 => ?_
  refine wl_guard _ hA15 rfl rfl rfl rfl (by decide) (fun hq ev h => by simp [go_sem, ((h.get 12 rfl).trans (gw_t (beq_t hq)))]; try first | exact ⟨rfl, rfl⟩ | rfl) fun a16 hA16 => ?_
  refine wl_guard _ hA16 rfl rfl rfl rfl (by decide) (fun hq ev h => by simp [go_sem, h.c, ((h.get 13 rfl).trans (gw_t (beq_t hq)))]; try first | exact ⟨rfl, rfl⟩ | rfl) fun a17 hA17 => ?_
  refine wl_op hA17 rfl rfl (by decide) (fun ev h => by first | exact pick_and rfl (h.get 11 rfl) (h.get 14 rfl) (h.c _) | exact pick_or rfl (h.get 11 rfl) (h.get 14 rfl) (h.c _) | (simp [go_sem, h.c, h.get 11 rfl, h.get 14 rfl, gv_or, gv_and]; try first | exact ⟨rfl, rfl⟩ | rfl)) fun a18 hA18 => ?_
  refine wl_op hA18 rfl rfl (by decide) (fun ev h => by simp [go_sem, h.get 15 rfl]; try first | exact ⟨rfl, rfl⟩ | rfl) fun a19 hA19 => ?_
  refine wl_nil ?_
  refine n_then ?_
  have hA20 := hA19.keep [0]
  simp only [argsE, keepE, lookS, Nat.reduceBEq, cond_true, cond_false, Nat.reduceAdd, gv_tt, gv_ff, Bool.true_and, Bool.false_and, Bool.true_or, Bool.false_or] at hA20
  clear hA11 hA12 hA13 hA14 hA15 hA16 hA17 hA18 hA19 a10 a12 a13 a14 a15 a16 a17 a18
  refine wp_ret ?_
  -- ret
  refine ret_1 hA20 0 rfl rfl ?_
  exact ⟨ret_bool (by first | rfl | simp), hb⟩
end Go.Proofs.YtmjikfeaopmejaaGreatDoor
/-
  Walk of the law: any note is formed, and has the payload, and the frame, that the document says, or not; it is decoded as the same.
-/
namespace Go.Proofs.YtmjikfeaopmejaaGreatDoor
open Go.RowKit
set_option linter.unusedSimpArgs false
set_option linter.unusedVariables false
theorem noteFew_any (k : Int) (e : Nat) (nm : ByteArray) (m : MsgV) (w : World) (hs : nm.size ≤ 9223372036854775807) :
    Calls Tryz.prog 9 #[.agg (noteC k e nm m)] w fun ev w' => ev = .returned (.bool (decide ((nm.size : Int) ≤ 1000) && decide ((m.b.length : Int) ≤ 30000))) ∧ Below w.heap.size w w' := by
  refine calls_at 14 Tryz.func9 rfl rfl (Nat.le_of_ble_eq_true rfl) ?_
  intro a hA
  simp only [argsE, keepE, lookS, Nat.reduceBEq, cond_true, cond_false, Nat.reduceAdd, gv_tt, gv_ff, Bool.true_and, Bool.false_and, Bool.true_or, Bool.false_or] at hA
  refine wp_seq ?_
  refine wp_region_lit ?_
  -- stop box slot 1
  refine wl_new hA rfl rfl (by decide) (fun ev h => by simp [go_sem, h.get 0 rfl]; try first | exact ⟨rfl, rfl⟩ | rfl) fun w1 a1 (K : Blk _ _ _ _) hz hb0 hA1 => ?_
  unfold noteC at K
  refine wl_op hA1 rfl rfl (by decide) (fun ev h => by simp [go_sem, h.c, K.cell]; try first | exact ⟨rfl, rfl⟩ | rfl) fun a2 hA2 => ?_
  refine wl_nil ?_
  refine n_then ?_
  have hA3 := hA2.keep [1]
  simp only [argsE, keepE, lookS, Nat.reduceBEq, cond_true, cond_false, Nat.reduceAdd, gv_tt, gv_ff, Bool.true_and, Bool.false_and, Bool.true_or, Bool.false_or] at hA3
  clear hA hA1 hA2 a1
  refine wp_seq ?_
  refine wp_region_lit ?_
  refine wl_op hA3 rfl rfl (by decide) (fun ev h => by simp [go_sem, h.get 1 rfl, K.cell]; try first | exact ⟨rfl, rfl⟩ | rfl) fun a4 hA4 => ?_
  refine wl_op hA4 rfl rfl (by decide) (fun ev h => by simp [go_sem, h.get 3 rfl, K.cell]; try first | exact ⟨rfl, rfl⟩ | rfl) fun a5 hA5 => ?_
  refine wl_op hA5 rfl rfl (by decide) (fun ev h => by simp [go_sem, h.get 4 rfl, K.cell]; try first | exact ⟨rfl, rfl⟩ | rfl) fun a6 hA6 => ?_
  refine wl_op hA6 rfl rfl (by decide) (fun ev h => by simp [go_sem, h.c, h.get 5 rfl, K.cell]; try first | exact ⟨rfl, rfl⟩ | rfl) fun a7 hA7 => ?_
  refine wl_op hA7 rfl rfl (by decide) (fun ev h => by simp [go_sem, h.get 6 rfl, K.cell]; try first | exact ⟨rfl, rfl⟩ | rfl) fun a8 hA8 => ?_
  refine wl_guard _ hA8 rfl rfl rfl rfl (by decide) (fun hq ev h => by simp [go_sem, (h.get 1 rfl), K.cell]; try first | exact ⟨rfl, rfl⟩ | rfl) fun a9 hA9 => ?_
  refine wl_guard _ hA9 rfl rfl rfl rfl (by decide) (fun hq ev h => by simp [go_sem, ((h.get 8 rfl).trans (gw_t (beq_t hq))), K.cell]; try first | exact ⟨rfl, rfl⟩ | rfl) fun a10 hA10 => ?_
  refine wl_guard _ hA10 rfl rfl rfl rfl (by decide) (fun hq ev h => by simp [go_sem, ((h.get 9 rfl).trans (gw_t (beq_t hq))), K.cell]; try first | exact ⟨rfl, rfl⟩ | rfl) fun a11 hA11 => ?_
  refine wl_guard _ hA11 rfl rfl rfl rfl (by decide) (fun hq ev h => by simp [go_sem, ((h.get 10 rfl).trans (gw_t (beq_t hq))), K.cell]; try first | exact ⟨rfl, rfl⟩ | rfl) fun a12 hA12 => ?_
  refine wl_guard _ hA12 rfl rfl rfl rfl (by decide) (fun hq ev h => by simp [go_sem, h.c, ((h.get 11 rfl).trans (gw_t (beq_t hq))), K.cell]; try first | exact ⟨rfl, rfl⟩ | rfl) fun a13 hA13 => ?_
  refine wl_op hA13 rfl rfl (by decide) (fun ev h => by first | exact pick_and rfl (h.get 7 rfl) (h.get 12 rfl) (h.c _) | exact pick_or rfl (h.get 7 rfl) (h.get 12 rfl) (h.c _) | (simp [go_sem, h.c, h.get 7 rfl, h.get 12 rfl, K.cell, gv_or, gv_and]; try first | exact ⟨rfl, rfl⟩ | rfl)) fun a14 hA14 => ?_
  refine wl_op hA14 rfl rfl (by decide) (fun ev h => by simp [go_sem, h.get 13 rfl, K.cell]; try first | exact ⟨rfl, rfl⟩ | rfl) fun a15 hA15 => ?_
  refine wl_nil ?_
  refine n_then ?_
  have hA16 := hA15.keep [2]
  simp only [argsE, keepE, lookS, Nat.reduceBEq, cond_true, cond_false, Nat.reduceAdd, gv_tt, gv_ff, Bool.true_and, Bool.false_and, Bool.true_or, Bool.false_or] at hA16
  clear hA3 hA4 hA5 hA6 hA7 hA8 hA9 hA10 hA11 hA12 hA13 hA14 hA15 a2 a4 a5 a6 a7 a8 a9 a10 a11 a12 a13 a14
  refine wp_ret ?_
  -- ret
  refine ret_1 hA16 2 rfl rfl ?_
  exact ⟨ret_bool (by first | rfl | simp), hb0⟩
theorem same_self (m : MsgV) (a : Option Addr) (c : Nat) : sameV ⟨m.uid, m.date, m.flags, a, c, m.b⟩ m = true := by unfold sameV; simp
set_option maxRecDepth 100000 in
set_option maxHeartbeats 4000000 in
theorem bodyWrites_law (k : Int) (e : Nat) (nm : ByteArray) (m : MsgV) (w : World) (hm : MaxCell w) (hg : 0 < w.heap.size) (htab : Lib.TabIs Tryz.prog w "internal/strconv.uint64pow10" .u64 Lib.pow10Tab) (hnm : nm.size ≤ 9223372036854775807) (he : e < 4294967296) (hu : m.uid < 4294967296) (hr : Reads w w.heap.size 1 m.a m.b.length (u8s m.b)) :
    Calls Tryz.prog 3 #[.agg (noteC k e nm m)] w fun ev w' => ev = .returned (.bool true) ∧ Below w.heap.size w w' := by
  have Ht := Lib.tabBelow_of_tabIs htab
  refine calls_at 120 Tryz.func3 rfl rfl (Nat.le_of_ble_eq_true rfl) ?_
  intro a hA
  simp only [argsE, keepE, lookS, Nat.reduceBEq, cond_true, cond_false, Nat.reduceAdd, gv_tt, gv_ff, Bool.true_and, Bool.false_and, Bool.true_or, Bool.false_or] at hA
  refine wp_seq ?_
  refine wp_region_lit ?_
  -- stop box slot 1
  refine wl_new hA rfl rfl (by decide) (fun ev h => by simp [go_sem, h.get 0 rfl]; try first | exact ⟨rfl, rfl⟩ | rfl) fun w1 a17 (K1 : Blk _ _ _ _) hz1 hb0 hA17 => ?_
  unfold noteC at K1
  have HB := hb0
  refine wl_op hA17 rfl rfl (by decide) (fun ev h => by simp [go_sem, h.c]; try first | exact ⟨rfl, rfl⟩ | rfl) fun a18 hA18 => ?_
  refine wl_nil ?_
  refine n_then ?_
  have hA19 := hA18.keep [1]
  simp only [argsE, keepE, lookS, Nat.reduceBEq, cond_true, cond_false, Nat.reduceAdd, gv_tt, gv_ff, Bool.true_and, Bool.false_and, Bool.true_or, Bool.false_or] at hA19
  clear hA hA17 hA18 a17
  refine wp_seq ?_
  refine wp_seq ?_
  refine wp_region_lit ?_
  -- stop call slot 10
  refine wl_call hA19 rfl rfl (by decide) (fun ev h => exec_call Tryz.func8 (by kernel_rfl) rfl (h.f _) (by first | (simp only [List.map_toArray, List.map_cons, List.map_nil, h.c]; done) | (simp only [List.map_toArray, List.map_cons, List.map_nil, h.c]; rfl) | (simp [List.map_toArray, List.map_cons, List.map_nil, h.c]; done) | (simp [List.map_toArray, List.map_cons, List.map_nil, h.c]; rfl) | rfl)) (bodyAwake_any _ (hm.below hg hb0) (Nat.lt_of_lt_of_le hg hb0.size) (Ht _ hb0)) ?_
  rintro e w2 ⟨rfl, hb2⟩
  refine ⟨_, rfl, fun a20 hA20 => ?_⟩
  replace HB := HB.trans (hb2.mono HB.size)
  replace K1 := K1.below hb2 K1.lt
  refine wl_op hA20 rfl rfl (by decide) (fun ev h => by simp [go_sem, h.get 10 rfl, K1.cell]; try first | exact ⟨rfl, rfl⟩ | rfl) fun a21 hA21 => ?_
  refine wl_op hA21 rfl rfl (by decide) (fun ev h => by simp [go_sem, h.get 11 rfl, K1.cell]; try first | exact ⟨rfl, rfl⟩ | rfl) fun a22 hA22 => ?_
  refine wl_guard _ hA22 rfl rfl rfl rfl (by decide) (fun hq ev h => by simp [go_sem, (h.get 1 rfl), K1.cell]; try first | exact ⟨rfl, rfl⟩ | rfl) fun a23 hA23 => ?_
  -- stop call slot 14
  refine wl_gcallv _ hA23 rfl rfl rfl rfl (by decide) (fun hq ev h => exec_call Tryz.func9 (by kernel_rfl) rfl (h.f _) (by first | (simp only [List.map_toArray, List.map_cons, List.map_nil, ((h.get 13 rfl).trans (gw_t (beq_t hq))), h.c]; done) | (simp only [List.map_toArray, List.map_cons, List.map_nil, ((h.get 13 rfl).trans (gw_t (beq_t hq))), h.c]; rfl) | (simp [List.map_toArray, List.map_cons, List.map_nil, ((h.get 13 rfl).trans (gw_t (beq_t hq))), h.c, K1.cell]; done) | (simp [List.map_toArray, List.map_cons, List.map_nil, ((h.get 13 rfl).trans (gw_t (beq_t hq))), h.c, K1.cell]; rfl) | rfl)) (fun hq => noteFew_any k e nm m _ hnm) fun a24 w3 hb3 hA24 => ?_
  replace HB := HB.trans (hb3.mono HB.size)
  replace K1 := K1.below hb3 K1.lt
  refine wl_guard _ hA24 rfl rfl rfl rfl (by decide) (fun hq ev h => by simp [go_sem, ((h.get 14 rfl).trans (gw_t (beq_t hq))), K1.cell]; try first | exact ⟨rfl, rfl⟩ | rfl) fun a25 hA25 => ?_
  refine wl_op hA25 rfl rfl (by decide) (fun ev h => by first | exact pick_and rfl (h.get 12 rfl) (h.c _) (h.get 15 rfl) | exact pick_or rfl (h.get 12 rfl) (h.c _) (h.get 15 rfl) | (simp [go_sem, h.c, h.get 12 rfl, h.get 15 rfl, K1.cell, gv_or, gv_and]; try first | exact ⟨rfl, rfl⟩ | rfl)) fun a26 hA26 => ?_
  refine wl_nil ?_
  refine n_then ?_
  have hA27 := hA26.keep [1, 16]
  simp only [argsE, keepE, lookS, Nat.reduceBEq, cond_true, cond_false, Nat.reduceAdd, gv_tt, gv_ff, Bool.true_and, Bool.false_and, Bool.true_or, Bool.false_or] at hA27
  clear hA19 hA20 hA21 hA22 hA23 hA24 hA25 hA26 a18 a20 a21 a22 a23 a24 a25
  -- cond
  refine wp_if hA27 16 _ rfl (fun hq => ?yA) (fun hq => ?nA)
  case yA =>
    refine wp_seq ?_
    refine wp_region_lit ?_
    -- stop call slot 17
    refine wl_call hA27 rfl rfl (by decide) (fun ev h => exec_call Tryz.func8 (by kernel_rfl) rfl (h.f _) (by first | (simp only [List.map_toArray, List.map_cons, List.map_nil, h.c]; done) | (simp only [List.map_toArray, List.map_cons, List.map_nil, h.c]; rfl) | (simp [List.map_toArray, List.map_cons, List.map_nil, h.c, K1.cell]; done) | (simp [List.map_toArray, List.map_cons, List.map_nil, h.c, K1.cell]; rfl) | rfl)) (bodyAwake_any _ (hm.below hg HB) (Nat.lt_of_lt_of_le hg HB.size) (Ht _ HB)) ?_
    rintro e w4 ⟨rfl, hb4⟩
    refine ⟨_, rfl, fun a28 hA28 => ?_⟩
    replace HB := HB.trans (hb4.mono HB.size)
    replace K1 := K1.below hb4 K1.lt
    refine wl_op hA28 rfl rfl (by decide) (fun ev h => by simp [go_sem, h.get 17 rfl, K1.cell]; try first | exact ⟨rfl, rfl⟩ | rfl) fun a29 hA29 => ?_
    refine wl_nil ?_
    refine n_then ?_
    have hA30 := hA29.keep [2]
    simp only [argsE, keepE, lookS, Nat.reduceBEq, cond_true, cond_false, Nat.reduceAdd, gv_tt, gv_ff, Bool.true_and, Bool.false_and, Bool.true_or, Bool.false_or] at hA30
    clear hA27 hA28 hA29 a28
    refine wp_ret ?_
    refine r_then ?_
    -- ret
    refine ret_1 hA30 2 rfl rfl ?_
    exact ⟨rfl, HB⟩
  case nA =>
    refine wp_skip ?_
    refine n_then ?_
    refine wp_seq ?_
    refine wp_region_lit ?_
    refine wl_op hA27 rfl rfl (by decide) (fun ev h => by simp [go_sem, h.get 1 rfl, K1.cell]; try first | exact ⟨rfl, rfl⟩ | rfl) fun a31 hA31 => ?_
    -- stop alloc slot 3
    refine wl_local [.int .i64 k, .int .u32 (e : Nat), .string nm, .int .u32 (m.uid : Nat), .int .i64 m.date, .int .i64 m.flags, .slice m.a m.b.length m.c] hA31 rfl rfl (by decide) (fun ev h => by simp [go_sem, K1.cell]; try first | exact ⟨rfl, rfl⟩ | rfl) rfl rfl (by rfl) (fun w1 g ev hb h => by simp [go_sem, h.get 3 rfl, h.get 18 rfl, K1.cell, setAll, hb.cell, hb.frozen]) fun w4 a32 (K3 : Blk _ _ _ _) hz4 hb4 hA32 => ?_
    replace HB := HB.trans (hb4.mono HB.size)
    replace K1 := K1.below hb4 K1.lt
    refine wl_nil ?_
    refine n_then ?_
    have hA33 := hA32.keep [1, 3]
    simp only [argsE, keepE, lookS, Nat.reduceBEq, cond_true, cond_false, Nat.reduceAdd, gv_tt, gv_ff, Bool.true_and, Bool.false_and, Bool.true_or, Bool.false_or] at hA33
    clear hA27 hA31 hA32 a31
    refine wp_seq ?_
    refine wp_region_lit ?_
    refine wl_op hA33 rfl rfl (by decide) (fun ev h => by simp [go_sem, h.get 3 rfl, K3.cell]; try first | exact ⟨rfl, rfl⟩ | rfl) fun a34 hA34 => ?_
    -- stop call slot 21
    refine wl_call hA34 rfl rfl (by decide) (fun ev h => exec_call Tryz.func10 (by kernel_rfl) rfl (h.f _) (by first | (simp only [List.map_toArray, List.map_cons, List.map_nil, h.get 20 rfl, h.c]; done) | (simp only [List.map_toArray, List.map_cons, List.map_nil, h.get 20 rfl, h.c]; rfl) | (simp [List.map_toArray, List.map_cons, List.map_nil, h.get 20 rfl, h.c, K3.cell]; done) | (simp [List.map_toArray, List.map_cons, List.map_nil, h.get 20 rfl, h.c, K3.cell]; rfl) | rfl)) (encode_any k e nm m _ (hm.below hg HB) (Nat.lt_of_lt_of_le hg HB.size) (htab := Ht _ HB) hnm he hu ((hr.below HB).more HB.size)) ?_
    rintro e w5 ⟨r, rfl, ho, hb5⟩
    refine ⟨_, rfl, fun a35 hA35 => ?_⟩
    replace HB := HB.trans (hb5.mono HB.size)
    replace K1 := K1.below hb5 K1.lt
    replace K3 := K3.below hb5 K3.lt
    refine wl_op hA35 rfl rfl (by decide) (fun ev h => by simp [go_sem, h.get 21 rfl, K3.cell]; try first | exact ⟨rfl, rfl⟩ | rfl) fun a36 hA36 => ?_
    refine wl_op hA36 rfl rfl (by decide) (fun ev h => by simp [go_sem, h.get 19 rfl, K3.cell]; try first | exact ⟨rfl, rfl⟩ | rfl) fun a37 hA37 => ?_
    refine wl_op hA37 rfl rfl (by decide) (fun ev h => by simp [go_sem, h.get 19 rfl, K3.cell]; try first | exact ⟨rfl, rfl⟩ | rfl) fun a38 hA38 => ?_
    refine wl_op hA38 rfl rfl (by decide) (fun ev h => by simp [go_sem, h.get 22 rfl, K3.cell]; try first | exact ⟨rfl, rfl⟩ | rfl) fun a39 hA39 => ?_
    refine wl_op hA39 rfl rfl (by decide) (fun ev h => by simp [go_sem, h.get 23 rfl, K3.cell]; try first | exact ⟨rfl, rfl⟩ | rfl) fun a40 hA40 => ?_
    refine wl_nil ?_
    refine n_then ?_
    have hA41 := hA40.keep [1, 3, 4, 5]
    simp only [argsE, keepE, lookS, Nat.reduceBEq, cond_true, cond_false, Nat.reduceAdd, gv_tt, gv_ff, Bool.true_and, Bool.false_and, Bool.true_or, Bool.false_or] at hA41
    clear hA33 hA34 hA35 hA36 hA37 hA38 hA39 hA40 a32 a34 a35 a36 a37 a38 a39
    refine wp_seq ?_
    refine wp_region_lit ?_
    refine wl_op hA41 rfl rfl (by decide) (fun ev h => by simp [go_sem, h.get 3 rfl, K3.cell]; try first | exact ⟨rfl, rfl⟩ | rfl) fun a42 hA42 => ?_
    -- stop call slot 26
    refine wl_call hA42 rfl rfl (by decide) (fun ev h => exec_call Tryz.func11 (by kernel_rfl) rfl (h.f _) (by first | (simp only [List.map_toArray, List.map_cons, List.map_nil, h.get 25 rfl, h.c]; done) | (simp only [List.map_toArray, List.map_cons, List.map_nil, h.get 25 rfl, h.c]; rfl) | (simp [List.map_toArray, List.map_cons, List.map_nil, h.get 25 rfl, h.c, K3.cell]; done) | (simp [List.map_toArray, List.map_cons, List.map_nil, h.get 25 rfl, h.c, K3.cell]; rfl) | rfl)) (bodyFrame_any k e nm m _ (hm.below hg HB) (Nat.lt_of_lt_of_le hg HB.size) (htab := Ht _ HB) hnm he hu ((hr.below HB).more HB.size)) ?_
    rintro e w6 ⟨r6, rfl, ho6, hb6⟩
    refine ⟨_, rfl, fun a43 hA43 => ?_⟩
    replace HB := HB.trans (hb6.mono HB.size)
    replace K1 := K1.below hb6 K1.lt
    replace K3 := K3.below hb6 K3.lt
    replace ho := ho.below hb6
    refine wl_op hA43 rfl rfl (by decide) (fun ev h => by simp [go_sem, h.get 26 rfl, K1.cell]; try first | exact ⟨rfl, rfl⟩ | rfl) fun a44 hA44 => ?_
    refine wl_op hA44 rfl rfl (by decide) (fun ev h => by simp [go_sem, h.get 24 rfl, K1.cell]; try first | exact ⟨rfl, rfl⟩ | rfl) fun a45 hA45 => ?_
    refine wl_op hA45 rfl rfl (by decide) (fun ev h => by simp [go_sem, h.get 24 rfl, K1.cell]; try first | exact ⟨rfl, rfl⟩ | rfl) fun a46 hA46 => ?_
    refine wl_op hA46 rfl rfl (by decide) (fun ev h => by simp [go_sem, h.get 27 rfl, K1.cell]; try first | exact ⟨rfl, rfl⟩ | rfl) fun a47 hA47 => ?_
    refine wl_op hA47 rfl rfl (by decide) (fun ev h => by simp [go_sem, h.get 28 rfl, K1.cell]; try first | exact ⟨rfl, rfl⟩ | rfl) fun a48 hA48 => ?_
    refine wl_nil ?_
    refine n_then ?_
    have hA49 := hA48.keep [1, 3, 4, 5, 6, 7]
    simp only [argsE, keepE, lookS, Nat.reduceBEq, cond_true, cond_false, Nat.reduceAdd, gv_tt, gv_ff, Bool.true_and, Bool.false_and, Bool.true_or, Bool.false_or] at hA49
    clear hA41 hA42 hA43 hA44 hA45 hA46 hA47 hA48 a40 a42 a43 a44 a45 a46 a47
    refine wp_seq ?_
    refine wp_seq ?_
    refine wp_region_lit ?_
    refine wl_op hA49 rfl rfl (by decide) (fun ev h => by simp [go_sem, h.get 1 rfl, K1.cell]; try first | exact ⟨rfl, rfl⟩ | rfl) fun a50 hA50 => ?_
    -- stop call slot 30
    refine wl_call hA50 rfl rfl (by decide) (fun ev h => exec_call Tryz.func12 (by kernel_rfl) rfl (h.f _) (by first | (simp only [List.map_toArray, List.map_cons, List.map_nil, h.get 29 rfl, h.c]; done) | (simp only [List.map_toArray, List.map_cons, List.map_nil, h.get 29 rfl, h.c]; rfl) | (simp [List.map_toArray, List.map_cons, List.map_nil, h.get 29 rfl, h.c, K1.cell]; done) | (simp [List.map_toArray, List.map_cons, List.map_nil, h.get 29 rfl, h.c, K1.cell]; rfl) | rfl)) (refFormed_any k e nm m _ hnm) ?_
    rintro e w7 ⟨rfl, hb7⟩
    refine ⟨_, rfl, fun a51 hA51 => ?_⟩
    replace HB := HB.trans (hb7.mono HB.size)
    replace K1 := K1.below hb7 K1.lt
    replace K3 := K3.below hb7 K3.lt
    replace ho := ho.below hb7
    replace ho6 := ho6.below hb7
    obtain ⟨Ar, cr, e0, hR, _⟩ := own_reads ho
    subst e0
    obtain ⟨Af, cf, e1, hF, _⟩ := own_reads ho6
    subst e1
    refine wl_op hA51 rfl rfl (by decide) (fun ev h => by simp [go_sem, h.get 30 rfl, K1.cell]; try first | exact ⟨rfl, rfl⟩ | rfl) fun a52 hA52 => ?_
    refine wl_nil ?_
    refine n_then ?_
    have hA53 := hA52.keep [1, 3, 4, 5, 6, 7, 31]
    simp only [argsE, keepE, lookS, Nat.reduceBEq, cond_true, cond_false, Nat.reduceAdd, gv_tt, gv_ff, Bool.true_and, Bool.false_and, Bool.true_or, Bool.false_or] at hA53
    clear hA49 hA50 hA51 hA52 a48 a50 a51
    -- cond
    cases hf : formedV k e nm m with
    | false =>
      rw [hf] at hA53
      refine wp_if hA53 31 _ rfl (fun hq2 => ?yB) (fun hq2 => ?nB)
      case nB => cases hq2
      case yB =>
        refine wp_seq ?_
        refine wp_region_lit ?_
        refine wl_op hA53 rfl rfl (by decide) (fun ev h => by simp [go_sem, h.get 3 rfl, K3.cell]; try first | exact ⟨rfl, rfl⟩ | rfl) fun a54 hA54 => ?_
        -- stop call slot 33
        refine wl_call hA54 rfl rfl (by decide) (fun ev h => exec_call Tryz.func13 (by kernel_rfl) rfl (h.f _) (by first | (simp only [List.map_toArray, List.map_cons, List.map_nil, h.get 32 rfl, h.c]; done) | (simp only [List.map_toArray, List.map_cons, List.map_nil, h.get 32 rfl, h.c]; rfl) | (simp [List.map_toArray, List.map_cons, List.map_nil, h.get 32 rfl, h.c, K3.cell]; done) | (simp [List.map_toArray, List.map_cons, List.map_nil, h.get 32 rfl, h.c, K3.cell]; rfl) | rfl)) (formed_any k e nm m _ (hm.below hg HB) (Nat.lt_of_lt_of_le hg HB.size) (htab := Ht _ HB) hnm) ?_
        rintro e w8 ⟨rfl, hb8⟩
        refine ⟨_, rfl, fun a55 hA55 => ?_⟩
        replace HB := HB.trans (hb8.mono HB.size)
        replace K3 := K3.below hb8 K3.lt
        rw [hf] at hA55
        refine wl_op hA55 rfl rfl (by decide) (fun ev h => by simp [go_sem, h.get 33 rfl, K3.cell]; try first | exact ⟨rfl, rfl⟩ | rfl) fun a56 hA56 => ?_
        refine wl_op hA56 rfl rfl (by decide) (fun ev h => by simp [go_sem, h.get 34 rfl, K3.cell]; try first | exact ⟨rfl, rfl⟩ | rfl) fun a57 hA57 => ?_
        refine wl_guard _ hA57 rfl rfl rfl rfl (by decide) (fun hq ev h => by simp [go_sem, (h.get 5 rfl), K3.cell]; try first | exact ⟨rfl, rfl⟩ | rfl) fun a58 hA58 => ?_
        refine wl_guard _ hA58 rfl rfl rfl rfl (by decide) (fun hq ev h => by simp [go_sem, h.c, ((h.get 36 rfl).trans (gw_t (beq_t hq))), K3.cell]; try first | exact ⟨rfl, rfl⟩ | rfl) fun a59 hA59 => ?_
        refine wl_op hA59 rfl rfl (by decide) (fun ev h => by first | exact pick_and rfl (h.get 35 rfl) (h.get 37 rfl) (h.c _) | exact pick_or rfl (h.get 35 rfl) (h.get 37 rfl) (h.c _) | (simp [go_sem, h.c, h.get 35 rfl, h.get 37 rfl, K3.cell, gv_or, gv_and]; try first | exact ⟨rfl, rfl⟩ | rfl)) fun a60 hA60 => ?_
        refine wl_op hA60 rfl rfl (by decide) (fun ev h => by simp [go_sem, h.get 38 rfl, K3.cell]; try first | exact ⟨rfl, rfl⟩ | rfl) fun a61 hA61 => ?_
        refine wl_guard _ hA61 rfl rfl rfl rfl (by decide) (fun hq ev h => by simp [go_sem, (h.get 7 rfl), K3.cell]; try first | exact ⟨rfl, rfl⟩ | rfl) fun a62 hA62 => ?_
        refine wl_guard _ hA62 rfl rfl rfl rfl (by decide) (fun hq ev h => by simp [go_sem, h.c, ((h.get 40 rfl).trans (gw_t (beq_t hq))), K3.cell]; try first | exact ⟨rfl, rfl⟩ | rfl) fun a63 hA63 => ?_
        refine wl_op hA63 rfl rfl (by decide) (fun ev h => by first | exact pick_and rfl (h.get 39 rfl) (h.get 41 rfl) (h.c _) | exact pick_or rfl (h.get 39 rfl) (h.get 41 rfl) (h.c _) | (simp [go_sem, h.c, h.get 39 rfl, h.get 41 rfl, K3.cell, gv_or, gv_and]; try first | exact ⟨rfl, rfl⟩ | rfl)) fun a64 hA64 => ?_
        refine wl_op hA64 rfl rfl (by decide) (fun ev h => by simp [go_sem, h.get 42 rfl, K3.cell]; try first | exact ⟨rfl, rfl⟩ | rfl) fun a65 hA65 => ?_
        refine wl_guard _ hA65 rfl rfl rfl rfl (by decide) (fun hq ev h => by simp [go_sem, (h.get 4 rfl), K3.cell]; try first | exact ⟨rfl, rfl⟩ | rfl) fun a66 hA66 => ?_
        refine wl_guard _ hA66 rfl rfl rfl rfl (by decide) (fun hq ev h => by simp [go_sem, ((h.get 44 rfl).trans (gw_t (beq_t hq))), K3.cell]; try first | exact ⟨rfl, rfl⟩ | rfl) fun a67 hA67 => ?_
        refine wl_guard _ hA67 rfl rfl rfl rfl (by decide) (fun hq ev h => by simp [go_sem, h.c, ((h.get 45 rfl).trans (gw_t (beq_t hq))), K3.cell]; try first | exact ⟨rfl, rfl⟩ | rfl) fun a68 hA68 => ?_
        refine wl_op hA68 rfl rfl (by decide) (fun ev h => by first | exact pick_and rfl (h.get 43 rfl) (h.get 46 rfl) (h.c _) | exact pick_or rfl (h.get 43 rfl) (h.get 46 rfl) (h.c _) | (simp [go_sem, h.c, h.get 43 rfl, h.get 46 rfl, K3.cell, gv_or, gv_and]; try first | exact ⟨rfl, rfl⟩ | rfl)) fun a69 hA69 => ?_
        refine wl_op hA69 rfl rfl (by decide) (fun ev h => by simp [go_sem, h.get 47 rfl, K3.cell]; try first | exact ⟨rfl, rfl⟩ | rfl) fun a70 hA70 => ?_
        refine wl_guard _ hA70 rfl rfl rfl rfl (by decide) (fun hq ev h => by simp [go_sem, (h.get 6 rfl), K3.cell]; try first | exact ⟨rfl, rfl⟩ | rfl) fun a71 hA71 => ?_
        refine wl_guard _ hA71 rfl rfl rfl rfl (by decide) (fun hq ev h => by simp [go_sem, ((h.get 49 rfl).trans (gw_t (beq_t hq))), K3.cell]; try first | exact ⟨rfl, rfl⟩ | rfl) fun a72 hA72 => ?_
        refine wl_guard _ hA72 rfl rfl rfl rfl (by decide) (fun hq ev h => by simp [go_sem, h.c, ((h.get 50 rfl).trans (gw_t (beq_t hq))), K3.cell]; try first | exact ⟨rfl, rfl⟩ | rfl) fun a73 hA73 => ?_
        refine wl_op hA73 rfl rfl (by decide) (fun ev h => by first | exact pick_and rfl (h.get 48 rfl) (h.get 51 rfl) (h.c _) | exact pick_or rfl (h.get 48 rfl) (h.get 51 rfl) (h.c _) | (simp [go_sem, h.c, h.get 48 rfl, h.get 51 rfl, K3.cell, gv_or, gv_and]; try first | exact ⟨rfl, rfl⟩ | rfl)) fun a74 hA74 => ?_
        refine wl_op hA74 rfl rfl (by decide) (fun ev h => by simp [go_sem, h.get 52 rfl, K3.cell]; try first | exact ⟨rfl, rfl⟩ | rfl) fun a75 hA75 => ?_
        refine wl_nil ?_
        refine n_then ?_
        have hA76 := hA75.keep [2]
        simp only [argsE, keepE, lookS, Nat.reduceBEq, cond_true, cond_false, Nat.reduceAdd, gv_tt, gv_ff, Bool.true_and, Bool.false_and, Bool.true_or, Bool.false_or] at hA76
        clear hA53 hA54 hA55 hA56 hA57 hA58 hA59 hA60 hA61 hA62 hA63 hA64 hA65 hA66 hA67 hA68 hA69 hA70 hA71 hA72 hA73 hA74 hA75 a54 a55 a56 a57 a58 a59 a60 a61 a62 a63 a64 a65 a66 a67 a68 a69 a70 a71 a72 a73 a74
        refine wp_ret ?_
        refine r_then ?_
        -- ret
        refine ret_1 hA76 2 rfl rfl ?_
        exact ⟨ret_bool (by first | rfl | simp), HB⟩
    | true =>
      rw [hf, cond_true] at hR hF
      rw [hf] at hA53
      simp only [cond_true] at hA53
      have hlen := encV_len hf
      obtain ⟨q, rfl, hq1, hq3⟩ := formed_kind hf
      refine wp_if hA53 31 _ rfl (fun hq2 => ?yB) (fun hq2 => ?nB)
      case yB => cases hq2
      case nB =>
        refine wp_skip ?_
        refine n_then ?_
        refine wp_seq ?_
        refine wp_region_lit ?_
        refine wl_op hA53 rfl rfl (by decide) (fun ev h => by simp [go_sem, h.get 1 rfl, K1.cell]; try first | exact ⟨rfl, rfl⟩ | rfl) fun a77 hA77 => ?_
        refine wl_op hA77 rfl rfl (by decide) (fun ev h => by simp [go_sem, h.get 54 rfl, K1.cell]; try first | exact ⟨rfl, rfl⟩ | rfl) fun a78 hA78 => ?_
        refine wl_op hA78 rfl rfl (by decide) (fun ev h => by simp [go_sem, h.get 4 rfl, K1.cell]; try first | exact ⟨rfl, rfl⟩ | rfl) fun a79 hA79 => ?_
        -- stop call slot 57
        refine wl_call hA79 rfl rfl (by decide) (fun ev h => exec_call Tryz.func14 (by kernel_rfl) rfl (h.f _) (by first | (simp only [List.map_toArray, List.map_cons, List.map_nil, h.get 55 rfl, h.get 56 rfl, h.c]; done) | (simp only [List.map_toArray, List.map_cons, List.map_nil, h.get 55 rfl, h.get 56 rfl, h.c]; rfl) | (simp [List.map_toArray, List.map_cons, List.map_nil, h.get 55 rfl, h.get 56 rfl, h.c, K1.cell]; done) | (simp [List.map_toArray, List.map_cons, List.map_nil, h.get 55 rfl, h.get 56 rfl, h.c, K1.cell]; rfl) | rfl)) (decode_any q Ar _ cr (encV q e nm m) rfl (by omega) _ (hm.below hg HB) (Nat.lt_of_lt_of_le hg HB.size) (htab := Ht _ HB) hR) ?_
        rintro e w8 ⟨a2, c2, rfl, hrd, hb8⟩
        refine ⟨_, rfl, fun a80 hA80 => ?_⟩
        replace HB := HB.trans (hb8.mono HB.size)
        replace K1 := K1.below hb8 K1.lt
        replace K3 := K3.below hb8 K3.lt
        replace hR := (hR.below hb8).more hb8.size
        replace hF := (hF.below hb8).more hb8.size
        rw [decOk_enc hf he hu] at hA80 hrd
        have hrd := hrd rfl
        rw [rd1_enc he, rd4_enc hf he hu, rdM_enc hf he hu] at hA80
        rw [rd5_enc hf he hu] at hrd
        simp only [cond_true] at hA80
        unfold noteC at hA80
        refine wl_op hA80 rfl rfl (by decide) (fun ev h => by simp [go_sem, h.get 57 rfl, K1.cell]; try first | exact ⟨rfl, rfl⟩ | rfl) fun a81 hA81 => ?_
        refine wl_op hA81 rfl rfl (by decide) (fun ev h => by simp [go_sem, h.get 53 rfl, K1.cell]; try first | exact ⟨rfl, rfl⟩ | rfl) fun a82 hA82 => ?_
        refine wl_op hA82 rfl rfl (by decide) (fun ev h => by simp [go_sem, h.get 53 rfl, K1.cell]; try first | exact ⟨rfl, rfl⟩ | rfl) fun a83 hA83 => ?_
        -- stop alloc slot 8
        refine wl_local [.int .i64 (q : Nat), .int .u32 (e : Nat), .string nm, .int .u32 (m.uid : Nat), .int .i64 m.date, .int .i64 m.flags, .slice a2 m.b.length c2] hA83 rfl rfl (by decide) (fun ev h => by simp [go_sem, K1.cell]; try first | exact ⟨rfl, rfl⟩ | rfl) rfl rfl (by rfl) (fun w1 g ev hb h => by simp [go_sem, h.get 8 rfl, h.get 58 rfl, K1.cell, setAll, hb.cell, hb.frozen]) fun w9 a84 (K8 : Blk _ _ _ _) hz9 hb9 hA84 => ?_
        replace HB := HB.trans (hb9.mono HB.size)
        replace K1 := K1.below hb9 K1.lt
        replace K3 := K3.below hb9 K3.lt
        replace hR := (hR.below hb9).more hb9.size
        replace hF := (hF.below hb9).more hb9.size
        replace hrd := (hrd.below hb9).more hb9.size
        refine wl_op hA84 rfl rfl (by decide) (fun ev h => by simp [go_sem, h.get 59 rfl, K1.cell]; try first | exact ⟨rfl, rfl⟩ | rfl) fun a85 hA85 => ?_
        refine wl_nil ?_
        refine n_then ?_
        have hA86 := hA85.keep [1, 3, 4, 5, 6, 7, 8, 9]
        simp only [argsE, keepE, lookS, Nat.reduceBEq, cond_true, cond_false, Nat.reduceAdd, gv_tt, gv_ff, Bool.true_and, Bool.false_and, Bool.true_or, Bool.false_or] at hA86
        clear hA53 hA77 hA78 hA79 hA80 hA81 hA82 hA83 hA84 hA85 a77 a78 a79 a80 a81 a82 a83 a84
        refine wp_seq ?_
        -- any
        have hrm := (hr.below HB).more HB.size
        obtain ⟨P1, hP1⟩ : ∃ P1 : List UInt8, encV q e nm m = P1 := ⟨_, rfl⟩
        obtain ⟨P2, hP2⟩ : ∃ P2 : List UInt8, frameV q e nm m = P2 := ⟨_, rfl⟩
        rw [hP1] at hR hlen hA86
        rw [hP2] at hF hA86
        obtain ⟨S1, hS1⟩ : ∃ S : ByteArray, (⟨P1.toArray⟩ : ByteArray) = S := ⟨_, rfl⟩
        obtain ⟨S2, hS2⟩ : ∃ S : ByteArray, (⟨P2.toArray⟩ : ByteArray) = S := ⟨_, rfl⟩
        have hfr : frameB q P1 = P2 := by rw [← hP1, ← hP2]; rfl
        refine wp_any_at hA86 ((.det ?dD0) :: (.det ?dD1) :: (.det ?dD2) :: (.det ?dD3) :: (.det ?dD4) :: (.det ?dD5) :: (.det ?dD6) :: (.det ?dD7) :: (.det ?dD8) :: (.det ?dD9) :: (.det ?dD10) :: (.det ?dD11) :: (.det ?dD12) :: (.det ?dD13) :: (.used (fun v wy => Took wy v P1)) :: (.det ?dD15) :: (.det ?dD16) :: (.det ?dD17) :: (.det ?dD18) :: (.det ?dD19) :: (.det ?dD20) :: (.det ?dD21) :: (.det ?dD22) :: (.det ?dD23) :: (.used (fun v wy => Took wy v P2)) :: (.det ?dD25) :: (.det ?dD26) :: (.det ?dD27) :: (.det ?dD28) :: (.det ?dD29) :: (.det ?dD30) :: (.det ?dD31) :: (.det ?dD32) :: (.det ?dD33) :: (.det ?dD34) :: (.det ?dD35) :: (.det ?dD36) :: (.det ?dD37) :: (.det ?dD38) :: (.det ?dD39) :: (.det ?dD40) :: (.det ?dD41) :: (.det ?dD42) :: (.det ?dD43) :: (.det ?dD44) :: (.det ?dD45) :: (.det ?dD46) :: (.det ?dD47) :: (.det ?dD48) :: (.det ?dD49) :: (.det ?dD50) :: (.det ?dD51) :: (.det ?dD52) :: (.det ?dD53) :: (.det ?dD54) :: (.det ?dD55) :: (.det ?dD56) :: (.det ?dD57) :: (.det ?dD58) :: (.det ?dD59) :: (.det ?dD60) :: []) [] (fun wy => Below w9.heap.size w9 wy) (TSp [] Grows) (by kernel_rfl) rfl (by kernel_rfl) (by kernel_rfl) rfl ((Below.refl _ _).drew) (stab_sp [] (true :: true :: true :: true :: true :: true :: true :: true :: true :: true :: true :: true :: true :: true :: false :: true :: true :: true :: true :: true :: true :: true :: true :: true :: false :: true :: true :: true :: true :: true :: true :: true :: true :: true :: true :: true :: true :: true :: true :: true :: true :: true :: true :: true :: true :: true :: true :: true :: true :: true :: true :: true :: true :: true :: true :: true :: true :: true :: true :: true :: true :: []) (true :: true :: true :: true :: true :: true :: true :: true :: true :: true :: true :: true :: true :: true :: false :: true :: true :: true :: true :: true :: true :: true :: true :: true :: false :: true :: true :: true :: true :: true :: true :: true :: true :: true :: true :: true :: true :: true :: true :: true :: true :: true :: true :: true :: true :: true :: true :: true :: true :: true :: true :: true :: true :: true :: true :: true :: true :: true :: true :: true :: true :: []) [] rfl rfl rfl (by kernel_rfl) ⟨trivial, trivial, trivial, trivial, trivial, trivial, trivial, trivial, trivial, trivial, trivial, trivial, trivial, trivial, (fun _ _ _ _ hp hb => hp.below hb), trivial, trivial, trivial, trivial, trivial, trivial, trivial, trivial, trivial, (fun _ _ _ _ hp hb => hp.below hb), trivial, trivial, trivial, trivial, trivial, trivial, trivial, trivial, trivial, trivial, trivial, trivial, trivial, trivial, trivial, trivial, trivial, trivial, trivial, trivial, trivial, trivial, trivial, trivial, trivial, trivial, trivial, trivial, trivial, trivial, trivial, trivial, trivial, trivial, trivial, trivial, trivial⟩ trivial) (fun _ h => by cases h) (fun _ _ _ _ _ h => by cases h) (fun _ h => by cases h) ⟨?oD0, ?oD1, ?oD2, ?oD3, ?oD4, ?oD5, ?oD6, ?oD7, ?oD8, ?oD9, ?oD10, ?oD11, ?oD12, ?oD13, ?oD14, ?oD15, ?oD16, ?oD17, ?oD18, ?oD19, ?oD20, ?oD21, ?oD22, ?oD23, ?oD24, ?oD25, ?oD26, ?oD27, ?oD28, ?oD29, ?oD30, ?oD31, ?oD32, ?oD33, ?oD34, ?oD35, ?oD36, ?oD37, ?oD38, ?oD39, ?oD40, ?oD41, ?oD42, ?oD43, ?oD44, ?oD45, ?oD46, ?oD47, ?oD48, ?oD49, ?oD50, ?oD51, ?oD52, ?oD53, ?oD54, ?oD55, ?oD56, ?oD57, ?oD58, ?oD59, ?oD60, trivial⟩ (by kernel_rfl) ?fD
        case oD0 =>
          intro ev wo hev hC hs hph
          have e3 := see_env hA86 hs 3 (by kernel_rfl) (by kernel_rfl) rfl
          have Kx := K1.below hC K1.lt
          have Ky := K3.below hC K3.lt
          have Kz := K8.below hC K8.lt
          have v0 := conv_reads (c := cr) rfl (hR.below hC)
          have v1 := conv_reads (c := cf) rfl (hF.below hC)
          rw [hS1] at v0
          rw [hS2] at v1
          exact ob_det (wanted_none rfl) rfl (by kernel_rfl) hC (TSp.of rfl (Grows.refl _)) (by simp [go_sem, e3, Kx.cell, Ky.cell, Kz.cell, K1.cell]; try first | exact ⟨rfl, rfl⟩ | rfl)
        case oD1 =>
          intro ev wo hev hC hs hph
          have e60 := see_det hs 60 0 (by kernel_rfl) (by kernel_rfl) rfl
          have Kx := K1.below hC K1.lt
          have Ky := K3.below hC K3.lt
          have Kz := K8.below hC K8.lt
          have v0 := conv_reads (c := cr) rfl (hR.below hC)
          have v1 := conv_reads (c := cf) rfl (hF.below hC)
          rw [hS1] at v0
          rw [hS2] at v1
          exact ob_dcall (wanted_none rfl) rfl (by kernel_rfl) ((formed_any q e nm m wo (hm.below hg (HB.trans (hC.mono HB.size))) (Nat.lt_of_lt_of_le hg (HB.trans (hC.mono HB.size)).size) (htab := Ht _ (HB.trans (hC.mono HB.size))) hnm).mono fun e' w' h => ⟨by rw [h.1, hf], h.2⟩) (exec_call Tryz.func13 (by kernel_rfl) rfl (hev.func _) (by first | (simp only [List.map_toArray, List.map_cons, List.map_nil, e60, hev.const]; done) | (simp only [List.map_toArray, List.map_cons, List.map_nil, e60, hev.const]; rfl) | (simp [List.map_toArray, List.map_cons, List.map_nil, e60, hev.const]; done) | (simp [List.map_toArray, List.map_cons, List.map_nil, e60, hev.const]; rfl) | rfl)) (by rfl) (fun w3 hb3 => ⟨hC.trans (hb3.mono hC.size), TSp.of rfl hb3⟩)
        case oD2 =>
          intro ev wo hev hC hs hph
          have e61 := see_det hs 61 1 (by kernel_rfl) (by kernel_rfl) rfl
          exact ob_det (wanted_none rfl) rfl (by kernel_rfl) hC (TSp.of rfl (Grows.refl _)) (by simp [go_sem, e61]; try first | exact ⟨rfl, rfl⟩ | rfl)
        case oD3 =>
          intro ev wo hev hC hs hph
          have e5 := see_env hA86 hs 5 (by kernel_rfl) (by kernel_rfl) rfl
          have e62 := see_det hs 62 2 (by kernel_rfl) (by kernel_rfl) rfl
          exact ob_gv _ rfl rfl e62 rfl (by kernel_rfl) hC (TSp.of rfl (Grows.refl _)) (fun hq => by simp [go_sem, e5, e62]; try first | exact ⟨rfl, rfl⟩ | rfl) (by rfl)
        case oD4 =>
          intro ev wo hev hC hs hph
          have e63 := see_det hs 63 3 (by kernel_rfl) (by kernel_rfl) rfl
          have e62 := see_det hs 62 2 (by kernel_rfl) (by kernel_rfl) rfl
          exact ob_gv _ rfl rfl e62 rfl (by kernel_rfl) hC (TSp.of rfl (Grows.refl _)) (fun hq => by simp [go_sem, (e63.trans (gw_t (beq_t hq))), e62, hev.const]; try first | exact ⟨rfl, rfl⟩ | rfl) (by rfl)
        case oD5 =>
          intro ev wo hev hC hs hph
          have e62 := see_det hs 62 2 (by kernel_rfl) (by kernel_rfl) rfl
          have e64 := see_det hs 64 4 (by kernel_rfl) (by kernel_rfl) rfl
          exact ob_det (wanted_none rfl) rfl (by kernel_rfl) hC (TSp.of rfl (Grows.refl _)) (by first | (refine (pick_and ?_ (e62) (e64) (hev.const _)); rfl) | (rw [pick_and _ (e62) (e64) (hev.const _)]; rfl) | (refine (pick_or ?_ (e62) (e64) (hev.const _)); rfl) | (rw [pick_or _ (e62) (e64) (hev.const _)]; rfl) | (simp [go_sem, e62, e64, hev.const]; try first | exact ⟨rfl, rfl⟩ | rfl))
        case oD6 =>
          intro ev wo hev hC hs hph
          have e65 := see_det hs 65 5 (by kernel_rfl) (by kernel_rfl) rfl
          exact ob_det (wanted_none rfl) rfl (by kernel_rfl) hC (TSp.of rfl (Grows.refl _)) (by simp [go_sem, e65]; try first | exact ⟨rfl, rfl⟩ | rfl)
        case oD7 =>
          intro ev wo hev hC hs hph
          have e7 := see_env hA86 hs 7 (by kernel_rfl) (by kernel_rfl) rfl
          have e66 := see_det hs 66 6 (by kernel_rfl) (by kernel_rfl) rfl
          exact ob_gv _ rfl rfl e66 rfl (by kernel_rfl) hC (TSp.of rfl (Grows.refl _)) (fun hq => by simp [go_sem, e7, e66]; try first | exact ⟨rfl, rfl⟩ | rfl) (by rfl)
        case oD8 =>
          intro ev wo hev hC hs hph
          have e67 := see_det hs 67 7 (by kernel_rfl) (by kernel_rfl) rfl
          have e66 := see_det hs 66 6 (by kernel_rfl) (by kernel_rfl) rfl
          exact ob_gv _ rfl rfl e66 rfl (by kernel_rfl) hC (TSp.of rfl (Grows.refl _)) (fun hq => by simp [go_sem, (e67.trans (gw_t (beq_t hq))), e66, hev.const]; try first | exact ⟨rfl, rfl⟩ | rfl) (by rfl)
        case oD9 =>
          intro ev wo hev hC hs hph
          have e66 := see_det hs 66 6 (by kernel_rfl) (by kernel_rfl) rfl
          have e68 := see_det hs 68 8 (by kernel_rfl) (by kernel_rfl) rfl
          exact ob_det (wanted_none rfl) rfl (by kernel_rfl) hC (TSp.of rfl (Grows.refl _)) (by first | (refine (pick_and ?_ (e66) (e68) (hev.const _)); rfl) | (rw [pick_and _ (e66) (e68) (hev.const _)]; rfl) | (refine (pick_or ?_ (e66) (e68) (hev.const _)); rfl) | (rw [pick_or _ (e66) (e68) (hev.const _)]; rfl) | (simp [go_sem, e66, e68, hev.const]; try first | exact ⟨rfl, rfl⟩ | rfl))
        case oD10 =>
          intro ev wo hev hC hs hph
          have e69 := see_det hs 69 9 (by kernel_rfl) (by kernel_rfl) rfl
          exact ob_det (wanted_none rfl) rfl (by kernel_rfl) hC (TSp.of rfl (Grows.refl _)) (by simp [go_sem, e69]; try first | exact ⟨rfl, rfl⟩ | rfl)
        case oD11 =>
          intro ev wo hev hC hs hph
          have e4 := see_env hA86 hs 4 (by kernel_rfl) (by kernel_rfl) rfl
          have e70 := see_det hs 70 10 (by kernel_rfl) (by kernel_rfl) rfl
          exact ob_gv _ rfl rfl e70 rfl (by kernel_rfl) hC (TSp.of rfl (Grows.refl _)) (fun hq => by simp [go_sem, e4, e70]; try first | exact ⟨rfl, rfl⟩ | rfl) (by rfl)
        case oD12 =>
          intro ev wo hev hC hs hph
          have e71 := see_det hs 71 11 (by kernel_rfl) (by kernel_rfl) rfl
          have e70 := see_det hs 70 10 (by kernel_rfl) (by kernel_rfl) rfl
          have Kx := K1.below hC K1.lt
          have Ky := K3.below hC K3.lt
          have Kz := K8.below hC K8.lt
          have v0 := conv_reads (c := cr) rfl (hR.below hC)
          have v1 := conv_reads (c := cf) rfl (hF.below hC)
          rw [hS1] at v0
          rw [hS2] at v1
          exact ob_gv _ rfl rfl e70 rfl (by kernel_rfl) hC (TSp.of rfl (Grows.refl _)) (fun hq => by simp [go_sem, (e71.trans (gw_t (beq_t hq))), e70, v0]; try first | exact ⟨rfl, rfl⟩ | rfl) (by rfl)
        case oD13 =>
          intro ev wo hev hC hs hph
          have e1 := see_env hA86 hs 1 (by kernel_rfl) (by kernel_rfl) rfl
          have e70 := see_det hs 70 10 (by kernel_rfl) (by kernel_rfl) rfl
          have Kx := K1.below hC K1.lt
          have Ky := K3.below hC K3.lt
          have Kz := K8.below hC K8.lt
          have v0 := conv_reads (c := cr) rfl (hR.below hC)
          have v1 := conv_reads (c := cf) rfl (hF.below hC)
          rw [hS1] at v0
          rw [hS2] at v1
          exact ob_gv _ rfl rfl e70 rfl (by kernel_rfl) hC (TSp.of rfl (Grows.refl _)) (fun hq => by simp [go_sem, e1, e70, Kx.cell, Ky.cell, Kz.cell, K1.cell]; try first | exact ⟨rfl, rfl⟩ | rfl) (by rfl)
        case oD14 =>
          intro ev wo hev hC hs hph
          have e73 := see_det hs 73 13 (by kernel_rfl) (by kernel_rfl) rfl
          have e70 := see_det hs 70 10 (by kernel_rfl) (by kernel_rfl) rfl
          have Kx := K1.below hC K1.lt
          have Ky := K3.below hC K3.lt
          have Kz := K8.below hC K8.lt
          have v0 := conv_reads (c := cr) rfl (hR.below hC)
          have v1 := conv_reads (c := cf) rfl (hF.below hC)
          rw [hS1] at v0
          rw [hS2] at v1
          exact ob_yes (wanted_bool rfl rfl e70 rfl) (does_enter (exec_call Tryz.func15 (by kernel_rfl) rfl (hev.func _) (by simp [e73, gw]; try rfl)) (Calls.mono (refNote_any q e nm m wo hf he hu ((hrm.below hC).more hC.size)) (by
            rintro ev' w7 ⟨r, rfl, ho, hb7⟩
            exact ⟨r, rfl, hC.trans (hb7.mono hC.size), TSp.of rfl hb7, by rw [← hP1]; exact ho.took, no_start (by kernel_rfl)⟩)))
        case oD15 =>
          intro ev wo hev hC hs hph
          have u74 := see_used hs 74 14 (by kernel_rfl) (by kernel_rfl) rfl
          have e70 := see_det hs 70 10 (by kernel_rfl) (by kernel_rfl) rfl
          have Kx := K1.below hC K1.lt
          have Ky := K3.below hC K3.lt
          have Kz := K8.below hC K8.lt
          have v0 := conv_reads (c := cr) rfl (hR.below hC)
          have v1 := conv_reads (c := cf) rfl (hF.below hC)
          rw [hS1] at v0
          rw [hS2] at v1
          obtain ⟨A1, c1, e1, hr1⟩ := u74
          have v2 := conv_reads (c := c1) rfl hr1
          rw [hS1] at v2
          exact ob_gv _ rfl rfl e70 rfl (by kernel_rfl) hC (TSp.of rfl (Grows.refl _)) (fun hq => by simp [go_sem, e1, v2]; try first | exact ⟨rfl, rfl⟩ | rfl) (by rfl)
        case oD16 =>
          intro ev wo hev hC hs hph
          have e72 := see_det hs 72 12 (by kernel_rfl) (by kernel_rfl) rfl
          have e75 := see_det hs 75 15 (by kernel_rfl) (by kernel_rfl) rfl
          have e70 := see_det hs 70 10 (by kernel_rfl) (by kernel_rfl) rfl
          exact ob_gv _ rfl rfl e70 rfl (by kernel_rfl) hC (TSp.of rfl (Grows.refl _)) (fun hq => by simp [go_sem, (e72.trans (gw_t (beq_t hq))), (e75.trans (gw_t (beq_t hq))), e70]; try first | exact ⟨rfl, rfl⟩ | rfl) (by rfl)
        case oD17 =>
          intro ev wo hev hC hs hph
          have e70 := see_det hs 70 10 (by kernel_rfl) (by kernel_rfl) rfl
          have e76 := see_det hs 76 16 (by kernel_rfl) (by kernel_rfl) rfl
          exact ob_det (wanted_none rfl) rfl (by kernel_rfl) hC (TSp.of rfl (Grows.refl _)) (by first | (refine (pick_and ?_ (e70) (e76) (hev.const _)); rfl) | (rw [pick_and _ (e70) (e76) (hev.const _)]; rfl) | (refine (pick_or ?_ (e70) (e76) (hev.const _)); rfl) | (rw [pick_or _ (e70) (e76) (hev.const _)]; rfl) | (simp [go_sem, e70, e76, hev.const]; try first | exact ⟨rfl, rfl⟩ | rfl))
        case oD18 =>
          intro ev wo hev hC hs hph
          have e77 := see_det hs 77 17 (by kernel_rfl) (by kernel_rfl) rfl
          exact ob_det (wanted_none rfl) rfl (by kernel_rfl) hC (TSp.of rfl (Grows.refl _)) (by simp [go_sem, e77]; try first | exact ⟨rfl, rfl⟩ | rfl)
        case oD19 =>
          intro ev wo hev hC hs hph
          have e6 := see_env hA86 hs 6 (by kernel_rfl) (by kernel_rfl) rfl
          have e78 := see_det hs 78 18 (by kernel_rfl) (by kernel_rfl) rfl
          exact ob_gv _ rfl rfl e78 rfl (by kernel_rfl) hC (TSp.of rfl (Grows.refl _)) (fun hq => by simp [go_sem, e6, e78]; try first | exact ⟨rfl, rfl⟩ | rfl) (by rfl)
        case oD20 =>
          intro ev wo hev hC hs hph
          have e79 := see_det hs 79 19 (by kernel_rfl) (by kernel_rfl) rfl
          have e78 := see_det hs 78 18 (by kernel_rfl) (by kernel_rfl) rfl
          have Kx := K1.below hC K1.lt
          have Ky := K3.below hC K3.lt
          have Kz := K8.below hC K8.lt
          have v0 := conv_reads (c := cr) rfl (hR.below hC)
          have v1 := conv_reads (c := cf) rfl (hF.below hC)
          rw [hS1] at v0
          rw [hS2] at v1
          exact ob_gv _ rfl rfl e78 rfl (by kernel_rfl) hC (TSp.of rfl (Grows.refl _)) (fun hq => by simp [go_sem, (e79.trans (gw_t (beq_t hq))), e78, v1]; try first | exact ⟨rfl, rfl⟩ | rfl) (by rfl)
        case oD21 =>
          intro ev wo hev hC hs hph
          have e1 := see_env hA86 hs 1 (by kernel_rfl) (by kernel_rfl) rfl
          have e78 := see_det hs 78 18 (by kernel_rfl) (by kernel_rfl) rfl
          exact ob_gv _ rfl rfl e78 rfl (by kernel_rfl) hC (TSp.of rfl (Grows.refl _)) (fun hq => by simp [go_sem, e1, e78]; try first | exact ⟨rfl, rfl⟩ | rfl) (by rfl)
        case oD22 =>
          intro ev wo hev hC hs hph
          have e81 := see_det hs 81 21 (by kernel_rfl) (by kernel_rfl) rfl
          have e78 := see_det hs 78 18 (by kernel_rfl) (by kernel_rfl) rfl
          have Kx := K1.below hC K1.lt
          have Ky := K3.below hC K3.lt
          have Kz := K8.below hC K8.lt
          have v0 := conv_reads (c := cr) rfl (hR.below hC)
          have v1 := conv_reads (c := cf) rfl (hF.below hC)
          rw [hS1] at v0
          rw [hS2] at v1
          exact ob_gv _ rfl rfl e78 rfl (by kernel_rfl) hC (TSp.of rfl (Grows.refl _)) (fun hq => by simp [go_sem, (e81.trans (gw_t (beq_t hq))), e78, Kx.cell, Ky.cell, Kz.cell, K1.cell]; try first | exact ⟨rfl, rfl⟩ | rfl) (by rfl)
        case oD23 =>
          intro ev wo hev hC hs hph
          have e4 := see_env hA86 hs 4 (by kernel_rfl) (by kernel_rfl) rfl
          have e78 := see_det hs 78 18 (by kernel_rfl) (by kernel_rfl) rfl
          exact ob_gv _ rfl rfl e78 rfl (by kernel_rfl) hC (TSp.of rfl (Grows.refl _)) (fun hq => by simp [go_sem, e4, e78]; try first | exact ⟨rfl, rfl⟩ | rfl) (by rfl)
        case oD24 =>
          intro ev wo hev hC hs hph
          have e82 := see_det hs 82 22 (by kernel_rfl) (by kernel_rfl) rfl
          have e83 := see_det hs 83 23 (by kernel_rfl) (by kernel_rfl) rfl
          have e78 := see_det hs 78 18 (by kernel_rfl) (by kernel_rfl) rfl
          have Kx := K1.below hC K1.lt
          have Ky := K3.below hC K3.lt
          have Kz := K8.below hC K8.lt
          have v0 := conv_reads (c := cr) rfl (hR.below hC)
          have v1 := conv_reads (c := cf) rfl (hF.below hC)
          rw [hS1] at v0
          rw [hS2] at v1
          exact ob_yes (wanted_bool rfl rfl e78 rfl) (does_enter (exec_call Tryz.func16 (by kernel_rfl) rfl (hev.func _) (by simp [e82, e83, gw]; try rfl)) (Calls.mono (refFrame_any q hq1 hq3 Ar _ cr P1 rfl (by omega) wo ((hR.below hC).more hC.size)) (by
            rintro ev' w7 ⟨r, rfl, ho, hb7⟩
            exact ⟨r, rfl, hC.trans (hb7.mono hC.size), TSp.of rfl hb7, by rw [← hfr]; exact ho.took, no_start (by kernel_rfl)⟩)))
        case oD25 =>
          intro ev wo hev hC hs hph
          have u84 := see_used hs 84 24 (by kernel_rfl) (by kernel_rfl) rfl
          have e78 := see_det hs 78 18 (by kernel_rfl) (by kernel_rfl) rfl
          have Kx := K1.below hC K1.lt
          have Ky := K3.below hC K3.lt
          have Kz := K8.below hC K8.lt
          have v0 := conv_reads (c := cr) rfl (hR.below hC)
          have v1 := conv_reads (c := cf) rfl (hF.below hC)
          rw [hS1] at v0
          rw [hS2] at v1
          obtain ⟨A1, c1, e1, hr1⟩ := u84
          have v2 := conv_reads (c := c1) rfl hr1
          rw [hS2] at v2
          exact ob_gv _ rfl rfl e78 rfl (by kernel_rfl) hC (TSp.of rfl (Grows.refl _)) (fun hq => by simp [go_sem, e1, v2]; try first | exact ⟨rfl, rfl⟩ | rfl) (by rfl)
        case oD26 =>
          intro ev wo hev hC hs hph
          have e80 := see_det hs 80 20 (by kernel_rfl) (by kernel_rfl) rfl
          have e85 := see_det hs 85 25 (by kernel_rfl) (by kernel_rfl) rfl
          have e78 := see_det hs 78 18 (by kernel_rfl) (by kernel_rfl) rfl
          exact ob_gv _ rfl rfl e78 rfl (by kernel_rfl) hC (TSp.of rfl (Grows.refl _)) (fun hq => by simp [go_sem, (e80.trans (gw_t (beq_t hq))), (e85.trans (gw_t (beq_t hq))), e78]; try first | exact ⟨rfl, rfl⟩ | rfl) (by rfl)
        case oD27 =>
          intro ev wo hev hC hs hph
          have e78 := see_det hs 78 18 (by kernel_rfl) (by kernel_rfl) rfl
          have e86 := see_det hs 86 26 (by kernel_rfl) (by kernel_rfl) rfl
          exact ob_det (wanted_none rfl) rfl (by kernel_rfl) hC (TSp.of rfl (Grows.refl _)) (by first | (refine (pick_and ?_ (e78) (e86) (hev.const _)); rfl) | (rw [pick_and _ (e78) (e86) (hev.const _)]; rfl) | (refine (pick_or ?_ (e78) (e86) (hev.const _)); rfl) | (rw [pick_or _ (e78) (e86) (hev.const _)]; rfl) | (simp [go_sem, e78, e86, hev.const]; try first | exact ⟨rfl, rfl⟩ | rfl))
        case oD28 =>
          intro ev wo hev hC hs hph
          have e87 := see_det hs 87 27 (by kernel_rfl) (by kernel_rfl) rfl
          exact ob_det (wanted_none rfl) rfl (by kernel_rfl) hC (TSp.of rfl (Grows.refl _)) (by simp [go_sem, e87]; try first | exact ⟨rfl, rfl⟩ | rfl)
        case oD29 =>
          intro ev wo hev hC hs hph
          have e9 := see_env hA86 hs 9 (by kernel_rfl) (by kernel_rfl) rfl
          have e88 := see_det hs 88 28 (by kernel_rfl) (by kernel_rfl) rfl
          exact ob_gv _ rfl rfl e88 rfl (by kernel_rfl) hC (TSp.of rfl (Grows.refl _)) (fun hq => by simp [go_sem, e9, e88]; try first | exact ⟨rfl, rfl⟩ | rfl) (by rfl)
        case oD30 =>
          intro ev wo hev hC hs hph
          have e89 := see_det hs 89 29 (by kernel_rfl) (by kernel_rfl) rfl
          have e88 := see_det hs 88 28 (by kernel_rfl) (by kernel_rfl) rfl
          exact ob_gv _ rfl rfl e88 rfl (by kernel_rfl) hC (TSp.of rfl (Grows.refl _)) (fun hq => by simp [go_sem, (e89.trans (gw_t (beq_t hq))), e88, hev.const]; try first | exact ⟨rfl, rfl⟩ | rfl) (by rfl)
        case oD31 =>
          intro ev wo hev hC hs hph
          have e88 := see_det hs 88 28 (by kernel_rfl) (by kernel_rfl) rfl
          have e90 := see_det hs 90 30 (by kernel_rfl) (by kernel_rfl) rfl
          exact ob_det (wanted_none rfl) rfl (by kernel_rfl) hC (TSp.of rfl (Grows.refl _)) (by first | (refine (pick_and ?_ (e88) (e90) (hev.const _)); rfl) | (rw [pick_and _ (e88) (e90) (hev.const _)]; rfl) | (refine (pick_or ?_ (e88) (e90) (hev.const _)); rfl) | (rw [pick_or _ (e88) (e90) (hev.const _)]; rfl) | (simp [go_sem, e88, e90, hev.const]; try first | exact ⟨rfl, rfl⟩ | rfl))
        case oD32 =>
          intro ev wo hev hC hs hph
          have e91 := see_det hs 91 31 (by kernel_rfl) (by kernel_rfl) rfl
          exact ob_det (wanted_none rfl) rfl (by kernel_rfl) hC (TSp.of rfl (Grows.refl _)) (by simp [go_sem, e91]; try first | exact ⟨rfl, rfl⟩ | rfl)
        case oD33 =>
          intro ev wo hev hC hs hph
          have e8 := see_env hA86 hs 8 (by kernel_rfl) (by kernel_rfl) rfl
          have e92 := see_det hs 92 32 (by kernel_rfl) (by kernel_rfl) rfl
          exact ob_gv _ rfl rfl e92 rfl (by kernel_rfl) hC (TSp.of rfl (Grows.refl _)) (fun hq => by simp [go_sem, e8, e92]; try first | exact ⟨rfl, rfl⟩ | rfl) (by rfl)
        case oD34 =>
          intro ev wo hev hC hs hph
          have e93 := see_det hs 93 33 (by kernel_rfl) (by kernel_rfl) rfl
          have e92 := see_det hs 92 32 (by kernel_rfl) (by kernel_rfl) rfl
          have Kx := K1.below hC K1.lt
          have Ky := K3.below hC K3.lt
          have Kz := K8.below hC K8.lt
          have v0 := conv_reads (c := cr) rfl (hR.below hC)
          have v1 := conv_reads (c := cf) rfl (hF.below hC)
          rw [hS1] at v0
          rw [hS2] at v1
          exact ob_gv _ rfl rfl e92 rfl (by kernel_rfl) hC (TSp.of rfl (Grows.refl _)) (fun hq => by simp [go_sem, (e93.trans (gw_t (beq_t hq))), e92, Kx.cell, Ky.cell, Kz.cell, K1.cell]; try first | exact ⟨rfl, rfl⟩ | rfl) (by rfl)
        case oD35 =>
          intro ev wo hev hC hs hph
          have e1 := see_env hA86 hs 1 (by kernel_rfl) (by kernel_rfl) rfl
          have e92 := see_det hs 92 32 (by kernel_rfl) (by kernel_rfl) rfl
          exact ob_gv _ rfl rfl e92 rfl (by kernel_rfl) hC (TSp.of rfl (Grows.refl _)) (fun hq => by simp [go_sem, e1, e92]; try first | exact ⟨rfl, rfl⟩ | rfl) (by rfl)
        case oD36 =>
          intro ev wo hev hC hs hph
          have e95 := see_det hs 95 35 (by kernel_rfl) (by kernel_rfl) rfl
          have e92 := see_det hs 92 32 (by kernel_rfl) (by kernel_rfl) rfl
          have Kx := K1.below hC K1.lt
          have Ky := K3.below hC K3.lt
          have Kz := K8.below hC K8.lt
          have v0 := conv_reads (c := cr) rfl (hR.below hC)
          have v1 := conv_reads (c := cf) rfl (hF.below hC)
          rw [hS1] at v0
          rw [hS2] at v1
          exact ob_gv _ rfl rfl e92 rfl (by kernel_rfl) hC (TSp.of rfl (Grows.refl _)) (fun hq => by simp [go_sem, (e95.trans (gw_t (beq_t hq))), e92, Kx.cell, Ky.cell, Kz.cell, K1.cell]; try first | exact ⟨rfl, rfl⟩ | rfl) (by rfl)
        case oD37 =>
          intro ev wo hev hC hs hph
          have e94 := see_det hs 94 34 (by kernel_rfl) (by kernel_rfl) rfl
          have e96 := see_det hs 96 36 (by kernel_rfl) (by kernel_rfl) rfl
          have e92 := see_det hs 92 32 (by kernel_rfl) (by kernel_rfl) rfl
          exact ob_gv _ rfl rfl e92 rfl (by kernel_rfl) hC (TSp.of rfl (Grows.refl _)) (fun hq => by simp [go_sem, (e94.trans (gw_t (beq_t hq))), (e96.trans (gw_t (beq_t hq))), e92]; try first | exact ⟨rfl, rfl⟩ | rfl) (by rfl)
        case oD38 =>
          intro ev wo hev hC hs hph
          have e92 := see_det hs 92 32 (by kernel_rfl) (by kernel_rfl) rfl
          have e97 := see_det hs 97 37 (by kernel_rfl) (by kernel_rfl) rfl
          exact ob_det (wanted_none rfl) rfl (by kernel_rfl) hC (TSp.of rfl (Grows.refl _)) (by first | (refine (pick_and ?_ (e92) (e97) (hev.const _)); rfl) | (rw [pick_and _ (e92) (e97) (hev.const _)]; rfl) | (refine (pick_or ?_ (e92) (e97) (hev.const _)); rfl) | (rw [pick_or _ (e92) (e97) (hev.const _)]; rfl) | (simp [go_sem, e92, e97, hev.const]; try first | exact ⟨rfl, rfl⟩ | rfl))
        case oD39 =>
          intro ev wo hev hC hs hph
          have e98 := see_det hs 98 38 (by kernel_rfl) (by kernel_rfl) rfl
          exact ob_det (wanted_none rfl) rfl (by kernel_rfl) hC (TSp.of rfl (Grows.refl _)) (by simp [go_sem, e98]; try first | exact ⟨rfl, rfl⟩ | rfl)
        case oD40 =>
          intro ev wo hev hC hs hph
          have e8 := see_env hA86 hs 8 (by kernel_rfl) (by kernel_rfl) rfl
          have e99 := see_det hs 99 39 (by kernel_rfl) (by kernel_rfl) rfl
          exact ob_gv _ rfl rfl e99 rfl (by kernel_rfl) hC (TSp.of rfl (Grows.refl _)) (fun hq => by simp [go_sem, e8, e99]; try first | exact ⟨rfl, rfl⟩ | rfl) (by rfl)
        case oD41 =>
          intro ev wo hev hC hs hph
          have e100 := see_det hs 100 40 (by kernel_rfl) (by kernel_rfl) rfl
          have e99 := see_det hs 99 39 (by kernel_rfl) (by kernel_rfl) rfl
          have Kx := K1.below hC K1.lt
          have Ky := K3.below hC K3.lt
          have Kz := K8.below hC K8.lt
          have v0 := conv_reads (c := cr) rfl (hR.below hC)
          have v1 := conv_reads (c := cf) rfl (hF.below hC)
          rw [hS1] at v0
          rw [hS2] at v1
          exact ob_gv _ rfl rfl e99 rfl (by kernel_rfl) hC (TSp.of rfl (Grows.refl _)) (fun hq => by simp [go_sem, (e100.trans (gw_t (beq_t hq))), e99, Kx.cell, Ky.cell, Kz.cell, K1.cell]; try first | exact ⟨rfl, rfl⟩ | rfl) (by rfl)
        case oD42 =>
          intro ev wo hev hC hs hph
          have e1 := see_env hA86 hs 1 (by kernel_rfl) (by kernel_rfl) rfl
          have e99 := see_det hs 99 39 (by kernel_rfl) (by kernel_rfl) rfl
          exact ob_gv _ rfl rfl e99 rfl (by kernel_rfl) hC (TSp.of rfl (Grows.refl _)) (fun hq => by simp [go_sem, e1, e99]; try first | exact ⟨rfl, rfl⟩ | rfl) (by rfl)
        case oD43 =>
          intro ev wo hev hC hs hph
          have e102 := see_det hs 102 42 (by kernel_rfl) (by kernel_rfl) rfl
          have e99 := see_det hs 99 39 (by kernel_rfl) (by kernel_rfl) rfl
          have Kx := K1.below hC K1.lt
          have Ky := K3.below hC K3.lt
          have Kz := K8.below hC K8.lt
          have v0 := conv_reads (c := cr) rfl (hR.below hC)
          have v1 := conv_reads (c := cf) rfl (hF.below hC)
          rw [hS1] at v0
          rw [hS2] at v1
          exact ob_gv _ rfl rfl e99 rfl (by kernel_rfl) hC (TSp.of rfl (Grows.refl _)) (fun hq => by simp [go_sem, (e102.trans (gw_t (beq_t hq))), e99, Kx.cell, Ky.cell, Kz.cell, K1.cell]; try first | exact ⟨rfl, rfl⟩ | rfl) (by rfl)
        case oD44 =>
          intro ev wo hev hC hs hph
          have e101 := see_det hs 101 41 (by kernel_rfl) (by kernel_rfl) rfl
          have e103 := see_det hs 103 43 (by kernel_rfl) (by kernel_rfl) rfl
          have e99 := see_det hs 99 39 (by kernel_rfl) (by kernel_rfl) rfl
          exact ob_gv _ rfl rfl e99 rfl (by kernel_rfl) hC (TSp.of rfl (Grows.refl _)) (fun hq => by simp [go_sem, (e101.trans (gw_t (beq_t hq))), (e103.trans (gw_t (beq_t hq))), e99]; try first | exact ⟨rfl, rfl⟩ | rfl) (by rfl)
        case oD45 =>
          intro ev wo hev hC hs hph
          have e99 := see_det hs 99 39 (by kernel_rfl) (by kernel_rfl) rfl
          have e104 := see_det hs 104 44 (by kernel_rfl) (by kernel_rfl) rfl
          exact ob_det (wanted_none rfl) rfl (by kernel_rfl) hC (TSp.of rfl (Grows.refl _)) (by first | (refine (pick_and ?_ (e99) (e104) (hev.const _)); rfl) | (rw [pick_and _ (e99) (e104) (hev.const _)]; rfl) | (refine (pick_or ?_ (e99) (e104) (hev.const _)); rfl) | (rw [pick_or _ (e99) (e104) (hev.const _)]; rfl) | (simp [go_sem, e99, e104, hev.const]; try first | exact ⟨rfl, rfl⟩ | rfl))
        case oD46 =>
          intro ev wo hev hC hs hph
          have e105 := see_det hs 105 45 (by kernel_rfl) (by kernel_rfl) rfl
          exact ob_det (wanted_none rfl) rfl (by kernel_rfl) hC (TSp.of rfl (Grows.refl _)) (by simp [go_sem, e105]; try first | exact ⟨rfl, rfl⟩ | rfl)
        case oD47 =>
          intro ev wo hev hC hs hph
          have e8 := see_env hA86 hs 8 (by kernel_rfl) (by kernel_rfl) rfl
          have e106 := see_det hs 106 46 (by kernel_rfl) (by kernel_rfl) rfl
          exact ob_gv _ rfl rfl e106 rfl (by kernel_rfl) hC (TSp.of rfl (Grows.refl _)) (fun hq => by simp [go_sem, e8, e106]; try first | exact ⟨rfl, rfl⟩ | rfl) (by rfl)
        case oD48 =>
          intro ev wo hev hC hs hph
          have e107 := see_det hs 107 47 (by kernel_rfl) (by kernel_rfl) rfl
          have e106 := see_det hs 106 46 (by kernel_rfl) (by kernel_rfl) rfl
          have Kx := K1.below hC K1.lt
          have Ky := K3.below hC K3.lt
          have Kz := K8.below hC K8.lt
          have v0 := conv_reads (c := cr) rfl (hR.below hC)
          have v1 := conv_reads (c := cf) rfl (hF.below hC)
          rw [hS1] at v0
          rw [hS2] at v1
          exact ob_gv _ rfl rfl e106 rfl (by kernel_rfl) hC (TSp.of rfl (Grows.refl _)) (fun hq => by simp [go_sem, (e107.trans (gw_t (beq_t hq))), e106, Kx.cell, Ky.cell, Kz.cell, K1.cell]; try first | exact ⟨rfl, rfl⟩ | rfl) (by rfl)
        case oD49 =>
          intro ev wo hev hC hs hph
          have e1 := see_env hA86 hs 1 (by kernel_rfl) (by kernel_rfl) rfl
          have e106 := see_det hs 106 46 (by kernel_rfl) (by kernel_rfl) rfl
          exact ob_gv _ rfl rfl e106 rfl (by kernel_rfl) hC (TSp.of rfl (Grows.refl _)) (fun hq => by simp [go_sem, e1, e106]; try first | exact ⟨rfl, rfl⟩ | rfl) (by rfl)
        case oD50 =>
          intro ev wo hev hC hs hph
          have e109 := see_det hs 109 49 (by kernel_rfl) (by kernel_rfl) rfl
          have e106 := see_det hs 106 46 (by kernel_rfl) (by kernel_rfl) rfl
          have Kx := K1.below hC K1.lt
          have Ky := K3.below hC K3.lt
          have Kz := K8.below hC K8.lt
          have v0 := conv_reads (c := cr) rfl (hR.below hC)
          have v1 := conv_reads (c := cf) rfl (hF.below hC)
          rw [hS1] at v0
          rw [hS2] at v1
          exact ob_gv _ rfl rfl e106 rfl (by kernel_rfl) hC (TSp.of rfl (Grows.refl _)) (fun hq => by simp [go_sem, (e109.trans (gw_t (beq_t hq))), e106, Kx.cell, Ky.cell, Kz.cell, K1.cell]; try first | exact ⟨rfl, rfl⟩ | rfl) (by rfl)
        case oD51 =>
          intro ev wo hev hC hs hph
          have e108 := see_det hs 108 48 (by kernel_rfl) (by kernel_rfl) rfl
          have e110 := see_det hs 110 50 (by kernel_rfl) (by kernel_rfl) rfl
          have e106 := see_det hs 106 46 (by kernel_rfl) (by kernel_rfl) rfl
          exact ob_gv _ rfl rfl e106 rfl (by kernel_rfl) hC (TSp.of rfl (Grows.refl _)) (fun hq => by simp [go_sem, (e108.trans (gw_t (beq_t hq))), (e110.trans (gw_t (beq_t hq))), e106]; try first | exact ⟨rfl, rfl⟩ | rfl) (by rfl)
        case oD52 =>
          intro ev wo hev hC hs hph
          have e106 := see_det hs 106 46 (by kernel_rfl) (by kernel_rfl) rfl
          have e111 := see_det hs 111 51 (by kernel_rfl) (by kernel_rfl) rfl
          exact ob_det (wanted_none rfl) rfl (by kernel_rfl) hC (TSp.of rfl (Grows.refl _)) (by first | (refine (pick_and ?_ (e106) (e111) (hev.const _)); rfl) | (rw [pick_and _ (e106) (e111) (hev.const _)]; rfl) | (refine (pick_or ?_ (e106) (e111) (hev.const _)); rfl) | (rw [pick_or _ (e106) (e111) (hev.const _)]; rfl) | (simp [go_sem, e106, e111, hev.const]; try first | exact ⟨rfl, rfl⟩ | rfl))
        case oD53 =>
          intro ev wo hev hC hs hph
          have e112 := see_det hs 112 52 (by kernel_rfl) (by kernel_rfl) rfl
          exact ob_det (wanted_none rfl) rfl (by kernel_rfl) hC (TSp.of rfl (Grows.refl _)) (by simp [go_sem, e112]; try first | exact ⟨rfl, rfl⟩ | rfl)
        case oD54 =>
          intro ev wo hev hC hs hph
          have e8 := see_env hA86 hs 8 (by kernel_rfl) (by kernel_rfl) rfl
          have e113 := see_det hs 113 53 (by kernel_rfl) (by kernel_rfl) rfl
          exact ob_gv _ rfl rfl e113 rfl (by kernel_rfl) hC (TSp.of rfl (Grows.refl _)) (fun hq => by simp [go_sem, e8, e113]; try first | exact ⟨rfl, rfl⟩ | rfl) (by rfl)
        case oD55 =>
          intro ev wo hev hC hs hph
          have e114 := see_det hs 114 54 (by kernel_rfl) (by kernel_rfl) rfl
          have e113 := see_det hs 113 53 (by kernel_rfl) (by kernel_rfl) rfl
          have Kx := K1.below hC K1.lt
          have Ky := K3.below hC K3.lt
          have Kz := K8.below hC K8.lt
          have v0 := conv_reads (c := cr) rfl (hR.below hC)
          have v1 := conv_reads (c := cf) rfl (hF.below hC)
          rw [hS1] at v0
          rw [hS2] at v1
          exact ob_gv _ rfl rfl e113 rfl (by kernel_rfl) hC (TSp.of rfl (Grows.refl _)) (fun hq => by simp [go_sem, (e114.trans (gw_t (beq_t hq))), e113, Kx.cell, Ky.cell, Kz.cell, K1.cell]; try first | exact ⟨rfl, rfl⟩ | rfl) (by rfl)
        case oD56 =>
          intro ev wo hev hC hs hph
          have e1 := see_env hA86 hs 1 (by kernel_rfl) (by kernel_rfl) rfl
          have e113 := see_det hs 113 53 (by kernel_rfl) (by kernel_rfl) rfl
          exact ob_gv _ rfl rfl e113 rfl (by kernel_rfl) hC (TSp.of rfl (Grows.refl _)) (fun hq => by simp [go_sem, e1, e113]; try first | exact ⟨rfl, rfl⟩ | rfl) (by rfl)
        case oD57 =>
          intro ev wo hev hC hs hph
          have e116 := see_det hs 116 56 (by kernel_rfl) (by kernel_rfl) rfl
          have e113 := see_det hs 113 53 (by kernel_rfl) (by kernel_rfl) rfl
          have Kx := K1.below hC K1.lt
          have Ky := K3.below hC K3.lt
          have Kz := K8.below hC K8.lt
          have v0 := conv_reads (c := cr) rfl (hR.below hC)
          have v1 := conv_reads (c := cf) rfl (hF.below hC)
          rw [hS1] at v0
          rw [hS2] at v1
          exact ob_gv _ rfl rfl e113 rfl (by kernel_rfl) hC (TSp.of rfl (Grows.refl _)) (fun hq => by simp [go_sem, (e116.trans (gw_t (beq_t hq))), e113, Kx.cell, Ky.cell, Kz.cell, K1.cell]; try first | exact ⟨rfl, rfl⟩ | rfl) (by rfl)
        case oD58 =>
          intro ev wo hev hC hs hph
          have e115 := see_det hs 115 55 (by kernel_rfl) (by kernel_rfl) rfl
          have e117 := see_det hs 117 57 (by kernel_rfl) (by kernel_rfl) rfl
          have e113 := see_det hs 113 53 (by kernel_rfl) (by kernel_rfl) rfl
          have Kx := K1.below hC K1.lt
          have Ky := K3.below hC K3.lt
          have Kz := K8.below hC K8.lt
          have v0 := conv_reads (c := cr) rfl (hR.below hC)
          have v1 := conv_reads (c := cf) rfl (hF.below hC)
          rw [hS1] at v0
          rw [hS2] at v1
          exact ob_gcall _ rfl rfl e113 rfl (by kernel_rfl) (by rfl) (fun hq => exec_call Tryz.func17 (by kernel_rfl) rfl (hev.func _) (by first | (simp only [List.map_toArray, List.map_cons, List.map_nil, (e115.trans (gw_t (beq_t hq))), (e117.trans (gw_t (beq_t hq))), e113, hev.const]; done) | (simp only [List.map_toArray, List.map_cons, List.map_nil, (e115.trans (gw_t (beq_t hq))), (e117.trans (gw_t (beq_t hq))), e113, hev.const]; rfl) | (simp [List.map_toArray, List.map_cons, List.map_nil, (e115.trans (gw_t (beq_t hq))), (e117.trans (gw_t (beq_t hq))), e113, hev.const]; done) | (simp [List.map_toArray, List.map_cons, List.map_nil, (e115.trans (gw_t (beq_t hq))), (e117.trans (gw_t (beq_t hq))), e113, hev.const]; rfl) | rfl)) (fun hq => (refSame_any ⟨m.uid, m.date, m.flags, a2, c2, m.b⟩ m wo ((hrd.below hC).more hC.size) ((hrm.below hC).more hC.size)).mono fun e' w' h => ⟨by rw [h.1, same_self], h.2⟩) (fun w3 hb3 => ⟨hC.trans (hb3.mono hC.size), TSp.of rfl hb3⟩)
        case oD59 =>
          intro ev wo hev hC hs hph
          have e113 := see_det hs 113 53 (by kernel_rfl) (by kernel_rfl) rfl
          have e118 := see_det hs 118 58 (by kernel_rfl) (by kernel_rfl) rfl
          exact ob_det (wanted_none rfl) rfl (by kernel_rfl) hC (TSp.of rfl (Grows.refl _)) (by first | (refine (pick_and ?_ (e113) (e118) (hev.const _)); rfl) | (rw [pick_and _ (e113) (e118) (hev.const _)]; rfl) | (refine (pick_or ?_ (e113) (e118) (hev.const _)); rfl) | (rw [pick_or _ (e113) (e118) (hev.const _)]; rfl) | (simp [go_sem, e113, e118, hev.const]; try first | exact ⟨rfl, rfl⟩ | rfl))
        case oD60 =>
          intro ev wo hev hC hs hph
          have e119 := see_det hs 119 59 (by kernel_rfl) (by kernel_rfl) rfl
          exact ob_det (wanted_none rfl) rfl (by kernel_rfl) hC (TSp.of rfl (Grows.refl _)) (by simp [go_sem, e119]; try first | exact ⟨rfl, rfl⟩ | rfl)
        intro sg wf hC hph
        intro x74 hx74
        intro x84 hx84
        intro a87 hA87
        refine n_then ?_
        have hA88 := hA87.keep [2]
        simp only [argsE, keepE, lookS, Nat.reduceBEq, cond_true, cond_false, Nat.reduceAdd, gv_tt, gv_ff, Bool.true_and, Bool.false_and, Bool.true_or, Bool.false_or] at hA88
        clear hA86 hA87 a85
        refine wp_ret ?_
        refine ret_1 hA88 2 rfl rfl ?_
        exact ⟨ret_bool (by first | rfl | simp), HB.trans (hC.mono HB.size)⟩
end Go.Proofs.YtmjikfeaopmejaaGreatDoor
/-
  Arguments, opened by their types: numbers, texts, structs of one-cell fields, slices of what reads.
-/
namespace Go.Proofs.YtmjikfeaopmejaaGreatDoor
open Go.ChangeShapes Go.WideShapes Go.Deep Go.RowKit
theorem cell_lt' {w : World} {a : Addr} {v : Value} (h : w.cell? a = some v) : a.block < w.heap.size := by
  rcases Nat.lt_or_ge a.block w.heap.size with hlt | hge
  · exact hlt
  · unfold World.cell? at h
    simp [Array.getElem?_eq_none hge] at h
/-- cells that read at a type -/
def Fits {H : Type} (enc : TypeId × Value → H) (P : Program) (w : World) (t : TypeId) (cs : List Value) : Prop := ∃ base spare held fuel x, DataW.trod enc P w base spare held fuel t cs = some x
section
variable {H : Type} {enc : TypeId × Value → H} {P : Program} {w : World} {t e : TypeId} {cs : List Value}
theorem fits_int {k : IntKind} (h : Fits enc P w t cs) (ht : P.underlying t = some (.int k)) : ∃ n, cs = [.int k n] ∧ (Lit.int k n).wf = true := by
  obtain ⟨_, _, _, _, _, h⟩ := h
  obtain ⟨n, e, _, hw⟩ := DataW.trod_int ht h
  exact ⟨n, e, hw⟩
theorem fits_string (h : Fits enc P w t cs) (ht : P.underlying t = some .string) : ∃ s : ByteArray, cs = [.string s] ∧ s.size ≤ maxLen := by
  obtain ⟨_, _, _, _, _, h⟩ := h
  obtain ⟨s, e, _, hw⟩ := DataW.trod_string ht h
  exact ⟨s, e, hw⟩
theorem fits_bool (h : Fits enc P w t cs) (ht : P.underlying t = some .bool) : ∃ b, cs = [.bool b] := by
  obtain ⟨_, _, _, _, _, h⟩ := h
  obtain ⟨s, e, _⟩ := DataW.trod_bool ht h
  exact ⟨s, e⟩
theorem fits_fields {fs : Array Field} (h : Fits enc P w t cs) (ht : P.underlying t = some (.struct fs)) (hone : oneCellFields P fs = true) (hC : P.cellsOf t = fs.size) : cs.length = fs.size ∧ ∀ (j : Nat) (f : Field) (c : Value), fs[j]? = some f → cs[j]? = some c → Fits enc P w f.type [c] := by
  obtain ⟨base, spare, held, fuel, x, h⟩ := h
  obtain ⟨ys, n, _, _, hl, hyl, hat⟩ := DataW.trod_struct ht h
  refine ⟨by rw [hl, hC], fun j f c hf hc => ?_⟩
  obtain ⟨ho, hk⟩ := hone_of hone j f hf
  have h1 := hat j f hf
  have hj := (Array.getElem?_eq_some_iff.1 hf).1
  rw [ho, hk] at h1
  have hd1 : (List.drop j cs).take 1 = [c] := by
    have hjl := (List.getElem?_eq_some_iff.1 hc).1
    rw [List.drop_eq_getElem_cons hjl, (List.getElem?_eq_some_iff.1 hc).2]
    rfl
  rw [hd1, List.getElem?_eq_getElem (by omega)] at h1
  exact ⟨base, spare, held, n, _, h1⟩
theorem rows_at (k : Nat) : ∀ (L : List (List Value)) (i j : Nat) (x : List Value), (∀ x ∈ L, x.length = k) → L[i]? = some x → j < k → L.flatten[i * k + j]? = x[j]?
  | y :: r, 0, j, x, hL, h, hj => by
    have e : y = x := by simpa using h
    subst e
    have := hL y List.mem_cons_self
    rw [List.flatten_cons, Nat.zero_mul, Nat.zero_add, List.getElem?_append_left (by omega)]
  | y :: r, i + 1, j, x, hL, h, hj => by
    have ih := rows_at k r i j x (fun z hz => hL z (List.mem_cons_of_mem _ hz)) (by simpa using h) hj
    have := hL y List.mem_cons_self
    have hm : k ≤ (i + 1) * k + j := by rw [Nat.succ_mul]; omega
    rw [List.flatten_cons, List.getElem?_append_right (by omega)]
    have e : (i + 1) * k + j - y.length = i * k + j := by rw [Nat.succ_mul]; omega
    rw [e]; exact ih
theorem rows_len (k : Nat) : ∀ (L : List (List Value)), (∀ x ∈ L, x.length = k) → L.flatten.length = L.length * k
  | [], _ => by simp
  | y :: r, h => by
    have := rows_len k r fun z hz => h z (List.mem_cons_of_mem _ hz)
    rw [List.flatten_cons, List.length_append, this, h y List.mem_cons_self, List.length_cons, Nat.succ_mul]; omega
theorem fits_slice (h : Fits enc P w t cs) (ht : P.underlying t = some (.slice e)) (hk : 0 < P.cellsOf e) :
    ∃ (A : Option Addr) (n c : Nat) (L : List (List Value)), cs = [.slice A n c] ∧ n ≤ c ∧ c ≤ maxLen ∧ L.length = n ∧ (∀ x ∈ L, x.length = P.cellsOf e ∧ Fits enc P w e x) ∧ Reads w w.heap.size (P.cellsOf e) A n L.flatten := by
  obtain ⟨base, spare, held, fuel, x, hf⟩ := h
  rcases open_slice ht hf with ⟨hcs, _⟩ | ⟨a, len, cap, m, n0, D, Pl, hcs, _, hl, hm, hmm, hdx, hx⟩
  · exact ⟨none, 0, 0, [], hcs, Nat.le_refl _, Nat.zero_le _, rfl, fun x hx => (by cases hx), by simp, fun hn => absurd hn (by simp)⟩
  · have hml : len ≤ m := by rw [hmm]; split <;> omega
    have hall : ∀ n, n ≤ len → ∃ L : List (List Value), L.length = n ∧ (∀ x ∈ L, x.length = P.cellsOf e ∧ Fits enc P w e x) ∧ ∀ i x, L[i]? = some x → ∀ j u, x[j]? = some u → w.cell? (a.add (i * P.cellsOf e + j)) = some u := by
      intro n
      induction n with
      | zero => intro _; exact ⟨[], rfl, by simp, by simp⟩
      | succ n ih =>
        intro hnl
        obtain ⟨L, hl1, hl2, hl3⟩ := ih (by omega)
        obtain ⟨cs', hcc, htr⟩ := hx n (by omega)
        obtain ⟨_, hlen, hat⟩ := World.cells?_some hcc
        refine ⟨L ++ [cs'], by simp [hl1], ?_, ?_⟩
        · intro y hy
          rcases List.mem_append.1 hy with h | h
          · exact hl2 y h
          · rw [List.mem_singleton] at h
            subst h
            exact ⟨hlen, base, spare, held, n0, _, htr⟩
        · intro i y hi' j u hj
          rcases Nat.lt_or_ge i L.length with h | h
          · rw [List.getElem?_append_left h] at hi'; exact hl3 i y hi' j u hj
          · rw [List.getElem?_append_right h] at hi'
            have h0 : i - L.length = 0 := by
              rcases Nat.eq_zero_or_pos (i - L.length) with h' | h'
              · exact h'
              · rw [List.getElem?_eq_none (by simp; omega)] at hi'; cases hi'
            rw [h0] at hi'
            have hy : cs' = y := by simpa using hi'
            subst hy
            obtain rfl : i = n := by omega
            have hj2 : j < P.cellsOf e := by
              have := (List.getElem?_eq_some_iff.1 hj).1
              omega
            have := hat j hj2
            rw [hj, Go.Deep.add_add] at this
            exact this
    obtain ⟨L, hL1, hL2, hL3⟩ := hall len (Nat.le_refl _)
    refine ⟨some a, len, cap, L, hcs, hl, hm, hL1, hL2, ?_, fun hn => ⟨a, rfl, ?_, ?_⟩⟩
    · rw [rows_len _ L fun x hx => (hL2 x hx).1, hL1]
    · obtain ⟨x, hx0⟩ : ∃ x, L[0]? = some x := ⟨_, List.getElem?_eq_getElem (by omega)⟩
      have hxl := (hL2 x (List.mem_of_getElem? hx0)).1
      obtain ⟨u, hu⟩ : ∃ u, x[0]? = some u := ⟨_, List.getElem?_eq_getElem (by omega)⟩
      have := cell_lt' (hL3 0 x hx0 0 u hu)
      rwa [block_of_add] at this
    · intro j u hj
      have hjl := (List.getElem?_eq_some_iff.1 hj).1
      rw [rows_len _ L fun x hx => (hL2 x hx).1] at hjl
      have hq : j / P.cellsOf e < L.length := Nat.div_lt_of_lt_mul (by rw [Nat.mul_comm]; exact hjl)
      have he2 : j / P.cellsOf e * P.cellsOf e + j % P.cellsOf e = j := by rw [Nat.mul_comm]; exact Nat.div_add_mod j _
      have hp := rows_at (P.cellsOf e) L (j / P.cellsOf e) (j % P.cellsOf e) _ (fun x hx => (hL2 x hx).1) (List.getElem?_eq_getElem hq) (Nat.mod_lt _ hk)
      rw [he2, hj] at hp
      have := hL3 _ _ (List.getElem?_eq_getElem hq) _ u hp.symm
      rw [he2] at this
      exact this
theorem fits_top {base0 : Nat} {spare : Nat → Bool} {held : Bool} {v : Value} {d : DataW H} {ps : List MemPlace} (h : DataW.Trod enc P w base0 spare held t v d ps) : Fits enc P w t v.cells.toList := by
  obtain ⟨fuel, hf⟩ := h
  exact ⟨_, _, _, fuel, _, hf⟩
theorem fits_struct {base0 : Nat} {spare : Nat → Bool} {held : Bool} {r : Reach} {b0 : Nat} {fs : Array Field} {v : Value} {d : DataW H} {ps : List MemPlace} (hv : Value.okWide P w r b0 t v) (ht : P.underlying t = some (.struct fs)) (h : DataW.Trod enc P w base0 spare held t v d ps) : ∃ cs : Array Value, v = .agg cs ∧ Fits enc P w t cs.toList := by
  obtain ⟨cs, rfl, _⟩ := okWide_struct ht hv
  exact ⟨cs, rfl, fits_top h⟩
theorem fits_plain {base0 : Nat} {spare : Nat → Bool} {held : Bool} {v : Value} {d : DataW H} {ps : List MemPlace} (h : DataW.Trod enc P w base0 spare held t v d ps) (hc : v.cells = #[v]) : Fits enc P w t [v] := by
  have := fits_top h
  rwa [hc] at this
theorem choose_list {M : Type} {f : M → List Value} {Q : M → Prop} : ∀ {L : List (List Value)}, (∀ x ∈ L, ∃ m, x = f m ∧ Q m) → ∃ l : List M, L = l.map f ∧ ∀ m ∈ l, Q m
  | [], _ => ⟨[], rfl, by simp⟩
  | x :: r, h => by
    obtain ⟨m, rfl, hm⟩ := h x List.mem_cons_self
    obtain ⟨l, rfl, hl⟩ := choose_list (L := r) fun y hy => h y (List.mem_cons_of_mem _ hy)
    exact ⟨m :: l, rfl, fun y hy => by
      rcases List.mem_cons.1 hy with e | e
      · subst e; exact hm
      · exact hl y e⟩
/-- all arguments stay behind a call that writes below nothing -/
theorem args_stay (hl : laidOutB P = true) {W W' : World} {sp : Nat → Bool} : ∀ {ts : List TypeId} {vs : List Value} {ds : List (DataW H)} {ps : List MemPlace}, (ts.all fun t => P.readableRec t && decide (t < P.types.size)) = true →
    DataW.TrodAll enc P W 0 (fun _ => true) true ts vs ds ps → (∀ x ∈ ps, W.sameAt W' x) → (∀ x ∈ ps, sp x.block = true) → DataW.TrodAll enc P W' 0 sp true ts vs ds ps
  | [], [], [], _, _, h, _, _ => h
  | _ :: _, _ :: _, _ :: _, _, ha, ⟨p, q, h1, h2, e⟩, hsame, hs => by
    rw [List.all_cons, Bool.and_eq_true, Bool.and_eq_true, decide_eq_true_eq] at ha
    subst e
    exact ⟨p, q, WideElems.Trod_stays hl ha.1.1 ha.1.2 h1 (fun x hx => hsame x (List.mem_append_left _ hx)) (fun x hx => hs x (List.mem_append_left _ hx)),
      args_stay hl ha.2 h2 (fun x hx => hsame x (List.mem_append_right _ hx)) (fun x hx => hs x (List.mem_append_right _ hx)), rfl⟩
end
end Go.Proofs.YtmjikfeaopmejaaGreatDoor
/-
  Arguments, opened by their types, with a bound on their sizes.
-/
namespace Go.Proofs.YtmjikfeaopmejaaGreatDoor
open Go.ChangeShapes Go.WideShapes Go.Deep Go.RowKit
/-- cells that read at a type; no part is longer than R -/
def FitsZ {H : Type} (R : Nat) (enc : TypeId × Value → H) (P : Program) (w : World) (t : TypeId) (cs : List Value) : Prop := ∃ base spare held fuel d ps, DataW.trod enc P w base spare held fuel t cs = some (d, ps) ∧ ∀ k ∈ d.weights P t, k ≤ R
section
variable {H : Type} {enc : TypeId × Value → H} {P : Program} {w : World} {t e : TypeId} {cs : List Value} {R : Nat}
theorem FitsZ.fits (h : FitsZ R enc P w t cs) : Fits enc P w t cs := by
  obtain ⟨b, s, hd, f, d, ps, h, _⟩ := h
  exact ⟨b, s, hd, f, _, h⟩
theorem mem_weightsAll {e : TypeId} {dd : DataW H} {k : Nat} : ∀ {l : List (DataW H)}, dd ∈ l → k ∈ dd.weights P e → k ∈ DataW.weightsAll P e l
  | y :: r, h, hk => by
    unfold DataW.weightsAll
    rw [List.mem_append]
    rcases List.mem_cons.1 h with rfl | h
    · exact .inl hk
    · exact .inr (mem_weightsAll h hk)
theorem fitsZ_string (h : FitsZ R enc P w t cs) (ht : P.underlying t = some .string) : ∃ s : ByteArray, cs = [.string s] ∧ s.size ≤ maxLen ∧ s.size ≤ R := by
  obtain ⟨_, _, _, _, d, ps, h, hz⟩ := h
  obtain ⟨s, e, hx, hw⟩ := DataW.trod_string ht h
  refine ⟨s, e, hw, hz _ ?_⟩
  rw [(Prod.mk.inj hx).1]
  show s.size ∈ [s.data.toList.length]
  rw [List.mem_singleton, Array.length_toList]; rfl
theorem fitsZ_fields {fs : Array Field} (h : FitsZ R enc P w t cs) (ht : P.underlying t = some (.struct fs)) (hone : oneCellFields P fs = true) (hC : P.cellsOf t = fs.size) : cs.length = fs.size ∧ ∀ (j : Nat) (f : Field) (c : Value), fs[j]? = some f → cs[j]? = some c → FitsZ R enc P w f.type [c] := by
  obtain ⟨base, spare, held, fuel, d, ps, h, hz⟩ := h
  obtain ⟨ys, n, _, hx, hl, hyl, hat⟩ := DataW.trod_struct ht h
  refine ⟨by rw [hl, hC], fun j f c hf hc => ?_⟩
  obtain ⟨ho, hk⟩ := hone_of hone j f hf
  have h1 := hat j f hf
  have hj := (Array.getElem?_eq_some_iff.1 hf).1
  rw [ho, hk] at h1
  have hd1 : (List.drop j cs).take 1 = [c] := by
    have hjl := (List.getElem?_eq_some_iff.1 hc).1
    rw [List.drop_eq_getElem_cons hjl, (List.getElem?_eq_some_iff.1 hc).2]
    rfl
  have hy : ys[j]? = some (ys[j]'(by omega)) := List.getElem?_eq_getElem (by omega)
  rw [hd1, hy] at h1
  refine ⟨base, spare, held, n, _, _, h1, fun k hk => hz k ?_⟩
  rw [(Prod.mk.inj hx).1]
  unfold DataW.weights
  rw [ht]
  refine DataW.weights_mem_each (j := j) (t := f.type) (d := (ys[j]'(by omega)).1) ?_ ?_ k hk
  · rw [List.getElem?_map, Array.getElem?_toList, hf]; rfl
  · rw [List.getElem?_map, hy]; rfl
theorem fitsZ_slice (h : FitsZ R enc P w t cs) (ht : P.underlying t = some (.slice e)) (hk : 0 < P.cellsOf e) (heb : 1 ≤ P.bytesOf e) :
    ∃ (A : Option Addr) (n c : Nat) (L : List (List Value)), cs = [.slice A n c] ∧ n ≤ c ∧ c ≤ maxLen ∧ n ≤ R ∧ L.length = n ∧ (∀ x ∈ L, x.length = P.cellsOf e ∧ FitsZ R enc P w e x) ∧ Reads w w.heap.size (P.cellsOf e) A n L.flatten := by
  obtain ⟨base, spare, held, fuel, d, ps, hf, hz⟩ := h
  rcases open_slice ht hf with ⟨hcs, _⟩ | ⟨a, len, cap, m, n0, D, Pl, hcs, _, hl, hm, hmm, hdx, hx⟩
  · exact ⟨none, 0, 0, [], hcs, Nat.le_refl _, Nat.zero_le _, Nat.zero_le _, rfl, fun x hx => (by cases hx), by simp, fun hn => absurd hn (by simp)⟩
  · have hml : len ≤ m := by rw [hmm]; split <;> omega
    have hdw : d = .slice ((List.range len).map D) ((List.range (m - len)).map fun j => D (len + j)) := congrArg Prod.fst hdx
    have hall : ∀ n, n ≤ len → ∃ L : List (List Value), L.length = n ∧ (∀ x ∈ L, x.length = P.cellsOf e ∧ FitsZ R enc P w e x) ∧ ∀ i x, L[i]? = some x → ∀ j u, x[j]? = some u → w.cell? (a.add (i * P.cellsOf e + j)) = some u := by
      intro n
      induction n with
      | zero => intro _; exact ⟨[], rfl, by simp, by simp⟩
      | succ n ih =>
        intro hnl
        obtain ⟨L, hl1, hl2, hl3⟩ := ih (by omega)
        obtain ⟨cs', hcc, htr⟩ := hx n (by omega)
        obtain ⟨_, hlen, hat⟩ := World.cells?_some hcc
        refine ⟨L ++ [cs'], by simp [hl1], ?_, ?_⟩
        · intro y hy
          rcases List.mem_append.1 hy with h | h
          · exact hl2 y h
          · rw [List.mem_singleton] at h
            subst h
            refine ⟨hlen, base, spare, held, n0, _, _, htr, fun k hk' => hz k ?_⟩
            rw [hdw]
            unfold DataW.weights
            rw [ht]
            simp only [List.mem_cons, List.mem_append]
            exact .inr (.inl (mem_weightsAll (List.mem_map.2 ⟨n, List.mem_range.2 (by omega), rfl⟩) hk'))
        · intro i y hi' j u hj
          rcases Nat.lt_or_ge i L.length with h | h
          · rw [List.getElem?_append_left h] at hi'; exact hl3 i y hi' j u hj
          · rw [List.getElem?_append_right h] at hi'
            have h0 : i - L.length = 0 := by
              rcases Nat.eq_zero_or_pos (i - L.length) with h' | h'
              · exact h'
              · rw [List.getElem?_eq_none (by simp; omega)] at hi'; cases hi'
            rw [h0] at hi'
            have hy : cs' = y := by simpa using hi'
            subst hy
            obtain rfl : i = n := by omega
            have hj2 : j < P.cellsOf e := by
              have := (List.getElem?_eq_some_iff.1 hj).1
              omega
            have := hat j hj2
            rw [hj, Go.Deep.add_add] at this
            exact this
    obtain ⟨L, hL1, hL2, hL3⟩ := hall len (Nat.le_refl _)
    refine ⟨some a, len, cap, L, hcs, hl, hm, ?_, hL1, hL2, ?_, fun hn => ⟨a, rfl, ?_, ?_⟩⟩
    · have hq := hz ((len + (m - len)) * P.bytesOf e) (by rw [hdw]; simp [DataW.weights, ht])
      have e2 : (len + (m - len)) * 1 ≤ (len + (m - len)) * P.bytesOf e := Nat.mul_le_mul_left _ heb
      omega
    · rw [rows_len _ L fun x hx => (hL2 x hx).1, hL1]
    · obtain ⟨x, hx0⟩ : ∃ x, L[0]? = some x := ⟨_, List.getElem?_eq_getElem (by omega)⟩
      have hxl := (hL2 x (List.mem_of_getElem? hx0)).1
      obtain ⟨u, hu⟩ : ∃ u, x[0]? = some u := ⟨_, List.getElem?_eq_getElem (by omega)⟩
      have := cell_lt' (hL3 0 x hx0 0 u hu)
      rwa [block_of_add] at this
    · intro j u hj
      have hjl := (List.getElem?_eq_some_iff.1 hj).1
      rw [rows_len _ L fun x hx => (hL2 x hx).1] at hjl
      have hq : j / P.cellsOf e < L.length := Nat.div_lt_of_lt_mul (by rw [Nat.mul_comm]; exact hjl)
      have he2 : j / P.cellsOf e * P.cellsOf e + j % P.cellsOf e = j := by rw [Nat.mul_comm]; exact Nat.div_add_mod j _
      have hp := rows_at (P.cellsOf e) L (j / P.cellsOf e) (j % P.cellsOf e) _ (fun x hx => (hL2 x hx).1) (List.getElem?_eq_getElem hq) (Nat.mod_lt _ hk)
      rw [he2, hj] at hp
      have := hL3 _ _ (List.getElem?_eq_getElem hq) _ u hp.symm
      rw [he2] at this
      exact this
theorem sized_at {ts : List TypeId} {ds : List (DataW H)} (h : (DataW.weightsEach P ts ds).all (· ≤ reachBytes) = true) {j : Nat} {t : TypeId} {d : DataW H} (ht : ts[j]? = some t) (hd : ds[j]? = some d) : ∀ k ∈ d.weights P t, k ≤ 140737488355328 := by
  intro k hk
  have := List.all_eq_true.1 h _ (DataW.weights_mem_each ht hd k hk)
  have h2 : reachBytes < 2 ^ 47 := reachBytes_lt
  simp only [decide_eq_true_eq] at this
  omega
theorem fitsZ_top {base0 : Nat} {spare : Nat → Bool} {held : Bool} {v : Value} {d : DataW H} {ps : List MemPlace} (h : DataW.Trod enc P w base0 spare held t v d ps) (hz : ∀ k ∈ d.weights P t, k ≤ R) : FitsZ R enc P w t v.cells.toList := by
  obtain ⟨fuel, hf⟩ := h
  exact ⟨_, _, _, fuel, _, _, hf, hz⟩
theorem fitsZ_struct {base0 : Nat} {spare : Nat → Bool} {held : Bool} {r : Reach} {b0 : Nat} {fs : Array Field} {v : Value} {d : DataW H} {ps : List MemPlace} (hv : Value.okWide P w r b0 t v) (ht : P.underlying t = some (.struct fs)) (h : DataW.Trod enc P w base0 spare held t v d ps) (hz : ∀ k ∈ d.weights P t, k ≤ R) : ∃ cs : Array Value, v = .agg cs ∧ FitsZ R enc P w t cs.toList := by
  obtain ⟨cs, rfl, _⟩ := okWide_struct ht hv
  exact ⟨cs, rfl, fitsZ_top h hz⟩
theorem fitsZ_plain {base0 : Nat} {spare : Nat → Bool} {held : Bool} {v : Value} {d : DataW H} {ps : List MemPlace} (h : DataW.Trod enc P w base0 spare held t v d ps) (hc : v.cells = #[v]) (hz : ∀ k ∈ d.weights P t, k ≤ R) : FitsZ R enc P w t [v] := by
  have := fitsZ_top h hz
  rwa [hc] at this
end
end Go.Proofs.YtmjikfeaopmejaaGreatDoor
/-
  Arguments, opened: numbers, truths, bytes.
-/
namespace Go.Proofs.YtmjikfeaopmejaaGreatDoor
open Go.RowKit Go.ChangeShapes Go.WideShapes
theorem u32_range {n : Int} (h : (Lit.int .u32 n).wf = true) : ∃ k : Nat, n = (k : Nat) ∧ k < 4294967296 := by
  simp [Lit.wf, IntKind.min, IntKind.max, IntKind.signed, IntKind.bits] at h
  exact ⟨n.toNat, by omega, by omega⟩
theorem u8_range {n : Int} (h : (Lit.int .u8 n).wf = true) : ∃ k : UInt8, n = (k.toNat : Nat) := by
  simp [Lit.wf, IntKind.min, IntKind.max, IntKind.signed, IntKind.bits] at h
  refine ⟨UInt8.ofNat n.toNat, ?_⟩
  rw [UInt8.toNat_ofNat']
  omega
theorem i64_range {n : Int} (h : (Lit.int .i64 n).wf = true) : -9223372036854775808 ≤ n ∧ n ≤ 9223372036854775807 := by
  simp [Lit.wf, IntKind.min, IntKind.max, IntKind.signed, IntKind.bits] at h
  omega
theorem map_flat {M : Type} (f : M → List Value) (l : List M) : (l.map f).flatten = l.flatMap f := by
  induction l with
  | nil => rfl
  | cons x r ih => rw [List.map_cons, List.flatten_cons, List.flatMap_cons, ih]
theorem flat_one {M : Type} (f : M → Value) (l : List M) : (l.map fun x => [f x]).flatten = l.map f := by
  induction l with
  | nil => rfl
  | cons x r ih => rw [List.map_cons, List.flatten_cons, ih]; rfl
theorem list1 {α : Type} {x : List α} (h : x.length = 1) : ∃ a, x = [a] := by
  match x, h with
  | [a], _ => exact ⟨a, rfl⟩
theorem list4 {α : Type} {x : List α} (h : x.length = 4) : ∃ a b c d, x = [a, b, c, d] := by
  match x, h with
  | [a, b, c, d], _ => exact ⟨a, b, c, d, rfl⟩
theorem array4 {α : Type} {x : Array α} (h : x.toList.length = 4) : ∃ a b c d, x = #[a, b, c, d] := by
  obtain ⟨l⟩ := x
  obtain ⟨a, b, c, d, e⟩ := list4 (show l.length = 4 from h)
  exact ⟨a, b, c, d, by rw [e]⟩
section
variable {H : Type} {enc : TypeId × Value → H} {w : World} {R : Nat}
theorem open_bytesZ {c1 : Value} (h : FitsZ R enc Tryz.prog w 23 [c1]) : ∃ (A : Option Addr) (c : Nat) (l : List UInt8), c1 = .slice A l.length c ∧ l.length ≤ c ∧ c ≤ maxLen ∧ l.length ≤ R ∧ Reads w w.heap.size 1 A l.length (u8s l) := by
  have hk : Tryz.prog.cellsOf 5 = 1 := by kernel_rfl
  obtain ⟨A, n, c, L, hcs, hn, hc, hR, hl, hL, hr⟩ := fitsZ_slice h Tryz.underlying23 (by rw [hk]; omega) (Nat.le_of_ble_eq_true (by kernel_rfl))
  rw [hk] at hr
  obtain ⟨l, rfl, _⟩ := choose_list (f := fun b : UInt8 => [.int .u8 ((b.toNat : Nat) : Int)]) (Q := fun _ => True) fun x hx => by
    obtain ⟨hx1, hx2⟩ := hL x hx
    rw [hk] at hx1
    obtain ⟨a, rfl⟩ := list1 hx1
    obtain ⟨u, e0, hu⟩ := fits_int hx2.fits Tryz.underlying5
    obtain ⟨k, rfl⟩ := u8_range hu
    exact ⟨k, e0, trivial⟩
  rw [List.length_map] at hl
  rw [flat_one (fun b : UInt8 => .int .u8 ((b.toNat : Nat) : Int))] at hr
  subst hl
  simp only [List.cons.injEq, and_true] at hcs
  exact ⟨A, c, l, hcs, hn, hc, hR, hr⟩
theorem fitsZ_part {t : TypeId} {cs : List Value} {fs : Array Field} (h : FitsZ R enc Tryz.prog w t cs) (ht : Tryz.prog.underlying t = some (.struct fs)) : cs.length = Tryz.prog.cellsOf t ∧ ∀ (j : Nat) (f : Field), fs[j]? = some f → FitsZ R enc Tryz.prog w f.type ((cs.drop f.offset).take (Tryz.prog.cellsOf f.type)) := by
  obtain ⟨base, spare, held, fuel, d, ps, h, hz⟩ := h
  obtain ⟨ys, n, _, hx, hl, hyl, hat⟩ := DataW.trod_struct ht h
  refine ⟨hl, fun j f hf => ?_⟩
  have h1 := hat j f hf
  have hj := (Array.getElem?_eq_some_iff.1 hf).1
  have hy : ys[j]? = some (ys[j]'(by omega)) := List.getElem?_eq_getElem (by omega)
  rw [hy] at h1
  refine ⟨base, spare, held, n, _, _, h1, fun k hk => hz k ?_⟩
  rw [(Prod.mk.inj hx).1]
  unfold DataW.weights
  rw [ht]
  refine DataW.weights_mem_each (j := j) (t := f.type) (d := (ys[j]'(by omega)).1) ?_ ?_ k hk
  · rw [List.getElem?_map, Array.getElem?_toList, hf]; rfl
  · rw [List.getElem?_map, hy]; rfl
end
theorem tab_met {l : List (String × DataW Unit)} {W : World} (h : laidMetH Tryz.prog l W) (hl : l.filter (fun x => x.1 == "internal/strconv.uint64pow10") = [("internal/strconv.uint64pow10", Lib.tabData .u64 Lib.pow10Tab)]) :
    Lib.TabIs Tryz.prog W "internal/strconv.uint64pow10" .u64 Lib.pow10Tab := by
  have h1 := laidMetH.filter (fun x => x.1 == "internal/strconv.uint64pow10") h
  rw [hl, MakeChecks.laidMetH_plain _ _ _ (by kernel_rfl)] at h1
  exact Lib.tabIs_of_head (g := 2) (t := 194) (e := 88) (n := 20) (by kernel_rfl) (by kernel_rfl) Tryz.underlying194 Tryz.underlying88 (by kernel_rfl) (by kernel_rfl) h1
section
variable {H : Type} {enc : TypeId × Value → H} {W : World} {base0 b0 : Nat} {spare : Nat → Bool} {held : Bool} {r : Reach} {R : Nat}
set_option maxRecDepth 100000 in
theorem i64_arg {v : Value} {d : DataW H} {ps : List MemPlace} (hv : Value.okWide Tryz.prog W r b0 3 v) (h : DataW.Trod enc Tryz.prog W base0 spare held 3 v d ps) : ∃ k : Int, v = .int .i64 k ∧ -9223372036854775808 ≤ k ∧ k ≤ 9223372036854775807 := by
  obtain ⟨x0, rfl, _, _, h0⟩ := open_int Tryz.underlying3 hv h
  exact ⟨x0, rfl, i64_range h0⟩
set_option maxRecDepth 100000 in
theorem bytes_arg {v : Value} {d : DataW H} {ps : List MemPlace} (hv : Value.okWide Tryz.prog W r b0 23 v) (h : DataW.Trod enc Tryz.prog W base0 spare held 23 v d ps) (hz : ∀ k ∈ d.weights Tryz.prog 23, k ≤ R) :
    ∃ (A : Option Addr) (c : Nat) (l : List UInt8), v = .slice A l.length c ∧ l.length ≤ c ∧ c ≤ maxLen ∧ l.length ≤ R ∧ Reads W W.heap.size 1 A l.length (u8s l) := by
  obtain ⟨A, n, c, rfl⟩ := okWide_slice Tryz.underlying23 hv
  obtain ⟨A', c', l, e, b⟩ := open_bytesZ (fitsZ_plain h rfl hz)
  exact ⟨A', c', l, e, b⟩
set_option maxRecDepth 100000 in
theorem u32_arg {v : Value} {d : DataW H} {ps : List MemPlace} (hv : Value.okWide Tryz.prog W r b0 22 v) (h : DataW.Trod enc Tryz.prog W base0 spare held 22 v d ps) : ∃ k : Nat, v = .int .u32 (k : Nat) ∧ k < 4294967296 := by
  obtain ⟨x0, rfl, _, _, h0⟩ := open_int Tryz.underlying22 hv h
  obtain ⟨k, rfl, hk⟩ := u32_range h0
  exact ⟨k, rfl, hk⟩
set_option maxRecDepth 100000 in
theorem bool_arg {v : Value} {d : DataW H} {ps : List MemPlace} (hv : Value.okWide Tryz.prog W r b0 4 v) (h : DataW.Trod enc Tryz.prog W base0 spare held 4 v d ps) : ∃ b : Bool, v = .bool b := by
  obtain ⟨b, rfl, _⟩ := open_bool Tryz.underlying4 hv h
  exact ⟨b, rfl⟩
end
end Go.Proofs.YtmjikfeaopmejaaGreatDoor
/-
  Arguments, opened: messages, mailboxes, notes.
-/
namespace Go.Proofs.YtmjikfeaopmejaaGreatDoor
open Go.RowKit Go.ChangeShapes Go.WideShapes
theorem list7 {α : Type} {x : List α} (h : x.length = 7) : ∃ a b c d e f g, x = [a, b, c, d, e, f, g] := by
  match x, h with
  | [a, b, c, d, e, f, g], _ => exact ⟨a, b, c, d, e, f, g, rfl⟩
section
variable {H : Type} {enc : TypeId × Value → H} {w : World} {R : Nat}
/-- a message whose octets read -/
structure MsgOk (R : Nat) (w : World) (m : MsgV) : Prop where
  octs : Reads w w.heap.size 1 m.a m.b.length (u8s m.b)
  uid : m.uid < 4294967296
  cap : m.b.length ≤ m.c ∧ m.c ≤ 9223372036854775807
  size : m.b.length ≤ R
  date : -9223372036854775808 ≤ m.date ∧ m.date ≤ 9223372036854775807
  flags : -9223372036854775808 ≤ m.flags ∧ m.flags ≤ 9223372036854775807
set_option maxRecDepth 100000 in
theorem open_msgZ {x : List Value} (h : FitsZ R enc Tryz.prog w 25 x) : ∃ m : MsgV, x = msgC m ∧ MsgOk R w m := by
  obtain ⟨hx3, hx4⟩ := fitsZ_fields h Tryz.underlying25 (by kernel_rfl) (by kernel_rfl)
  obtain ⟨a0, a1, a2, a3, rfl⟩ := list4 hx3
  obtain ⟨u, e0, hu⟩ := fits_int (hx4 0 _ a0 rfl rfl).fits Tryz.underlying22
  obtain ⟨d, e1, hd⟩ := fits_int (hx4 1 _ a1 rfl rfl).fits Tryz.underlying2
  obtain ⟨f, e2, hf⟩ := fits_int (hx4 2 _ a2 rfl rfl).fits Tryz.underlying3
  obtain ⟨k, rfl, hk⟩ := u32_range hu
  obtain ⟨A, c, l, rfl, h1, h2, h3, h4⟩ := open_bytesZ (hx4 3 _ a3 rfl rfl)
  simp only [List.cons.injEq, and_true] at e0 e1 e2
  subst e0 e1 e2
  exact ⟨⟨k, d, f, A, c, l⟩, rfl, h4, hk, ⟨h1, by unfold maxLen at h2; exact h2⟩, h3, i64_range hd, i64_range hf⟩
set_option maxRecDepth 100000 in
theorem open_msgsZ {c1 : Value} (h : FitsZ R enc Tryz.prog w 48 [c1]) : ∃ (A : Option Addr) (c : Nat) (l : List MsgV), c1 = .slice A l.length c ∧ l.length ≤ c ∧ c ≤ maxLen ∧ l.length ≤ R ∧ Msgs w A l.length l ∧ ∀ m ∈ l, MsgOk R w m := by
  have hk : Tryz.prog.cellsOf 25 = 4 := by kernel_rfl
  obtain ⟨A, n, c, L, hcs, hn, hc, hR, hl, hL, hr⟩ := fitsZ_slice h Tryz.underlying48 (by rw [hk]; omega) (Nat.le_of_ble_eq_true (by kernel_rfl))
  rw [hk] at hr
  obtain ⟨l, rfl, hq⟩ := choose_list (f := msgC) (Q := MsgOk R w) fun x hx => open_msgZ (hL x hx).2
  rw [List.length_map] at hl
  rw [map_flat] at hr
  subst hl
  simp only [List.cons.injEq, and_true] at hcs
  exact ⟨A, c, l, hcs, hn, hc, hR, ⟨rfl, hr, fun m hm => (hq m hm).octs, fun m hm => (hq m hm).uid, fun m hm => (hq m hm).cap⟩, hq⟩
set_option maxRecDepth 100000 in
theorem open_boxZ {cs : Array Value} (h : FitsZ R enc Tryz.prog w 50 cs.toList) : ∃ (nm : ByteArray) (e nx : Nat) (A : Option Addr) (c : Nat) (l : List MsgV), cs = boxC nm e nx A l.length c ∧ nm.size ≤ maxLen ∧ nm.size ≤ R ∧ e < 4294967296 ∧ nx < 4294967296 ∧ l.length ≤ c ∧ c ≤ maxLen ∧ l.length ≤ R ∧ Msgs w A l.length l ∧ ∀ m ∈ l, MsgOk R w m := by
  obtain ⟨hx3, hx4⟩ := fitsZ_fields h Tryz.underlying50 (by kernel_rfl) (by kernel_rfl)
  obtain ⟨a0, a1, a2, a3, rfl⟩ := array4 (show cs.toList.length = 4 from hx3)
  obtain ⟨s, e0, hs, hsR⟩ := fitsZ_string (hx4 0 _ a0 rfl rfl) Tryz.underlying9
  obtain ⟨u1, e1, hu1⟩ := fits_int (hx4 1 _ a1 rfl rfl).fits Tryz.underlying22
  obtain ⟨u2, e2, hu2⟩ := fits_int (hx4 2 _ a2 rfl rfl).fits Tryz.underlying22
  obtain ⟨k1, rfl, hk1⟩ := u32_range hu1
  obtain ⟨k2, rfl, hk2⟩ := u32_range hu2
  obtain ⟨A, c, l, rfl, h1, h2, h3, h4, h5⟩ := open_msgsZ (hx4 3 _ a3 rfl rfl)
  simp only [List.cons.injEq, and_true] at e0 e1 e2
  subst e0 e1 e2
  exact ⟨s, k1, k2, A, c, l, rfl, hs, hsR, hk1, hk2, h1, h2, h3, h4, h5⟩
structure NoteOk (R : Nat) (w : World) (e : Nat) (nm : ByteArray) (m : MsgV) : Prop where
  ep : e < 4294967296
  name : nm.size ≤ maxLen
  msg : MsgOk R w m
set_option maxRecDepth 100000 in
theorem open_noteZ {x : List Value} (h : FitsZ R enc Tryz.prog w 27 x) : ∃ (k : Int) (e : Nat) (nm : ByteArray) (m : MsgV), x = (noteC k e nm m).toList ∧ NoteOk R w e nm m := by
  obtain ⟨hl, hx⟩ := fitsZ_part h Tryz.underlying27
  rw [show Tryz.prog.cellsOf 27 = 7 by kernel_rfl] at hl
  obtain ⟨a0, a1, a2, a3, a4, a5, a6, rfl⟩ := list7 hl
  have c0 : FitsZ R enc Tryz.prog w 3 [a0] := hx 0 _ rfl
  have c1 : FitsZ R enc Tryz.prog w 22 [a1] := hx 1 _ rfl
  have c2 : FitsZ R enc Tryz.prog w 9 [a2] := hx 2 _ rfl
  have h4 : Tryz.prog.cellsOf 25 = 4 := by kernel_rfl
  have c3 : FitsZ R enc Tryz.prog w 25 (List.take (Tryz.prog.cellsOf 25) (List.drop 3 [a0, a1, a2, a3, a4, a5, a6])) := hx 3 _ rfl
  rw [h4] at c3
  replace c3 : FitsZ R enc Tryz.prog w 25 [a3, a4, a5, a6] := c3
  obtain ⟨k, e0, _⟩ := fits_int c0.fits Tryz.underlying3
  obtain ⟨u, e1, hu⟩ := fits_int c1.fits Tryz.underlying22
  obtain ⟨s, e2, hs, _⟩ := fitsZ_string c2 Tryz.underlying9
  obtain ⟨m, e3, hm⟩ := open_msgZ c3
  obtain ⟨q, rfl, hq⟩ := u32_range hu
  simp only [List.cons.injEq, and_true] at e0 e1 e2
  subst e0 e1 e2
  refine ⟨k, q, s, m, ?_, hq, hs, hm⟩
  unfold noteC
  unfold msgC at e3
  simp only [List.cons.injEq, and_true] at e3
  obtain ⟨rfl, rfl, rfl, rfl⟩ := e3
  rfl
end
section
variable {H : Type} {enc : TypeId × Value → H} {W : World} {base0 b0 : Nat} {spare : Nat → Bool} {held : Bool} {r : Reach} {R : Nat}
set_option maxRecDepth 100000 in
theorem box_arg {v : Value} {d : DataW H} {ps : List MemPlace} (hv : Value.okWide Tryz.prog W r b0 50 v) (h : DataW.Trod enc Tryz.prog W base0 spare held 50 v d ps) (hz : ∀ k ∈ d.weights Tryz.prog 50, k ≤ R) :
    ∃ (nm : ByteArray) (e nx : Nat) (A : Option Addr) (c : Nat) (l : List MsgV), v = .agg (boxC nm e nx A l.length c) ∧ nm.size ≤ maxLen ∧ nm.size ≤ R ∧ e < 4294967296 ∧ nx < 4294967296 ∧ l.length ≤ c ∧ c ≤ maxLen ∧ l.length ≤ R ∧ Msgs W A l.length l ∧ ∀ m ∈ l, MsgOk R W m := by
  obtain ⟨cs, rfl, hf⟩ := fitsZ_struct hv Tryz.underlying50 h hz
  obtain ⟨nm, e, nx, A, c, l, rfl, b⟩ := open_boxZ hf
  exact ⟨nm, e, nx, A, c, l, rfl, b⟩
set_option maxRecDepth 100000 in
theorem msg_arg {v : Value} {d : DataW H} {ps : List MemPlace} (hv : Value.okWide Tryz.prog W r b0 25 v) (h : DataW.Trod enc Tryz.prog W base0 spare held 25 v d ps) (hz : ∀ k ∈ d.weights Tryz.prog 25, k ≤ R) :
    ∃ m : MsgV, v = .agg #[.int .u32 (m.uid : Nat), .int .i64 m.date, .int .i64 m.flags, .slice m.a m.b.length m.c] ∧ MsgOk R W m := by
  obtain ⟨cs, rfl, hf⟩ := fitsZ_struct hv Tryz.underlying25 h hz
  obtain ⟨m, e, hm⟩ := open_msgZ hf
  exact ⟨m, by congr 1; exact Array.ext' e, hm⟩
set_option maxRecDepth 100000 in
theorem note_arg {v : Value} {d : DataW H} {ps : List MemPlace} (hv : Value.okWide Tryz.prog W r b0 27 v) (h : DataW.Trod enc Tryz.prog W base0 spare held 27 v d ps) (hz : ∀ k ∈ d.weights Tryz.prog 27, k ≤ R) :
    ∃ (k : Int) (e : Nat) (nm : ByteArray) (m : MsgV), v = .agg (noteC k e nm m) ∧ NoteOk R W e nm m := by
  obtain ⟨cs, rfl, hf⟩ := fitsZ_struct hv Tryz.underlying27 h hz
  obtain ⟨k, e, nm, m, hx, hm⟩ := open_noteZ hf
  exact ⟨k, e, nm, m, by congr 1; exact Array.ext' hx, hm⟩
end
end Go.Proofs.YtmjikfeaopmejaaGreatDoor
/-
  Any note is formed, and has the payload, and the frame, that the document says, or not, and is decoded as the same: cubbylaw09.BodyWrites answers true, for every note.
-/
namespace Go.Proofs.YtmjikfeaopmejaaGreatDoor.BodyWrites
open Go.RowKit Go.ChangeShapes Go.WideShapes Go.ChangeAt
open Go.ChangeMaps (open_string shut_string)
set_option linter.unusedVariables false
theorem own : ownKnob Tryz.prog.godebug = none := by kernel_rfl
set_option maxRecDepth 100000 in
theorem contract (H : Type) (enc : TypeId × Value → H) (W : World) (base : Nat) (args : Array Value) (ds gs : List (DataW H)) (before : List MemPlace)
    (hval : ∀ (j : Nat) t v, Tryz.f3.params[j]? = some t → args[j]? = some v → Value.okWide Tryz.prog W .any base t v)
    (hW : DataW.Whole enc Tryz.prog Tryz.f3.params.toList Rows.bodyWritesSpec.vars false W args.toList ds gs before) (hz : (DataW.weightsEach Tryz.prog (Tryz.f3.params.toList ++ (OpenSpec.ofChange Rows.bodyWritesSpec).bare.plain.varTypes Tryz.prog) (ds ++ gs)).all (· ≤ reachBytes) = true) (hL : laidMetH Tryz.prog Rows.bodyWritesRow.laid W) (hsh : W.ShapedOpen Tryz.prog) :
    Calls Tryz.prog 3 args W fun e W' => ∃ v, e = .returned v ∧ Rows.bodyWritesSpec.post enc Tryz.prog Tryz.f3 false true false false W args v W' := by
  have hW' := hW
  obtain ⟨p, q, hA0, hV, rfl, hfz, hnd⟩ := hW
  have hA : DataW.TrodAll enc Tryz.prog W 0 (fun _ => true) true Tryz.f3.params.toList args.toList ds p := hA0
  rw [Tryz.params3] at hA hval
  have hAk := hA
  obtain ⟨v0, d0, rfl, rfl, g0⟩ := trodAll_one hA
  obtain ⟨rfl, rfl⟩ := trodVars_none hV
  obtain ⟨k, e, nm, m, rfl, hok⟩ := note_arg (hval 0 27 v0 rfl rfl) g0 (sized_at hz (j := 0) (t := 27) (by kernel_rfl) rfl)
  obtain ⟨mx, hm⟩ := Tryz.laysM146.s1_3 W hsh
  have ht : Lib.TabIs Tryz.prog W "internal/strconv.uint64pow10" .u64 Lib.pow10Tab := tab_met hL (by kernel_rfl)
  clear hA0
  refine (bodyWrites_law k e nm m W ⟨mx, hm⟩ (block_lt_of_cell hm) ht hok.name hok.ep hok.msg.uid hok.msg.octs).mono fun e W' ⟨he, hb⟩ => ?_
  subst he
  exact ⟨_, rfl, post_of_below (pv := []) hW' (fun _ _ _ => trodAll_mk1 (shut_bool Tryz.underlying4 _)) (fun sp hsp => args_stay (by kernel_rfl) (by kernel_rfl) hAk (fun x hx => hb.same (by simpa using hW'.lt x (List.mem_append_left _ hx))) (fun x hx => hsp x (List.mem_append_left _ hx))) (fun _ _ => rfl) rfl
    hb (ok_one (by kernel_rfl) rfl (okWide_bool_mk Tryz.underlying4 _))⟩
set_option maxRecDepth 100000 in
theorem reads (os : Os) {H : Type} (enc : TypeId × Value → H) : ∃ places, DataW.whole enc Tryz.prog ((World.laidAll Tryz.prog os Rows.bodyWritesRow.laid).forCall (fun _ _ => 0) ⟨#[], #[.agg #[.int .i64 0, .int .u32 0, .string ⟨#[]⟩, .int .u32 0, .int .i64 0, .int .i64 0, .slice none 0 0]], []⟩).memory Tryz.f3.params.toList Rows.bodyWritesSpec.vars false #[Value.agg #[.int .i64 0, .int .u32 0, .string ⟨#[]⟩, .int .u32 0, .int .i64 0, .int .i64 0, .slice none 0 0]].toList 8 = some ([.agg [.lit (.int .i64 0), .lit (.int .u32 0), .lit (.string []), .agg [.lit (.int .u32 0), .lit (.int .i64 0), .lit (.int .i64 0), .nil]]], [], places) :=
  ⟨[], by kernel_rfl⟩
set_option maxRecDepth 100000 in
theorem lifted (os : Os) (started : os.Started) (H : Type) (enc : TypeId × Value → H) (F : Stop.Interp) :
    ReturnsInHanded {} Tryz.checked os 3 .any ((OpenSpec.ofChange Rows.bodyWritesSpec).preRow enc Tryz.prog Tryz.f3 Rows.bodyWritesRow.domain false Rows.bodyWritesRow.laid) (((OpenSpec.ofChange Rows.bodyWritesSpec).at F).post enc Tryz.prog Tryz.f3 false true false false) := by
  obtain ⟨places, hx⟩ := reads os enc
  refine returnsInHanded_of_row (C := Tryz.checked) (s := OpenSpec.ofChange Rows.bodyWritesSpec) own started (by kernel_rfl) Tryz.func3
    (witness_row_shaped (enc := enc) (C := Tryz.checked) false (World.laidAll Tryz.prog os Rows.bodyWritesRow.laid) #[.agg #[.int .i64 0, .int .u32 0, .string ⟨#[]⟩, .int .u32 0, .int .i64 0, .int .i64 0, .slice none 0 0]] (World.laidAll_os _ _ _) (World.shaped_of_ZipB (by kernel_rfl) (by kernel_rfl)) (by kernel_rfl)
      (OpenSpec.preRow_of_cond 8 hx (by kernel_rfl) (fun k hk => by cases hk) (by kernel_rfl) (laidMet_laidAll _ (by kernel_rfl) (by kernel_rfl)))) ?_
  intro W base args ds gs before hval hW _ _ hz hL hsh _
  exact contract H enc W base args ds gs before hval hW hz hL hsh
theorem said : Rows.BodyWritesSaid :=
  OpenClaim.holds_of_cond 3 Tryz.f3 rfl rfl rfl rfl rfl rfl rfl ⟨rfl, rfl, rfl, rfl, rfl⟩ rfl rfl rfl rfl rfl (by kernel_rfl) Tryz.func3 (by kernel_rfl)
    (of_decide_eq_true (by kernel_rfl)) (by unfold Func.isWrapper; first | (rw [if_pos (by decide +kernel)]; kernel_rfl) | (rw [if_neg (by decide +kernel)]; exact ⟨rfl, rfl⟩))
    (fun os started H enc _ F => by rw [OpenClaim.pre_eq_preRow]; exact lifted os started H enc F)
theorem plain (f : FuncId) (fn : Func) (hf : Tryz.pinned.checked.prog.funcNamed "cubby/cubbylaw09.BodyWrites" = some f) (hfn : Tryz.pinned.checked.prog.funcs[f]? = some fn) :
    false = Tryz.pinned.checked.prog.looks [] ∧ ∀ (j : Nat) t, fn.params[j]? = some t → Tryz.pinned.checked.prog.wantsStandIn t = false := by
  obtain rfl : f = 3 := Option.some.inj ((show Tryz.prog.funcNamed "cubby/cubbylaw09.BodyWrites" = some 3 by kernel_rfl).symm.trans hf) |>.symm
  obtain rfl : fn = Tryz.f3 := (Option.some.inj (Tryz.func3.symm.trans hfn)).symm
  refine ⟨by kernel_rfl, fun j t ht => ?_⟩
  rw [Tryz.params3] at ht
  have hm : t ∈ [27] := by simpa using Array.mem_of_getElem? ht
  have hall : ([27].all fun u => !Tryz.prog.wantsStandIn u) = true := by kernel_rfl
  exact (show Tryz.prog.wantsStandIn t = false by simpa using List.all_eq_true.1 hall t hm)
theorem holds : Rows.BodyWritesCardSaid :=
  Claim7.holds_tied_plain_at .later [] _ _ _ _ said (fun _ h => by cases h) (by kernel_rfl) (fun _ h => by cases h) bodyWrites_row_tie rfl ⟨rfl, rfl⟩ (by kernel_rfl) rfl plain (by kernel_rfl)
#print axioms holds
end Go.Proofs.YtmjikfeaopmejaaGreatDoor.BodyWrites
