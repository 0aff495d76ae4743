/-
  Walk: a note's payload.
-/
import Derived.Test.YtmjikfeaopmejaaDoorNoteRef
import Derived.Test.YtmjikfeaopmejaaDoorBytes
namespace Go.Proofs.YtmjikfeaopmejaaDoor
open Go.RowKit
set_option linter.unusedSimpArgs false
set_option linter.unusedVariables false
def enc1 (k : Int) (m : MsgV) : List UInt8 := bif k == 1 then [] else be 4 m.uid
def enc2 (k : Int) (m : MsgV) : List UInt8 := bif k == 2 then be 6 m.date.toNat ++ be 1 m.flags.toNat else []
def enc3 (k : Int) (nm : ByteArray) : List UInt8 := bif k == 3 then [] else textB nm
/-- a note's octets -/
def encV (k : Int) (e : Nat) (nm : ByteArray) (m : MsgV) : List UInt8 := be 4 e ++ enc1 k m ++ enc2 k m ++ enc3 k nm ++ m.b
theorem textB_size (s : ByteArray) : (textB s).length = 2 + s.size := by unfold textB; simp [be_length]
theorem enc1_len (k : Int) (m : MsgV) : (enc1 k m).length ≤ 4 := by unfold enc1; cases k == 1 <;> simp [be_length]
theorem enc2_len (k : Int) (m : MsgV) : (enc2 k m).length ≤ 7 := by unfold enc2; cases k == 2 <;> simp [be_length]
theorem enc3_len (k : Int) (nm : ByteArray) : (enc3 k nm).length ≤ 2 + nm.size := by unfold enc3; cases k == 3 <;> simp [textB_size]
theorem bare_len {d f : Int} {n : Nat} (h : bareV d f n = true) : n = 0 := by
  unfold bareV at h
  simp only [Bool.and_eq_true, beq_iff_eq] at h
  omega
theorem full_parts {m : MsgV} (h : fullV m = true) : m.b.length ≤ 20000 ∧ 1 ≤ m.uid ∧ 0 ≤ m.date ∧ m.date ≤ 253402300799 ∧ 0 ≤ m.flags ∧ m.flags ≤ 31 := by
  unfold fullV fitsDF dateOk at h
  simp only [Bool.and_eq_true, decide_eq_true_eq] at h
  omega
theorem formed_parts {k : Int} {e : Nat} {nm : ByteArray} {m : MsgV} (h : formedV k e nm m = true) : 1 ≤ e ∧ nm.size ≤ 60 ∧ m.b.length ≤ 20000 ∧ (k = 1 ∨ k = 2 ∨ k = 3) ∧ ((k == 2) = true → 0 ≤ m.date ∧ m.date ≤ 253402300799 ∧ 0 ≤ m.flags ∧ m.flags ≤ 31) := by
  unfold formedV at h
  rw [Bool.and_eq_true, decide_eq_true_eq] at h
  obtain ⟨h0, h⟩ := h
  refine ⟨h0, ?_⟩
  cases h1 : k == 1 with
  | true =>
    have e1 : k = 1 := by simpa using h1
    rw [h1, cond_true, Bool.and_eq_true, Bool.and_eq_true] at h
    refine ⟨nameIs_size h.1.1, by rw [bare_len h.1.2]; omega, .inl e1, fun h2 => ?_⟩
    rw [e1] at h2
    cases h2
  | false =>
    rw [h1, cond_false] at h
    cases h2 : k == 2 with
    | true =>
      rw [h2, cond_true, Bool.and_eq_true] at h
      obtain ⟨p1, p2, p3⟩ := full_parts h.2
      exact ⟨nameIs_size h.1, p1, .inr (.inl (by simpa using h2)), fun _ => p3⟩
    | false =>
      rw [h2, cond_false] at h
      simp only [Bool.and_eq_true, beq_iff_eq] at h
      have hz : nm.size = 0 := by
        have := h.1.1.2
        rw [ByteArray.toList_eq] at this
        have h4 := congrArg List.length (List.isEmpty_iff.1 this)
        rw [Array.length_toList] at h4
        exact h4
      exact ⟨by omega, by rw [bare_len h.1.2]; omega, .inr (.inr h.1.1.1), fun e => by cases e⟩
set_option maxRecDepth 100000 in
set_option maxHeartbeats 2000000 in
theorem encode_any (k : Int) (e : Nat) (nm : ByteArray) (m : MsgV) (w : World) (hm : MaxCell w) (hg : 2 < w.heap.size) (htab : Lib.TabIs Tryd.prog w "internal/strconv.uint64pow10" .u64 Lib.pow10Tab) (hs : nm.size ≤ 9223372036854775807) (he : e < 4294967296) (hu : m.uid < 4294967296) (hr : Reads w w.heap.size 1 m.a m.b.length (u8s m.b)) :
    Calls Tryd.prog 8 #[.agg (noteC k e nm m)] w fun ev w' => ∃ r, ev = .returned (.tuple #[r, .int .i64 (bif formedV k e nm m then 0 else 1)]) ∧ Own8 w.heap.size w' r (bif formedV k e nm m then encV k e nm m else []) ∧ Below w.heap.size w w' := by
  have Ht := Lib.tabBelow_of_tabIs htab
  refine calls_at 44 Tryd.func8 rfl rfl (Nat.le_of_ble_eq_true rfl) ?_
  intro a hA
  simp only [argsE, keepE, lookS, Nat.reduceBEq, cond_true, cond_false, Nat.reduceAdd, gv_tt, gv_ff, Bool.true_and, Bool.false_and, Bool.true_or, Bool.false_or] at hA
  refine wp_seq ?_
  refine wp_region_lit ?_
  -- stop box slot 1
  refine wl_new hA rfl rfl (by decide) (fun ev h => by simp [go_sem, h.get 0 rfl]; try first | exact ⟨rfl, rfl⟩ | rfl) fun w1 a1 (K : Blk _ _ _ _) hz hb0 hA1 => ?_
  unfold noteC at K
  refine wl_op hA1 rfl rfl (by decide) (fun ev h => by simp [go_sem, h.c, K.cell]; try first | exact ⟨rfl, rfl⟩ | rfl) fun a2 hA2 => ?_
  refine wl_op hA2 rfl rfl (by decide) (fun ev h => by simp [go_sem, h.c, K.cell]; try first | exact ⟨rfl, rfl⟩ | rfl) fun a3 hA3 => ?_
  refine wl_nil ?_
  refine n_then ?_
  have hA4 := hA3.keep [1]
  simp only [argsE, keepE, lookS, Nat.reduceBEq, cond_true, cond_false, Nat.reduceAdd, gv_tt, gv_ff, Bool.true_and, Bool.false_and, Bool.true_or, Bool.false_or] at hA4
  clear hA hA1 hA2 hA3 a1 a2
  refine wp_seq ?_
  refine wp_seq ?_
  refine wp_region_lit ?_
  refine wl_op hA4 rfl rfl (by decide) (fun ev h => by simp [go_sem, h.get 1 rfl, K.cell]; try first | exact ⟨rfl, rfl⟩ | rfl) fun a5 hA5 => ?_
  -- stop call slot 6
  have HB := Below.refl w1.heap.size w1
  refine wl_call hA5 rfl rfl (by decide) (fun ev h => by simp [go_sem, h.get 5 rfl, K.cell, h.f]; try first | exact ⟨rfl, rfl⟩ | rfl) (formed_any k e nm m _ (hm.below hg hb0) (Nat.lt_of_lt_of_le hg hb0.size) (htab := Ht _ hb0) hs) ?_
  rintro e w2 ⟨rfl, hb⟩
  refine ⟨_, rfl, fun a6 hA6 => ?_⟩
  replace HB := HB.trans (hb.mono HB.size)
  refine wl_op hA6 rfl rfl (by decide) (fun ev h => by simp [go_sem, h.get 6 rfl, K.cell]; try first | exact ⟨rfl, rfl⟩ | rfl) fun a7 hA7 => ?_
  refine wl_nil ?_
  refine n_then ?_
  have hA8 := hA7.keep [1, 7]
  simp only [argsE, keepE, lookS, Nat.reduceBEq, cond_true, cond_false, Nat.reduceAdd, gv_tt, gv_ff, Bool.true_and, Bool.false_and, Bool.true_or, Bool.false_or] at hA8
  clear hA4 hA5 hA6 hA7 a3 a5 a6
  -- cond
  refine wp_if hA8 7 _ rfl (fun hv => ?yA) (fun hv => ?nA)
  case yA =>
    have hv : formedV k e nm m = false := by simpa using hv
    rw [hv, cond_false, cond_false]
    refine wp_seq ?_
    refine wp_region_lit ?_
    refine wl_op hA8 rfl rfl (by decide) (fun ev h => by simp [go_sem, h.c, K.cell]; try first | exact ⟨rfl, rfl⟩ | rfl) fun a9 hA9 => ?_
    refine wl_op hA9 rfl rfl (by decide) (fun ev h => by simp [go_sem, h.c, K.cell]; try first | exact ⟨rfl, rfl⟩ | rfl) fun a10 hA10 => ?_
    refine wl_nil ?_
    refine n_then ?_
    have hA11 := hA10.keep [2, 3]
    simp only [argsE, keepE, lookS, Nat.reduceBEq, cond_true, cond_false, Nat.reduceAdd, gv_tt, gv_ff, Bool.true_and, Bool.false_and, Bool.true_or, Bool.false_or] at hA11
    clear hA8 hA9 hA10 a9
    refine wp_ret ?_
    refine r_then ?_
    refine ret_2 hA11 2 3 rfl rfl rfl ?_
    exact ⟨_, rfl, Own8.nil _, hb0.trans (HB.mono hb0.size)⟩
  case nA =>
    have hv : formedV k e nm m = true := by simpa using hv
    rw [hv, cond_true, cond_true]
    obtain ⟨h1e, h60, h20, hk, hdf⟩ := formed_parts hv
    have l1 := enc1_len k m
    have l2 := enc2_len k m
    have l3 := enc3_len k nm
    refine wp_skip ?_
    refine n_then ?_
    refine wp_seq ?_
    refine wp_region_lit ?_
    -- stop alloc slot 4
    have hB2 := HB.size
    refine wl_new hA8 rfl rfl (by decide) (fun ev h => by simp [go_sem, K.cell]; try first | exact ⟨rfl, rfl⟩ | rfl) fun w3 a12 (Ko : Blk _ _ _ _) hz hb hA12 => ?_
    replace HB := HB.trans (hb.mono HB.size)
    obtain ⟨o, hoe⟩ : ∃ o, w2.heap.size = o := ⟨_, rfl⟩
    rw [hoe] at Ko hA12 hB2
    have hO : OutAt w3 w1.heap.size o [] false (.slice none 0 0) := ⟨hB2, Ko, World.ownsRow_nil _ _ _ _⟩
    have K0 := K.below HB K.lt
    have hwe : IntKind.i64.wrap (e : Int) = (e : Int) := IntWalk.i64_in _ (by omega)
    have hwu : IntKind.i64.wrap (m.uid : Int) = (m.uid : Int) := IntWalk.i64_in _ (by omega)
    refine wl_nil ?_
    refine n_then ?_
    have hA13 := hA12.keep [1, 4]
    simp only [argsE, keepE, lookS, Nat.reduceBEq, cond_true, cond_false, Nat.reduceAdd, gv_tt, gv_ff, Bool.true_and, Bool.false_and, Bool.true_or, Bool.false_or] at hA13
    clear hA8 hA12
    refine wp_seq ?_
    refine wp_region_lit ?_
    refine wl_op hA13 rfl rfl (by decide) (fun ev h => by simp [go_sem, h.get 1 rfl, K0.cell, hwe]; try first | exact ⟨rfl, rfl⟩ | rfl) fun a14 hA14 => ?_
    refine wl_op hA14 rfl rfl (by decide) (fun ev h => by simp [go_sem, h.get 8 rfl, K0.cell, hwe]; try first | exact ⟨rfl, rfl⟩ | rfl) fun a15 hA15 => ?_
    refine wl_op hA15 rfl rfl (by decide) (fun ev h => by simp [go_sem, h.get 9 rfl, K0.cell, hwe]; try first | exact ⟨rfl, rfl⟩ | rfl) fun a16 hA16 => ?_
    -- stop call slot 11
    refine wl_call hA16 rfl rfl (by decide) (fun ev h => by simp [go_sem, h.c, h.get 4 rfl, h.get 10 rfl, K0.cell, hwe, h.f]; try first | exact ⟨rfl, rfl⟩ | rfl) (out_N hO HB.size (by simp) e 4 (by omega) (show e < 256 ^ 4 from he)) ?_
    rintro e w4 ⟨rfl, ⟨v4, hO⟩, hob⟩
    refine ⟨_, rfl, fun a17 hA17 => ?_⟩
    replace HB := HB.trans (hob.toBelow HB.size (Nat.le_refl _) hB2)
    have K0 := K.below HB K.lt
    rw [List.nil_append] at hO
    refine wl_nil ?_
    refine n_then ?_
    have hA18 := hA17.keep [1, 4]
    simp only [argsE, keepE, lookS, Nat.reduceBEq, cond_true, cond_false, Nat.reduceAdd, gv_tt, gv_ff, Bool.true_and, Bool.false_and, Bool.true_or, Bool.false_or] at hA18
    clear hA13 hA14 hA15 hA16 hA17 a12 a14 a15 a16
    refine wp_seq ?_
    refine wp_seq ?_
    refine wp_region_lit ?_
    refine wl_op hA18 rfl rfl (by decide) (fun ev h => by simp [go_sem, h.get 1 rfl, K0.cell]; try first | exact ⟨rfl, rfl⟩ | rfl) fun a19 hA19 => ?_
    refine wl_op hA19 rfl rfl (by decide) (fun ev h => by simp [go_sem, h.get 12 rfl, K0.cell]; try first | exact ⟨rfl, rfl⟩ | rfl) fun a20 hA20 => ?_
    refine wl_op hA20 rfl rfl (by decide) (fun ev h => by simp [go_sem, h.c, h.get 13 rfl, K0.cell]; try first | exact ⟨rfl, rfl⟩ | rfl) fun a21 hA21 => ?_
    refine wl_nil ?_
    refine n_then ?_
    have hA22 := hA21.keep [1, 4, 14]
    simp only [argsE, keepE, lookS, Nat.reduceBEq, cond_true, cond_false, Nat.reduceAdd, gv_tt, gv_ff, Bool.true_and, Bool.false_and, Bool.true_or, Bool.false_or] at hA22
    clear hA18 hA19 hA20 hA21 a17 a19 a20
    -- cond
    refine wp_join (fun a wx => ∃ v, At 44 [(1, .pointer (some ⟨w.heap.size, 0, none⟩)), (4, .pointer (some ⟨o, 0, none⟩))] a ∧ OutAt wx w1.heap.size o (be 4 e ++ enc1 k m) false v ∧ Below w1.heap.size w1 wx) ?jfJ ?jrJ
    case jfJ =>
      refine wp_if hA22 14 _ rfl (fun hq => ?yD) (fun hq => ?nD)
      case yD =>
        have hq : (k == 1) = false := by simpa using hq
        refine wp_region_lit ?_
        refine wl_op hA22 rfl rfl (by decide) (fun ev h => by simp [go_sem, h.get 1 rfl, K0.cell, hwu]; try first | exact ⟨rfl, rfl⟩ | rfl) fun a23 hA23 => ?_
        refine wl_op hA23 rfl rfl (by decide) (fun ev h => by simp [go_sem, h.get 15 rfl, K0.cell, hwu]; try first | exact ⟨rfl, rfl⟩ | rfl) fun a24 hA24 => ?_
        refine wl_op hA24 rfl rfl (by decide) (fun ev h => by simp [go_sem, h.get 16 rfl, K0.cell, hwu]; try first | exact ⟨rfl, rfl⟩ | rfl) fun a25 hA25 => ?_
        refine wl_op hA25 rfl rfl (by decide) (fun ev h => by simp [go_sem, h.get 17 rfl, K0.cell, hwu]; try first | exact ⟨rfl, rfl⟩ | rfl) fun a26 hA26 => ?_
        -- stop call slot 19
        refine wl_call hA26 rfl rfl (by decide) (fun ev h => by simp [go_sem, h.c, h.get 4 rfl, h.get 18 rfl, K0.cell, hwu, h.f]; try first | exact ⟨rfl, rfl⟩ | rfl) (out_N hO HB.size (by simp [be_length]) m.uid 4 (by omega) (show m.uid < 256 ^ 4 from hu)) ?_
        rintro e w5 ⟨rfl, ⟨v5, hO⟩, hob⟩
        refine ⟨_, rfl, fun a27 hA27 => ?_⟩
        replace HB := HB.trans (hob.toBelow HB.size (Nat.le_refl _) hB2)
        refine wl_nil ?_
        refine n_then ?_
        have hA28 := hA27.keep [1, 4]
        simp only [argsE, keepE, lookS, Nat.reduceBEq, cond_true, cond_false, Nat.reduceAdd, gv_tt, gv_ff, Bool.true_and, Bool.false_and, Bool.true_or, Bool.false_or] at hA28
        clear hA22 hA23 hA24 hA25 hA26 hA27 a23 a24 a25 a26
        -- joined
        exact ⟨_, hA28, by unfold enc1; rw [hq, cond_false]; exact hO, HB⟩
      case nD =>
        have hq : (k == 1) = true := by simpa using hq
        refine wp_skip ?_
        refine n_then ?_
        have hA29 := hA22.keep [1, 4]
        simp only [argsE, keepE, lookS, Nat.reduceBEq, cond_true, cond_false, Nat.reduceAdd, gv_tt, gv_ff, Bool.true_and, Bool.false_and, Bool.true_or, Bool.false_or] at hA29
        clear hA22
        -- joined
        exact ⟨_, hA29, by unfold enc1; rw [hq, cond_true, List.append_nil]; exact hO, HB⟩
    clear hO HB K0
    rintro a wx ⟨v6, hA, hO, HB⟩
    have K0 := K.below HB K.lt
    refine wp_seq ?_
    refine wp_seq ?_
    refine wp_region_lit ?_
    refine wl_op hA rfl rfl (by decide) (fun ev h => by simp [go_sem, h.get 1 rfl, K0.cell]; try first | exact ⟨rfl, rfl⟩ | rfl) fun a30 hA30 => ?_
    refine wl_op hA30 rfl rfl (by decide) (fun ev h => by simp [go_sem, h.get 20 rfl, K0.cell]; try first | exact ⟨rfl, rfl⟩ | rfl) fun a31 hA31 => ?_
    refine wl_op hA31 rfl rfl (by decide) (fun ev h => by simp [go_sem, h.c, h.get 21 rfl, K0.cell]; try first | exact ⟨rfl, rfl⟩ | rfl) fun a32 hA32 => ?_
    refine wl_nil ?_
    refine n_then ?_
    have hA33 := hA32.keep [1, 4, 22]
    simp only [argsE, keepE, lookS, Nat.reduceBEq, cond_true, cond_false, Nat.reduceAdd, gv_tt, gv_ff, Bool.true_and, Bool.false_and, Bool.true_or, Bool.false_or] at hA33
    clear hA hA30 hA31 hA32 a30 a31
    -- cond
    refine wp_join (fun a wx => ∃ v, At 44 [(1, .pointer (some ⟨w.heap.size, 0, none⟩)), (4, .pointer (some ⟨o, 0, none⟩))] a ∧ OutAt wx w1.heap.size o (be 4 e ++ enc1 k m ++ enc2 k m) false v ∧ Below w1.heap.size w1 wx) ?jfL ?jrL
    case jfL =>
      refine wp_if hA33 22 _ rfl (fun hq => ?yD2) (fun hq => ?nD2)
      case yD2 =>
        obtain ⟨d0, d1, f0, f1⟩ := hdf hq
        obtain ⟨dt, hdt⟩ : ∃ dt : Nat, m.date = (dt : Int) := ⟨m.date.toNat, by omega⟩
        obtain ⟨ft, hft⟩ : ∃ ft : Nat, m.flags = (ft : Int) := ⟨m.flags.toNat, by omega⟩
        refine wp_seq ?_
        refine wp_region_lit ?_
        refine wl_op hA33 rfl rfl (by decide) (fun ev h => by simp [go_sem, h.get 1 rfl, K0.cell, hdt]; try first | exact ⟨rfl, rfl⟩ | rfl) fun a34 hA34 => ?_
        refine wl_op hA34 rfl rfl (by decide) (fun ev h => by simp [go_sem, h.get 23 rfl, K0.cell, hdt]; try first | exact ⟨rfl, rfl⟩ | rfl) fun a35 hA35 => ?_
        refine wl_op hA35 rfl rfl (by decide) (fun ev h => by simp [go_sem, h.get 24 rfl, K0.cell, hdt]; try first | exact ⟨rfl, rfl⟩ | rfl) fun a36 hA36 => ?_
        -- stop call slot 26
        refine wl_call hA36 rfl rfl (by decide) (fun ev h => by simp [go_sem, h.c, h.get 4 rfl, h.get 25 rfl, K0.cell, hdt, h.f]; try first | exact ⟨rfl, rfl⟩ | rfl) (out_N hO HB.size (by simp only [List.length_append, be_length]; omega) dt 6 (by omega) (show dt < 256 ^ 6 by omega)) ?_
        rintro e w7 ⟨rfl, ⟨v7, hO⟩, hob⟩
        refine ⟨_, rfl, fun a37 hA37 => ?_⟩
        replace HB := HB.trans (hob.toBelow HB.size (Nat.le_refl _) hB2)
        have K0 := K.below HB K.lt
        refine wl_nil ?_
        refine n_then ?_
        have hA38 := hA37.keep [1, 4]
        simp only [argsE, keepE, lookS, Nat.reduceBEq, cond_true, cond_false, Nat.reduceAdd, gv_tt, gv_ff, Bool.true_and, Bool.false_and, Bool.true_or, Bool.false_or] at hA38
        clear hA33 hA34 hA35 hA36 hA37 a34 a35 a36
        refine wp_region_lit ?_
        refine wl_op hA38 rfl rfl (by decide) (fun ev h => by simp [go_sem, h.get 1 rfl, K0.cell, hft]; try first | exact ⟨rfl, rfl⟩ | rfl) fun a39 hA39 => ?_
        refine wl_op hA39 rfl rfl (by decide) (fun ev h => by simp [go_sem, h.get 27 rfl, K0.cell, hft]; try first | exact ⟨rfl, rfl⟩ | rfl) fun a40 hA40 => ?_
        refine wl_op hA40 rfl rfl (by decide) (fun ev h => by simp [go_sem, h.get 28 rfl, K0.cell, hft]; try first | exact ⟨rfl, rfl⟩ | rfl) fun a41 hA41 => ?_
        -- stop call slot 30
        refine wl_call hA41 rfl rfl (by decide) (fun ev h => by simp [go_sem, h.c, h.get 4 rfl, h.get 29 rfl, K0.cell, hft, h.f]; try first | exact ⟨rfl, rfl⟩ | rfl) (out_N hO HB.size (by simp only [List.length_append, be_length]; omega) ft 1 (by omega) (show ft < 256 ^ 1 by omega)) ?_
        rintro e w8 ⟨rfl, ⟨v8, hO⟩, hob⟩
        refine ⟨_, rfl, fun a42 hA42 => ?_⟩
        replace HB := HB.trans (hob.toBelow HB.size (Nat.le_refl _) hB2)
        refine wl_nil ?_
        refine n_then ?_
        have hA43 := hA42.keep [1, 4]
        simp only [argsE, keepE, lookS, Nat.reduceBEq, cond_true, cond_false, Nat.reduceAdd, gv_tt, gv_ff, Bool.true_and, Bool.false_and, Bool.true_or, Bool.false_or] at hA43
        clear hA38 hA39 hA40 hA41 hA42 a37 a39 a40 a41
        -- joined
        exact ⟨_, hA43, by unfold enc2; rw [hq, cond_true, hdt, hft, Int.toNat_natCast, Int.toNat_natCast, ← List.append_assoc]; exact hO, HB⟩
      case nD2 =>
        refine wp_skip ?_
        refine n_then ?_
        have hA44 := hA33.keep [1, 4]
        simp only [argsE, keepE, lookS, Nat.reduceBEq, cond_true, cond_false, Nat.reduceAdd, gv_tt, gv_ff, Bool.true_and, Bool.false_and, Bool.true_or, Bool.false_or] at hA44
        clear hA33
        -- joined
        exact ⟨_, hA44, by unfold enc2; rw [hq, cond_false, List.append_nil]; exact hO, HB⟩
    clear hO HB K0
    rintro a wx ⟨v9, hA, hO, HB⟩
    have K0 := K.below HB K.lt
    refine wp_seq ?_
    refine wp_seq ?_
    refine wp_region_lit ?_
    refine wl_op hA rfl rfl (by decide) (fun ev h => by simp [go_sem, h.get 1 rfl, K0.cell]; try first | exact ⟨rfl, rfl⟩ | rfl) fun a45 hA45 => ?_
    refine wl_op hA45 rfl rfl (by decide) (fun ev h => by simp [go_sem, h.get 31 rfl, K0.cell]; try first | exact ⟨rfl, rfl⟩ | rfl) fun a46 hA46 => ?_
    refine wl_op hA46 rfl rfl (by decide) (fun ev h => by simp [go_sem, h.c, h.get 32 rfl, K0.cell]; try first | exact ⟨rfl, rfl⟩ | rfl) fun a47 hA47 => ?_
    refine wl_nil ?_
    refine n_then ?_
    have hA48 := hA47.keep [1, 4, 33]
    simp only [argsE, keepE, lookS, Nat.reduceBEq, cond_true, cond_false, Nat.reduceAdd, gv_tt, gv_ff, Bool.true_and, Bool.false_and, Bool.true_or, Bool.false_or] at hA48
    clear hA hA45 hA46 hA47 a45 a46
    -- cond
    refine wp_join (fun a wx => ∃ v, At 44 [(1, .pointer (some ⟨w.heap.size, 0, none⟩)), (4, .pointer (some ⟨o, 0, none⟩))] a ∧ OutAt wx w1.heap.size o (be 4 e ++ enc1 k m ++ enc2 k m ++ enc3 k nm) false v ∧ Below w1.heap.size w1 wx) ?jfM ?jrM
    case jfM =>
      refine wp_if hA48 33 _ rfl (fun hq => ?yD3) (fun hq => ?nD3)
      case yD3 =>
        have hq : (k == 3) = false := by simpa using hq
        refine wp_region_lit ?_
        refine wl_op hA48 rfl rfl (by decide) (fun ev h => by simp [go_sem, h.get 1 rfl, K0.cell]; try first | exact ⟨rfl, rfl⟩ | rfl) fun a49 hA49 => ?_
        refine wl_op hA49 rfl rfl (by decide) (fun ev h => by simp [go_sem, h.get 34 rfl, K0.cell]; try first | exact ⟨rfl, rfl⟩ | rfl) fun a50 hA50 => ?_
        -- stop call slot 36
        refine wl_call hA50 rfl rfl (by decide) (fun ev h => by simp [go_sem, h.get 4 rfl, h.get 35 rfl, K0.cell, h.f]; try first | exact ⟨rfl, rfl⟩ | rfl) (out_Text hO HB.size (by simp only [List.length_append, be_length]; omega) nm (by omega)) ?_
        rintro e w10 ⟨rfl, ⟨v10, hO⟩, hob⟩
        refine ⟨_, rfl, fun a51 hA51 => ?_⟩
        replace HB := HB.trans (hob.toBelow HB.size (Nat.le_refl _) hB2)
        refine wl_nil ?_
        refine n_then ?_
        have hA52 := hA51.keep [1, 4]
        simp only [argsE, keepE, lookS, Nat.reduceBEq, cond_true, cond_false, Nat.reduceAdd, gv_tt, gv_ff, Bool.true_and, Bool.false_and, Bool.true_or, Bool.false_or] at hA52
        clear hA48 hA49 hA50 hA51 a49 a50
        -- joined
        exact ⟨_, hA52, by unfold enc3; rw [hq, cond_false]; exact hO, HB⟩
      case nD3 =>
        have hq : (k == 3) = true := by simpa using hq
        refine wp_skip ?_
        refine n_then ?_
        have hA53 := hA48.keep [1, 4]
        simp only [argsE, keepE, lookS, Nat.reduceBEq, cond_true, cond_false, Nat.reduceAdd, gv_tt, gv_ff, Bool.true_and, Bool.false_and, Bool.true_or, Bool.false_or] at hA53
        clear hA48
        -- joined
        exact ⟨_, hA53, by unfold enc3; rw [hq, cond_true, List.append_nil]; exact hO, HB⟩
    clear hO HB K0
    rintro a wx ⟨v11, hA, hO, HB⟩
    have K0 := K.below HB K.lt
    have HW := hb0.trans (HB.mono hb0.size)
    refine wp_seq ?_
    refine wp_region_lit ?_
    refine wl_op hA rfl rfl (by decide) (fun ev h => by simp [go_sem, h.get 1 rfl, K0.cell]; try first | exact ⟨rfl, rfl⟩ | rfl) fun a54 hA54 => ?_
    refine wl_op hA54 rfl rfl (by decide) (fun ev h => by simp [go_sem, h.get 37 rfl, K0.cell]; try first | exact ⟨rfl, rfl⟩ | rfl) fun a55 hA55 => ?_
    refine wl_op hA55 rfl rfl (by decide) (fun ev h => by simp [go_sem, h.get 38 rfl, K0.cell]; try first | exact ⟨rfl, rfl⟩ | rfl) fun a56 hA56 => ?_
    -- stop call slot 40
    refine wl_call hA56 rfl rfl (by decide) (fun ev h => by simp [go_sem, h.get 4 rfl, h.get 39 rfl, K0.cell, h.f]; try first | exact ⟨rfl, rfl⟩ | rfl) (out_Raw hO HB.size (by simp only [List.length_append, be_length]; omega) m.a m.b.length m.c m.b rfl (by omega) ((hr.below HW).more HW.size)) ?_
    rintro e w12 ⟨rfl, ⟨v12, hO⟩, hob⟩
    refine ⟨_, rfl, fun a57 hA57 => ?_⟩
    replace HB := HB.trans (hob.toBelow HB.size (Nat.le_refl _) hB2)
    refine wl_nil ?_
    refine n_then ?_
    have hA58 := hA57.keep [4]
    simp only [argsE, keepE, lookS, Nat.reduceBEq, cond_true, cond_false, Nat.reduceAdd, gv_tt, gv_ff, Bool.true_and, Bool.false_and, Bool.true_or, Bool.false_or] at hA58
    clear hA hA54 hA55 hA56 hA57 a54 a55 a56
    refine wp_seq ?_
    refine wp_region_lit ?_
    -- stop call slot 41
    refine wl_call hA58 rfl rfl (by decide) (fun ev h => by simp [go_sem, h.get 4 rfl, h.f]; try first | exact ⟨rfl, rfl⟩ | rfl) (out_End hO (by simp only [List.length_append, be_length]; omega)) ?_
    rintro e w13 ⟨r, rfl, hown, hb⟩
    refine ⟨_, rfl, fun a59 hA59 => ?_⟩
    have HW := (hb0.trans (HB.mono hb0.size))
    refine wl_op hA59 rfl rfl (by decide) (fun ev h => by simp [go_sem, h.get 41 rfl]; try first | exact ⟨rfl, rfl⟩ | rfl) fun a60 hA60 => ?_
    refine wl_op hA60 rfl rfl (by decide) (fun ev h => by simp [go_sem, h.get 41 rfl]; try first | exact ⟨rfl, rfl⟩ | rfl) fun a61 hA61 => ?_
    refine wl_op hA61 rfl rfl (by decide) (fun ev h => by simp [go_sem, h.get 42 rfl]; try first | exact ⟨rfl, rfl⟩ | rfl) fun a62 hA62 => ?_
    refine wl_op hA62 rfl rfl (by decide) (fun ev h => by simp [go_sem, h.get 43 rfl]; try first | exact ⟨rfl, rfl⟩ | rfl) fun a63 hA63 => ?_
    refine wl_nil ?_
    refine n_then ?_
    have hA64 := hA63.keep [2, 3]
    simp only [argsE, keepE, lookS, Nat.reduceBEq, cond_true, cond_false, Nat.reduceAdd, gv_tt, gv_ff, Bool.true_and, Bool.false_and, Bool.true_or, Bool.false_or] at hA64
    clear hA58 hA59 hA60 hA61 hA62 hA63 a57 a59 a60 a61 a62
    refine wp_ret ?_
    -- ret
    refine ret_2 hA64 2 3 rfl rfl rfl ?_
    exact ⟨r, rfl, (Own8.of hown).mono HW.size, HW.trans (hb.mono HW.size)⟩
end Go.Proofs.YtmjikfeaopmejaaDoor
