/-
  Walk: a page's index.
-/
import Derived.Test.YtljclehhicmkhaaDoorIdxPut
namespace Go.Proofs.YtljclehhicmkhaaDoor
open Go.RowKit
set_option linter.unusedSimpArgs false
set_option linter.unusedVariables false
structure IdxM where
  nm : ByteArray
  e : Nat
  nx : Nat
  u : Nat
  l : List MarkM
def IdxM.right (x : IdxM) : Bool := rightIndexV x.nm x.e x.nx (x.u : Nat) x.l
def IdxM.bytes (x : IdxM) : List UInt8 := indexB x.nm x.e x.nx (x.u : Nat) x.l
def readIndex (p : List UInt8) : IdxM :=
  ⟨(inText ⟨p, false⟩).1, (inN (inText ⟨p, false⟩).2 4).1, (inN (inN (inText ⟨p, false⟩).2 4).2 4).1, (inN (inN (inN (inText ⟨p, false⟩).2 4).2 4).2 4).1,
    (inMarksL 4 (inN (inN (inN (inN (inText ⟨p, false⟩).2 4).2 4).2 4).2 2).1 (inN (inN (inN (inN (inText ⟨p, false⟩).2 4).2 4).2 4).2 2).2).1⟩
def getIndexV (b : List UInt8) : Option IdxM := match pageGet 1 b with
  | none => none
  | some p => if (readIndex p).right = true ∧ pageB 1 (readIndex p).bytes = b then some (readIndex p) else none
def idxOr (o : Option IdxM) : IdxM := o.getD ⟨⟨#[]⟩, 0, 0, 0, []⟩
def OwnE (B : Nat) (w : World) (v : Value) (l : List MarkM) : Prop := w.ownsRow B 53 2 v l.length (mcells l)
theorem entry_info : (Tryd.prog.info? 53).map (fun i => (i.zero, i.size, i.bytes)) = some (some (.agg #[.int .u32 0, .int .i64 0]), 2, 16) := by kernel_rfl
theorem run_appE {w : World} {B : Nat} {v : Value} {l : List MarkM} {x : MarkM} {g : Nat} (h : OwnE B w v l) (hx : Blk w g 53 #[.int .u32 (x.1 : Nat), .int .i64 x.2]) (hlen : l.length ≤ 1000000) (hB : B ≤ w.heap.size) :
    ∃ r w', (Builtin.append_ #[49, 49] 49 #[v, .slice (some ⟨g, 0, none⟩) 1 1]).run Tryd.prog w = .ok r w' ∧ OwnE B w' r (l ++ [x]) ∧ w.grownBy w' v.ownBlock := by
  obtain ⟨i0, hi0, hz0, hz1, hz2⟩ := info_parts entry_info
  obtain ⟨v', w', hrun, ho, hg⟩ := run_append_any (P := Tryd.prog) w B 49 49 53 i0 _ 2 16 Tryd.underlying49 hi0 hz0 hz1 hz2 rfl (by omega) v l.length (mcells l) h (some ⟨g, 0, none⟩) 1 1 (mcells [x]) (Gives.of_reads (litM hx) (mcells_one [x])) (by unfold maxLen; omega) (by omega) hB
  rw [← mcells_append] at ho
  refine ⟨v', w', hrun, ?_, hg⟩
  unfold OwnE
  rw [List.length_append]
  exact ho
theorem readIndex_eq (p : List UInt8) : readIndex p = ⟨(inText ⟨p, false⟩).1, (inN (inText ⟨p, false⟩).2 4).1, (inN (inN (inText ⟨p, false⟩).2 4).2 4).1, (inN (inN (inN (inText ⟨p, false⟩).2 4).2 4).2 4).1,
    (inMarksL 4 (inN (inN (inN (inN (inText ⟨p, false⟩).2 4).2 4).2 4).2 2).1 (inN (inN (inN (inN (inText ⟨p, false⟩).2 4).2 4).2 4).2 2).2).1⟩ := rfl
theorem idx_same (nm : ByteArray) (e nx u : Nat) (L : List MarkM) (b : List UInt8) : (!decide (idxErr nm e nx (u : Nat) L = 0) || !(idxPage nm e nx (u : Nat) L == b)) = !decide ((IdxM.mk nm e nx u L).right = true ∧ pageB 1 (IdxM.mk nm e nx u L).bytes = b) := by
  unfold IdxM.right IdxM.bytes idxErr idxPage
  simp only
  cases rightIndexV nm e nx (u : Nat) L
  · simp
  · simp only [if_pos, decide_true, Bool.not_true, Bool.false_or, true_and]
    congr 1
    rw [Bool.eq_iff_iff]; simp
set_option maxRecDepth 100000 in
set_option maxHeartbeats 2000000 in
theorem getIndex_any (A : Option Addr) (c n : Nat) (b : List UInt8) (w : World) (hm : MaxCell w) (hg : 1 < w.heap.size) (hl : b.length = n) (hn : n ≤ 1000000) (hcn : n ≤ c) (hr : Reads w w.heap.size 1 A n (u8s b)) :
    Calls Tryd.prog 18 #[.slice A n c] w fun ev w' => ∃ r, ev = .returned (.tuple #[.agg #[.string (idxOr (getIndexV b)).nm, .int .u32 ((idxOr (getIndexV b)).e : Nat), .int .u32 ((idxOr (getIndexV b)).nx : Nat), .int .i64 ((idxOr (getIndexV b)).u : Nat), r], .int .i64 (getErr (getIndexV b))]) ∧ OwnE w.heap.size w' r (idxOr (getIndexV b)).l ∧ Below w.heap.size w w' := by
  refine calls_at 60 Tryd.func18 rfl rfl (Nat.le_of_ble_eq_true rfl) ?_
  intro a hA
  simp only [argsE, keepE, lookS, Nat.reduceBEq, cond_true, cond_false, Nat.reduceAdd, gv_tt, gv_ff, Bool.true_and, Bool.false_and, Bool.true_or, Bool.false_or] at hA
  refine wp_seq ?_
  refine wp_region_lit ?_
  -- stop alloc slot 2
  refine wl_new hA rfl rfl (by decide) (fun ev h => by simp [go_sem]; try first | exact ⟨rfl, rfl⟩ | rfl) fun w1 a1 (K : Blk _ _ _ _) hz hb0 hA1 => ?_
  replace hr := (hr.below hb0).more hb0.size
  replace hm := hm.below hg hb0; replace hg := Nat.lt_of_lt_of_le hg hb0.size
  have HB := Below.refl w1.heap.size w1
  refine wl_op hA1 rfl rfl (by decide) (fun ev h => by simp [go_sem, h.c]; try first | exact ⟨rfl, rfl⟩ | rfl) fun a2 hA2 => ?_
  refine wl_nil ?_
  refine n_then ?_
  have hA3 := hA2.keep [0, 2]
  simp only [argsE, keepE, lookS, Nat.reduceBEq, cond_true, cond_false, Nat.reduceAdd, gv_tt, gv_ff, Bool.true_and, Bool.false_and, Bool.true_or, Bool.false_or] at hA3
  clear hA hA1 hA2 a1
  refine wp_seq ?_
  refine wp_region_lit ?_
  refine wl_op hA3 rfl rfl (by decide) (fun ev h => by simp [go_sem, h.get 0 rfl]; try first | exact ⟨rfl, rfl⟩ | rfl) fun a4 hA4 => ?_
  -- stop call slot 12
  refine wl_call hA4 rfl rfl (by decide) (fun ev h => by simp [go_sem, h.c, h.get 11 rfl, h.f]; try first | exact ⟨rfl, rfl⟩ | rfl) (page_Get 1 (by omega) A n c hcn hn b hl _ ((hr.below HB).more HB.size)) ?_
  rintro e w2 ⟨v2, rfl, ho2, hb⟩
  refine ⟨_, rfl, fun a5 hA5 => ?_⟩
  replace HB := HB.trans (hb.mono HB.size)
  have K0 := K.below HB K.lt
  have hG : getIndexV b = match pageGet 1 b with | none => none | some p => if (readIndex p).right = true ∧ pageB 1 (readIndex p).bytes = b then some (readIndex p) else none := rfl
  obtain ⟨G, hGe⟩ : ∃ G, getIndexV b = G := ⟨_, rfl⟩
  rw [hGe] at hG ⊢
  cases hp : pageGet 1 b with
  | none =>
    rw [hp] at hG hA5
    simp only at hG
    subst hG
    refine wl_op hA5 rfl rfl (by decide) (fun ev h => by simp [go_sem, h.get 12 rfl]; try first | exact ⟨rfl, rfl⟩ | rfl) fun a6 hA6 => ?_
    refine wl_op hA6 rfl rfl (by decide) (fun ev h => by simp [go_sem, h.get 10 rfl]; try first | exact ⟨rfl, rfl⟩ | rfl) fun a7 hA7 => ?_
    refine wl_op hA7 rfl rfl (by decide) (fun ev h => by simp [go_sem, h.get 10 rfl]; try first | exact ⟨rfl, rfl⟩ | rfl) fun a8 hA8 => ?_
    refine wl_op hA8 rfl rfl (by decide) (fun ev h => by simp [go_sem, h.get 13 rfl]; try first | exact ⟨rfl, rfl⟩ | rfl) fun a9 hA9 => ?_
    refine wl_op hA9 rfl rfl (by decide) (fun ev h => by simp [go_sem, h.get 14 rfl]; try first | exact ⟨rfl, rfl⟩ | rfl) fun a10 hA10 => ?_
    refine wl_nil ?_
    refine n_then ?_
    have hA11 := hA10.keep [0, 2, 4, 5]
    simp only [argsE, keepE, lookS, Nat.reduceBEq, cond_true, cond_false, Nat.reduceAdd, gv_tt, gv_ff, Bool.true_and, Bool.false_and, Bool.true_or, Bool.false_or] at hA11
    clear hA3 hA4 hA5 hA6 hA7 hA8 hA9 hA10 a2 a4 a5 a6 a7 a8 a9
    refine wp_seq ?_
    refine wp_seq ?_
    refine wp_region_lit ?_
    refine wl_op hA11 rfl rfl (by decide) (fun ev h => by simp [go_sem, h.get 5 rfl]; try first | exact ⟨rfl, rfl⟩ | rfl) fun a12 hA12 => ?_
    refine wl_op hA12 rfl rfl (by decide) (fun ev h => by simp [go_sem, h.c, h.get 15 rfl]; try first | exact ⟨rfl, rfl⟩ | rfl) fun a13 hA13 => ?_
    refine wl_nil ?_
    refine n_then ?_
    have hA14 := hA13.keep [0, 2, 4, 5, 16]
    simp only [argsE, keepE, lookS, Nat.reduceBEq, cond_true, cond_false, Nat.reduceAdd, gv_tt, gv_ff, Bool.true_and, Bool.false_and, Bool.true_or, Bool.false_or] at hA14
    clear hA11 hA12 hA13 a10 a12
    -- cond
    refine wp_if hA14 16 _ rfl (fun hq => ?yA) (fun hq => ?nA)
    case yA =>
      refine wp_seq ?_
      refine wp_region_lit ?_
      refine wl_op hA14 rfl rfl (by decide) (fun ev h => by simp [go_sem]; try first | exact ⟨rfl, rfl⟩ | rfl) fun a15 hA15 => ?_
      refine wl_op hA15 rfl rfl (by decide) (fun ev h => by simp [go_sem, h.get 5 rfl]; try first | exact ⟨rfl, rfl⟩ | rfl) fun a16 hA16 => ?_
      -- stop store slot None
      refine wl_set [.string ⟨#[]⟩, .int .u32 0, .int .u32 0, .int .i64 0, .slice none 0 0] hA16 rfl rfl K0 (by rfl) (fun ev h => by simp [go_sem, h.get 2 rfl, h.get 17 rfl, setAll, K0.cell, K0.frozen]) fun w3 (K0 : Blk _ _ _ _) hs => ?_
      refine wl_op hA16 rfl rfl (by decide) (fun ev h => by simp [go_sem, h.get 18 rfl, K0.cell]; try first | exact ⟨rfl, rfl⟩ | rfl) fun a17 hA17 => ?_
      refine wl_nil ?_
      refine n_then ?_
      have hA18 := hA17.keep [2, 3]
      simp only [argsE, keepE, lookS, Nat.reduceBEq, cond_true, cond_false, Nat.reduceAdd, gv_tt, gv_ff, Bool.true_and, Bool.false_and, Bool.true_or, Bool.false_or] at hA18
      clear hA14 hA15 hA16 hA17 a15 a16
      refine wp_ret ?_
      refine r_then ?_
      refine bodyPost_ret (by simp [results, Tryd.results18, go_sem, hA18.env 2 _ rfl, hA18.env 3 _ rfl, K0.cell]; try first | exact ⟨rfl, rfl⟩ | rfl) hA18.defers ?_
      exact ⟨_, rfl, World.ownsRow_nil _ _ _ _, hs.below (hb0.trans (HB.mono hb0.size)) (Nat.le_refl _)⟩
    case nA => simp at hq
  | some p =>
    rw [hp] at hG hA5 ho2
    simp only [Option.isSome_some, if_pos, Option.getD_some] at hA5 ho2 hG
    have hpl : p.length ≤ 60000 := by
      unfold pageGet at hp
      split at hp
      · rename_i h
        injection hp with hp
        rw [← hp]; exact h.2.1
      · cases hp
    obtain ⟨A1, c1, rfl, hr1, _⟩ := own_reads ho2
    refine wl_op hA5 rfl rfl (by decide) (fun ev h => by simp [go_sem, h.get 12 rfl, K0.cell]; try first | exact ⟨rfl, rfl⟩ | rfl) fun a19 hA19 => ?_
    refine wl_op hA19 rfl rfl (by decide) (fun ev h => by simp [go_sem, h.get 10 rfl, K0.cell]; try first | exact ⟨rfl, rfl⟩ | rfl) fun a20 hA20 => ?_
    refine wl_op hA20 rfl rfl (by decide) (fun ev h => by simp [go_sem, h.get 10 rfl, K0.cell]; try first | exact ⟨rfl, rfl⟩ | rfl) fun a21 hA21 => ?_
    refine wl_op hA21 rfl rfl (by decide) (fun ev h => by simp [go_sem, h.get 13 rfl, K0.cell]; try first | exact ⟨rfl, rfl⟩ | rfl) fun a22 hA22 => ?_
    refine wl_op hA22 rfl rfl (by decide) (fun ev h => by simp [go_sem, h.get 14 rfl, K0.cell]; try first | exact ⟨rfl, rfl⟩ | rfl) fun a23 hA23 => ?_
    refine wl_nil ?_
    refine n_then ?_
    have hA24 := hA23.keep [0, 2, 4, 5]
    simp only [argsE, keepE, lookS, Nat.reduceBEq, cond_true, cond_false, Nat.reduceAdd, gv_tt, gv_ff, Bool.true_and, Bool.false_and, Bool.true_or, Bool.false_or] at hA24
    clear hA5 hA19 hA20 hA21 hA22 hA23 a19 a20 a21 a22
    refine wp_seq ?_
    refine wp_seq ?_
    refine wp_region_lit ?_
    refine wl_op hA24 rfl rfl (by decide) (fun ev h => by simp [go_sem, h.get 5 rfl, K0.cell]; try first | exact ⟨rfl, rfl⟩ | rfl) fun a25 hA25 => ?_
    refine wl_op hA25 rfl rfl (by decide) (fun ev h => by simp [go_sem, h.c, h.get 15 rfl, K0.cell]; try first | exact ⟨rfl, rfl⟩ | rfl) fun a26 hA26 => ?_
    refine wl_nil ?_
    refine n_then ?_
    have hA27 := hA26.keep [0, 2, 4, 5, 16]
    simp only [argsE, keepE, lookS, Nat.reduceBEq, cond_true, cond_false, Nat.reduceAdd, gv_tt, gv_ff, Bool.true_and, Bool.false_and, Bool.true_or, Bool.false_or] at hA27
    clear hA24 hA25 hA26 a23 a25
    -- cond
    refine wp_if hA27 16 _ rfl (fun hq => ?yB) (fun hq => ?nB)
    case yB => simp at hq
    case nB =>
      refine wp_skip ?_
      refine n_then ?_
      refine wp_seq ?_
      refine wp_region_lit ?_
      refine wl_op hA27 rfl rfl (by decide) (fun ev h => by simp [go_sem, h.get 4 rfl, K0.cell]; try first | exact ⟨rfl, rfl⟩ | rfl) fun a28 hA28 => ?_
      -- stop call slot 20
      have hw2 := HB.size
      refine wl_call hA28 rfl rfl (by decide) (fun ev h => by simp [go_sem, h.get 19 rfl, K0.cell, h.f]; try first | exact ⟨rfl, rfl⟩ | rfl) (in_new A1 p.length c1 p rfl (by omega) _ hr1) ?_
      rintro e w3 ⟨i, vi, rfl, hi, hiw, hb⟩
      refine ⟨_, rfl, fun a29 hA29 => ?_⟩
      replace HB := HB.trans (hb.mono HB.size)
      replace K0 := K0.below hb K0.lt
      have hiw : w1.heap.size ≤ i := Nat.le_trans hw2 hiw
      refine wl_op hA29 rfl rfl (by decide) (fun ev h => by simp [go_sem, h.get 20 rfl, K0.cell]; try first | exact ⟨rfl, rfl⟩ | rfl) fun a30 hA30 => ?_
      refine wl_nil ?_
      refine n_then ?_
      have hA31 := hA30.keep [0, 2, 6]
      simp only [argsE, keepE, lookS, Nat.reduceBEq, cond_true, cond_false, Nat.reduceAdd, gv_tt, gv_ff, Bool.true_and, Bool.false_and, Bool.true_or, Bool.false_or] at hA31
      clear hA27 hA28 hA29 hA30 a28 a29
      refine wp_seq ?_
      refine wp_region_lit ?_
      refine wl_op hA31 rfl rfl (by decide) (fun ev h => by simp [go_sem, h.get 6 rfl, K0.cell]; try first | exact ⟨rfl, rfl⟩ | rfl) fun a32 hA32 => ?_
      -- stop call slot 22
      refine wl_call hA32 rfl rfl (by decide) (fun ev h => by simp [go_sem, h.get 21 rfl, K0.cell, h.f]; try first | exact ⟨rfl, rfl⟩ | rfl) (in_Text hi (by show p.length ≤ _; omega)) ?_
      rintro e w4 ⟨rfl, ⟨v4, hi⟩, hib⟩
      refine ⟨_, rfl, fun a33 hA33 => ?_⟩
      replace HB := HB.trans (hib.toBelow HB.size hiw)
      have hri := readIndex_eq p
      have hr1 := inText_rest ⟨p, false⟩
      have hsz : (inText ⟨p, false⟩).1.size ≤ 60000 := Nat.le_trans (inText_size _) hpl
      obtain ⟨nm, hnm⟩ : ∃ nm, (inText ⟨p, false⟩).1 = nm := ⟨_, rfl⟩
      obtain ⟨s1, hs1⟩ : ∃ s1, (inText ⟨p, false⟩).2 = s1 := ⟨_, rfl⟩
      rw [hnm] at hA33 hri hsz
      rw [hs1] at hi hri hr1
      replace hr1 : s1.rest.length ≤ 60000 := Nat.le_trans hr1 hpl
      refine wl_op hA33 rfl rfl (by decide) (fun ev h => by simp [go_sem, h.get 6 rfl, K0.cell]; try first | exact ⟨rfl, rfl⟩ | rfl) fun a34 hA34 => ?_
      -- stop call slot 24
      refine wl_call hA34 rfl rfl (by decide) (fun ev h => by simp [go_sem, h.c, h.get 23 rfl, K0.cell, h.f]; try first | exact ⟨rfl, rfl⟩ | rfl) (in_N hi (by omega) 4 (by omega)) ?_
      rintro e w5 ⟨rfl, ⟨v5, hi⟩, hib⟩
      refine ⟨_, rfl, fun a35 hA35 => ?_⟩
      replace HB := HB.trans (hib.toBelow HB.size hiw)
      have hx1 : (inN s1 4).1 < 4294967296 := inN_lt _ 4
      have hr2 : (inN s1 4).2.rest.length ≤ 60000 := Nat.le_trans (inTake_rest _ _) hr1
      obtain ⟨e, he⟩ : ∃ e, (inN s1 4).1 = e := ⟨_, rfl⟩
      obtain ⟨s2, hs2⟩ : ∃ s2, (inN s1 4).2 = s2 := ⟨_, rfl⟩
      rw [he] at hA35 hri hx1
      rw [hs2] at hi hri hr2
      have hwe : IntKind.u32.wrap (e : Int) = (e : Int) := IntWalk.u32_in _ (by omega)
      refine wl_op hA35 rfl rfl (by decide) (fun ev h => by simp [go_sem, h.get 24 rfl, hwe]; try first | exact ⟨rfl, rfl⟩ | rfl) fun a36 hA36 => ?_
      refine wl_op hA36 rfl rfl (by decide) (fun ev h => by simp [go_sem, h.get 6 rfl, hwe]; try first | exact ⟨rfl, rfl⟩ | rfl) fun a37 hA37 => ?_
      -- stop call slot 27
      refine wl_call hA37 rfl rfl (by decide) (fun ev h => by simp [go_sem, h.c, h.get 26 rfl, hwe, h.f]; try first | exact ⟨rfl, rfl⟩ | rfl) (in_N hi (by omega) 4 (by omega)) ?_
      rintro e w6 ⟨rfl, ⟨v6, hi⟩, hib⟩
      refine ⟨_, rfl, fun a38 hA38 => ?_⟩
      replace HB := HB.trans (hib.toBelow HB.size hiw)
      have hx2 : (inN s2 4).1 < 4294967296 := inN_lt _ 4
      have hr3 : (inN s2 4).2.rest.length ≤ 60000 := Nat.le_trans (inTake_rest _ _) hr2
      obtain ⟨nx, hnx⟩ : ∃ nx, (inN s2 4).1 = nx := ⟨_, rfl⟩
      obtain ⟨s3, hs3⟩ : ∃ s3, (inN s2 4).2 = s3 := ⟨_, rfl⟩
      rw [hnx] at hA38 hri hx2
      rw [hs3] at hi hri hr3
      have hwx : IntKind.u32.wrap (nx : Int) = (nx : Int) := IntWalk.u32_in _ (by omega)
      refine wl_op hA38 rfl rfl (by decide) (fun ev h => by simp [go_sem, h.get 27 rfl, hwx]; try first | exact ⟨rfl, rfl⟩ | rfl) fun a39 hA39 => ?_
      refine wl_op hA39 rfl rfl (by decide) (fun ev h => by simp [go_sem, h.get 6 rfl, hwx]; try first | exact ⟨rfl, rfl⟩ | rfl) fun a40 hA40 => ?_
      -- stop call slot 30
      refine wl_call hA40 rfl rfl (by decide) (fun ev h => by simp [go_sem, h.c, h.get 29 rfl, hwx, h.f]; try first | exact ⟨rfl, rfl⟩ | rfl) (in_N hi (by omega) 4 (by omega)) ?_
      rintro e w7 ⟨rfl, ⟨v7, hi⟩, hib⟩
      refine ⟨_, rfl, fun a41 hA41 => ?_⟩
      replace HB := HB.trans (hib.toBelow HB.size hiw)
      have hx3 : (inN s3 4).1 < 4294967296 := inN_lt _ 4
      have hr4 : (inN s3 4).2.rest.length ≤ 60000 := Nat.le_trans (inTake_rest _ _) hr3
      obtain ⟨u, hu⟩ : ∃ u, (inN s3 4).1 = u := ⟨_, rfl⟩
      obtain ⟨s4, hs4⟩ : ∃ s4, (inN s3 4).2 = s4 := ⟨_, rfl⟩
      rw [hu] at hA41 hri hx3
      rw [hs4] at hi hri hr4
      refine wl_op hA41 rfl rfl (by decide) (fun ev h => by simp [go_sem, h.get 22 rfl, h.get 25 rfl, h.get 28 rfl, h.get 30 rfl, hwx]; try first | exact ⟨rfl, rfl⟩ | rfl) fun a42 hA42 => ?_
      -- stop alloc slot 7
      obtain ⟨xb, hxb⟩ : ∃ xb, w7.heap.size = xb := ⟨_, rfl⟩
      have hxi : xb ≠ i := by have := hi.cells.lt; omega
      have hxB := HB.size
      rw [hxb] at hxB
      refine wl_local [.string nm, .int .u32 (e : Nat), .int .u32 (nx : Nat), .int .i64 (u : Nat), .slice none 0 0] hA42 rfl rfl (by decide) (fun ev h => by simp [go_sem, hwx]; try first | exact ⟨rfl, rfl⟩ | rfl) rfl rfl (by rfl) (fun w1 g ev hb h => by simp [go_sem, h.get 7 rfl, h.get 31 rfl, hwx, setAll, hb.cell, hb.frozen]) fun w8 a43 (Kx : Blk _ _ _ _) hz hb hA43 => ?_
      replace HB := HB.trans (hb.mono HB.size)
      replace hi := hi.below hb
      rw [hxb] at Kx hA43
      refine wl_nil ?_
      refine n_then ?_
      have hA44 := hA43.keep [0, 2, 6, 7]
      simp only [argsE, keepE, lookS, Nat.reduceBEq, cond_true, cond_false, Nat.reduceAdd, gv_tt, gv_ff, Bool.true_and, Bool.false_and, Bool.true_or, Bool.false_or] at hA44
      clear hA31 hA32 hA33 hA34 hA35 hA36 hA37 hA38 hA39 hA40 hA41 hA42 hA43 a30 a32 a33 a34 a35 a36 a37 a38 a39 a40 a41 a42
      refine wp_seq ?_
      refine wp_seq ?_
      refine wp_region_lit ?_
      refine wl_op hA44 rfl rfl (by decide) (fun ev h => by simp [go_sem, h.get 6 rfl, hwx]; try first | exact ⟨rfl, rfl⟩ | rfl) fun a45 hA45 => ?_
      -- stop call slot 33
      refine wl_call hA45 rfl rfl (by decide) (fun ev h => by simp [go_sem, h.c, h.get 32 rfl, hwx, h.f]; try first | exact ⟨rfl, rfl⟩ | rfl) (in_N hi (by omega) 2 (by omega)) ?_
      rintro e w9 ⟨rfl, ⟨v9, hi⟩, hib⟩
      refine ⟨_, rfl, fun a46 hA46 => ?_⟩
      replace HB := HB.trans (hib.toBelow HB.size hiw)
      replace Kx := (hib.block xb Kx.lt hxi).trans Kx
      have hr5 : (inN s4 2).2.rest.length ≤ 60000 := Nat.le_trans (inTake_rest _ _) hr4
      have hx4 : (inN s4 2).1 < 65536 := inN_lt _ 2
      obtain ⟨cnt, hcnt⟩ : ∃ cnt, (inN s4 2).1 = cnt := ⟨_, rfl⟩
      obtain ⟨s5, hs5⟩ : ∃ s5, (inN s4 2).2 = s5 := ⟨_, rfl⟩
      rw [hcnt] at hA46 hri hx4
      rw [hs5] at hi hri hr5
      clear he hs2 hnx hs3 hu hs4 hcnt hs5
      refine wl_op hA46 rfl rfl (by decide) (fun ev h => by simp [go_sem, h.c, hwx]; try first | exact ⟨rfl, rfl⟩ | rfl) fun a47 hA47 => ?_
      refine wl_nil ?_
      refine n_then ?_
      have hA48 := hA47.keep [0, 2, 6, 7, 33, 34]
      simp only [argsE, keepE, lookS, Nat.reduceBEq, cond_true, cond_false, Nat.reduceAdd, gv_tt, gv_ff, Bool.true_and, Bool.false_and, Bool.true_or, Bool.false_or] at hA48
      clear hA44 hA45 hA46 hA47 a43 a45 a46
      refine wp_block ?_
      -- loop
      refine wp_loop_at (fun k a wx => ∃ (j : Nat) (vL vi : Value), j + k = cnt ∧ At 60 [(0, .slice A n c), (2, .pointer (some ⟨w.heap.size, 0, none⟩)), (6, .pointer (some ⟨i, 0, none⟩)), (7, .pointer (some ⟨xb, 0, none⟩)), (33, .int .i64 (cnt : Nat)), (34, .int .i64 (j : Nat))] a ∧ Blk wx xb 51 #[.string nm, .int .u32 (e : Nat), .int .u32 (nx : Nat), .int .i64 (u : Nat), vL] ∧ OwnE w1.heap.size wx vL (inMarksL 4 j s5).1 ∧ InAt wx i (inMarksL 4 j s5).2 vi ∧ Below w1.heap.size w1 wx) (cnt) ?_ ?_
      · exact ⟨0, _, v9, by omega, hA48, Kx, World.ownsRow_nil _ _ _ _, hi, HB⟩
      clear hi HB Kx hb
      rintro k a wx ⟨j, vL, vi, hjk, hA, Kx, hoL, hi, HB⟩
      refine wp_seq ?_
      refine wp_region_lit ?_
      refine wl_op hA rfl rfl (by decide) (fun ev h => by simp [go_sem, h.get 34 rfl, h.get 33 rfl]; try first | exact ⟨rfl, rfl⟩ | rfl) fun a49 hA49 => ?_
      refine wl_nil ?_
      refine n_then ?_
      have hA50 := hA49.keep [0, 2, 6, 7, 33, 34, 35]
      simp only [argsE, keepE, lookS, Nat.reduceBEq, cond_true, cond_false, Nat.reduceAdd, gv_tt, gv_ff, Bool.true_and, Bool.false_and, Bool.true_or, Bool.false_or] at hA50
      clear hA hA49
      refine wp_seq ?_
      -- cond
      refine wp_if hA50 35 _ rfl (fun hq => ?yL) (fun hq => ?nL)
      case yL =>
        have hlt : j < cnt := by simp at hq; omega
        have hrl : (inMarksL 4 j s5).2.rest.length ≤ 1000000 := Nat.le_trans (inMarksL_rest 4 j s5) (by omega)
        have hst : inMarksL 4 (j + 1) s5 = ((inMarksL 4 j s5).1 ++ [((inN (inMarksL 4 j s5).2 4).1, ((inN (inN (inMarksL 4 j s5).2 4).2 4).1 : Int))], (inN (inN (inMarksL 4 j s5).2 4).2 4).2) := rfl
        have hll := inMarksL_len 4 j s5
        have hxu : (inN (inMarksL 4 j s5).2 4).1 < 4294967296 := inN_lt _ 4
        have hrl2 : (inN (inMarksL 4 j s5).2 4).2.rest.length ≤ 1000000 := Nat.le_trans (inTake_rest _ _) hrl
        obtain ⟨lj, hlj⟩ : ∃ lj, (inMarksL 4 j s5).1 = lj := ⟨_, rfl⟩
        obtain ⟨sj, hsj⟩ : ∃ sj, (inMarksL 4 j s5).2 = sj := ⟨_, rfl⟩
        rw [hlj] at hoL hst hll
        rw [hsj] at hst hi hxu hrl hrl2
        obtain ⟨xu, hxue⟩ : ∃ xu, (inN sj 4).1 = xu := ⟨_, rfl⟩
        obtain ⟨t1, ht1⟩ : ∃ t1, (inN sj 4).2 = t1 := ⟨_, rfl⟩
        rw [hxue] at hst hxu
        rw [ht1] at hst hrl2
        obtain ⟨xf, hxfe⟩ : ∃ xf, (inN t1 4).1 = xf := ⟨_, rfl⟩
        obtain ⟨t2, ht2⟩ : ∃ t2, (inN t1 4).2 = t2 := ⟨_, rfl⟩
        rw [hxfe, ht2] at hst
        have hwu : IntKind.u32.wrap (xu : Int) = (xu : Int) := IntWalk.u32_in _ (by omega)
        have hne : ∀ (w' : World) (v' : Value) (l' : List MarkM), OwnE w1.heap.size w' v' l' → ∀ (v2 : Value) (s' : InM), InAt w' i s' v2 → ∀ g, v'.ownBlock = some g → g ≠ i := fun w' v' l' h v2 s' h2 g hg => own_ne h h2.cells (by decide) g hg
        refine wp_skip ?_
        refine n_then ?_
        refine wp_seq ?_
        refine wp_block ?_
        -- any
        refine wp_any_at hA50 [(.det ?dD0), (.det ?dD1), (.det ?dD2), (.det (.int .i64 (xu : Nat))), (.det ?dD4), (.det ?dD5), (.det (.int .i64 (xf : Nat))), (.det ?dD7), (.used (fun v w' => ∃ g, v = .slice (some ⟨g, 0, none⟩) 1 1 ∧ Blk w' g 53 #[.int .u32 (xu : Nat), .int .i64 (xf : Nat)])), (.used (fun v w' => OwnE w1.heap.size w' v (lj ++ [(xu, (xf : Int))]))), (.det ?dD10), (.det undef)] [⟨none, (some 11), fun w' => Blk w' xb 51 #[.string nm, .int .u32 (e : Nat), .int .u32 (nx : Nat), .int .i64 (u : Nat), vL]⟩, ⟨none, (some 3), fun w' => InAt w' i sj vi ∧ OwnE w1.heap.size w' vL lj ∧ Below w1.heap.size w1 w'⟩, ⟨(some 3), (some 6), fun w' => (∃ v, InAt w' i t1 v) ∧ OwnE w1.heap.size w' vL lj ∧ Below w1.heap.size w1 w'⟩, ⟨(some 6), (some 8), fun w' => (∃ v, InAt w' i t2 v) ∧ OwnE w1.heap.size w' vL lj ∧ Below w1.heap.size w1 w'⟩, ⟨(some 8), (some 9), fun w' => (∃ v, InAt w' i t2 v) ∧ OwnE w1.heap.size w' vL lj ∧ Below w1.heap.size w1 w'⟩, ⟨(some 9), (some 11), fun w' => (∃ v, InAt w' i t2 v) ∧ Below w1.heap.size w1 w'⟩, ⟨(some 11), none, fun w' => ∃ v r, Blk w' xb 51 #[.string nm, .int .u32 (e : Nat), .int .u32 (nx : Nat), .int .i64 (u : Nat), r] ∧ OwnE w1.heap.size w' r (lj ++ [(xu, (xf : Int))]) ∧ InAt w' i t2 v ∧ Below w1.heap.size w1 w'⟩] (fun _ => True) (TSp [(11, fun _ _ => True), (3, (fun w w' => w.heap[xb]? = some (.cells #[.string nm, .int .u32 (e : Nat), .int .u32 (nx : Nat), .int .i64 (u : Nat), vL] 51) → w'.heap[xb]? = w.heap[xb]?)), (6, (fun w w' => w.heap[xb]? = some (.cells #[.string nm, .int .u32 (e : Nat), .int .u32 (nx : Nat), .int .i64 (u : Nat), vL] 51) → w'.heap[xb]? = w.heap[xb]?)), (8, (fun w w' => w.heap[xb]? = some (.cells #[.string nm, .int .u32 (e : Nat), .int .u32 (nx : Nat), .int .i64 (u : Nat), vL] 51) → w'.heap[xb]? = w.heap[xb]?)), (9, (fun w w' => w.heap[xb]? = some (.cells #[.string nm, .int .u32 (e : Nat), .int .u32 (nx : Nat), .int .i64 (u : Nat), vL] 51) → w'.heap[xb]? = w.heap[xb]?))] (fun w w' => w = w')) (by kernel_rfl) rfl (by kernel_rfl) (by kernel_rfl) rfl (trivial) (stab_sp [(11, fun _ _ => True), (3, (fun w w' => w.heap[xb]? = some (.cells #[.string nm, .int .u32 (e : Nat), .int .u32 (nx : Nat), .int .i64 (u : Nat), vL] 51) → w'.heap[xb]? = w.heap[xb]?)), (6, (fun w w' => w.heap[xb]? = some (.cells #[.string nm, .int .u32 (e : Nat), .int .u32 (nx : Nat), .int .i64 (u : Nat), vL] 51) → w'.heap[xb]? = w.heap[xb]?)), (8, (fun w w' => w.heap[xb]? = some (.cells #[.string nm, .int .u32 (e : Nat), .int .u32 (nx : Nat), .int .i64 (u : Nat), vL] 51) → w'.heap[xb]? = w.heap[xb]?)), (9, (fun w w' => w.heap[xb]? = some (.cells #[.string nm, .int .u32 (e : Nat), .int .u32 (nx : Nat), .int .i64 (u : Nat), vL] 51) → w'.heap[xb]? = w.heap[xb]?))] [true, true, true, true, true, true, true, true, false, false, true, true] [true, true, true, true, true, true, true, true, false, false, true, true] [] rfl rfl rfl (by kernel_rfl) ⟨trivial, trivial, trivial, trivial, trivial, trivial, trivial, trivial, (fun _ _ _ _ hp e => e ▸ hp), (fun _ _ _ _ hp e => e ▸ hp), trivial, trivial, trivial⟩ trivial) (List.forall_mem_cons.2 ⟨(fun hn => Kx), (List.forall_mem_cons.2 ⟨(fun hn => ⟨hi.below (Below.refl _ _).drew, hoL, HB.drew⟩), (List.forall_mem_cons.2 ⟨(fun hn => by cases hn), (List.forall_mem_cons.2 ⟨(fun hn => by cases hn), (List.forall_mem_cons.2 ⟨(fun hn => by cases hn), (List.forall_mem_cons.2 ⟨(fun hn => by cases hn), (List.forall_mem_cons.2 ⟨(fun hn => by cases hn), (fun _ h => by cases h)⟩)⟩)⟩)⟩)⟩)⟩)⟩) (phase_sp [(11, fun _ _ => True), (3, (fun w w' => w.heap[xb]? = some (.cells #[.string nm, .int .u32 (e : Nat), .int .u32 (nx : Nat), .int .i64 (u : Nat), vL] 51) → w'.heap[xb]? = w.heap[xb]?)), (6, (fun w w' => w.heap[xb]? = some (.cells #[.string nm, .int .u32 (e : Nat), .int .u32 (nx : Nat), .int .i64 (u : Nat), vL] 51) → w'.heap[xb]? = w.heap[xb]?)), (8, (fun w w' => w.heap[xb]? = some (.cells #[.string nm, .int .u32 (e : Nat), .int .u32 (nx : Nat), .int .i64 (u : Nat), vL] 51) → w'.heap[xb]? = w.heap[xb]?)), (9, (fun w w' => w.heap[xb]? = some (.cells #[.string nm, .int .u32 (e : Nat), .int .u32 (nx : Nat), .int .i64 (u : Nat), vL] 51) → w'.heap[xb]? = w.heap[xb]?))] [(none, (some 11)), (none, (some 3)), ((some 3), (some 6)), ((some 6), (some 8)), ((some 8), (some 9)), ((some 9), (some 11)), ((some 11), none)] [(3, 0), (6, 0), (8, 0), (9, 0)] rfl (by kernel_rfl) (List.forall_mem_cons.2 ⟨fun _ _ _ hp e => e ▸ hp, (List.forall_mem_cons.2 ⟨fun _ _ _ hp e => e ▸ hp, (List.forall_mem_cons.2 ⟨fun _ _ _ hp e => e ▸ hp, (List.forall_mem_cons.2 ⟨fun _ _ _ hp e => e ▸ hp, (List.forall_mem_cons.2 ⟨fun _ _ _ hp e => e ▸ hp, (List.forall_mem_cons.2 ⟨fun _ _ _ hp e => e ▸ hp, (List.forall_mem_cons.2 ⟨fun _ _ _ hp e => e ▸ hp, (fun _ h => by cases h)⟩)⟩)⟩)⟩)⟩)⟩)⟩) ⟨(fun _ _ _ hp h => (h hp).trans hp), (fun _ _ _ hp h => (h hp).trans hp), (fun _ _ _ hp h => (h hp).trans hp), (fun _ _ _ hp h => (h hp).trans hp), trivial⟩) (List.forall_mem_cons.2 ⟨(fun a h => by first | (exact (no_1 h).elim) | (injection h with h; subst h; exact Nat.le_of_ble_eq_true rfl)), (List.forall_mem_cons.2 ⟨(fun a h => by first | (exact (no_1 h).elim) | (injection h with h; subst h; exact Nat.le_of_ble_eq_true rfl)), (List.forall_mem_cons.2 ⟨(fun a h => by first | (exact (no_1 h).elim) | (injection h with h; subst h; exact Nat.le_of_ble_eq_true rfl)), (List.forall_mem_cons.2 ⟨(fun a h => by first | (exact (no_1 h).elim) | (injection h with h; subst h; exact Nat.le_of_ble_eq_true rfl)), (List.forall_mem_cons.2 ⟨(fun a h => by first | (exact (no_1 h).elim) | (injection h with h; subst h; exact Nat.le_of_ble_eq_true rfl)), (List.forall_mem_cons.2 ⟨(fun a h => by first | (exact (no_1 h).elim) | (injection h with h; subst h; exact Nat.le_of_ble_eq_true rfl)), (List.forall_mem_cons.2 ⟨(fun a h => by first | (exact (no_1 h).elim) | (injection h with h; subst h; exact Nat.le_of_ble_eq_true rfl)), (fun _ h => by cases h)⟩)⟩)⟩)⟩)⟩)⟩)⟩) ⟨?oD0, ?oD1, ?oD2, ?oD3, ?oD4, ?oD5, ?oD6, ?oD7, ?oD8, ?oD9, ?oD10, ?oD11, trivial⟩ ?fD
        case oD0 =>
          intro ev wo hev hC hs hph
          have e7 := see_env hA50 hs 7 (by kernel_rfl) (by kernel_rfl) rfl
          exact ob_det (wanted_none rfl) rfl (by kernel_rfl) hC (TSp.of rfl (rfl)) (by simp [go_sem, e7]; try first | exact ⟨rfl, rfl⟩ | rfl)
        case oD1 =>
          intro ev wo hev hC hs hph
          have e36 := see_det hs 36 0 (by kernel_rfl) (by kernel_rfl) rfl
          have Kw := (hph _ List.mem_cons_self (by kernel_rfl))
          exact ob_det (wanted_none rfl) rfl (by kernel_rfl) hC (TSp.of rfl (rfl)) (by simp [go_sem, e36, Kw.cell]; try first | exact ⟨rfl, rfl⟩ | rfl)
        case oD2 =>
          intro ev wo hev hC hs hph
          have e6 := see_env hA50 hs 6 (by kernel_rfl) (by kernel_rfl) rfl
          exact ob_det (wanted_none rfl) rfl (by kernel_rfl) hC (TSp.of rfl (rfl)) (by simp [go_sem, e6]; try first | exact ⟨rfl, rfl⟩ | rfl)
        case oD3 =>
          intro ev wo hev hC hs hph
          have e38 := see_det hs 38 2 (by kernel_rfl) (by kernel_rfl) rfl
          have Kw := (hph _ List.mem_cons_self (by kernel_rfl))
          obtain ⟨hi, hoL, HB⟩ := (hph _ (List.mem_cons_of_mem _ List.mem_cons_self) (by kernel_rfl))
          exact ob_yes (wanted_none rfl) (does_enter (by simp [go_sem, e38, hev.func, hev.const]; try first | exact ⟨rfl, rfl⟩ | rfl) (Calls.mono (in_N hi hrl 4 (by omega)) (by
            rintro ev' w9 ⟨rfl, hi', hib⟩
            rw [ht1] at hi'
            exact ⟨_, rfl, trivial, TSp.sp rfl (fun hk => hib.block xb (lt_of_get hk) hxi), by rw [hxue]; rfl, (List.forall_mem_cons.2 ⟨fun h => (no_1 h).elim, (List.forall_mem_cons.2 ⟨fun h => (no_1 h).elim, (List.forall_mem_cons.2 ⟨fun _ => ⟨hi', own_keep hoL fun g hg => hib.block g (hoL.lt g hg).2 (hne _ _ _ hoL _ _ hi g hg), HB.trans (hib.toBelow HB.size hiw)⟩, (List.forall_mem_cons.2 ⟨fun h => (no_2 rfl h).elim, (List.forall_mem_cons.2 ⟨fun h => (no_2 rfl h).elim, (List.forall_mem_cons.2 ⟨fun h => (no_2 rfl h).elim, (List.forall_mem_cons.2 ⟨fun h => (no_2 rfl h).elim, (fun _ h => by cases h)⟩)⟩)⟩)⟩)⟩)⟩)⟩)⟩)))
        case oD4 =>
          intro ev wo hev hC hs hph
          have e39 := see_det hs 39 3 (by kernel_rfl) (by kernel_rfl) rfl
          have Kw := (hph _ List.mem_cons_self (by kernel_rfl))
          exact ob_det (wanted_none rfl) rfl (by kernel_rfl) hC (TSp.of rfl (rfl)) (by simp [go_sem, e39, hwu]; try first | exact ⟨rfl, rfl⟩ | rfl)
        case oD5 =>
          intro ev wo hev hC hs hph
          have e6 := see_env hA50 hs 6 (by kernel_rfl) (by kernel_rfl) rfl
          exact ob_det (wanted_none rfl) rfl (by kernel_rfl) hC (TSp.of rfl (rfl)) (by simp [go_sem, e6]; try first | exact ⟨rfl, rfl⟩ | rfl)
        case oD6 =>
          intro ev wo hev hC hs hph
          have e41 := see_det hs 41 5 (by kernel_rfl) (by kernel_rfl) rfl
          have Kw := (hph _ List.mem_cons_self (by kernel_rfl))
          obtain ⟨⟨v1, hi⟩, hoL, HB⟩ := (hph _ (List.mem_cons_of_mem _ (List.mem_cons_of_mem _ List.mem_cons_self)) (by kernel_rfl))
          exact ob_yes (wanted_none rfl) (does_enter (by simp [go_sem, e41, hev.func, hev.const]; try first | exact ⟨rfl, rfl⟩ | rfl) (Calls.mono (in_N hi hrl2 4 (by omega)) (by
            rintro ev' w9 ⟨rfl, hi', hib⟩
            rw [ht2] at hi'
            exact ⟨_, rfl, trivial, TSp.sp rfl (fun hk => hib.block xb (lt_of_get hk) hxi), by rw [hxfe]; rfl, (List.forall_mem_cons.2 ⟨fun h => (no_1 h).elim, (List.forall_mem_cons.2 ⟨fun h => (no_1 h).elim, (List.forall_mem_cons.2 ⟨fun h => (no_2 rfl h).elim, (List.forall_mem_cons.2 ⟨fun _ => ⟨hi', own_keep hoL fun g hg => hib.block g (hoL.lt g hg).2 (hne _ _ _ hoL _ _ hi g hg), HB.trans (hib.toBelow HB.size hiw)⟩, (List.forall_mem_cons.2 ⟨fun h => (no_2 rfl h).elim, (List.forall_mem_cons.2 ⟨fun h => (no_2 rfl h).elim, (List.forall_mem_cons.2 ⟨fun h => (no_2 rfl h).elim, (fun _ h => by cases h)⟩)⟩)⟩)⟩)⟩)⟩)⟩)⟩)))
        case oD7 =>
          intro ev wo hev hC hs hph
          have e40 := see_det hs 40 4 (by kernel_rfl) (by kernel_rfl) rfl
          have e42 := see_det hs 42 6 (by kernel_rfl) (by kernel_rfl) rfl
          exact ob_det (wanted_none rfl) rfl (by kernel_rfl) hC (TSp.of rfl (rfl)) (by simp [go_sem, e40, e42]; try first | exact ⟨rfl, rfl⟩ | rfl)
        case oD8 =>
          intro ev wo hev hC hs hph
          have e43 := see_det hs 43 7 (by kernel_rfl) (by kernel_rfl) rfl
          have Kw := (hph _ List.mem_cons_self (by kernel_rfl))
          obtain ⟨⟨v1, hi⟩, hoL, HB⟩ := (hph _ (List.mem_cons_of_mem _ (List.mem_cons_of_mem _ (List.mem_cons_of_mem _ List.mem_cons_self))) (by kernel_rfl))
          have hbn := (Below.refl wo.heap.size wo).alloc (Nat.le_refl _) (.cells #[.int .u32 (xu : Nat), .int .i64 (xf : Nat)] 53)
          exact ob_yes (wanted_none rfl) (does_value (v := .slice (some ⟨wo.heap.size, 0, none⟩) 1 1) (w' := wo.alloc (.cells #[.int .u32 (xu : Nat), .int .i64 (xf : Nat)] 53)) (by simp [go_sem, e43]) ⟨trivial, TSp.sp rfl (fun hk => hbn.block xb (lt_of_get hk)), ⟨_, rfl, Blk.new wo _ _⟩, (List.forall_mem_cons.2 ⟨fun h => (no_1 h).elim, (List.forall_mem_cons.2 ⟨fun h => (no_1 h).elim, (List.forall_mem_cons.2 ⟨fun h => (no_2 rfl h).elim, (List.forall_mem_cons.2 ⟨fun h => (no_2 rfl h).elim, (List.forall_mem_cons.2 ⟨fun _ => ⟨⟨v1, hi.below hbn⟩, own_below hoL hbn, HB.trans (hbn.mono HB.size)⟩, (List.forall_mem_cons.2 ⟨fun h => (no_2 rfl h).elim, (List.forall_mem_cons.2 ⟨fun h => (no_2 rfl h).elim, (fun _ h => by cases h)⟩)⟩)⟩)⟩)⟩)⟩)⟩)⟩)
        case oD9 =>
          intro ev wo hev hC hs hph
          have e37 := see_det hs 37 1 (by kernel_rfl) (by kernel_rfl) rfl
          have u44 := see_used hs 44 8 (by kernel_rfl) (by kernel_rfl) rfl
          have Kw := (hph _ List.mem_cons_self (by kernel_rfl))
          obtain ⟨⟨v1, hi⟩, hoL, HB⟩ := (hph _ (List.mem_cons_of_mem _ (List.mem_cons_of_mem _ (List.mem_cons_of_mem _ (List.mem_cons_of_mem _ List.mem_cons_self)))) (by kernel_rfl))
          obtain ⟨g, e44, hbk⟩ := u44
          obtain ⟨r, w3, hr, ho, hgr⟩ := run_appE (x := (xu, (xf : Int))) hoL hbk (by omega) HB.size
          exact ob_yes (wanted_none rfl) (does_value (exec_append rfl e37 e44 hr) ⟨trivial, TSp.sp rfl (fun hk => hgr.block xb (lt_of_get hk) (fun e => own_ne hoL (show Blk wo xb _ _ from hk) (by decide) xb e.symm rfl)), ho, (List.forall_mem_cons.2 ⟨fun h => (no_1 h).elim, (List.forall_mem_cons.2 ⟨fun h => (no_1 h).elim, (List.forall_mem_cons.2 ⟨fun h => (no_2 rfl h).elim, (List.forall_mem_cons.2 ⟨fun h => (no_2 rfl h).elim, (List.forall_mem_cons.2 ⟨fun h => (no_2 rfl h).elim, (List.forall_mem_cons.2 ⟨fun _ => ⟨⟨v1, hi.grownT hoL (by decide) (by decide) hgr⟩, HB.grown hgr HB.size fun k hk => (hoL.lt k hk).1⟩, (List.forall_mem_cons.2 ⟨fun h => (no_2 rfl h).elim, (fun _ h => by cases h)⟩)⟩)⟩)⟩)⟩)⟩)⟩)⟩)
        case oD10 =>
          intro ev wo hev hC hs hph
          have e7 := see_env hA50 hs 7 (by kernel_rfl) (by kernel_rfl) rfl
          exact ob_det (wanted_none rfl) rfl (by kernel_rfl) hC (TSp.of rfl (rfl)) (by simp [go_sem, e7]; try first | exact ⟨rfl, rfl⟩ | rfl)
        case oD11 =>
          intro ev wo hev hC hs hph
          have e46 := see_det hs 46 10 (by kernel_rfl) (by kernel_rfl) rfl
          have u45 := see_used hs 45 9 (by kernel_rfl) (by kernel_rfl) rfl
          have Kw := (hph _ List.mem_cons_self (by kernel_rfl))
          obtain ⟨⟨v1, hi⟩, HB⟩ := (hph _ (List.mem_cons_of_mem _ (List.mem_cons_of_mem _ (List.mem_cons_of_mem _ (List.mem_cons_of_mem _ (List.mem_cons_of_mem _ List.mem_cons_self))))) (by kernel_rfl))
          have Kw := (hph _ List.mem_cons_self (by kernel_rfl))
          have K2 := Kw.set_ 4 (ev (.tmp 45))
          obtain ⟨A5, c5, e45, _, _⟩ := own_reads u45
          exact ob_yes (wanted_none rfl) (does_skip (w' := wo.setCell ⟨xb, 4, none⟩ (ev (.tmp 45))) (by simp [go_sem, e46, e45, Kw.cell, Kw.frozen]) ⟨trivial, TSp.sp rfl trivial, rfl, (List.forall_mem_cons.2 ⟨fun h => (no_1 h).elim, (List.forall_mem_cons.2 ⟨fun h => (no_1 h).elim, (List.forall_mem_cons.2 ⟨fun h => (no_2 rfl h).elim, (List.forall_mem_cons.2 ⟨fun h => (no_2 rfl h).elim, (List.forall_mem_cons.2 ⟨fun h => (no_2 rfl h).elim, (List.forall_mem_cons.2 ⟨fun h => (no_2 rfl h).elim, (List.forall_mem_cons.2 ⟨fun _ => ⟨v1, ev (.tmp 45), K2, own_keep u45 fun g hg => Below.heap_setCell _ _ _ _ (own_ne u45 Kw (by decide) g hg), hi.setFar Kw (by decide) hxi 4 _, Below.setCell HB (by exact hxB) _⟩, (fun _ h => by cases h)⟩)⟩)⟩)⟩)⟩)⟩)⟩)⟩)
        intro wf hC hph
        intro x44
        intro x45
        intro a51 hA51
        refine n_block ?_
        refine n_then ?_
        have hA52 := hA51.keep [0, 2, 6, 7, 33, 34]
        simp only [argsE, keepE, lookS, Nat.reduceBEq, cond_true, cond_false, Nat.reduceAdd, gv_tt, gv_ff, Bool.true_and, Bool.false_and, Bool.true_or, Bool.false_or] at hA52
        clear hA50 hA51
        obtain ⟨v9, r9, Kx9, ho9, hi9, HB9⟩ := (hph _ (List.mem_cons_of_mem _ (List.mem_cons_of_mem _ (List.mem_cons_of_mem _ (List.mem_cons_of_mem _ (List.mem_cons_of_mem _ (List.mem_cons_of_mem _ List.mem_cons_self)))))) rfl)
        have hwj : IntKind.i64.wrap ((j : Int) + 1) = (j : Int) + 1 := IntWalk.i64_in _ (by omega)
        refine wp_region_lit ?_
        refine wl_op hA52 rfl rfl (by decide) (fun ev h => by simp [go_sem, h.c, h.get 34 rfl, hwj]; try first | exact ⟨rfl, rfl⟩ | rfl) fun a53 hA53 => ?_
        refine wl_op hA53 rfl rfl (by decide) (fun ev h => by simp [go_sem, h.get 47 rfl, hwj]; try first | exact ⟨rfl, rfl⟩ | rfl) fun a54 hA54 => ?_
        refine wl_nil ?_
        refine n_then ?_
        have hA55 := hA54.keep [0, 2, 6, 7, 33, 34]
        simp only [argsE, keepE, lookS, Nat.reduceBEq, cond_true, cond_false, Nat.reduceAdd, gv_tt, gv_ff, Bool.true_and, Bool.false_and, Bool.true_or, Bool.false_or] at hA55
        clear hA52 hA53 hA54 a51 a53
        -- round
        have hj1 : ((j : Int) + 1) = ((j + 1 : Nat) : Int) := by omega
        rw [hj1] at hA55
        exact ⟨k - 1, by omega, j + 1, r9, v9, by omega, hA55, Kx9, by rw [hst]; exact ho9, by rw [hst]; exact hi9, HB9⟩
      case nL =>
        have hjn : j = cnt := by simp at hq; omega
        subst hjn
        have hLl := inMarksL_len 4 j s5
        have hLu := inMarksL_uid 4 j s5
        obtain ⟨L, hL⟩ : ∃ L, (inMarksL 4 j s5).1 = L := ⟨_, rfl⟩
        rw [hL] at hri hoL hLl hLu
        obtain ⟨AL, cL, rfl, hrL, _⟩ := own_reads hoL
        refine wp_exit ?_
        refine x_then ?_
        refine x_then ?_
        refine x_block ?_
        refine n_then ?_
        have hA56 := hA50.keep [0, 2, 7]
        simp only [argsE, keepE, lookS, Nat.reduceBEq, cond_true, cond_false, Nat.reduceAdd, gv_tt, gv_ff, Bool.true_and, Bool.false_and, Bool.true_or, Bool.false_or] at hA56
        clear hA50
        refine wp_seq ?_
        refine wp_seq ?_
        refine wp_region_lit ?_
        refine wl_op hA56 rfl rfl (by decide) (fun ev h => by simp [go_sem, h.get 7 rfl, Kx.cell]; try first | exact ⟨rfl, rfl⟩ | rfl) fun a57 hA57 => ?_
        -- stop call slot 50
        refine wl_call hA57 rfl rfl (by decide) (fun ev h => by simp [go_sem, h.get 49 rfl, Kx.cell, h.f]; try first | exact ⟨rfl, rfl⟩ | rfl) (putIndex_any nm AL cL L.length e nx (u : Nat) L _ (hm.below hg HB) (Nat.lt_of_lt_of_le hg HB.size) (by omega) hLu hx1 hx2 rfl (by omega) hrL) ?_
        rintro e w10 ⟨r10, rfl, ho10, hb⟩
        refine ⟨_, rfl, fun a58 hA58 => ?_⟩
        replace HB := HB.trans (hb.mono HB.size)
        replace Kx := Kx.below hb Kx.lt
        replace hoL := own_below hoL hb
        obtain ⟨A10, c10, rfl, hr10⟩ := ho10.took
        refine wl_op hA58 rfl rfl (by decide) (fun ev h => by simp [go_sem, h.get 50 rfl, Kx.cell]; try first | exact ⟨rfl, rfl⟩ | rfl) fun a59 hA59 => ?_
        refine wl_op hA59 rfl rfl (by decide) (fun ev h => by simp [go_sem, h.get 48 rfl, Kx.cell]; try first | exact ⟨rfl, rfl⟩ | rfl) fun a60 hA60 => ?_
        refine wl_op hA60 rfl rfl (by decide) (fun ev h => by simp [go_sem, h.get 48 rfl, Kx.cell]; try first | exact ⟨rfl, rfl⟩ | rfl) fun a61 hA61 => ?_
        refine wl_op hA61 rfl rfl (by decide) (fun ev h => by simp [go_sem, h.get 51 rfl, Kx.cell]; try first | exact ⟨rfl, rfl⟩ | rfl) fun a62 hA62 => ?_
        refine wl_op hA62 rfl rfl (by decide) (fun ev h => by simp [go_sem, h.get 52 rfl, Kx.cell]; try first | exact ⟨rfl, rfl⟩ | rfl) fun a63 hA63 => ?_
        refine wl_nil ?_
        refine n_then ?_
        have hA64 := hA63.keep [0, 2, 7, 8, 9]
        simp only [argsE, keepE, lookS, Nat.reduceBEq, cond_true, cond_false, Nat.reduceAdd, gv_tt, gv_ff, Bool.true_and, Bool.false_and, Bool.true_or, Bool.false_or] at hA64
        clear hA56 hA57 hA58 hA59 hA60 hA61 hA62 hA63 a57 a58 a59 a60 a61 a62
        refine wp_seq ?_
        refine wp_region_lit ?_
        refine wl_op hA64 rfl rfl (by decide) (fun ev h => by simp [go_sem, h.get 8 rfl, Kx.cell]; try first | exact ⟨rfl, rfl⟩ | rfl) fun a65 hA65 => ?_
        refine wl_op hA65 rfl rfl (by decide) (fun ev h => by simp [go_sem, h.get 9 rfl, Kx.cell]; try first | exact ⟨rfl, rfl⟩ | rfl) fun a66 hA66 => ?_
        refine wl_op hA66 rfl rfl (by decide) (fun ev h => by simp [go_sem, h.get 0 rfl, Kx.cell]; try first | exact ⟨rfl, rfl⟩ | rfl) fun a67 hA67 => ?_
        -- stop call slot 56
        refine wl_call hA67 rfl rfl (by decide) (fun ev h => by simp [go_sem, h.get 53 rfl, h.get 54 rfl, h.get 55 rfl, Kx.cell, h.f]; try first | exact ⟨rfl, rfl⟩ | rfl) (same_any A10 A (idxPage nm e nx (u : Nat) L).length c10 n c (idxPage nm e nx (u : Nat) L) b (idxErr nm e nx (u : Nat) L) _ rfl hl hr10 ((hr.below HB).more HB.size)) ?_
        rintro e w11 ⟨rfl, rfl⟩
        refine ⟨_, rfl, fun a68 hA68 => ?_⟩
        refine wl_op hA68 rfl rfl (by decide) (fun ev h => by simp [go_sem, h.get 56 rfl, Kx.cell]; try first | exact ⟨rfl, rfl⟩ | rfl) fun a69 hA69 => ?_
        refine wl_nil ?_
        refine n_then ?_
        have hA70 := hA69.keep [2, 7, 57]
        simp only [argsE, keepE, lookS, Nat.reduceBEq, cond_true, cond_false, Nat.reduceAdd, gv_tt, gv_ff, Bool.true_and, Bool.false_and, Bool.true_or, Bool.false_or] at hA70
        clear hA64 hA65 hA66 hA67 hA68 hA69 a63 a65 a66 a67 a68
        -- cond
        rw [hri] at hG
        rw [idx_same] at hA70
        refine wp_if hA70 57 _ rfl (fun hq2 => ?yT) (fun hq2 => ?nT)
        case yT =>
          have hno : ¬ ((IdxM.mk nm e nx u L).right = true ∧ pageB 1 (IdxM.mk nm e nx u L).bytes = b) := of_decide_eq_false (by simpa only [Bool.not_eq_true'] using hq2)
          rw [if_neg hno] at hG
          subst hG
          have K0 := K.below HB K.lt
          refine wp_seq ?_
          refine wp_region_lit ?_
          refine wl_op hA70 rfl rfl (by decide) (fun ev h => by simp [go_sem, Kx.cell]; try first | exact ⟨rfl, rfl⟩ | rfl) fun a71 hA71 => ?_
          -- stop store slot None
          refine wl_set [.string ⟨#[]⟩, .int .u32 0, .int .u32 0, .int .i64 0, .slice none 0 0] hA71 rfl rfl K0 (by rfl) (fun ev h => by simp [go_sem, h.get 2 rfl, h.get 58 rfl, Kx.cell, setAll, K0.cell, K0.frozen]) fun w12 (K0 : Blk _ _ _ _) hs => ?_
          refine wl_op hA71 rfl rfl (by decide) (fun ev h => by simp [go_sem, h.c, K0.cell]; try first | exact ⟨rfl, rfl⟩ | rfl) fun a72 hA72 => ?_
          refine wl_nil ?_
          refine n_then ?_
          have hA73 := hA72.keep [2, 3]
          simp only [argsE, keepE, lookS, Nat.reduceBEq, cond_true, cond_false, Nat.reduceAdd, gv_tt, gv_ff, Bool.true_and, Bool.false_and, Bool.true_or, Bool.false_or] at hA73
          clear hA70 hA71 hA72 a71
          refine wp_ret ?_
          refine r_then ?_
          refine bodyPost_ret (by simp [results, Tryd.results18, go_sem, hA73.env 2 _ rfl, hA73.env 3 _ rfl, K0.cell]; try first | exact ⟨rfl, rfl⟩ | rfl) hA73.defers ?_
          exact ⟨_, rfl, World.ownsRow_nil _ _ _ _, hs.below (hb0.trans (HB.mono hb0.size)) (Nat.le_refl _)⟩
        case nT =>
          have hyes : (IdxM.mk nm e nx u L).right = true ∧ pageB 1 (IdxM.mk nm e nx u L).bytes = b := of_decide_eq_true (by simpa only [Bool.not_eq_false'] using hq2)
          rw [if_pos hyes] at hG
          subst hG
          have K0 := K.below HB K.lt
          refine wp_skip ?_
          refine n_then ?_
          refine wp_seq ?_
          refine wp_region_lit ?_
          refine wl_op hA70 rfl rfl (by decide) (fun ev h => by simp [go_sem, h.get 7 rfl, Kx.cell]; try first | exact ⟨rfl, rfl⟩ | rfl) fun a74 hA74 => ?_
          -- stop store slot None
          refine wl_set [.string nm, .int .u32 (e : Nat), .int .u32 (nx : Nat), .int .i64 (u : Nat), .slice AL L.length cL] hA74 rfl rfl K0 (by rfl) (fun ev h => by simp [go_sem, h.get 2 rfl, h.get 59 rfl, Kx.cell, setAll, K0.cell, K0.frozen]) fun w12 (K0 : Blk _ _ _ _) hs => ?_
          refine wl_op hA74 rfl rfl (by decide) (fun ev h => by simp [go_sem, h.c, K0.cell]; try first | exact ⟨rfl, rfl⟩ | rfl) fun a75 hA75 => ?_
          refine wl_nil ?_
          refine n_then ?_
          have hA76 := hA75.keep [2, 3]
          simp only [argsE, keepE, lookS, Nat.reduceBEq, cond_true, cond_false, Nat.reduceAdd, gv_tt, gv_ff, Bool.true_and, Bool.false_and, Bool.true_or, Bool.false_or] at hA76
          clear hA70 hA74 hA75 a74
          refine wp_ret ?_
          refine bodyPost_ret (by simp [results, Tryd.results18, go_sem, hA76.env 2 _ rfl, hA76.env 3 _ rfl, K0.cell]; try first | exact ⟨rfl, rfl⟩ | rfl) hA76.defers ?_
          exact ⟨_, rfl, own_mono (own_keep hoL fun g hg => hs.block g (own_ne hoL (K.below HB K.lt) (by decide) g hg)) hb0.size, hs.below (hb0.trans (HB.mono hb0.size)) (Nat.le_refl _)⟩
end Go.Proofs.YtljclehhicmkhaaDoor
