/-
  Walks: a message is put behind.
-/
import Derived.Test.YtbbhblnhbgkcaaaDoorMailClone
import Derived.Test.YtbbhblnhbgkcaaaDoorMailRefRight
import Derived.Test.YtbbhblnhbgkcaaaDoorSplit
namespace Go.Proofs.YtbbhblnhbgkcaaaDoor
open Go.RowKit
set_option linter.unusedSimpArgs false
set_option linter.unusedVariables false
/-- what a mailbox says -/
structure BoxV where
  nm : ByteArray
  e : Nat
  nx : Nat
  l : List MsgV
def zeroB : BoxV := ⟨⟨#[]⟩, 0, 0, []⟩
/-- a mailbox whose row is one's own -/
def GivesB (B : Nat) (w : World) (r : Value) (b : BoxV) : Prop := ∃ v l', r = .agg #[.string b.nm, .int .u32 (b.e : Nat), .int .u32 (b.nx : Nat), v] ∧ OwnM B w v l' ∧ bare l' = b.l
/-- its octets lie in new memory too -/
def GivesN (B : Nat) (w : World) (r : Value) (b : BoxV) : Prop := ∃ v l', r = .agg #[.string b.nm, .int .u32 (b.e : Nat), .int .u32 (b.nx : Nat), v] ∧ OwnM B w v l' ∧ bare l' = b.l ∧ NewO B l'
theorem GivesN.zero (B : Nat) (w : World) : GivesN B w (.agg #[.string ⟨#[]⟩, .int .u32 0, .int .u32 0, .slice none 0 0]) zeroB := ⟨_, [], rfl, OwnM.nil B w, rfl, fun _ h => (by cases h)⟩
theorem GivesB.zero (B : Nat) (w : World) : GivesB B w (.agg #[.string ⟨#[]⟩, .int .u32 0, .int .u32 0, .slice none 0 0]) zeroB := ⟨_, [], rfl, OwnM.nil B w, rfl⟩
def putV (nm : ByteArray) (e nx : Nat) (l : List MsgV) (m : MsgV) : BoxV × Nat × Nat := (⟨nm, e, nx + 1, bare l ++ [strip ⟨nx, m.date, m.flags, m.a, m.c, m.b⟩]⟩, nx, 0)
def refAppV (nm : ByteArray) (e nx : Nat) (l : List MsgV) (m : MsgV) : BoxV × Nat × Nat :=
  bif decide (499 < l.length) then (zeroB, 0, 5) else bif nx == 4294967295 then (zeroB, 0, 4) else putV nm e nx l m
def appV (nm : ByteArray) (e nx : Nat) (l : List MsgV) (m : MsgV) : BoxV × Nat × Nat :=
  bif !(boxRight nm e nx l && fitsV m) then (zeroB, 0, 1) else bif decide (20000 < m.b.length) then (zeroB, 0, 3) else refAppV nm e nx l m
theorem own_far {B k : Nat} {w : World} {v : Value} {l : List MsgV} (h : OwnM B w v l) (hk : k < B) : ∀ g, v.ownBlock = some g → g ≠ k := fun g hg => by
  have := (World.ownsRow.lt h.row g hg).1
  omega
theorem msgs_blk {w : World} {g : Nat} {m : MsgV} (K : Blk w g 30 #[.int .u32 (m.uid : Nat), .int .i64 m.date, .int .i64 m.flags, .slice m.a m.b.length m.c]) (ho : Reads w w.heap.size 1 m.a m.b.length (u8s m.b)) (hu : m.uid < 4294967296) (hc : m.b.length ≤ m.c ∧ m.c ≤ 9223372036854775807) :
    Msgs w (some ⟨g, 0, none⟩) 1 [m] := by
  refine ⟨rfl, ⟨rfl, fun _ => ⟨_, rfl, K.lt, fun j u hu => ?_⟩⟩, fun x hx => ?_, fun x hx => ?_, fun x hx => ?_⟩
  · rw [add0, K.cell]
    have : (msgC m ++ [])[j]? = some u := hu
    rw [List.append_nil] at this
    rw [← this]
    unfold msgC
    simp
  · rw [List.mem_singleton.1 hx]; exact ho
  · rw [List.mem_singleton.1 hx]; exact hu
  · rw [List.mem_singleton.1 hx]; exact hc
theorem right_msg {nm : ByteArray} {e nx : Nat} {l : List MsgV} {x : MsgV} (h : boxRight nm e nx l = true) (hx : x ∈ l) : x.uid < nx ∧ fitsV x = true ∧ x.b.length ≤ 20000 := by
  unfold boxRight at h
  simp only [Bool.and_eq_true] at h
  obtain ⟨i, hi, e⟩ := List.getElem_of_mem hx
  have h2 := msgs_at (j := i) (x := x) (by rw [List.getElem?_eq_getElem hi, e]) h.2
  unfold msgStep at h2
  simp only [Bool.and_eq_true, decide_eq_true_eq] at h2
  exact ⟨h2.1.1.2, h2.1.2, h2.2⟩
set_option maxRecDepth 100000 in
set_option maxHeartbeats 2000000 in
theorem append_any (nm : ByteArray) (A : Option Addr) (c n e nx : Nat) (l : List MsgV) (m : MsgV) (w : World) (hm : MaxCell w) (hg : 1 < w.heap.size) (htab : Lib.TabIs Tryd.prog w "internal/strconv.uint64pow10" .u64 Lib.pow10Tab)
    (hs : nm.size ≤ 9223372036854775807) (hn : n ≤ 9223372036854775807) (hnx : nx < 4294967296) (hms : Msgs w A n l) (hmo : Reads w w.heap.size 1 m.a m.b.length (u8s m.b)) :
    Calls Tryd.prog 17 #[.agg (boxC nm e nx A n c), .agg #[.int .u32 (m.uid : Nat), .int .i64 m.date, .int .i64 m.flags, .slice m.a m.b.length m.c]] w fun ev w' => ∃ r, ev = .returned (.tuple #[r, .int .u32 ((appV nm e nx l m).2.1 : Nat), .int .i64 ((appV nm e nx l m).2.2 : Nat)]) ∧ GivesN w.heap.size w' r (appV nm e nx l m).1 ∧ Below w.heap.size w w' := by
  have Ht := Lib.tabBelow_of_tabIs htab
  have hl := hms.len
  refine calls_at 57 Tryd.func17 rfl rfl (Nat.le_of_ble_eq_true rfl) ?_
  intro a hA
  simp only [argsE, keepE, lookS, Nat.reduceBEq, cond_true, cond_false, Nat.reduceAdd, gv_tt, gv_ff, Bool.true_and, Bool.false_and, Bool.true_or, Bool.false_or] at hA
  refine wp_seq ?_
  refine wp_region_lit ?_
  -- stop box slot 2
  refine wl_new hA rfl rfl (by decide) (fun ev h => by simp [go_sem, h.get 0 rfl]; try first | exact ⟨rfl, rfl⟩ | rfl) fun w1 a1 (K2 : Blk _ _ _ _) hz1 hb1 hA1 => ?_
  replace hm := hm.below hg hb1; replace hg := Nat.lt_of_lt_of_le hg hb1.size
  replace hms := hms.below hb1
  replace hmo := (hmo.below hb1).more hb1.size
  refine wl_new hA1 rfl rfl (by decide) (fun ev h => by simp [go_sem, h.get 1 rfl]; try first | exact ⟨rfl, rfl⟩ | rfl) fun w2 a2 (K3 : Blk _ _ _ _) hz2 hb2 hA2 => ?_
  replace hm := hm.below hg hb2; replace hg := Nat.lt_of_lt_of_le hg hb2.size
  replace hms := hms.below hb2
  replace hmo := (hmo.below hb2).more hb2.size
  replace K2 := K2.below hb2 K2.lt
  refine wl_new hA2 rfl rfl (by decide) (fun ev h => by simp [go_sem]; try first | exact ⟨rfl, rfl⟩ | rfl) fun w3 a3 (K4 : Blk _ _ _ _) hz3 hb3 hA3 => ?_
  replace hm := hm.below hg hb3; replace hg := Nat.lt_of_lt_of_le hg hb3.size
  replace hms := hms.below hb3
  replace hmo := (hmo.below hb3).more hb3.size
  replace K2 := K2.below hb3 K2.lt
  replace K3 := K3.below hb3 K3.lt
  have HB := hb1.trans ((hb2.trans (hb3.mono hb2.size)).mono hb1.size)
  unfold boxC at K2
  refine wl_op hA3 rfl rfl (by decide) (fun ev h => by simp [go_sem, h.c, K2.cell, K3.cell]; try first | exact ⟨rfl, rfl⟩ | rfl) fun a4 hA4 => ?_
  refine wl_op hA4 rfl rfl (by decide) (fun ev h => by simp [go_sem, h.c, K2.cell, K3.cell]; try first | exact ⟨rfl, rfl⟩ | rfl) fun a5 hA5 => ?_
  refine wl_nil ?_
  refine n_then ?_
  have hA6 := hA5.keep [2, 3, 4]
  simp only [argsE, keepE, lookS, Nat.reduceBEq, cond_true, cond_false, Nat.reduceAdd, gv_tt, gv_ff, Bool.true_and, Bool.false_and, Bool.true_or, Bool.false_or] at hA6
  clear hA hA1 hA2 hA3 hA4 hA5 a1 a2 a3 a4
  refine wp_seq ?_
  refine wp_block ?_
  refine wp_seq ?_
  refine wp_region_lit ?_
  refine wl_op hA6 rfl rfl (by decide) (fun ev h => by simp [go_sem, h.get 2 rfl, K2.cell, K3.cell]; try first | exact ⟨rfl, rfl⟩ | rfl) fun a7 hA7 => ?_
  -- stop call slot 10
  refine wl_call hA7 rfl rfl (by decide) (fun ev h => by simp [go_sem, h.get 9 rfl, K2.cell, K3.cell, h.f]; try first | exact ⟨rfl, rfl⟩ | rfl) (right_any nm A c n e nx l _ hm hg (Ht _ HB) hs hn hms) ?_
  rintro e w4 ⟨rfl, hb4⟩
  refine ⟨_, rfl, fun a8 hA8 => ?_⟩
  replace hm := hm.below hg hb4; replace hg := Nat.lt_of_lt_of_le hg hb4.size
  replace hms := hms.below hb4
  replace hmo := (hmo.below hb4).more hb4.size
  replace K2 := K2.below hb4 K2.lt
  replace K3 := K3.below hb4 K3.lt
  replace K4 := K4.below hb4 K4.lt
  replace HB := HB.trans (hb4.mono HB.size)
  refine wl_op hA8 rfl rfl (by decide) (fun ev h => by simp [go_sem, h.get 10 rfl, K2.cell, K3.cell]; try first | exact ⟨rfl, rfl⟩ | rfl) fun a9 hA9 => ?_
  refine wl_op hA9 rfl rfl (by decide) (fun ev h => by simp [go_sem, h.get 11 rfl, K2.cell, K3.cell]; try first | exact ⟨rfl, rfl⟩ | rfl) fun a10 hA10 => ?_
  refine wl_guard _ hA10 rfl rfl rfl rfl (by decide) (fun hq ev h => by simp [go_sem, (h.get 3 rfl), K2.cell, K3.cell]; try first | exact ⟨rfl, rfl⟩ | rfl) fun a11 hA11 => ?_
  -- stop call slot 14
  refine wl_gcallv _ hA11 rfl rfl rfl rfl (by decide) (fun hq ev h => by simp [go_sem, ((h.get 13 rfl).trans (gw_t (beq_t hq))), K2.cell, K3.cell, h.f]; try first | exact ⟨rfl, rfl⟩ | rfl) (fun hq => fits_any (m.uid : Nat) m.date m.flags m.a m.b.length m.c _ (Ht _ HB)) fun a12 w5 hb5 hA12 => ?_
  replace hm := hm.below hg hb5; replace hg := Nat.lt_of_lt_of_le hg hb5.size
  replace hms := hms.below hb5
  replace hmo := (hmo.below hb5).more hb5.size
  replace K2 := K2.below hb5 K2.lt
  replace K3 := K3.below hb5 K3.lt
  replace K4 := K4.below hb5 K4.lt
  replace HB := HB.trans (hb5.mono HB.size)
  refine wl_guard _ hA12 rfl rfl rfl rfl (by decide) (fun hq ev h => by simp [go_sem, ((h.get 14 rfl).trans (gw_t (beq_t hq))), K2.cell, K3.cell]; try first | exact ⟨rfl, rfl⟩ | rfl) fun a13 hA13 => ?_
  refine wl_op hA13 rfl rfl (by decide) (fun ev h => by first | exact pick_and rfl (h.get 12 rfl) (h.c _) (h.get 15 rfl) | exact pick_or rfl (h.get 12 rfl) (h.c _) (h.get 15 rfl) | (simp [go_sem, h.c, h.get 12 rfl, h.get 15 rfl, K2.cell, K3.cell, gv_or, gv_and]; try first | exact ⟨rfl, rfl⟩ | rfl)) fun a14 hA14 => ?_
  refine wl_op hA14 rfl rfl (by decide) (fun ev h => by simp [go_sem, h.get 16 rfl, K2.cell, K3.cell]; try first | exact ⟨rfl, rfl⟩ | rfl) fun a15 hA15 => ?_
  refine wl_nil ?_
  refine n_then ?_
  have hA16 := hA15.keep [2, 3, 4, 8]
  simp only [argsE, keepE, lookS, Nat.reduceBEq, cond_true, cond_false, Nat.reduceAdd, gv_tt, gv_ff, Bool.true_and, Bool.false_and, Bool.true_or, Bool.false_or] at hA16
  clear hA6 hA7 hA8 hA9 hA10 hA11 hA12 hA13 hA14 hA15 a5 a7 a8 a9 a10 a11 a12 a13 a14
  -- cond
  have hcond : (!boxRight nm e nx l || !fitsDF m.date m.flags) = !(boxRight nm e nx l && fitsV m) := by rw [Bool.not_and]; rfl
  rw [hcond] at hA16
  refine wp_if hA16 8 _ rfl (fun hq => ?yA) (fun hq => ?nA)
  case yA =>
    have hap : appV nm e nx l m = (zeroB, 0, 1) := by unfold appV; rw [hq]; rfl
    rw [hap]
    refine wp_seq ?_
    refine wp_region_lit ?_
    refine wl_op hA16 rfl rfl (by decide) (fun ev h => by simp [go_sem, K2.cell, K3.cell]; try first | exact ⟨rfl, rfl⟩ | rfl) fun a17 hA17 => ?_
    -- stop store slot None
    refine wl_set [.string ⟨#[]⟩, .int .u32 0, .int .u32 0, .slice none 0 0] hA17 rfl rfl K4 (by rfl) (fun ev h => by simp [go_sem, h.get 4 rfl, h.get 17 rfl, K2.cell, K3.cell, setAll, K4.cell, K4.frozen]) fun w6 (K4 : Blk _ _ _ _) hs6 => ?_
    refine wl_op hA17 rfl rfl (by decide) (fun ev h => by simp [go_sem, h.c, K4.cell]; try first | exact ⟨rfl, rfl⟩ | rfl) fun a18 hA18 => ?_
    refine wl_op hA18 rfl rfl (by decide) (fun ev h => by simp [go_sem, h.c, K4.cell]; try first | exact ⟨rfl, rfl⟩ | rfl) fun a19 hA19 => ?_
    refine wl_nil ?_
    refine n_then ?_
    have hA20 := hA19.keep [4, 5, 6]
    simp only [argsE, keepE, lookS, Nat.reduceBEq, cond_true, cond_false, Nat.reduceAdd, gv_tt, gv_ff, Bool.true_and, Bool.false_and, Bool.true_or, Bool.false_or] at hA20
    clear hA16 hA17 hA18 hA19 a17 a18
    refine wp_ret ?_
    refine r_block ?_
    refine r_then ?_
    refine bodyPost_ret (by simp [results, Tryd.results17, go_sem, hA20.env 4 _ rfl, hA20.env 5 _ rfl, hA20.env 6 _ rfl, K4.cell]; try first | exact ⟨rfl, rfl⟩ | rfl) hA20.defers ?_
    exact ⟨_, rfl, GivesN.zero _ _, hs6.below HB (by omega)⟩
  case nA =>
    have hri : boxRight nm e nx l = true := by simp at hq; exact hq.1
    have hap : appV nm e nx l m = bif decide (20000 < m.b.length) then (zeroB, 0, 3) else refAppV nm e nx l m := by unfold appV; rw [hq]; rfl
    clear hcond hq
    refine wp_seq ?_
    refine wp_region_lit ?_
    refine wl_op hA16 rfl rfl (by decide) (fun ev h => by simp [go_sem, h.get 3 rfl, K2.cell, K3.cell]; try first | exact ⟨rfl, rfl⟩ | rfl) fun a21 hA21 => ?_
    refine wl_op hA21 rfl rfl (by decide) (fun ev h => by simp [go_sem, h.get 19 rfl, K2.cell, K3.cell]; try first | exact ⟨rfl, rfl⟩ | rfl) fun a22 hA22 => ?_
    refine wl_op hA22 rfl rfl (by decide) (fun ev h => by simp [go_sem, h.get 20 rfl, K2.cell, K3.cell]; try first | exact ⟨rfl, rfl⟩ | rfl) fun a23 hA23 => ?_
    refine wl_op hA23 rfl rfl (by decide) (fun ev h => by simp [go_sem, h.c, h.get 21 rfl, K2.cell, K3.cell]; try first | exact ⟨rfl, rfl⟩ | rfl) fun a24 hA24 => ?_
    refine wl_op hA24 rfl rfl (by decide) (fun ev h => by simp [go_sem, h.get 22 rfl, K2.cell, K3.cell]; try first | exact ⟨rfl, rfl⟩ | rfl) fun a25 hA25 => ?_
    refine wl_nil ?_
    refine n_then ?_
    have hA26 := hA25.keep [2, 3, 4, 18]
    simp only [argsE, keepE, lookS, Nat.reduceBEq, cond_true, cond_false, Nat.reduceAdd, gv_tt, gv_ff, Bool.true_and, Bool.false_and, Bool.true_or, Bool.false_or] at hA26
    clear hA16 hA21 hA22 hA23 hA24 hA25 a21 a22 a23 a24
    -- cond
    rw [nat_lt20000] at hA26
    refine wp_if hA26 18 _ rfl (fun hq => ?yB) (fun hq => ?nB)
    case yB =>
      rw [hq, cond_true] at hap
      rw [hap]
      refine wp_seq ?_
      refine wp_region_lit ?_
      refine wl_op hA26 rfl rfl (by decide) (fun ev h => by simp [go_sem, K2.cell, K3.cell]; try first | exact ⟨rfl, rfl⟩ | rfl) fun a27 hA27 => ?_
      -- stop store slot None
      refine wl_set [.string ⟨#[]⟩, .int .u32 0, .int .u32 0, .slice none 0 0] hA27 rfl rfl K4 (by rfl) (fun ev h => by simp [go_sem, h.get 4 rfl, h.get 23 rfl, K2.cell, K3.cell, setAll, K4.cell, K4.frozen]) fun w6 (K4 : Blk _ _ _ _) hs6 => ?_
      refine wl_op hA27 rfl rfl (by decide) (fun ev h => by simp [go_sem, h.c, K4.cell]; try first | exact ⟨rfl, rfl⟩ | rfl) fun a28 hA28 => ?_
      refine wl_op hA28 rfl rfl (by decide) (fun ev h => by simp [go_sem, h.c, K4.cell]; try first | exact ⟨rfl, rfl⟩ | rfl) fun a29 hA29 => ?_
      refine wl_nil ?_
      refine n_then ?_
      have hA30 := hA29.keep [4, 5, 6]
      simp only [argsE, keepE, lookS, Nat.reduceBEq, cond_true, cond_false, Nat.reduceAdd, gv_tt, gv_ff, Bool.true_and, Bool.false_and, Bool.true_or, Bool.false_or] at hA30
      clear hA26 hA27 hA28 hA29 a27 a28
      refine wp_ret ?_
      refine r_block ?_
      refine r_then ?_
      refine bodyPost_ret (by simp [results, Tryd.results17, go_sem, hA30.env 4 _ rfl, hA30.env 5 _ rfl, hA30.env 6 _ rfl, K4.cell]; try first | exact ⟨rfl, rfl⟩ | rfl) hA30.defers ?_
      exact ⟨_, rfl, GivesN.zero _ _, hs6.below HB (by omega)⟩
    case nB =>
      rw [hq, cond_false] at hap
      have hml : m.b.length ≤ 20000 := by simp at hq; omega
      clear hq
      refine wp_seq ?_
      refine wp_region_lit ?_
      refine wl_op hA26 rfl rfl (by decide) (fun ev h => by simp [go_sem, h.get 2 rfl, K2.cell, K3.cell]; try first | exact ⟨rfl, rfl⟩ | rfl) fun a31 hA31 => ?_
      refine wl_op hA31 rfl rfl (by decide) (fun ev h => by simp [go_sem, h.get 25 rfl, K2.cell, K3.cell]; try first | exact ⟨rfl, rfl⟩ | rfl) fun a32 hA32 => ?_
      refine wl_op hA32 rfl rfl (by decide) (fun ev h => by simp [go_sem, h.get 26 rfl, K2.cell, K3.cell]; try first | exact ⟨rfl, rfl⟩ | rfl) fun a33 hA33 => ?_
      refine wl_op hA33 rfl rfl (by decide) (fun ev h => by simp [go_sem, h.c, h.get 27 rfl, K2.cell, K3.cell]; try first | exact ⟨rfl, rfl⟩ | rfl) fun a34 hA34 => ?_
      refine wl_op hA34 rfl rfl (by decide) (fun ev h => by simp [go_sem, h.get 28 rfl, K2.cell, K3.cell]; try first | exact ⟨rfl, rfl⟩ | rfl) fun a35 hA35 => ?_
      refine wl_nil ?_
      refine n_then ?_
      have hA36 := hA35.keep [2, 3, 4, 24]
      simp only [argsE, keepE, lookS, Nat.reduceBEq, cond_true, cond_false, Nat.reduceAdd, gv_tt, gv_ff, Bool.true_and, Bool.false_and, Bool.true_or, Bool.false_or] at hA36
      clear hA26 hA31 hA32 hA33 hA34 hA35 a31 a32 a33 a34
      -- cond
      rw [show decide ((500 : Int) ≤ (n : Int)) = decide (499 < l.length) by rw [hl, Bool.eq_iff_iff]; simp; omega] at hA36
      refine wp_if hA36 24 _ rfl (fun hq => ?yC) (fun hq => ?nC)
      case yC =>
        have hap : appV nm e nx l m = (zeroB, 0, 5) := by rw [hap]; unfold refAppV; rw [hq]; rfl
        rw [hap]
        refine wp_seq ?_
        refine wp_region_lit ?_
        refine wl_op hA36 rfl rfl (by decide) (fun ev h => by simp [go_sem, K2.cell, K3.cell]; try first | exact ⟨rfl, rfl⟩ | rfl) fun a37 hA37 => ?_
        -- stop store slot None
        refine wl_set [.string ⟨#[]⟩, .int .u32 0, .int .u32 0, .slice none 0 0] hA37 rfl rfl K4 (by rfl) (fun ev h => by simp [go_sem, h.get 4 rfl, h.get 29 rfl, K2.cell, K3.cell, setAll, K4.cell, K4.frozen]) fun w6 (K4 : Blk _ _ _ _) hs6 => ?_
        refine wl_op hA37 rfl rfl (by decide) (fun ev h => by simp [go_sem, h.c, K4.cell]; try first | exact ⟨rfl, rfl⟩ | rfl) fun a38 hA38 => ?_
        refine wl_op hA38 rfl rfl (by decide) (fun ev h => by simp [go_sem, h.c, K4.cell]; try first | exact ⟨rfl, rfl⟩ | rfl) fun a39 hA39 => ?_
        refine wl_nil ?_
        refine n_then ?_
        have hA40 := hA39.keep [4, 5, 6]
        simp only [argsE, keepE, lookS, Nat.reduceBEq, cond_true, cond_false, Nat.reduceAdd, gv_tt, gv_ff, Bool.true_and, Bool.false_and, Bool.true_or, Bool.false_or] at hA40
        clear hA36 hA37 hA38 hA39 a37 a38
        refine wp_ret ?_
        refine r_block ?_
        refine r_then ?_
        refine bodyPost_ret (by simp [results, Tryd.results17, go_sem, hA40.env 4 _ rfl, hA40.env 5 _ rfl, hA40.env 6 _ rfl, K4.cell]; try first | exact ⟨rfl, rfl⟩ | rfl) hA40.defers ?_
        exact ⟨_, rfl, GivesN.zero _ _, hs6.below HB (by omega)⟩
      case nC =>
        have hap : appV nm e nx l m = bif nx == 4294967295 then (zeroB, 0, 4) else putV nm e nx l m := by rw [hap]; unfold refAppV; rw [hq]; rfl
        have hnl : n ≤ 499 := by simp at hq; omega
        clear hq
        refine wp_seq ?_
        refine wp_region_lit ?_
        refine wl_op hA36 rfl rfl (by decide) (fun ev h => by simp [go_sem, h.get 2 rfl, K2.cell, K3.cell]; try first | exact ⟨rfl, rfl⟩ | rfl) fun a41 hA41 => ?_
        refine wl_op hA41 rfl rfl (by decide) (fun ev h => by simp [go_sem, h.get 31 rfl, K2.cell, K3.cell]; try first | exact ⟨rfl, rfl⟩ | rfl) fun a42 hA42 => ?_
        refine wl_op hA42 rfl rfl (by decide) (fun ev h => by simp [go_sem, h.c, h.get 32 rfl, K2.cell, K3.cell]; try first | exact ⟨rfl, rfl⟩ | rfl) fun a43 hA43 => ?_
        refine wl_op hA43 rfl rfl (by decide) (fun ev h => by simp [go_sem, h.get 33 rfl, K2.cell, K3.cell]; try first | exact ⟨rfl, rfl⟩ | rfl) fun a44 hA44 => ?_
        refine wl_nil ?_
        refine n_then ?_
        have hA45 := hA44.keep [2, 3, 4, 30]
        simp only [argsE, keepE, lookS, Nat.reduceBEq, cond_true, cond_false, Nat.reduceAdd, gv_tt, gv_ff, Bool.true_and, Bool.false_and, Bool.true_or, Bool.false_or] at hA45
        clear hA36 hA41 hA42 hA43 hA44 a41 a42 a43
        -- cond
        rw [show ((nx : Int) == 4294967295) = (nx == 4294967295) by rw [Bool.eq_iff_iff, beq_iff_eq, beq_iff_eq]; omega] at hA45
        refine wp_if hA45 30 _ rfl (fun hq => ?yD) (fun hq => ?nD)
        case yD =>
          rw [hq, cond_true] at hap
          rw [hap]
          refine wp_seq ?_
          refine wp_region_lit ?_
          refine wl_op hA45 rfl rfl (by decide) (fun ev h => by simp [go_sem, K2.cell, K3.cell]; try first | exact ⟨rfl, rfl⟩ | rfl) fun a46 hA46 => ?_
          -- stop store slot None
          refine wl_set [.string ⟨#[]⟩, .int .u32 0, .int .u32 0, .slice none 0 0] hA46 rfl rfl K4 (by rfl) (fun ev h => by simp [go_sem, h.get 4 rfl, h.get 34 rfl, K2.cell, K3.cell, setAll, K4.cell, K4.frozen]) fun w6 (K4 : Blk _ _ _ _) hs6 => ?_
          refine wl_op hA46 rfl rfl (by decide) (fun ev h => by simp [go_sem, h.c, K4.cell]; try first | exact ⟨rfl, rfl⟩ | rfl) fun a47 hA47 => ?_
          refine wl_op hA47 rfl rfl (by decide) (fun ev h => by simp [go_sem, h.c, K4.cell]; try first | exact ⟨rfl, rfl⟩ | rfl) fun a48 hA48 => ?_
          refine wl_nil ?_
          refine n_then ?_
          have hA49 := hA48.keep [4, 5, 6]
          simp only [argsE, keepE, lookS, Nat.reduceBEq, cond_true, cond_false, Nat.reduceAdd, gv_tt, gv_ff, Bool.true_and, Bool.false_and, Bool.true_or, Bool.false_or] at hA49
          clear hA45 hA46 hA47 hA48 a46 a47
          refine wp_ret ?_
          refine r_block ?_
          refine r_then ?_
          refine bodyPost_ret (by simp [results, Tryd.results17, go_sem, hA49.env 4 _ rfl, hA49.env 5 _ rfl, hA49.env 6 _ rfl, K4.cell]; try first | exact ⟨rfl, rfl⟩ | rfl) hA49.defers ?_
          exact ⟨_, rfl, GivesN.zero _ _, hs6.below HB (by omega)⟩
        case nD =>
          rw [hq, cond_false] at hap
          have hnx2 : nx + 1 < 4294967296 := by simp at hq; omega
          rw [hap]
          unfold putV
          clear hq hap
          refine wp_skip ?_
          refine n_block ?_
          refine n_then ?_
          refine wp_seq ?_
          refine wp_region_lit ?_
          refine wl_op hA45 rfl rfl (by decide) (fun ev h => by simp [go_sem, h.get 2 rfl, K2.cell, K3.cell]; try first | exact ⟨rfl, rfl⟩ | rfl) fun a50 hA50 => ?_
          -- stop call slot 36
          have hz5 : w3.heap.size ≤ w5.heap.size := Nat.le_trans hb4.size hb5.size
          have hz : ∀ x ∈ l, x.b.length ≤ 1000000000 := fun x hx => Nat.le_trans (right_msg hri hx).2.2 (by omega)
          refine wl_call hA50 rfl rfl (by decide) (fun ev h => by simp [go_sem, h.get 35 rfl, K2.cell, K3.cell, h.f]; try first | exact ⟨rfl, rfl⟩ | rfl) (cloneBox_any nm A c n e nx l _ (by omega) hz hms) ?_
          rintro e w6 ⟨v, l', rfl, ho, hbl, hb6, hno⟩
          refine ⟨_, rfl, fun a51 hA51 => ?_⟩
          replace hmo := (hmo.below hb6).more hb6.size
          replace K2 := K2.below hb6 K2.lt
          replace K3 := K3.below hb6 K3.lt
          replace K4 := K4.below hb6 K4.lt
          replace HB := HB.trans (hb6.mono HB.size)
          have hz6 := hb6.size
          have hll := len_of_bare hbl
          obtain ⟨A1, c1, hv, hm1, hc1⟩ := ho.msgs
          subst hv
          clear hm1
          -- stop alloc slot 7
          refine wl_local [.string nm, .int .u32 (e : Nat), .int .u32 (nx : Nat), .slice A1 l'.length c1] hA51 rfl rfl (by decide) (fun ev h => by simp [go_sem, K2.cell, K3.cell]; try first | exact ⟨rfl, rfl⟩ | rfl) rfl rfl (by rfl) (fun w1 g ev hb h => by simp [go_sem, h.get 7 rfl, h.get 36 rfl, K2.cell, K3.cell, setAll, hb.cell, hb.frozen]) fun w7 a52 (K7 : Blk _ _ _ _) hz7 hb7 hA52 => ?_
          replace hmo := (hmo.below hb7).more hb7.size
          replace K2 := K2.below hb7 K2.lt
          replace K3 := K3.below hb7 K3.lt
          replace K4 := K4.below hb7 K4.lt
          replace HB := HB.trans (hb7.mono HB.size)
          replace ho := ho.below hb7
          refine wl_nil ?_
          refine n_then ?_
          have hA53 := hA52.keep [2, 3, 4, 7]
          simp only [argsE, keepE, lookS, Nat.reduceBEq, cond_true, cond_false, Nat.reduceAdd, gv_tt, gv_ff, Bool.true_and, Bool.false_and, Bool.true_or, Bool.false_or] at hA53
          clear hA45 hA50 hA51 hA52 a50 a51
          refine wp_seq ?_
          -- any
          refine wp_region_split 6 ?_
          simp only [List.take_succ_cons, List.take_zero, List.drop_succ_cons, List.drop_zero]
          refine wp_any_split_at hA53 [(.det ?dD0), (.det ?dD1), (.det ?dD2), (.det ?dD3), (.held (fun v wy => Own8 w7.heap.size wy v (m.b))), (.det ?dD5)] [] (fun wy => Below w7.heap.size w7 wy) (TSp [] Grows) (by kernel_rfl) rfl (by kernel_rfl) (by kernel_rfl) rfl (by kernel_rfl) (by kernel_rfl) (by kernel_rfl) (by kernel_rfl) ((Below.refl w7.heap.size w7).drew) (stab_sp [] [true, true, true, true, false, true] [true, true, true, true, true, true] [] rfl rfl rfl (by kernel_rfl) ⟨trivial, trivial, trivial, trivial, (fun _ _ _ _ hp hb => hp.below hb), trivial, trivial⟩ trivial) (fun _ h => by cases h) (fun _ _ _ _ _ h => by cases h) (fun _ h => by cases h) ⟨?oD0, ?oD1, ?oD2, ?oD3, ?oD4, ?oD5, trivial⟩ (by kernel_rfl) ?fD
          case oD0 =>
            intro ev wo hev hC hs hph
            have e2 := see_env hA53 hs 2 (by kernel_rfl) (by kernel_rfl) rfl
            exact ob_det (wanted_none rfl) rfl (by kernel_rfl) hC (TSp.of rfl (Grows.refl _)) (by simp [go_sem, e2]; try first | exact ⟨rfl, rfl⟩ | rfl)
          case oD1 =>
            intro ev wo hev hC hs hph
            have e37 := see_det hs 37 0 (by kernel_rfl) (by kernel_rfl) rfl
            have Kx2 := K2.below hC K2.lt
            have Kx3 := K3.below hC K3.lt
            exact ob_det (wanted_none rfl) rfl (by kernel_rfl) hC (TSp.of rfl (Grows.refl _)) (by simp [go_sem, e37, Kx2.cell, Kx3.cell, K2.cell, K3.cell]; try first | exact ⟨rfl, rfl⟩ | rfl)
          case oD2 =>
            intro ev wo hev hC hs hph
            have e3 := see_env hA53 hs 3 (by kernel_rfl) (by kernel_rfl) rfl
            exact ob_det (wanted_none rfl) rfl (by kernel_rfl) hC (TSp.of rfl (Grows.refl _)) (by simp [go_sem, e3]; try first | exact ⟨rfl, rfl⟩ | rfl)
          case oD3 =>
            intro ev wo hev hC hs hph
            have e39 := see_det hs 39 2 (by kernel_rfl) (by kernel_rfl) rfl
            have Kx2 := K2.below hC K2.lt
            have Kx3 := K3.below hC K3.lt
            exact ob_det (wanted_none rfl) rfl (by kernel_rfl) hC (TSp.of rfl (Grows.refl _)) (by simp [go_sem, e39, Kx2.cell, Kx3.cell, K2.cell, K3.cell]; try first | exact ⟨rfl, rfl⟩ | rfl)
          case oD4 =>
            intro ev wo hev hC hs hph
            have e40 := see_det hs 40 3 (by kernel_rfl) (by kernel_rfl) rfl
            have Kx2 := K2.below hC K2.lt
            have Kx3 := K3.below hC K3.lt
            exact ob_yes (wanted_none rfl) (does_enter (by simp [go_sem, e40, hev.func, hev.const]; try first | exact ⟨rfl, rfl⟩ | rfl) (Calls.mono (clone_any m.a m.b.length m.c m.b _ rfl (by omega) ((hmo.below hC).more hC.size)) (by
              rintro ev2 w3 ⟨r, rfl, ho, hb3⟩
              exact ⟨r, rfl, hC.trans (hb3.mono hC.size), TSp.of rfl hb3, (Own8.of ho).mono hC.size, no_start (by kernel_rfl)⟩)))
          case oD5 =>
            intro ev wo hev hC hs hph
            have e3 := see_env hA53 hs 3 (by kernel_rfl) (by kernel_rfl) rfl
            exact ob_det (wanted_none rfl) rfl (by kernel_rfl) hC (TSp.of rfl (Grows.refl _)) (by simp [go_sem, e3]; try first | exact ⟨rfl, rfl⟩ | rfl)
          intro sg wf hC hph
          intro x41 hx41 h41
          intro a54 hA54
          have hA55 := hA54.keep [3, 4, 7, 38, 41, 42]
          simp only [argsE, keepE, lookS, Nat.reduceBEq, cond_true, cond_false, Nat.reduceAdd, gv_tt, gv_ff, Bool.true_and, Bool.false_and, Bool.true_or, Bool.false_or] at hA55
          clear hA53 hA54 a52
          replace K2 := K2.below hC K2.lt
          replace K3 := K3.below hC K3.lt
          replace K4 := K4.below hC K4.lt
          replace K7 := K7.below hC K7.lt
          replace HB := HB.trans (hC.mono HB.size)
          replace ho := ho.below hC
          have hz8 := hC.size
          obtain ⟨a9, c9, rfl, hcap⟩ := own_caps h41
          obtain ⟨a8, c8, e8, hr9⟩ := h41.took
          injection e8 with e8 _ e9
          subst e8 e9
          have hoff3 : ∀ x ∈ l', Off w1.heap.size x := fun x hx => off_blk (ho.octs x hx) K3 rfl
          have hne3 := own_far ho (show w1.heap.size < w5.heap.size by omega)
          -- stop store slot None
          refine wl_setf [.int .u32 (nx : Nat), .int .i64 m.date, .int .i64 m.flags, .slice m.a m.b.length m.c] _ hA55 rfl rfl K3 (j := 0) (by rfl) (fun ev h => by simp [go_sem, h.get 42 rfl, h.get 38 rfl, K2.cell, K3.cell, K3.cell, K3.frozen]; try first | exact ⟨rfl, rfl⟩ | rfl) fun w9 (K3 : Blk _ _ _ _) hs9 => ?_
          refine wl_op hA55 rfl rfl (by decide) (fun ev h => by simp [go_sem, h.get 3 rfl, K2.cell, K3.cell]; try first | exact ⟨rfl, rfl⟩ | rfl) fun a56 hA56 => ?_
          -- stop store slot None
          refine wl_setf [.int .u32 (nx : Nat), .int .i64 m.date, .int .i64 m.flags, .slice a9 m.b.length c9] _ hA56 rfl rfl K3 (j := 3) (by rfl) (fun ev h => by simp [go_sem, h.get 43 rfl, h.get 41 rfl, K2.cell, K3.cell, K3.cell, K3.frozen]; try first | exact ⟨rfl, rfl⟩ | rfl) fun w10 (K3 : Blk _ _ _ _) hs10 => ?_
          have hs10 := hs9.trans hs10
          replace ho := ho.only hs10 hne3 hoff3
          replace h41 : Own8 w7.heap.size w10 (.slice a9 m.b.length c9) m.b := own_keep h41 fun g hg => hs10.block g (by have := (World.ownsRow.lt h41 g hg).1; omega)
          replace K7 := hs10.blk K7 (by omega)
          replace K4 := hs10.blk K4 (by omega)
          replace K2 := hs10.blk K2 (by omega)
          replace HB := hs10.below HB (by omega)
          have hz10 := hs10.size
          clear hr9 hoff3 hs9
          refine wl_nil ?_
          refine n_then ?_
          have hA57 := hA56.keep [3, 4, 7]
          simp only [argsE, keepE, lookS, Nat.reduceBEq, cond_true, cond_false, Nat.reduceAdd, gv_tt, gv_ff, Bool.true_and, Bool.false_and, Bool.true_or, Bool.false_or] at hA57
          clear hA55 hA56 a54
          refine wp_seq ?_
          refine wp_region_lit ?_
          refine wl_op hA57 rfl rfl (by decide) (fun ev h => by simp [go_sem, h.get 7 rfl, K2.cell, K3.cell, K7.cell]; try first | exact ⟨rfl, rfl⟩ | rfl) fun a58 hA58 => ?_
          refine wl_op hA58 rfl rfl (by decide) (fun ev h => by simp [go_sem, h.get 44 rfl, K2.cell, K3.cell, K7.cell]; try first | exact ⟨rfl, rfl⟩ | rfl) fun a59 hA59 => ?_
          refine wl_op hA59 rfl rfl (by decide) (fun ev h => by simp [go_sem, h.get 3 rfl, K2.cell, K3.cell, K7.cell]; try first | exact ⟨rfl, rfl⟩ | rfl) fun a60 hA60 => ?_
          -- stop buildSlice slot 47
          refine wl_new hA60 rfl rfl (by decide) (fun ev h => by simp [go_sem, h.get 46 rfl, K2.cell, K3.cell, K7.cell]; try first | exact ⟨rfl, rfl⟩ | rfl) fun w11 a61 (K47 : Blk _ _ _ _) hz11 hb11 hA61 => ?_
          replace K2 := K2.below hb11 K2.lt
          replace K3 := K3.below hb11 K3.lt
          replace K4 := K4.below hb11 K4.lt
          replace K7 := K7.below hb11 K7.lt
          replace HB := HB.trans (hb11.mono HB.size)
          replace ho := ho.below hb11
          replace h41 := h41.below hb11
          -- stop call slot 48
          have hr9 := h41.took
          obtain ⟨a8, c8, e8, hr9⟩ := hr9
          injection e8 with e8 _ e9
          subst e8 e9
          have hnew : NewO w.heap.size [(⟨nx, m.date, m.flags, a9, c9, m.b⟩ : MsgV)] := fun x hx hn ad ha => by
            rw [List.mem_singleton.1 hx] at ha
            simp only at ha
            have := (World.ownsRow.lt h41 ad.block (by rw [ha]; rfl)).1
            omega
          have hm1 := msgs_blk (m := ⟨nx, m.date, m.flags, a9, c9, m.b⟩) K47 hr9 hnx hcap
          obtain ⟨r, w12, hr, ho2, hgr, hwh⟩ := run_appM (k := [⟨nx, m.date, m.flags, a9, c9, m.b⟩]) ho rfl hm1 (fun g hg x hx => by
            rw [List.mem_singleton.1 hx]
            intro hn ad ha he
            simp only at ha
            subst ha
            exact own_ne2 ho.row h41 (by decide) hg rfl he.symm) (by simp; omega) (by omega)
          refine wl_op hA61 rfl rfl (by decide) (fun ev h => exec_append rfl (h.get 45 rfl) (h.get 47 rfl) hr) fun a62 hA62 => ?_
          obtain ⟨l2, hl2⟩ : ∃ l2, l' ++ [(⟨nx, m.date, m.flags, a9, c9, m.b⟩ : MsgV)] = l2 := ⟨_, rfl⟩
          rw [hl2] at ho2
          have hfar : ∀ k, k < w5.heap.size → some k ≠ (Value.slice A1 l'.length c1).ownBlock := fun k hk e => own_far ho hk k e.symm rfl
          replace K2 := K2.grown hgr (hfar _ (by omega))
          replace K3 := K3.grown hgr (hfar _ (by omega))
          replace K4 := K4.grown hgr (hfar _ (by omega))
          replace HB := HB.grown hgr HB.size (fun k hk => by have := (World.ownsRow.lt ho.row k hk).1; omega)
          replace K7 := K7.grown hgr (fun e => own_ne ho.row K7 (by decide) _ e.symm rfl)
          obtain ⟨A2, c2, hv, _, _⟩ := ho2.msgs
          subst hv
          have hne7 := own_ne ho2.row K7 (by decide)
          have hoff7 : ∀ x ∈ l2, Off w6.heap.size x := fun x hx => off_blk (ho2.octs x hx) K7 rfl
          have hwx : IntKind.u32.wrap ((nx : Int) + 1) = (nx : Int) + 1 := IntWalk.u32_in _ (by omega)
          refine wl_op hA62 rfl rfl (by decide) (fun ev h => by simp [go_sem, h.get 7 rfl, K2.cell, K3.cell, K7.cell]; try first | exact ⟨rfl, rfl⟩ | rfl) fun a63 hA63 => ?_
          -- stop store slot None
          refine wl_setf [.string nm, .int .u32 (e : Nat), .int .u32 (nx : Nat), .slice A2 l2.length c2] _ hA63 rfl rfl K7 (j := 3) (by rfl) (fun ev h => by simp [go_sem, h.get 49 rfl, h.get 48 rfl, K2.cell, K3.cell, K7.cell, K7.cell, K7.frozen]; try first | exact ⟨rfl, rfl⟩ | rfl) fun w13 (K7 : Blk _ _ _ _) hs13 => ?_
          refine wl_nil ?_
          refine n_then ?_
          have hA64 := hA63.keep [3, 4, 7]
          simp only [argsE, keepE, lookS, Nat.reduceBEq, cond_true, cond_false, Nat.reduceAdd, gv_tt, gv_ff, Bool.true_and, Bool.false_and, Bool.true_or, Bool.false_or] at hA64
          clear hA57 hA58 hA59 hA60 hA61 hA62 hA63 a56 a58 a59 a60 a61 a62
          refine wp_seq ?_
          refine wp_region_lit ?_
          refine wl_op hA64 rfl rfl (by decide) (fun ev h => by simp [go_sem, h.get 7 rfl, K7.cell, hwx]; try first | exact ⟨rfl, rfl⟩ | rfl) fun a65 hA65 => ?_
          refine wl_op hA65 rfl rfl (by decide) (fun ev h => by simp [go_sem, h.get 50 rfl, K7.cell, hwx]; try first | exact ⟨rfl, rfl⟩ | rfl) fun a66 hA66 => ?_
          refine wl_op hA66 rfl rfl (by decide) (fun ev h => by simp [go_sem, h.c, h.get 51 rfl, K7.cell, hwx]; try first | exact ⟨rfl, rfl⟩ | rfl) fun a67 hA67 => ?_
          refine wl_op hA67 rfl rfl (by decide) (fun ev h => by simp [go_sem, h.get 7 rfl, K7.cell, hwx]; try first | exact ⟨rfl, rfl⟩ | rfl) fun a68 hA68 => ?_
          -- stop store slot None
          refine wl_setf [.string nm, .int .u32 (e : Nat), .int .u32 ((nx : Int) + 1), .slice A2 l2.length c2] _ hA68 rfl rfl K7 (j := 2) (by rfl) (fun ev h => by simp [go_sem, h.get 53 rfl, h.get 52 rfl, K7.cell, hwx, K7.cell, K7.frozen]; try first | exact ⟨rfl, rfl⟩ | rfl) fun w14 (K7 : Blk _ _ _ _) hs14 => ?_
          have hs14 := hs13.trans hs14
          replace ho2 := ho2.only hs14 hne7 hoff7
          have hz12 := hgr.size
          replace K4 := hs14.blk K4 (by omega)
          replace K3 := hs14.blk K3 (by omega)
          replace HB := hs14.below HB (by omega)
          clear hoff7 hs13
          refine wl_nil ?_
          refine n_then ?_
          have hA69 := hA68.keep [3, 4, 7]
          simp only [argsE, keepE, lookS, Nat.reduceBEq, cond_true, cond_false, Nat.reduceAdd, gv_tt, gv_ff, Bool.true_and, Bool.false_and, Bool.true_or, Bool.false_or] at hA69
          clear hA64 hA65 hA66 hA67 hA68 a63 a65 a66 a67
          refine wp_seq ?_
          -- any
          have hne4 := own_far ho2 (show w2.heap.size < w5.heap.size by omega)
          have hoff4 : ∀ x ∈ l2, Off w2.heap.size x := fun x hx => off_blk (ho2.octs x hx) K4 rfl
          have hz64 : w6.heap.size ≠ w2.heap.size := by omega
          have hz14 : w.heap.size ≤ w2.heap.size := by omega
          refine wp_region_split 4 ?_
          simp only [List.take_succ_cons, List.take_zero, List.drop_succ_cons, List.drop_zero]
          refine wp_any_split_at hA69 [(.det ?dE0), (.det ?dE1), (.det ?dE2), (.det undef)] [⟨none, (some 3), [], fun _ => (fun wy => Blk wy w2.heap.size 25 #[.string ⟨#[]⟩, .int .u32 0, .int .u32 0, .slice none 0 0]), fun _ _ _ _ h => h⟩, ⟨none, none, [], fun _ => (fun wy => OwnM w5.heap.size wy (.slice A2 l2.length c2) l2 ∧ Below w.heap.size w wy), fun _ _ _ _ h => h⟩, ⟨(some 3), none, [], fun _ => (fun wy => Blk wy w2.heap.size 25 #[.string nm, .int .u32 (e : Nat), .int .u32 ((nx : Int) + 1), .slice A2 l2.length c2]), fun _ _ _ _ h => h⟩] (fun wy => (fun wy => Below w2.heap.size w14 wy) wy ∧ Blk wy (w6.heap.size) (25) (#[.string nm, .int .u32 (e : Nat), .int .u32 ((nx : Int) + 1), .slice A2 l2.length c2])) (TSp [(3, (fun wy wz => Only w2.heap.size wy wz))] Grows) (by kernel_rfl) rfl (by kernel_rfl) (by kernel_rfl) rfl (by kernel_rfl) (by kernel_rfl) (by kernel_rfl) (by kernel_rfl) (⟨(Below.refl w2.heap.size w14).drew, (K7).drew⟩) (stab_sp [(3, (fun wy wz => Only w2.heap.size wy wz))] [true, true, true, true] [true, true, true, true] [] rfl rfl rfl (by kernel_rfl) ⟨trivial, trivial, trivial, trivial, trivial⟩ trivial) (List.forall_mem_cons.2 ⟨(fun hn => K4.drew), (List.forall_mem_cons.2 ⟨(fun hn => ⟨ho2.below (Below.refl _ _).drew, HB.drew⟩), (List.forall_mem_cons.2 ⟨(fun hn => by cases hn), (fun _ h => by cases h)⟩)⟩)⟩) (phase_sp [(3, (fun wy wz => Only w2.heap.size wy wz))] [(none, (some 3)), (none, none), ((some 3), none)] [(3, 1)] rfl (by kernel_rfl) (List.forall_mem_cons.2 ⟨fun _ => fun _ _ _ hp hb => hp.below hb hp.lt, (List.forall_mem_cons.2 ⟨fun _ => fun _ _ _ hp hb => ⟨hp.1.below hb, hp.2.trans (hb.mono hp.2.size)⟩, (List.forall_mem_cons.2 ⟨fun _ => fun _ _ _ hp hb => hp.below hb hp.lt, (fun _ h => by cases h)⟩)⟩)⟩) ⟨(fun _ => fun _ _ _ hp h => ⟨hp.1.only h hne4 hoff4, h.below hp.2 hz14⟩), trivial⟩) (List.forall_mem_cons.2 ⟨(fun a h => by first | (exact (no_1 h).elim) | (injection h with h; subst h; exact Nat.le_of_ble_eq_true rfl)), (List.forall_mem_cons.2 ⟨(fun a h => by first | (exact (no_1 h).elim) | (injection h with h; subst h; exact Nat.le_of_ble_eq_true rfl)), (List.forall_mem_cons.2 ⟨(fun a h => by first | (exact (no_1 h).elim) | (injection h with h; subst h; exact Nat.le_of_ble_eq_true rfl)), (fun _ h => by cases h)⟩)⟩)⟩) ⟨?oE0, ?oE1, ?oE2, ?oE3, trivial⟩ (by kernel_rfl) ?fE
          case oE0 =>
            intro ev wo hev hC hs hph
            have e7 := see_env hA69 hs 7 (by kernel_rfl) (by kernel_rfl) rfl
            have Kx3 := K3.below hC.1 (by omega)
            exact ob_det (wanted_none rfl) rfl (by kernel_rfl) hC (TSp.of rfl (Grows.refl _)) (by simp [go_sem, e7, hC.2.cell, Kx3.cell, K3.cell, K7.cell]; try first | exact ⟨rfl, rfl⟩ | rfl)
          case oE1 =>
            intro ev wo hev hC hs hph
            have e3 := see_env hA69 hs 3 (by kernel_rfl) (by kernel_rfl) rfl
            exact ob_det (wanted_none rfl) rfl (by kernel_rfl) hC (TSp.of rfl (Grows.refl _)) (by simp [go_sem, e3]; try first | exact ⟨rfl, rfl⟩ | rfl)
          case oE2 =>
            intro ev wo hev hC hs hph
            have e55 := see_det hs 55 1 (by kernel_rfl) (by kernel_rfl) rfl
            have Kx3 := K3.below hC.1 (by omega)
            exact ob_det (wanted_none rfl) rfl (by kernel_rfl) hC (TSp.of rfl (Grows.refl _)) (by simp [go_sem, e55, hC.2.cell, Kx3.cell, K3.cell, K7.cell]; try first | exact ⟨rfl, rfl⟩ | rfl)
          case oE3 =>
            intro ev wo hev hC hs hph
            have e4 := see_env hA69 hs 4 (by kernel_rfl) (by kernel_rfl) rfl
            have e54 := see_det hs 54 0 (by kernel_rfl) (by kernel_rfl) rfl
            have Kx3 := K3.below hC.1 (by omega)
            have hL := (hph _ List.mem_cons_self (by kernel_rfl))
            exact ob_yes (wanted_none rfl) (does_skip (w' := setAll wo w2.heap.size 0 [.string nm, .int .u32 (e : Nat), .int .u32 ((nx : Int) + 1), .slice A2 l2.length c2]) (by simp [go_sem, e54, e4, setAll, hL.cell, hL.frozen]) ⟨⟨(Only.setAll _ _ _).below hC.1 (Nat.le_refl _), (Only.setAll _ _ _).blk hC.2 hz64⟩, TSp.sp rfl (Only.setAll _ _ _), rfl, (List.forall_mem_cons.2 ⟨fun h => (no_1 h).elim, (List.forall_mem_cons.2 ⟨fun h => (no_1 h).elim, (List.forall_mem_cons.2 ⟨fun _ => by simpa using blk_setAll [.string nm, .int .u32 (e : Nat), .int .u32 ((nx : Int) + 1), .slice A2 l2.length c2] 0 _ _ hL rfl, (fun _ h => by cases h)⟩)⟩)⟩)⟩)
          intro sg wf hC hph
          intro a70 hA70
          have hA71 := hA70.keep [4, 56]
          simp only [argsE, keepE, lookS, Nat.reduceBEq, cond_true, cond_false, Nat.reduceAdd, gv_tt, gv_ff, Bool.true_and, Bool.false_and, Bool.true_or, Bool.false_or] at hA71
          clear hA69 hA70 a68
          have KG := (hph _ (List.mem_cons_of_mem _ (List.mem_cons_of_mem _ List.mem_cons_self)) rfl)
          have hO := (hph _ (List.mem_cons_of_mem _ List.mem_cons_self) rfl)
          refine wl_op hA71 rfl rfl (by decide) (fun ev h => by simp [go_sem, h.get 56 rfl, KG.cell]; try first | exact ⟨rfl, rfl⟩ | rfl) fun a72 hA72 => ?_
          refine wl_op hA72 rfl rfl (by decide) (fun ev h => by simp [go_sem, h.c, KG.cell]; try first | exact ⟨rfl, rfl⟩ | rfl) fun a73 hA73 => ?_
          refine wl_nil ?_
          refine n_then ?_
          have hA74 := hA73.keep [4, 5, 6]
          simp only [argsE, keepE, lookS, Nat.reduceBEq, cond_true, cond_false, Nat.reduceAdd, gv_tt, gv_ff, Bool.true_and, Bool.false_and, Bool.true_or, Bool.false_or] at hA74
          clear hA71 hA72 hA73 a70 a72
          refine wp_ret ?_
          -- ret
          refine bodyPost_ret (by simp [results, Tryd.results17, go_sem, hA74.env 4 _ rfl, hA74.env 5 _ rfl, hA74.env 6 _ rfl, KG.cell]; try first | exact ⟨rfl, rfl⟩ | rfl) hA74.defers ?_
          refine ⟨_, rfl, ⟨_, l2, rfl, hO.1.mono (by omega), ?_, ?_⟩, hO.2⟩
          · rw [← hl2]
            unfold bare at hbl ⊢
            rw [List.map_append, hbl]
            rfl
          · rw [← hl2]
            exact (hno.mono (by omega)).append hnew
end Go.Proofs.YtbbhblnhbgkcaaaDoor
