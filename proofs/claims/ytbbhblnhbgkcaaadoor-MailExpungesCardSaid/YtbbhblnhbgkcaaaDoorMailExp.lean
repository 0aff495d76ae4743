/-
  Walks: messages that go are taken from a mailbox.
-/
import Derived.Test.YtbbhblnhbgkcaaaDoorMailDelete
namespace Go.Proofs.YtbbhblnhbgkcaaaDoor
open Go.RowKit
set_option linter.unusedSimpArgs false
set_option linter.unusedVariables false
theorem goes_strip (all : Bool) (us : List Nat) (m : MsgV) : goesV all us (strip m) = goesV all us m := rfl
theorem leftL_bare (all : Bool) (us : List Nat) (l : List MsgV) : leftL (goesV all us) (bare l) = bare (leftL (goesV all us) l) := by
  unfold leftL bare
  rw [List.filter_map]
  rfl
theorem goneL_bare (all : Bool) (us : List Nat) (l : List MsgV) : goneL (goesV all us) (bare l) = goneL (goesV all us) l := by
  unfold goneL bare
  rw [List.filter_map, List.map_map]
  rfl
def expV (nm : ByteArray) (e nx : Nat) (l : List MsgV) (us : List Nat) (all : Bool) : BoxV := ⟨nm, e, nx, leftL (goesV all us) (bare l)⟩
def exV (nm : ByteArray) (e nx : Nat) (l : List MsgV) (us : List Nat) (all : Bool) : BoxV × List Nat × Nat := bif !boxRight nm e nx l then (zeroB, [], 1) else (expV nm e nx l us all, goneL (goesV all us) (bare l), 0)
set_option maxRecDepth 100000 in
set_option maxHeartbeats 2000000 in
theorem exp_any (nm : ByteArray) (A A2 : Option Addr) (c n e nx c2 k : Nat) (l : List MsgV) (us : List Nat) (all : Bool) (w : World) (hm : MaxCell w) (hg : 1 < w.heap.size) (htab : Lib.TabIs Tryd.prog w "internal/strconv.uint64pow10" .u64 Lib.pow10Tab)
    (hs : nm.size ≤ 9223372036854775807) (hn : n ≤ 140737488355328) (hms : Msgs w A n l) (hk : k ≤ 140737488355328) (hus : us.length = k) (hur : Reads w w.heap.size 1 A2 k (u32s us)) :
    Calls Tryd.prog 21 #[.agg (boxC nm e nx A n c), .slice A2 k c2, .bool all] w fun ev w' => ∃ r vg, ev = .returned (.tuple #[r, vg, .int .i64 ((exV nm e nx l us all).2.2 : Nat)]) ∧ GivesB w.heap.size w' r (exV nm e nx l us all).1 ∧ OwnU w.heap.size w' vg (exV nm e nx l us all).2.1 ∧ Below w.heap.size w w' := by
  have Ht := Lib.tabBelow_of_tabIs htab
  have hl := hms.len
  refine calls_at 24 Tryd.func21 rfl rfl (Nat.le_of_ble_eq_true rfl) ?_
  intro a hA
  simp only [argsE, keepE, lookS, Nat.reduceBEq, cond_true, cond_false, Nat.reduceAdd, gv_tt, gv_ff, Bool.true_and, Bool.false_and, Bool.true_or, Bool.false_or] at hA
  refine wp_seq ?_
  refine wp_region_lit ?_
  -- stop box slot 3
  refine wl_new hA rfl rfl (by decide) (fun ev h => by simp [go_sem, h.get 0 rfl]; try first | exact ⟨rfl, rfl⟩ | rfl) fun w1 a1 (K : Blk _ _ _ _) hz1 hb1 hA1 => ?_
  replace hm := hm.below hg hb1; replace hg := Nat.lt_of_lt_of_le hg hb1.size
  refine wl_new hA1 rfl rfl (by decide) (fun ev h => by simp [go_sem, h.get 1 rfl]; try first | exact ⟨rfl, rfl⟩ | rfl) fun w2 a2 (Ku : Blk _ _ _ _) hz2 hb2 hA2 => ?_
  replace hm := hm.below hg hb2; replace hg := Nat.lt_of_lt_of_le hg hb2.size
  replace K := K.below hb2 K.lt
  refine wl_new hA2 rfl rfl (by decide) (fun ev h => by simp [go_sem, h.get 2 rfl]; try first | exact ⟨rfl, rfl⟩ | rfl) fun w3 a3 (Ka : Blk _ _ _ _) hz3 hb3 hA3 => ?_
  replace hm := hm.below hg hb3; replace hg := Nat.lt_of_lt_of_le hg hb3.size
  replace K := K.below hb3 K.lt
  replace Ku := Ku.below hb3 Ku.lt
  refine wl_new hA3 rfl rfl (by decide) (fun ev h => by simp [go_sem]; try first | exact ⟨rfl, rfl⟩ | rfl) fun w4 a4 (K6 : Blk _ _ _ _) hz4 hb4 hA4 => ?_
  replace hm := hm.below hg hb4; replace hg := Nat.lt_of_lt_of_le hg hb4.size
  replace K := K.below hb4 K.lt
  replace Ku := Ku.below hb4 Ku.lt
  replace Ka := Ka.below hb4 Ka.lt
  have HB : Below w.heap.size w w4 := hb1.trans ((hb2.trans ((hb3.trans (hb4.mono hb3.size)).mono hb2.size)).mono hb1.size)
  unfold boxC at K
  refine wl_op hA4 rfl rfl (by decide) (fun ev h => by simp [go_sem, h.c, K.cell]; try first | exact ⟨rfl, rfl⟩ | rfl) fun a5 hA5 => ?_
  refine wl_op hA5 rfl rfl (by decide) (fun ev h => by simp [go_sem, h.c, K.cell]; try first | exact ⟨rfl, rfl⟩ | rfl) fun a6 hA6 => ?_
  refine wl_nil ?_
  refine n_then ?_
  have hA7 := hA6.keep [3, 4, 5, 6]
  simp only [argsE, keepE, lookS, Nat.reduceBEq, cond_true, cond_false, Nat.reduceAdd, gv_tt, gv_ff, Bool.true_and, Bool.false_and, Bool.true_or, Bool.false_or] at hA7
  clear hA hA1 hA2 hA3 hA4 hA5 hA6 a1 a2 a3 a4 a5
  refine wp_seq ?_
  refine wp_seq ?_
  refine wp_region_lit ?_
  refine wl_op hA7 rfl rfl (by decide) (fun ev h => by simp [go_sem, h.get 3 rfl, K.cell]; try first | exact ⟨rfl, rfl⟩ | rfl) fun a8 hA8 => ?_
  -- stop call slot 12
  refine wl_call hA8 rfl rfl (by decide) (fun ev h => by simp [go_sem, h.get 11 rfl, K.cell, h.f]; try first | exact ⟨rfl, rfl⟩ | rfl) (right_any nm A c n e nx l _ hm hg (Ht _ HB) hs (by omega) (hms.below HB)) ?_
  rintro e w5 ⟨rfl, hb5⟩
  refine ⟨_, rfl, fun a9 hA9 => ?_⟩
  replace hm := hm.below hg hb5; replace hg := Nat.lt_of_lt_of_le hg hb5.size
  replace K := K.below hb5 K.lt
  replace Ku := Ku.below hb5 Ku.lt
  replace Ka := Ka.below hb5 Ka.lt
  replace K6 := K6.below hb5 K6.lt
  replace HB := HB.trans (hb5.mono HB.size)
  have hz5 := hb5.size
  refine wl_op hA9 rfl rfl (by decide) (fun ev h => by simp [go_sem, h.get 12 rfl, K.cell]; try first | exact ⟨rfl, rfl⟩ | rfl) fun a10 hA10 => ?_
  refine wl_nil ?_
  refine n_then ?_
  have hA11 := hA10.keep [3, 4, 5, 6, 13]
  simp only [argsE, keepE, lookS, Nat.reduceBEq, cond_true, cond_false, Nat.reduceAdd, gv_tt, gv_ff, Bool.true_and, Bool.false_and, Bool.true_or, Bool.false_or] at hA11
  clear hA7 hA8 hA9 hA10 a6 a8 a9
  -- cond
  refine wp_if hA11 13 _ rfl (fun hq => ?yA) (fun hq => ?nA)
  case yA =>
    have hap : exV nm e nx l us all = (zeroB, [], 1) := by unfold exV; rw [hq]; rfl
    rw [hap]
    refine wp_seq ?_
    refine wp_region_lit ?_
    refine wl_op hA11 rfl rfl (by decide) (fun ev h => by simp [go_sem, K.cell]; try first | exact ⟨rfl, rfl⟩ | rfl) fun a12 hA12 => ?_
    -- stop store slot None
    refine wl_set [.string ⟨#[]⟩, .int .u32 0, .int .u32 0, .slice none 0 0] hA12 rfl rfl K6 (by rfl) (fun ev h => by simp [go_sem, h.get 6 rfl, h.get 14 rfl, K.cell, setAll, K6.cell, K6.frozen]) fun w6 (K6 : Blk _ _ _ _) hs6 => ?_
    refine wl_op hA12 rfl rfl (by decide) (fun ev h => by simp [go_sem, h.c, K6.cell]; try first | exact ⟨rfl, rfl⟩ | rfl) fun a13 hA13 => ?_
    refine wl_op hA13 rfl rfl (by decide) (fun ev h => by simp [go_sem, h.c, K6.cell]; try first | exact ⟨rfl, rfl⟩ | rfl) fun a14 hA14 => ?_
    refine wl_nil ?_
    refine n_then ?_
    have hA15 := hA14.keep [6, 7, 8]
    simp only [argsE, keepE, lookS, Nat.reduceBEq, cond_true, cond_false, Nat.reduceAdd, gv_tt, gv_ff, Bool.true_and, Bool.false_and, Bool.true_or, Bool.false_or] at hA15
    clear hA11 hA12 hA13 hA14 a12 a13
    refine wp_ret ?_
    refine r_then ?_
    refine bodyPost_ret (by simp [results, Tryd.results21, go_sem, hA15.env 6 _ rfl, hA15.env 7 _ rfl, hA15.env 8 _ rfl, K6.cell]; try first | exact ⟨rfl, rfl⟩ | rfl) hA15.defers ?_
    exact ⟨_, _, rfl, GivesB.zero _ _, OwnU.nil _ _, hs6.below HB (by omega)⟩
  case nA =>
    have hap : exV nm e nx l us all = (expV nm e nx l us all, goneL (goesV all us) (bare l), 0) := by unfold exV; rw [hq]; rfl
    have hri : boxRight nm e nx l = true := by simpa using hq
    have hn5 : n ≤ 500 := by
      unfold boxRight at hri
      simp only [Bool.and_eq_true, decide_eq_true_eq] at hri
      rw [← hl]; exact hri.1.2
    rw [hap]
    unfold expV
    clear hq hap
    refine wp_skip ?_
    refine n_then ?_
    refine wp_seq ?_
    refine wp_region_lit ?_
    refine wl_op hA11 rfl rfl (by decide) (fun ev h => by simp [go_sem, h.get 3 rfl, K.cell]; try first | exact ⟨rfl, rfl⟩ | rfl) fun a16 hA16 => ?_
    -- stop call slot 16
    refine wl_call hA16 rfl rfl (by decide) (fun ev h => by simp [go_sem, h.get 15 rfl, K.cell, h.f]; try first | exact ⟨rfl, rfl⟩ | rfl) (cloneBox_any nm A c n e nx l _ (by omega) (fun x hx => Nat.le_trans (right_msg hri hx).2.2 (by omega)) (hms.below HB)) ?_
    rintro e w6 ⟨v, l1, rfl, ho, hbl, hb6⟩
    refine ⟨_, rfl, fun a17 hA17 => ?_⟩
    replace Ku := Ku.below hb6 Ku.lt
    replace Ka := Ka.below hb6 Ka.lt
    replace K6 := K6.below hb6 K6.lt
    replace HB := HB.trans (hb6.mono HB.size)
    have hll := len_of_bare hbl
    obtain ⟨A1, c1, hv, hm1, hc1⟩ := ho.msgs
    subst hv
    clear hm1
    rw [hll, hl] at hc1 ho
    rw [hll, hl] at hA17
    have hz6 := hb6.size
    -- stop alloc slot 9
    refine wl_local [.string nm, .int .u32 (e : Nat), .int .u32 (nx : Nat), .slice A1 n c1] hA17 rfl rfl (by decide) (fun ev h => by simp [go_sem, K.cell]; try first | exact ⟨rfl, rfl⟩ | rfl) rfl rfl (by rfl) (fun w1 g ev hb h => by simp [go_sem, h.get 9 rfl, h.get 16 rfl, K.cell, setAll, hb.cell, hb.frozen]) fun w7 a18 (K9 : Blk _ _ _ _) hz7 hb7 hA18 => ?_
    replace Ku := Ku.below hb7 Ku.lt
    replace Ka := Ka.below hb7 Ka.lt
    replace K6 := K6.below hb7 K6.lt
    replace HB := HB.trans (hb7.mono HB.size)
    replace ho := ho.below hb7
    refine wl_nil ?_
    refine n_then ?_
    have hA19 := hA18.keep [4, 5, 6, 9]
    simp only [argsE, keepE, lookS, Nat.reduceBEq, cond_true, cond_false, Nat.reduceAdd, gv_tt, gv_ff, Bool.true_and, Bool.false_and, Bool.true_or, Bool.false_or] at hA19
    clear hA11 hA16 hA17 hA18 a16 a17
    refine wp_seq ?_
    refine wp_region_lit ?_
    -- stop alloc slot 10
    refine wl_new hA19 rfl rfl (by decide) (fun ev h => by simp [go_sem, K.cell]; try first | exact ⟨rfl, rfl⟩ | rfl) fun w8 a20 (Kg : Blk _ _ _ _) hz8 hb8 hA20 => ?_
    replace Ku := Ku.below hb8 Ku.lt
    replace Ka := Ka.below hb8 Ka.lt
    replace K6 := K6.below hb8 K6.lt
    replace HB := HB.trans (hb8.mono HB.size)
    replace ho := ho.below hb8
    replace K9 := K9.below hb8 K9.lt
    refine wl_nil ?_
    refine n_then ?_
    have hA21 := hA20.keep [4, 5, 6, 9, 10]
    simp only [argsE, keepE, lookS, Nat.reduceBEq, cond_true, cond_false, Nat.reduceAdd, gv_tt, gv_ff, Bool.true_and, Bool.false_and, Bool.true_or, Bool.false_or] at hA21
    clear hA19 hA20 a18
    refine wp_seq ?_
    refine wp_region_lit ?_
    refine wl_op hA21 rfl rfl (by decide) (fun ev h => by simp [go_sem, h.get 9 rfl, K9.cell]; try first | exact ⟨rfl, rfl⟩ | rfl) fun a22 hA22 => ?_
    refine wl_op hA22 rfl rfl (by decide) (fun ev h => by simp [go_sem, h.get 17 rfl, K9.cell]; try first | exact ⟨rfl, rfl⟩ | rfl) fun a23 hA23 => ?_
    -- stop makeFunc slot 19
    refine wl_op hA23 rfl rfl (by decide) (fun ev h => by simp [go_sem, h.get 5 rfl, h.get 4 rfl, h.get 10 rfl, K9.cell]; try first | exact ⟨rfl, rfl⟩ | rfl) fun a24 hA24 => ?_
    have hG : Gone w8.heap.size w7.heap.size w8 [] := ⟨_, Kg, OwnU.nil _ _⟩
    have D := deleteE_any (w.heap.size + 2) (w.heap.size + 1) w7.heap.size k c2 w5.heap.size all A2 us A1 c1 n l1 w8 (by rw [show w.heap.size + 2 = w2.heap.size by omega]; exact Ka) (by rw [show w.heap.size + 1 = w1.heap.size by omega]; exact Ku) hG (by omega) (by omega) (by omega) (by omega) hk hus ((hur.below HB).more (by omega)) (by omega) ho
    unfold clos at D
    rw [show w.heap.size + 2 = w2.heap.size by omega, show w.heap.size + 1 = w1.heap.size by omega] at D
    have hne9 := own_ne ho.row K9 (by decide)
    refine wl_call hA24 rfl rfl (by decide) (fun ev h => by simp [go_sem, h.get 18 rfl, h.get 19 rfl, K9.cell, h.f]; try first | exact ⟨rfl, rfl⟩ | rfl) (D) ?_
    rintro e w9 ⟨v2, rfl, ho2, hG2, hap⟩
    refine ⟨_, rfl, fun a25 hA25 => ?_⟩
    have hBel : Below w5.heap.size w8 w9 := hap.toBelow (fun q hq => by
      rcases hq with h | h
      · omega
      · exact own_ge ho h) (by omega)
    have hz9 := hap.size
    replace HB := HB.trans (hBel.mono (by omega))
    replace K6 := K6.below hBel (by omega)
    replace K9 := hap.blk K9 (fun h => by
      rcases h with h | h
      · omega
      · exact hne9 _ h rfl)
    clear Ka Ku Kg hG hap ho hne9
    obtain ⟨A3, c3, hv, _, _⟩ := ho2.msgs
    subst hv
    obtain ⟨vg, Kg, hu⟩ := hG2
    obtain ⟨l2, hl2⟩ : ∃ l2, leftL (goesV all us) l1 = l2 := ⟨_, rfl⟩
    obtain ⟨gs, hgs⟩ : ∃ gs, goneL (goesV all us) l1 = gs := ⟨_, rfl⟩
    rw [hl2] at ho2 hA25
    rw [hgs] at hu
    have hne9 := own_ne ho2.row K9 (by decide)
    have hoff9 : ∀ m ∈ l2, Off w6.heap.size m := fun m hm => off_blk (ho2.octs m hm) K9 rfl
    have hneu := own_ne hu K9 (by decide)
    refine wl_op hA25 rfl rfl (by decide) (fun ev h => by simp [go_sem, h.get 9 rfl, K9.cell]; try first | exact ⟨rfl, rfl⟩ | rfl) fun a26 hA26 => ?_
    -- stop store slot None
    refine wl_setf [.string nm, .int .u32 (e : Nat), .int .u32 (nx : Nat), .slice A3 l2.length c3] _ hA26 rfl rfl K9 (j := 3) (by rfl) (fun ev h => by simp [go_sem, h.get 21 rfl, h.get 20 rfl, K9.cell, K9.cell, K9.frozen]; try first | exact ⟨rfl, rfl⟩ | rfl) fun w10 (K9 : Blk _ _ _ _) hs10 => ?_
    replace ho2 := ho2.only hs10 hne9 hoff9
    replace hu := hu.keep fun g hg => hs10.block g (hneu g hg)
    replace Kg := hs10.blk Kg (by omega)
    replace K6 := hs10.blk K6 (by omega)
    replace HB := hs10.below HB (by omega)
    have hz10 := hs10.size
    obtain ⟨Ag, cg, hvg, _⟩ := hu.reads
    subst hvg
    have hneo := own_far ho2 (show w3.heap.size < w5.heap.size by omega)
    have hoff6 : ∀ m ∈ l2, Off w3.heap.size m := fun m hm => off_blk (ho2.octs m hm) K6 rfl
    have hneg := own_ne hu K6 (by decide)
    have z1 : w6.heap.size ≠ w3.heap.size := by omega
    have z2 : w7.heap.size ≠ w3.heap.size := by omega
    have z3 : w.heap.size ≤ w3.heap.size := by omega
    clear hoff9 hneu hne9
    refine wl_nil ?_
    refine n_then ?_
    have hA27 := hA26.keep [6, 9, 10]
    simp only [argsE, keepE, lookS, Nat.reduceBEq, cond_true, cond_false, Nat.reduceAdd, gv_tt, gv_ff, Bool.true_and, Bool.false_and, Bool.true_or, Bool.false_or] at hA27
    clear hA21 hA22 hA23 hA24 hA25 hA26 a20 a22 a23 a24 a25
    refine wp_seq ?_
    -- any
    refine wp_region_split 3 ?_
    simp only [List.take_succ_cons, List.take_zero, List.drop_succ_cons, List.drop_zero]
    refine wp_any_split_at hA27 [(.det ?dF0), (.det ?dF1), (.det undef)] [⟨none, none, fun wy => Blk wy w6.heap.size 25 #[.string nm, .int .u32 (e : Nat), .int .u32 (nx : Nat), .slice A3 l2.length c3] ∧ Blk wy w7.heap.size 42 #[.slice Ag gs.length cg] ∧ OwnM w5.heap.size wy (.slice A3 l2.length c3) l2 ∧ OwnU w8.heap.size wy (.slice Ag gs.length cg) gs ∧ Below w.heap.size w wy⟩, ⟨none, (some 2), fun wy => Blk wy w3.heap.size 25 #[.string ⟨#[]⟩, .int .u32 0, .int .u32 0, .slice none 0 0]⟩, ⟨(some 2), none, fun wy => Blk wy w3.heap.size 25 #[.string nm, .int .u32 (e : Nat), .int .u32 (nx : Nat), .slice A3 l2.length c3]⟩] (fun wy => Below w3.heap.size w10 wy) (TSp [(2, (fun wy wz => Only w3.heap.size wy wz))] Grows) (by kernel_rfl) rfl (by kernel_rfl) (by kernel_rfl) rfl (by kernel_rfl) (by kernel_rfl) (by kernel_rfl) (by kernel_rfl) ((Below.refl w3.heap.size w10).drew) (stab_sp [(2, (fun wy wz => Only w3.heap.size wy wz))] [true, true, true] [true, true, true] [] rfl rfl rfl (by kernel_rfl) ⟨trivial, trivial, trivial, trivial⟩ trivial) (List.forall_mem_cons.2 ⟨(fun hn => ⟨K9.drew, Kg.drew, ho2.below (Below.refl _ _).drew, hu.below (Below.refl _ _).drew, HB.drew⟩), (List.forall_mem_cons.2 ⟨(fun hn => K6.drew), (List.forall_mem_cons.2 ⟨(fun hn => by cases hn), (fun _ h => by cases h)⟩)⟩)⟩) (phase_sp [(2, (fun wy wz => Only w3.heap.size wy wz))] [(none, none), (none, (some 2)), ((some 2), none)] [(2, 0)] rfl (by kernel_rfl) (List.forall_mem_cons.2 ⟨fun _ _ _ hp hb => ⟨hp.1.below hb hp.1.lt, hp.2.1.below hb hp.2.1.lt, hp.2.2.1.below hb, hp.2.2.2.1.below hb, hp.2.2.2.2.trans (hb.mono hp.2.2.2.2.size)⟩, (List.forall_mem_cons.2 ⟨fun _ _ _ hp hb => hp.below hb hp.lt, (List.forall_mem_cons.2 ⟨fun _ _ _ hp hb => hp.below hb hp.lt, (fun _ h => by cases h)⟩)⟩)⟩) ⟨(fun _ _ _ hp h => ⟨h.blk hp.1 z1, h.blk hp.2.1 z2, hp.2.2.1.only h hneo hoff6, hp.2.2.2.1.keep fun g hg => h.block g (hneg g hg), h.below hp.2.2.2.2 z3⟩), trivial⟩) (List.forall_mem_cons.2 ⟨(fun a h => by first | (exact (no_1 h).elim) | (injection h with h; subst h; exact Nat.le_of_ble_eq_true rfl)), (List.forall_mem_cons.2 ⟨(fun a h => by first | (exact (no_1 h).elim) | (injection h with h; subst h; exact Nat.le_of_ble_eq_true rfl)), (List.forall_mem_cons.2 ⟨(fun a h => by first | (exact (no_1 h).elim) | (injection h with h; subst h; exact Nat.le_of_ble_eq_true rfl)), (fun _ h => by cases h)⟩)⟩)⟩) ⟨?oF0, ?oF1, ?oF2, trivial⟩ ?fF
    case oF0 =>
      intro ev wo hev hC hs hph
      have e9 := see_env hA27 hs 9 (by kernel_rfl) (by kernel_rfl) rfl
      have hO := (hph _ List.mem_cons_self (by kernel_rfl))
      exact ob_det (wanted_none rfl) rfl (by kernel_rfl) hC (TSp.of rfl (Grows.refl _)) (by simp [go_sem, e9, hO.1.cell, hO.2.1.cell, K9.cell]; try first | exact ⟨rfl, rfl⟩ | rfl)
    case oF1 =>
      intro ev wo hev hC hs hph
      have e10 := see_env hA27 hs 10 (by kernel_rfl) (by kernel_rfl) rfl
      have hO := (hph _ List.mem_cons_self (by kernel_rfl))
      exact ob_det (wanted_none rfl) rfl (by kernel_rfl) hC (TSp.of rfl (Grows.refl _)) (by simp [go_sem, e10, hO.1.cell, hO.2.1.cell, K9.cell]; try first | exact ⟨rfl, rfl⟩ | rfl)
    case oF2 =>
      intro ev wo hev hC hs hph
      have e6 := see_env hA27 hs 6 (by kernel_rfl) (by kernel_rfl) rfl
      have e22 := see_det hs 22 0 (by kernel_rfl) (by kernel_rfl) rfl
      have hO := (hph _ List.mem_cons_self (by kernel_rfl))
      have hL := (hph _ (List.mem_cons_of_mem _ List.mem_cons_self) (by kernel_rfl))
      exact ob_yes (wanted_none rfl) (does_skip (w' := setAll wo w3.heap.size 0 [.string nm, .int .u32 (e : Nat), .int .u32 (nx : Nat), .slice A3 l2.length c3]) (by simp [go_sem, e22, e6, setAll, hL.cell, hL.frozen]) ⟨(Only.setAll _ _ _).below hC (Nat.le_refl _), TSp.sp rfl (Only.setAll _ _ _), rfl, (List.forall_mem_cons.2 ⟨fun h => (no_1 h).elim, (List.forall_mem_cons.2 ⟨fun h => (no_1 h).elim, (List.forall_mem_cons.2 ⟨fun _ => by simpa using blk_setAll [.string nm, .int .u32 (e : Nat), .int .u32 (nx : Nat), .slice A3 l2.length c3] 0 _ _ hL rfl, (fun _ h => by cases h)⟩)⟩)⟩)⟩)
    intro wf hC hph
    intro a28 hA28
    have hA29 := hA28.keep [6, 23]
    simp only [argsE, keepE, lookS, Nat.reduceBEq, cond_true, cond_false, Nat.reduceAdd, gv_tt, gv_ff, Bool.true_and, Bool.false_and, Bool.true_or, Bool.false_or] at hA29
    clear hA27 hA28 a26
    have KG := (hph _ (List.mem_cons_of_mem _ (List.mem_cons_of_mem _ List.mem_cons_self)) rfl)
    have hO := (hph _ List.mem_cons_self rfl)
    refine wl_op hA29 rfl rfl (by decide) (fun ev h => by simp [go_sem, h.get 23 rfl, KG.cell]; try first | exact ⟨rfl, rfl⟩ | rfl) fun a30 hA30 => ?_
    refine wl_op hA30 rfl rfl (by decide) (fun ev h => by simp [go_sem, h.c, KG.cell]; try first | exact ⟨rfl, rfl⟩ | rfl) fun a31 hA31 => ?_
    refine wl_nil ?_
    refine n_then ?_
    have hA32 := hA31.keep [6, 7, 8]
    simp only [argsE, keepE, lookS, Nat.reduceBEq, cond_true, cond_false, Nat.reduceAdd, gv_tt, gv_ff, Bool.true_and, Bool.false_and, Bool.true_or, Bool.false_or] at hA32
    clear hA29 hA30 hA31 a28 a30
    refine wp_ret ?_
    -- ret
    refine bodyPost_ret (by simp [results, Tryd.results21, go_sem, hA32.env 6 _ rfl, hA32.env 7 _ rfl, hA32.env 8 _ rfl, KG.cell]; try first | exact ⟨rfl, rfl⟩ | rfl) hA32.defers ?_
    refine ⟨_, _, rfl, ⟨_, l2, rfl, hO.2.2.1.mono (by omega), ?_⟩, ?_, hO.2.2.2.2⟩
    · rw [← hl2, ← leftL_bare, hbl]
    · rw [← hbl, goneL_bare, hgs]
      exact hO.2.2.2.1.mono (by omega)
end Go.Proofs.YtbbhblnhbgkcaaaDoor
