/-
  Walks: messages that go are taken from a mailbox, as the document says.
-/
import Derived.Test.YtbbhblnhbgkcaaaDoorMailExp
namespace Go.Proofs.YtbbhblnhbgkcaaaDoor
open Go.RowKit
set_option linter.unusedSimpArgs false
set_option linter.unusedVariables false
set_option maxRecDepth 100000 in
set_option maxHeartbeats 2000000 in
theorem refExp_any (nm : ByteArray) (A A2 : Option Addr) (c n e nx c2 k : Nat) (l : List MsgV) (us : List Nat) (all : Bool) (w : World)
    (hn : n ≤ 100000) (hms : Msgs w A n l) (hk : k ≤ 140737488355328) (hus : us.length = k) (hur : Reads w w.heap.size 1 A2 k (u32s us)) :
    Calls Tryd.prog 22 #[.agg (boxC nm e nx A n c), .slice A2 k c2, .bool all] w fun ev w' => ∃ r vg, ev = .returned (.tuple #[r, vg]) ∧ GivesB w.heap.size w' r (expV nm e nx l us all) ∧ OwnU w.heap.size w' vg (goneL (goesV all us) l) ∧ Below w.heap.size w w' := by
  have hl := hms.len
  unfold expV
  refine calls_at 51 Tryd.func22 rfl rfl (Nat.le_of_ble_eq_true rfl) ?_
  intro a hA
  simp only [argsE, keepE, lookS, Nat.reduceBEq, cond_true, cond_false, Nat.reduceAdd, gv_tt, gv_ff, Bool.true_and, Bool.false_and, Bool.true_or, Bool.false_or] at hA
  refine wp_seq ?_
  refine wp_region_lit ?_
  -- stop box slot 3
  refine wl_new hA rfl rfl (by decide) (fun ev h => by simp [go_sem, h.get 0 rfl]; try first | exact ⟨rfl, rfl⟩ | rfl) fun w1 a1 (K : Blk _ _ _ _) hz1 hb1 hA1 => ?_
  refine wl_new hA1 rfl rfl (by decide) (fun ev h => by simp [go_sem]; try first | exact ⟨rfl, rfl⟩ | rfl) fun w2 a2 (K6 : Blk _ _ _ _) hz2 hb2 hA2 => ?_
  replace K := K.below hb2 K.lt
  have HB := hb1.trans (hb2.mono hb1.size)
  unfold boxC at K
  refine wl_op hA2 rfl rfl (by decide) (fun ev h => by simp [go_sem, h.c, K.cell]; try first | exact ⟨rfl, rfl⟩ | rfl) fun a3 hA3 => ?_
  refine wl_nil ?_
  refine n_then ?_
  have hA4 := hA3.keep [1, 2, 3, 6]
  simp only [argsE, keepE, lookS, Nat.reduceBEq, cond_true, cond_false, Nat.reduceAdd, gv_tt, gv_ff, Bool.true_and, Bool.false_and, Bool.true_or, Bool.false_or] at hA4
  clear hA hA1 hA2 hA3 a1 a2
  refine wp_seq ?_
  refine wp_region_lit ?_
  refine wl_op hA4 rfl rfl (by decide) (fun ev h => by simp [go_sem, h.c, K.cell]; try first | exact ⟨rfl, rfl⟩ | rfl) fun a5 hA5 => ?_
  refine wl_nil ?_
  refine n_then ?_
  have hA6 := hA5.keep [1, 2, 3, 6, 8]
  simp only [argsE, keepE, lookS, Nat.reduceBEq, cond_true, cond_false, Nat.reduceAdd, gv_tt, gv_ff, Bool.true_and, Bool.false_and, Bool.true_or, Bool.false_or] at hA6
  clear hA4 hA5 a3
  refine wp_seq ?_
  refine wp_region_lit ?_
  refine wl_op hA6 rfl rfl (by decide) (fun ev h => by simp [go_sem, h.c, K.cell]; try first | exact ⟨rfl, rfl⟩ | rfl) fun a7 hA7 => ?_
  refine wl_nil ?_
  refine n_then ?_
  have hA8 := hA7.keep [1, 2, 3, 6, 8, 9]
  simp only [argsE, keepE, lookS, Nat.reduceBEq, cond_true, cond_false, Nat.reduceAdd, gv_tt, gv_ff, Bool.true_and, Bool.false_and, Bool.true_or, Bool.false_or] at hA8
  clear hA6 hA7 a5
  refine wp_seq ?_
  refine wp_seq ?_
  refine wp_region_lit ?_
  refine wl_op hA8 rfl rfl (by decide) (fun ev h => by simp [go_sem, h.get 3 rfl, K.cell]; try first | exact ⟨rfl, rfl⟩ | rfl) fun a9 hA9 => ?_
  refine wl_op hA9 rfl rfl (by decide) (fun ev h => by simp [go_sem, h.get 12 rfl, K.cell]; try first | exact ⟨rfl, rfl⟩ | rfl) fun a10 hA10 => ?_
  refine wl_op hA10 rfl rfl (by decide) (fun ev h => by simp [go_sem, h.get 13 rfl, K.cell]; try first | exact ⟨rfl, rfl⟩ | rfl) fun a11 hA11 => ?_
  refine wl_op hA11 rfl rfl (by decide) (fun ev h => by simp [go_sem, h.c, K.cell]; try first | exact ⟨rfl, rfl⟩ | rfl) fun a12 hA12 => ?_
  refine wl_nil ?_
  refine n_then ?_
  have hA13 := hA12.keep [1, 2, 3, 6, 8, 9, 14, 15]
  simp only [argsE, keepE, lookS, Nat.reduceBEq, cond_true, cond_false, Nat.reduceAdd, gv_tt, gv_ff, Bool.true_and, Bool.false_and, Bool.true_or, Bool.false_or] at hA13
  clear hA8 hA9 hA10 hA11 hA12 a7 a9 a10 a11
  refine wp_block ?_
  -- loop
  refine wp_loop_at (fun kk a wx => ∃ (j : Nat) (v8 v9 : Value), j + kk = n ∧ At 51 [(1, .slice A2 k c2), (2, .bool all), (3, .pointer (some ⟨w.heap.size, 0, none⟩)), (6, .pointer (some ⟨w1.heap.size, 0, none⟩)), (8, v8), (9, v9), (14, .int .i64 (n : Nat)), (15, .int .i64 (j : Nat))] a ∧ OwnM w2.heap.size wx v8 (leftL (goesV all us) (l.take j)) ∧ OwnU w2.heap.size wx v9 (goneL (goesV all us) (l.take j)) ∧ Blk wx w.heap.size 25 #[.string nm, .int .u32 (e : Nat), .int .u32 (nx : Nat), .slice A n c] ∧ Blk wx w1.heap.size 25 #[.string ⟨#[]⟩, .int .u32 0, .int .u32 0, .slice none 0 0] ∧ Below w.heap.size w wx ∧ w2.heap.size ≤ wx.heap.size) (n) ?_ ?_
  · exact ⟨0, _, _, by omega, hA13, OwnM.nil _ _, OwnU.nil _ _, K, K6, HB, Nat.le_refl _⟩
  clear HB K K6
  rintro kk a wx ⟨j, v8, v9, hjk, hA, ho, hu, K, K6, HB, hsx⟩
  refine wp_seq ?_
  refine wp_region_lit ?_
  refine wl_op hA rfl rfl (by decide) (fun ev h => by simp [go_sem, h.get 15 rfl, h.get 14 rfl]; try first | exact ⟨rfl, rfl⟩ | rfl) fun a14 hA14 => ?_
  refine wl_nil ?_
  refine n_then ?_
  have hA15 := hA14.keep [1, 2, 3, 6, 8, 9, 14, 15, 16]
  simp only [argsE, keepE, lookS, Nat.reduceBEq, cond_true, cond_false, Nat.reduceAdd, gv_tt, gv_ff, Bool.true_and, Bool.false_and, Bool.true_or, Bool.false_or] at hA15
  clear hA hA14
  refine wp_seq ?_
  -- cond
  refine wp_if hA15 16 _ rfl (fun hq => ?yL) (fun hq => ?nL)
  case yL =>
    have hlt : j < n := by simp at hq; omega
    obtain ⟨x, hx⟩ : ∃ x, l[j]? = some x := ⟨_, List.getElem?_eq_getElem (by omega)⟩
    have hxm := List.mem_of_getElem? hx
    obtain ⟨ad, rfl, hadl, k0, k1, k2, k3⟩ := hms.at_ hx
    have z0 := (HB.cell hadl).trans k0
    have z1 := (HB.cell (p := ⟨(ad.add (j * 4)).block, (ad.add (j * 4)).off + 1, none⟩) hadl).trans k1
    have z2 := (HB.cell (p := ⟨(ad.add (j * 4)).block, (ad.add (j * 4)).off + 2, none⟩) hadl).trans k2
    have z3 := (HB.cell (p := ⟨(ad.add (j * 4)).block, (ad.add (j * 4)).off + 3, none⟩) hadl).trans k3
    have jj0 : (0 : Int) ≤ (j : Int) := by omega
    have jj1 : (j : Int) < (n : Int) := by omega
    have hwj : IntKind.i64.wrap ((j : Int) + 1) = (j : Int) + 1 := IntWalk.i64_in _ (by omega)
    have hb8 : (x.flags / 8 % 2 == 1) = bitI x.flags 3 := by unfold bitI; rw [Bool.eq_iff_iff]; simp
    have hg1 := goneL_succ (p := goesV all us) hx
    have hl1 := leftL_succ (p := goesV all us) hx
    have hgl := goneL_len (goesV all us) (l.take j)
    have hll := leftL_len (goesV all us) (l.take j)
    rw [List.length_take] at hgl hll
    refine wp_skip ?_
    refine n_then ?_
    refine wp_seq ?_
    refine wp_block ?_
    refine wp_seq ?_
    refine wp_region_lit ?_
    refine wl_op hA15 rfl rfl (by decide) (fun ev h => by simp [go_sem, h.get 15 rfl, K.cell, z0, z1, z2, z3, jj0, jj1]; try first | exact ⟨rfl, rfl⟩ | rfl) fun a16 hA16 => ?_
    refine wl_op hA16 rfl rfl (by decide) (fun ev h => by simp [go_sem, h.get 17 rfl, K.cell, z0, z1, z2, z3, jj0, jj1]; try first | exact ⟨rfl, rfl⟩ | rfl) fun a17 hA17 => ?_
    refine wl_nil ?_
    refine n_then ?_
    have hA18 := hA17.keep [1, 2, 3, 6, 8, 9, 10, 14, 15]
    simp only [argsE, keepE, lookS, Nat.reduceBEq, cond_true, cond_false, Nat.reduceAdd, gv_tt, gv_ff, Bool.true_and, Bool.false_and, Bool.true_or, Bool.false_or] at hA18
    clear hA15 hA16 hA17 a16
    refine wp_seq ?_
    refine wp_region_lit ?_
    refine wl_op hA18 rfl rfl (by decide) (fun ev h => by simp [go_sem, h.get 3 rfl, K.cell, z0, z1, z2, z3, jj0, jj1]; try first | exact ⟨rfl, rfl⟩ | rfl) fun a19 hA19 => ?_
    refine wl_op hA19 rfl rfl (by decide) (fun ev h => by simp [go_sem, h.get 18 rfl, K.cell, z0, z1, z2, z3, jj0, jj1]; try first | exact ⟨rfl, rfl⟩ | rfl) fun a20 hA20 => ?_
    refine wl_op hA20 rfl rfl (by decide) (fun ev h => by simp [go_sem, h.get 10 rfl, K.cell, z0, z1, z2, z3, jj0, jj1]; try first | exact ⟨rfl, rfl⟩ | rfl) fun a21 hA21 => ?_
    refine wl_op hA21 rfl rfl (by decide) (fun ev h => by simp [go_sem, h.get 19 rfl, h.get 20 rfl, K.cell, z0, z1, z2, z3, jj0, jj1]; try first | exact ⟨rfl, rfl⟩ | rfl) fun a22 hA22 => ?_
    refine wl_op hA22 rfl rfl (by decide) (fun ev h => by simp [go_sem, h.get 21 rfl, K.cell, z0, z1, z2, z3, jj0, jj1]; try first | exact ⟨rfl, rfl⟩ | rfl) fun a23 hA23 => ?_
    -- stop alloc slot 11
    refine wl_local [.int .u32 (x.uid : Nat), .int .i64 x.date, .int .i64 x.flags, .slice x.a x.b.length x.c] hA23 rfl rfl (by decide) (fun ev h => by simp [go_sem, K.cell, z0, z1, z2, z3, jj0, jj1]; try first | exact ⟨rfl, rfl⟩ | rfl) rfl rfl (by rfl) (fun w1 g ev hb h => by simp [go_sem, h.get 11 rfl, h.get 22 rfl, K.cell, z0, z1, z2, z3, jj0, jj1, setAll, hb.cell, hb.frozen]) fun w5 a24 (K11 : Blk _ _ _ _) hz5 hb5 hA24 => ?_
    replace K := K.below hb5 K.lt
    replace K6 := K6.below hb5 K6.lt
    replace HB := HB.trans (hb5.mono HB.size)
    replace ho := ho.below hb5
    replace hu := hu.below hb5
    refine wl_nil ?_
    refine n_then ?_
    have hA25 := hA24.keep [1, 2, 3, 6, 8, 9, 11, 14, 15]
    simp only [argsE, keepE, lookS, Nat.reduceBEq, cond_true, cond_false, Nat.reduceAdd, gv_tt, gv_ff, Bool.true_and, Bool.false_and, Bool.true_or, Bool.false_or] at hA25
    clear hA18 hA19 hA20 hA21 hA22 hA23 hA24 a17 a19 a20 a21 a22 a23
    refine wp_seq ?_
    refine wp_region_lit ?_
    refine wl_op hA25 rfl rfl (by decide) (fun ev h => by simp [go_sem, h.get 11 rfl, K11.cell, i64_and1, hb8]; try first | exact ⟨rfl, rfl⟩ | rfl) fun a26 hA26 => ?_
    refine wl_op hA26 rfl rfl (by decide) (fun ev h => by simp [go_sem, h.get 23 rfl, K11.cell, i64_and1, hb8]; try first | exact ⟨rfl, rfl⟩ | rfl) fun a27 hA27 => ?_
    refine wl_op hA27 rfl rfl (by decide) (fun ev h => by simp [go_sem, h.c, h.get 24 rfl, K11.cell, i64_and1, hb8]; try first | exact ⟨rfl, rfl⟩ | rfl) fun a28 hA28 => ?_
    refine wl_op hA28 rfl rfl (by decide) (fun ev h => by simp [go_sem, h.c, h.get 25 rfl, K11.cell, i64_and1, hb8]; try first | exact ⟨rfl, rfl⟩ | rfl) fun a29 hA29 => ?_
    refine wl_op hA29 rfl rfl (by decide) (fun ev h => by simp [go_sem, h.c, h.get 26 rfl, K11.cell, i64_and1, hb8]; try first | exact ⟨rfl, rfl⟩ | rfl) fun a30 hA30 => ?_
    refine wl_op hA30 rfl rfl (by decide) (fun ev h => by simp [go_sem, h.get 27 rfl, K11.cell, i64_and1, hb8]; try first | exact ⟨rfl, rfl⟩ | rfl) fun a31 hA31 => ?_
    refine wl_guard _ hA31 rfl rfl rfl rfl (by decide) (fun hq ev h => by simp [go_sem, (h.get 2 rfl), K11.cell, i64_and1, hb8]; try first | exact ⟨rfl, rfl⟩ | rfl) fun a32 hA32 => ?_
    refine wl_guard _ hA32 rfl rfl rfl rfl (by decide) (fun hq ev h => by simp [go_sem, ((h.get 29 rfl).trans (gw_t (beq_t hq))), K11.cell, i64_and1, hb8]; try first | exact ⟨rfl, rfl⟩ | rfl) fun a33 hA33 => ?_
    refine wl_guard2 _ _ hA33 rfl rfl rfl rfl (by decide) (fun hq hr ev h => by simp [go_sem, (h.get 1 rfl), K11.cell, i64_and1, hb8]; try first | exact ⟨rfl, rfl⟩ | rfl) fun a34 hA34 => ?_
    refine wl_guard2 _ _ hA34 rfl rfl rfl rfl (by decide) (fun hq hr ev h => by simp [go_sem, (h.get 11 rfl), K11.cell, i64_and1, hb8]; try first | exact ⟨rfl, rfl⟩ | rfl) fun a35 hA35 => ?_
    refine wl_guard2 _ _ hA35 rfl rfl rfl rfl (by decide) (fun hq hr ev h => by simp [go_sem, ((h.get 32 rfl).trans (gw_t (and_beq hq hr))), K11.cell, i64_and1, hb8]; try first | exact ⟨rfl, rfl⟩ | rfl) fun a36 hA36 => ?_
    -- stop call slot 34
    refine wl_gcallv2 _ _ hA36 rfl rfl rfl rfl (by decide) (fun hq hr ev h => by simp [go_sem, ((h.get 31 rfl).trans (gw_t (and_beq hq hr))), ((h.get 33 rfl).trans (gw_t (and_beq hq hr))), K11.cell, i64_and1, hb8, h.f]; try first | exact ⟨rfl, rfl⟩ | rfl) (fun hq hr => refIn_any A2 c2 k x.uid us _ hk hus ((hur.below HB).more HB.size)) fun a37 w6 hb6 hA37 => ?_
    replace K := K.below hb6 K.lt
    replace K6 := K6.below hb6 K6.lt
    replace HB := HB.trans (hb6.mono HB.size)
    replace ho := ho.below hb6
    replace hu := hu.below hb6
    replace K11 := K11.below hb6 K11.lt
    have hz6 := hb6.size
    refine wl_guard _ hA37 rfl rfl rfl rfl (by decide) (fun hq ev h => by first | exact pick_and rfl (((h.get 30 rfl).trans (gw_t (beq_t hq)))) (h.c _) (((h.get 34 rfl).trans (gw_a (beq_t hq)))) | exact pick_or rfl (((h.get 30 rfl).trans (gw_t (beq_t hq)))) (h.c _) (((h.get 34 rfl).trans (gw_a (beq_t hq)))) | (simp [go_sem, h.c, ((h.get 30 rfl).trans (gw_t (beq_t hq))), ((h.get 34 rfl).trans (gw_a (beq_t hq))), K11.cell, i64_and1, hb8, gv_or, gv_and]; try first | exact ⟨rfl, rfl⟩ | rfl)) fun a38 hA38 => ?_
    refine wl_op hA38 rfl rfl (by decide) (fun ev h => by first | exact pick_and rfl (h.get 28 rfl) (h.get 35 rfl) (h.c _) | exact pick_or rfl (h.get 28 rfl) (h.get 35 rfl) (h.c _) | (simp [go_sem, h.c, h.get 28 rfl, h.get 35 rfl, K11.cell, i64_and1, hb8, gv_or, gv_and]; try first | exact ⟨rfl, rfl⟩ | rfl)) fun a39 hA39 => ?_
    refine wl_nil ?_
    refine n_then ?_
    have hA40 := hA39.keep [1, 2, 3, 6, 8, 9, 11, 14, 15, 36]
    simp only [argsE, keepE, lookS, Nat.reduceBEq, cond_true, cond_false, Nat.reduceAdd, gv_tt, gv_ff, Bool.true_and, Bool.false_and, Bool.true_or, Bool.false_or] at hA40
    clear hA25 hA26 hA27 hA28 hA29 hA30 hA31 hA32 hA33 hA34 hA35 hA36 hA37 hA38 hA39 a24 a26 a27 a28 a29 a30 a31 a32 a33 a34 a35 a36 a37 a38
    -- cond
    obtain ⟨q, hqe⟩ : ∃ q, goesV all us x = q := ⟨_, rfl⟩
    have hqe2 : (bitI x.flags 3 && (all || inU us x.uid)) = q := hqe
    rw [hqe2] at hA40
    rw [hqe] at hg1 hl1
    refine wp_if hA40 36 _ rfl (fun hq2 => ?yR) (fun hq2 => ?nR)
    case yR =>
      subst hq2
      rw [cond_true] at hg1 hl1
      rw [List.append_nil] at hl1
      refine wp_region_lit ?_
      refine wl_op hA40 rfl rfl (by decide) (fun ev h => by simp [go_sem, h.get 9 rfl, K11.cell]; try first | exact ⟨rfl, rfl⟩ | rfl) fun a41 hA41 => ?_
      refine wl_op hA41 rfl rfl (by decide) (fun ev h => by simp [go_sem, h.get 11 rfl, K11.cell]; try first | exact ⟨rfl, rfl⟩ | rfl) fun a42 hA42 => ?_
      refine wl_op hA42 rfl rfl (by decide) (fun ev h => by simp [go_sem, h.get 38 rfl, K11.cell]; try first | exact ⟨rfl, rfl⟩ | rfl) fun a43 hA43 => ?_
      -- stop buildSlice slot 40
      refine wl_new hA43 rfl rfl (by decide) (fun ev h => by simp [go_sem, h.get 39 rfl, K11.cell]; try first | exact ⟨rfl, rfl⟩ | rfl) fun w7 a44 (K40 : Blk _ _ _ _) hz7 hb7 hA44 => ?_
      replace K := K.below hb7 K.lt
      replace K6 := K6.below hb7 K6.lt
      replace HB := HB.trans (hb7.mono HB.size)
      replace ho := ho.below hb7
      replace hu := hu.below hb7
      -- stop call slot 41
      obtain ⟨Ag, cg, hvg, hrg⟩ := hu.reads
      obtain ⟨r, w8, hr, hu8, hgr⟩ := run_appU (c := 1) hu (u32_blk K40) (by simp; omega) (by omega)
      refine wl_op hA44 rfl rfl (by decide) (fun ev h => exec_append rfl (h.get 37 rfl) (h.get 40 rfl) hr) fun a45 hA45 => ?_
      replace ho : OwnM w2.heap.size w8 v8 (leftL (goesV all us) (l.take j)) := by
        refine ⟨own_keep ho.row fun g hg => hgr.block g (World.ownsRow.lt ho.row g hg).2 fun e => own_ne2 ho.row hu (by decide) hg e.symm rfl, fun m hm => ?_, ho.off, ho.uids, ho.caps⟩
        have hml : m ∈ l := List.mem_of_mem_take (List.mem_filter.1 hm).1
        exact (((hms.octs m hml).below HB).grown hgr HB.size (fun g hg => by have := (World.ownsRow.lt hu g hg).1; omega)).more (Nat.le_trans HB.size hgr.size)
      replace K := K.grown hgr (fun e => own_ne hu K (by decide) _ e.symm rfl)
      replace K6 := K6.grown hgr (fun e => own_ne hu K6 (by decide) _ e.symm rfl)
      replace HB := HB.grown hgr HB.size (fun g hg => by have := (World.ownsRow.lt hu g hg).1; omega)
      have hz8 := hgr.size
      refine wl_op hA45 rfl rfl (by decide) (fun ev h => by simp [go_sem, h.get 41 rfl, hwj]; try first | exact ⟨rfl, rfl⟩ | rfl) fun a46 hA46 => ?_
      refine wl_nil ?_
      refine n_block ?_
      refine n_then ?_
      have hA47 := hA46.keep [1, 2, 3, 6, 8, 9, 14, 15]
      simp only [argsE, keepE, lookS, Nat.reduceBEq, cond_true, cond_false, Nat.reduceAdd, gv_tt, gv_ff, Bool.true_and, Bool.false_and, Bool.true_or, Bool.false_or] at hA47
      clear hA40 hA41 hA42 hA43 hA44 hA45 hA46 a41 a42 a43 a44 a45
      refine wp_region_lit ?_
      refine wl_op hA47 rfl rfl (by decide) (fun ev h => by simp [go_sem, h.c, h.get 15 rfl, hwj]; try first | exact ⟨rfl, rfl⟩ | rfl) fun a48 hA48 => ?_
      refine wl_op hA48 rfl rfl (by decide) (fun ev h => by simp [go_sem, h.get 46 rfl, hwj]; try first | exact ⟨rfl, rfl⟩ | rfl) fun a49 hA49 => ?_
      refine wl_nil ?_
      refine n_then ?_
      have hA50 := hA49.keep [1, 2, 3, 6, 8, 9, 14, 15]
      simp only [argsE, keepE, lookS, Nat.reduceBEq, cond_true, cond_false, Nat.reduceAdd, gv_tt, gv_ff, Bool.true_and, Bool.false_and, Bool.true_or, Bool.false_or] at hA50
      clear hA47 hA48 hA49 a46 a48
      -- round
      rw [show ((j : Int) + 1) = ((j + 1 : Nat) : Int) by omega] at hA50
      exact ⟨kk - 1, by omega, j + 1, _, _, by omega, hA50, by rw [hl1]; exact ho, by rw [hg1]; exact hu8, K, K6, HB, by omega⟩
    case nR =>
      subst hq2
      rw [cond_false] at hg1 hl1
      rw [List.append_nil] at hg1
      refine wp_region_lit ?_
      refine wl_op hA40 rfl rfl (by decide) (fun ev h => by simp [go_sem, h.get 8 rfl, K11.cell]; try first | exact ⟨rfl, rfl⟩ | rfl) fun a51 hA51 => ?_
      refine wl_op hA51 rfl rfl (by decide) (fun ev h => by simp [go_sem, h.get 11 rfl, K11.cell]; try first | exact ⟨rfl, rfl⟩ | rfl) fun a52 hA52 => ?_
      -- stop buildSlice slot 44
      refine wl_new hA52 rfl rfl (by decide) (fun ev h => by simp [go_sem, h.get 43 rfl, K11.cell]; try first | exact ⟨rfl, rfl⟩ | rfl) fun w7 a53 (K44 : Blk _ _ _ _) hz7 hb7 hA53 => ?_
      replace K := K.below hb7 K.lt
      replace K6 := K6.below hb7 K6.lt
      replace HB := HB.trans (hb7.mono HB.size)
      replace ho := ho.below hb7
      replace hu := hu.below hb7
      -- stop call slot 45
      have hox := ((hms.octs x hxm).below HB).more HB.size
      have hm1 := msgs_blk (m := x) K44 hox (hms.uids x hxm) (hms.caps x hxm)
      obtain ⟨r, w8, hr, ho8, hgr, hwh⟩ := run_appM (k := [x]) (c := 1) ho rfl hm1 (fun g hg m hm => by
        rw [List.mem_singleton.1 hm]
        exact off_lt (hms.octs x hxm) (by have := own_ge ho hg; omega)) (by simp; omega) (by omega)
      refine wl_op hA53 rfl rfl (by decide) (fun ev h => exec_append rfl (h.get 42 rfl) (h.get 44 rfl) hr) fun a54 hA54 => ?_
      replace hu := hu.keep fun g hg => hgr.block g (World.ownsRow.lt hu g hg).2 fun e => own_ne2 ho.row hu (by decide) e.symm hg rfl
      replace K := K.grown hgr (fun e => own_ne ho.row K (by decide) _ e.symm rfl)
      replace K6 := K6.grown hgr (fun e => own_ne ho.row K6 (by decide) _ e.symm rfl)
      replace HB := HB.grown hgr HB.size (fun g hg => by have := own_ge ho hg; omega)
      have hz8 := hgr.size
      refine wl_op hA54 rfl rfl (by decide) (fun ev h => by simp [go_sem, h.get 45 rfl, hwj]; try first | exact ⟨rfl, rfl⟩ | rfl) fun a55 hA55 => ?_
      refine wl_nil ?_
      refine n_block ?_
      refine n_then ?_
      have hA56 := hA55.keep [1, 2, 3, 6, 8, 9, 14, 15]
      simp only [argsE, keepE, lookS, Nat.reduceBEq, cond_true, cond_false, Nat.reduceAdd, gv_tt, gv_ff, Bool.true_and, Bool.false_and, Bool.true_or, Bool.false_or] at hA56
      clear hA40 hA51 hA52 hA53 hA54 hA55 a51 a52 a53 a54
      refine wp_region_lit ?_
      refine wl_op hA56 rfl rfl (by decide) (fun ev h => by simp [go_sem, h.c, h.get 15 rfl, hwj]; try first | exact ⟨rfl, rfl⟩ | rfl) fun a57 hA57 => ?_
      refine wl_op hA57 rfl rfl (by decide) (fun ev h => by simp [go_sem, h.get 46 rfl, hwj]; try first | exact ⟨rfl, rfl⟩ | rfl) fun a58 hA58 => ?_
      refine wl_nil ?_
      refine n_then ?_
      have hA59 := hA58.keep [1, 2, 3, 6, 8, 9, 14, 15]
      simp only [argsE, keepE, lookS, Nat.reduceBEq, cond_true, cond_false, Nat.reduceAdd, gv_tt, gv_ff, Bool.true_and, Bool.false_and, Bool.true_or, Bool.false_or] at hA59
      clear hA56 hA57 hA58 a55 a57
      -- round
      rw [show ((j : Int) + 1) = ((j + 1 : Nat) : Int) by omega] at hA59
      exact ⟨kk - 1, by omega, j + 1, _, _, by omega, hA59, by rw [hl1]; exact ho8, by rw [hg1]; exact hu, K, K6, HB, by omega⟩
  case nL =>
    have hjn : j = n := by simp at hq; omega
    subst hjn
    rw [← hl, List.take_length] at ho hu
    obtain ⟨l2, hl2⟩ : ∃ l2, leftL (goesV all us) l = l2 := ⟨_, rfl⟩
    rw [hl2] at ho
    obtain ⟨A3, c3, hv, _, _⟩ := ho.msgs
    subst hv
    obtain ⟨Ag, cg, hvg, _⟩ := hu.reads
    have hne := own_ne ho.row K (by decide)
    have hneu := own_ne hu K (by decide)
    have hne6 := own_ne ho.row K6 (by decide)
    have hneu6 := own_ne hu K6 (by decide)
    have hoff : ∀ m ∈ l2, Off w.heap.size m := fun m hm => off_blk (ho.octs m hm) K rfl
    have hoff6 : ∀ m ∈ l2, Off w1.heap.size m := fun m hm => off_blk (ho.octs m hm) K6 rfl
    refine wp_exit ?_
    refine x_then ?_
    refine x_then ?_
    refine x_block ?_
    refine n_then ?_
    have hA60 := hA15.keep [3, 6, 8, 9]
    simp only [argsE, keepE, lookS, Nat.reduceBEq, cond_true, cond_false, Nat.reduceAdd, gv_tt, gv_ff, Bool.true_and, Bool.false_and, Bool.true_or, Bool.false_or] at hA60
    clear hA15
    refine wp_seq ?_
    refine wp_region_lit ?_
    refine wl_op hA60 rfl rfl (by decide) (fun ev h => by simp [go_sem, h.get 8 rfl, K.cell]; try first | exact ⟨rfl, rfl⟩ | rfl) fun a61 hA61 => ?_
    refine wl_op hA61 rfl rfl (by decide) (fun ev h => by simp [go_sem, h.get 3 rfl, K.cell]; try first | exact ⟨rfl, rfl⟩ | rfl) fun a62 hA62 => ?_
    -- stop store slot None
    refine wl_setf [.string nm, .int .u32 (e : Nat), .int .u32 (nx : Nat), .slice A3 l2.length c3] _ hA62 rfl rfl K (j := 3) (by rfl) (fun ev h => by simp [go_sem, h.get 48 rfl, h.get 47 rfl, K.cell, K.cell, K.frozen]; try first | exact ⟨rfl, rfl⟩ | rfl) fun w8 (K : Blk _ _ _ _) hs8 => ?_
    replace K6 := hs8.blk K6 (by omega)
    refine wl_nil ?_
    refine n_then ?_
    have hA63 := hA62.keep [3, 6, 9]
    simp only [argsE, keepE, lookS, Nat.reduceBEq, cond_true, cond_false, Nat.reduceAdd, gv_tt, gv_ff, Bool.true_and, Bool.false_and, Bool.true_or, Bool.false_or] at hA63
    clear hA60 hA61 hA62 a61
    refine wp_seq ?_
    refine wp_region_lit ?_
    refine wl_op hA63 rfl rfl (by decide) (fun ev h => by simp [go_sem, h.get 3 rfl, K.cell]; try first | exact ⟨rfl, rfl⟩ | rfl) fun a64 hA64 => ?_
    refine wl_op hA64 rfl rfl (by decide) (fun ev h => by simp [go_sem, h.get 9 rfl, K.cell]; try first | exact ⟨rfl, rfl⟩ | rfl) fun a65 hA65 => ?_
    -- stop store slot None
    refine wl_set [.string nm, .int .u32 (e : Nat), .int .u32 (nx : Nat), .slice A3 l2.length c3] hA65 rfl rfl K6 (by rfl) (fun ev h => by simp [go_sem, h.get 6 rfl, h.get 49 rfl, K.cell, setAll, K6.cell, K6.frozen]) fun w9 (K6 : Blk _ _ _ _) hs9 => ?_
    refine wl_op hA65 rfl rfl (by decide) (fun ev h => by simp [go_sem, h.get 50 rfl, K6.cell]; try first | exact ⟨rfl, rfl⟩ | rfl) fun a66 hA66 => ?_
    refine wl_nil ?_
    refine n_then ?_
    have hA67 := hA66.keep [6, 7]
    simp only [argsE, keepE, lookS, Nat.reduceBEq, cond_true, cond_false, Nat.reduceAdd, gv_tt, gv_ff, Bool.true_and, Bool.false_and, Bool.true_or, Bool.false_or] at hA67
    clear hA63 hA64 hA65 hA66 a62 a64 a65
    refine wp_ret ?_
    refine bodyPost_ret (by simp [results, Tryd.results22, go_sem, hA67.env 6 _ rfl, hA67.env 7 _ rfl, K6.cell]; try first | exact ⟨rfl, rfl⟩ | rfl) hA67.defers ?_
    refine ⟨_, _, rfl, ⟨_, l2, rfl, ((ho.only hs8 hne hoff).only hs9 hne6 hoff6).mono (by omega), by rw [leftL_bare, hl2]⟩, ((hu.keep fun g hg => hs8.block g (hneu g hg)).keep fun g hg => hs9.block g (hneu6 g hg)).mono (by omega), hs9.below (hs8.below HB (by omega)) (by omega)⟩
end Go.Proofs.YtbbhblnhbgkcaaaDoor
