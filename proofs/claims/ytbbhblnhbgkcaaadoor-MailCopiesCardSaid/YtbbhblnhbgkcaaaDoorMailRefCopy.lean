/-
  Walks: messages are put behind another mailbox's, as the document says.
-/
import Derived.Test.YtbbhblnhbgkcaaaDoorMailCopy
namespace Go.Proofs.YtbbhblnhbgkcaaaDoor
open Go.RowKit
set_option linter.unusedSimpArgs false
set_option linter.unusedVariables false
/-- another block is set -/
theorem Msgs.only {w w' : World} {A : Option Addr} {n k : Nat} {l : List MsgV} (h : Msgs w A n l) (hs : Only k w w') (hr : 0 < n → ∀ ad, A = some ad → ad.block ≠ k) (ho : ∀ m ∈ l, Off k m) : Msgs w' A n l := by
  refine ⟨h.len, ⟨h.row.1, fun hn => ?_⟩, fun m hm => Reads.apart (h.octs m hm) (ho m hm) (fun j _ hj => hs.block j hj) (by rw [hs.size]; exact Nat.le_refl _), h.uids, h.caps⟩
  obtain ⟨ad, e, hlt, hc⟩ := h.row.2 hn
  refine ⟨ad, e, by rw [hs.size]; exact hlt, fun j u hu => ?_⟩
  have := hc j u hu
  rwa [← World.cell?_of_block (w' := w') (hs.block _ (by rw [block_of_add]; exact hr hn ad e))] at this
theorem refAppV_nx {nm : ByteArray} {e nx : Nat} {l : List MsgV} {m : MsgV} (hnx : nx < 4294967296) : (refAppV nm e nx l m).1.nx < 4294967296 := by
  unfold refAppV
  cases decide (499 < l.length) with
  | true => exact (by decide : (0 : Nat) < 4294967296)
  | false =>
    rw [cond_false]
    cases h : nx == 4294967295 with
    | true => exact (by decide : (0 : Nat) < 4294967296)
    | false =>
      simp at h
      show nx + 1 < 4294967296
      omega
set_option maxRecDepth 100000 in
set_option maxHeartbeats 2000000 in
theorem refCopy_any (n1 n2 : ByteArray) (A A2 Au : Option Addr) (c c2 cu n m e1 e2 x1 x2 k : Nat) (l l2 : List MsgV) (us : List Nat) (w : World)
    (hn : n ≤ 100000) (hm2 : m ≤ 100000) (hx2 : x2 < 4294967296) (hms : Msgs w A n l) (hms2 : Msgs w A2 m l2) (hk : k ≤ 140737488355328) (hus : us.length = k) (hur : Reads w w.heap.size 1 Au k (u32s us)) :
    Calls Tryd.prog 24 #[.agg (boxC n1 e1 x1 A n c), .agg (boxC n2 e2 x2 A2 m c2), .slice Au k cu] w fun ev w' => ∃ r vg, ev = .returned (.tuple #[r, vg, .int .i64 ((cpV apR us (bare l) ⟨n2, e2, x2, bare l2⟩ []).2.2 : Nat)]) ∧ (∃ A9 c9 l9, r = .agg #[.string (cpV apR us (bare l) ⟨n2, e2, x2, bare l2⟩ []).1.nm, .int .u32 ((cpV apR us (bare l) ⟨n2, e2, x2, bare l2⟩ []).1.e : Nat), .int .u32 ((cpV apR us (bare l) ⟨n2, e2, x2, bare l2⟩ []).1.nx : Nat), .slice A9 (List.length l9) c9] ∧ Msgs w' A9 l9.length l9 ∧ bare l9 = (cpV apR us (bare l) ⟨n2, e2, x2, bare l2⟩ []).1.l) ∧ OwnU w.heap.size w' vg (cpV apR us (bare l) ⟨n2, e2, x2, bare l2⟩ []).2.1 ∧ Below w.heap.size w w' := by
  have hl := hms.len
  have hl2 := hms2.len
  obtain ⟨res, hres⟩ : ∃ res, cpV apR us (bare l) ⟨n2, e2, x2, bare l2⟩ [] = res := ⟨_, rfl⟩
  rw [hres]
  have hfarA : 0 < m → ∀ ad, A2 = some ad → ad.block < w.heap.size := fun h ad ha => by
    obtain ⟨ad', e, hlt, _⟩ := hms2.row.2 h
    rw [ha] at e
    injection e with e
    subst e
    exact hlt
  have hfarO : ∀ y : MsgV, Reads w w.heap.size 1 y.a y.b.length (u8s y.b) → 0 < y.b.length → ∀ ad, y.a = some ad → ad.block < w.heap.size := fun y hy hn ad ha => by
    obtain ⟨ad', e, hlt, _⟩ := hy.2 hn
    rw [ha] at e
    injection e with e
    subst e
    exact hlt
  refine calls_at 52 Tryd.func24 rfl rfl (Nat.le_of_ble_eq_true rfl) ?_
  intro a hA
  simp only [argsE, keepE, lookS, Nat.reduceBEq, cond_true, cond_false, Nat.reduceAdd, gv_tt, gv_ff, Bool.true_and, Bool.false_and, Bool.true_or, Bool.false_or] at hA
  refine wp_seq ?_
  refine wp_region_lit ?_
  -- stop box slot 3
  refine wl_new hA rfl rfl (by decide) (fun ev h => by simp [go_sem, h.get 0 rfl]; try first | exact ⟨rfl, rfl⟩ | rfl) fun w1 a1 (K3 : Blk _ _ _ _) hz1 hb1 hA1 => ?_
  refine wl_new hA1 rfl rfl (by decide) (fun ev h => by simp [go_sem, h.get 1 rfl]; try first | exact ⟨rfl, rfl⟩ | rfl) fun w2 a2 (K4 : Blk _ _ _ _) hz2 hb2 hA2 => ?_
  replace K3 := K3.below hb2 K3.lt
  refine wl_new hA2 rfl rfl (by decide) (fun ev h => by simp [go_sem]; try first | exact ⟨rfl, rfl⟩ | rfl) fun w3 a3 (K6 : Blk _ _ _ _) hz3 hb3 hA3 => ?_
  replace K3 := K3.below hb3 K3.lt
  replace K4 := K4.below hb3 K4.lt
  have HB : Below w.heap.size w w3 := hb1.trans ((hb2.trans (hb3.mono hb2.size)).mono hb1.size)
  unfold boxC at K3 K4
  have hms2' := hms2.below HB
  rw [← hl2] at K4 hms2' hfarA
  refine wl_op hA3 rfl rfl (by decide) (fun ev h => by simp [go_sem, h.c, K3.cell]; try first | exact ⟨rfl, rfl⟩ | rfl) fun a4 hA4 => ?_
  refine wl_op hA4 rfl rfl (by decide) (fun ev h => by simp [go_sem, h.c, K3.cell]; try first | exact ⟨rfl, rfl⟩ | rfl) fun a5 hA5 => ?_
  refine wl_nil ?_
  refine n_then ?_
  have hA6 := hA5.keep [2, 3, 4, 6]
  simp only [argsE, keepE, lookS, Nat.reduceBEq, cond_true, cond_false, Nat.reduceAdd, gv_tt, gv_ff, Bool.true_and, Bool.false_and, Bool.true_or, Bool.false_or] at hA6
  clear hA hA1 hA2 hA3 hA4 hA5 a1 a2 a3 a4
  refine wp_seq ?_
  refine wp_region_lit ?_
  refine wl_op hA6 rfl rfl (by decide) (fun ev h => by simp [go_sem, h.c, K3.cell]; try first | exact ⟨rfl, rfl⟩ | rfl) fun a7 hA7 => ?_
  refine wl_nil ?_
  refine n_then ?_
  have hA8 := hA7.keep [2, 3, 4, 6, 9]
  simp only [argsE, keepE, lookS, Nat.reduceBEq, cond_true, cond_false, Nat.reduceAdd, gv_tt, gv_ff, Bool.true_and, Bool.false_and, Bool.true_or, Bool.false_or] at hA8
  clear hA6 hA7 a5
  refine wp_seq ?_
  refine wp_seq ?_
  refine wp_region_lit ?_
  refine wl_op hA8 rfl rfl (by decide) (fun ev h => by simp [go_sem, h.get 3 rfl, K3.cell]; try first | exact ⟨rfl, rfl⟩ | rfl) fun a9 hA9 => ?_
  refine wl_op hA9 rfl rfl (by decide) (fun ev h => by simp [go_sem, h.get 14 rfl, K3.cell]; try first | exact ⟨rfl, rfl⟩ | rfl) fun a10 hA10 => ?_
  refine wl_op hA10 rfl rfl (by decide) (fun ev h => by simp [go_sem, h.get 15 rfl, K3.cell]; try first | exact ⟨rfl, rfl⟩ | rfl) fun a11 hA11 => ?_
  refine wl_op hA11 rfl rfl (by decide) (fun ev h => by simp [go_sem, h.c, K3.cell]; try first | exact ⟨rfl, rfl⟩ | rfl) fun a12 hA12 => ?_
  refine wl_nil ?_
  refine n_then ?_
  have hA13 := hA12.keep [2, 3, 4, 6, 9, 16, 17]
  simp only [argsE, keepE, lookS, Nat.reduceBEq, cond_true, cond_false, Nat.reduceAdd, gv_tt, gv_ff, Bool.true_and, Bool.false_and, Bool.true_or, Bool.false_or] at hA13
  clear hA8 hA9 hA10 hA11 hA12 a7 a9 a10 a11
  refine wp_block ?_
  -- loop
  refine wp_loop_at (fun kk a wx => ∃ (j : Nat) (b : BoxV) (A1 : Option Addr) (c1 : Nat) (l' : List MsgV) (gs : List Nat) (v9 : Value), j + kk = n ∧ At 52 [(2, .slice Au k cu), (3, .pointer (some ⟨w.heap.size, 0, none⟩)), (4, .pointer (some ⟨w1.heap.size, 0, none⟩)), (6, .pointer (some ⟨w2.heap.size, 0, none⟩)), (9, v9), (16, .int .i64 (n : Nat)), (17, .int .i64 (j : Nat))] a ∧ Blk wx w.heap.size 25 #[.string n1, .int .u32 (e1 : Nat), .int .u32 (x1 : Nat), .slice A n c] ∧ Blk wx w1.heap.size 25 #[.string b.nm, .int .u32 (b.e : Nat), .int .u32 (b.nx : Nat), .slice A1 l'.length c1] ∧ Blk wx w2.heap.size 25 #[.string ⟨#[]⟩, .int .u32 0, .int .u32 0, .slice none 0 0] ∧ Msgs wx A1 l'.length l' ∧ bare l' = b.l ∧ OwnU w3.heap.size wx v9 gs ∧ Below w.heap.size w wx ∧ w3.heap.size ≤ wx.heap.size ∧ cpV apR us (bare (l.drop j)) b gs = res ∧ b.nx < 4294967296 ∧ l'.length ≤ 100000 + j ∧ gs.length ≤ j ∧ (0 < l'.length → ∀ ad, A1 = some ad → ad.block < w.heap.size ∨ w3.heap.size ≤ ad.block) ∧ ∀ y ∈ l', 0 < y.b.length → ∀ ad, y.a = some ad → ad.block < w.heap.size) (n) ?_ ?_
  · exact ⟨0, ⟨n2, e2, x2, bare l2⟩, A2, c2, l2, [], _, by omega, hA13, K3, K4, K6, hms2', rfl, OwnU.nil _ _, HB, Nat.le_refl _, hres, hx2, by omega, Nat.le_refl _, fun h ad ha => .inl (hfarA h ad ha), fun y hy => hfarO y (hms2.octs y hy)⟩
  clear K3 K4 K6 HB hms2' hres
  rintro kk a wx ⟨j, b, A1, c1, l', gs, v9, hjk, hA, K3, K4, K6, hmx, hbl, hu, HB, hsx, hres, hbx, hl5, hgj, hrow, hoct⟩
  refine wp_seq ?_
  refine wp_region_lit ?_
  refine wl_op hA rfl rfl (by decide) (fun ev h => by simp [go_sem, h.get 17 rfl, h.get 16 rfl]; try first | exact ⟨rfl, rfl⟩ | rfl) fun a14 hA14 => ?_
  refine wl_nil ?_
  refine n_then ?_
  have hA15 := hA14.keep [2, 3, 4, 6, 9, 16, 17, 18]
  simp only [argsE, keepE, lookS, Nat.reduceBEq, cond_true, cond_false, Nat.reduceAdd, gv_tt, gv_ff, Bool.true_and, Bool.false_and, Bool.true_or, Bool.false_or] at hA15
  clear hA hA14
  refine wp_seq ?_
  -- cond
  refine wp_if hA15 18 _ rfl (fun hq => ?yL) (fun hq => ?nL)
  case yL =>
    have hlt : j < n := by simp at hq; omega
    obtain ⟨x, hx⟩ : ∃ x, l[j]? = some x := ⟨_, List.getElem?_eq_getElem (by omega)⟩
    have hxm := List.mem_of_getElem? hx
    rw [cpV_at hx] at hres
    obtain ⟨ad, rfl, hadl, k0, k1, k2, k3⟩ := hms.at_ hx
    have z0 := (HB.cell hadl).trans k0
    have jj0 : (0 : Int) ≤ (j : Int) := by omega
    have jj1 : (j : Int) < (n : Int) := by omega
    have hwj : IntKind.i64.wrap ((j : Int) + 1) = (j : Int) + 1 := IntWalk.i64_in _ (by omega)
    refine wp_skip ?_
    refine n_then ?_
    refine wp_seq ?_
    refine wp_block ?_
    refine wp_seq ?_
    refine wp_region_lit ?_
    refine wl_op hA15 rfl rfl (by decide) (fun ev h => by simp [go_sem, h.get 17 rfl, K3.cell, z0, jj0, jj1]; try first | exact ⟨rfl, rfl⟩ | rfl) fun a16 hA16 => ?_
    refine wl_op hA16 rfl rfl (by decide) (fun ev h => by simp [go_sem, h.get 19 rfl, K3.cell, z0, jj0, jj1]; try first | exact ⟨rfl, rfl⟩ | rfl) fun a17 hA17 => ?_
    refine wl_nil ?_
    refine n_then ?_
    have hA18 := hA17.keep [2, 3, 4, 6, 9, 10, 16, 17]
    simp only [argsE, keepE, lookS, Nat.reduceBEq, cond_true, cond_false, Nat.reduceAdd, gv_tt, gv_ff, Bool.true_and, Bool.false_and, Bool.true_or, Bool.false_or] at hA18
    clear hA15 hA16 hA17 a16
    refine wp_seq ?_
    refine wp_seq ?_
    refine wp_region_lit ?_
    refine wl_op hA18 rfl rfl (by decide) (fun ev h => by simp [go_sem, h.get 2 rfl, K3.cell, z0, jj0, jj1]; try first | exact ⟨rfl, rfl⟩ | rfl) fun a19 hA19 => ?_
    refine wl_op hA19 rfl rfl (by decide) (fun ev h => by simp [go_sem, h.get 3 rfl, K3.cell, z0, jj0, jj1]; try first | exact ⟨rfl, rfl⟩ | rfl) fun a20 hA20 => ?_
    refine wl_op hA20 rfl rfl (by decide) (fun ev h => by simp [go_sem, h.get 21 rfl, K3.cell, z0, jj0, jj1]; try first | exact ⟨rfl, rfl⟩ | rfl) fun a21 hA21 => ?_
    refine wl_op hA21 rfl rfl (by decide) (fun ev h => by simp [go_sem, h.get 10 rfl, K3.cell, z0, jj0, jj1]; try first | exact ⟨rfl, rfl⟩ | rfl) fun a22 hA22 => ?_
    refine wl_op hA22 rfl rfl (by decide) (fun ev h => by simp [go_sem, h.get 22 rfl, h.get 23 rfl, K3.cell, z0, jj0, jj1]; try first | exact ⟨rfl, rfl⟩ | rfl) fun a23 hA23 => ?_
    refine wl_op hA23 rfl rfl (by decide) (fun ev h => by simp [go_sem, h.get 24 rfl, K3.cell, z0, jj0, jj1]; try first | exact ⟨rfl, rfl⟩ | rfl) fun a24 hA24 => ?_
    refine wl_op hA24 rfl rfl (by decide) (fun ev h => by simp [go_sem, h.get 25 rfl, K3.cell, z0, jj0, jj1]; try first | exact ⟨rfl, rfl⟩ | rfl) fun a25 hA25 => ?_
    -- stop call slot 27
    refine wl_call hA25 rfl rfl (by decide) (fun ev h => by simp [go_sem, h.get 20 rfl, h.get 26 rfl, K3.cell, z0, jj0, jj1, h.f]; try first | exact ⟨rfl, rfl⟩ | rfl) (refIn_any Au cu k x.uid us _ hk hus ((hur.below HB).more HB.size)) ?_
    rintro e w5 ⟨rfl, hb5⟩
    refine ⟨_, rfl, fun a26 hA26 => ?_⟩
    replace K3 := K3.below hb5 K3.lt
    replace K4 := K4.below hb5 K4.lt
    replace K6 := K6.below hb5 K6.lt
    replace HB := HB.trans (hb5.mono HB.size)
    replace hmx := hmx.below hb5
    replace hu := hu.below hb5
    have hz5 := hb5.size
    refine wl_op hA26 rfl rfl (by decide) (fun ev h => by simp [go_sem, h.get 27 rfl, K3.cell, z0, jj0, jj1]; try first | exact ⟨rfl, rfl⟩ | rfl) fun a27 hA27 => ?_
    refine wl_nil ?_
    refine n_then ?_
    have hA28 := hA27.keep [2, 3, 4, 6, 9, 10, 16, 17, 28]
    simp only [argsE, keepE, lookS, Nat.reduceBEq, cond_true, cond_false, Nat.reduceAdd, gv_tt, gv_ff, Bool.true_and, Bool.false_and, Bool.true_or, Bool.false_or] at hA28
    clear hA18 hA19 hA20 hA21 hA22 hA23 hA24 hA25 hA26 hA27 a17 a19 a20 a21 a22 a23 a24 a25 a26
    -- cond
    refine wp_if hA28 28 _ rfl (fun hq2 => ?yR) (fun hq2 => ?nR)
    case yR =>
      have hq2 : inU us x.uid = false := by simpa using hq2
      rw [hq2, cond_false] at hres
      refine wp_exit ?_
      refine x_then ?_
      refine x_block ?_
      refine n_then ?_
      have hA29 := hA28.keep [2, 3, 4, 6, 9, 16, 17]
      simp only [argsE, keepE, lookS, Nat.reduceBEq, cond_true, cond_false, Nat.reduceAdd, gv_tt, gv_ff, Bool.true_and, Bool.false_and, Bool.true_or, Bool.false_or] at hA29
      clear hA28
      refine wp_region_lit ?_
      refine wl_op hA29 rfl rfl (by decide) (fun ev h => by simp [go_sem, h.c, h.get 17 rfl, hwj]; try first | exact ⟨rfl, rfl⟩ | rfl) fun a30 hA30 => ?_
      refine wl_op hA30 rfl rfl (by decide) (fun ev h => by simp [go_sem, h.get 49 rfl, hwj]; try first | exact ⟨rfl, rfl⟩ | rfl) fun a31 hA31 => ?_
      refine wl_nil ?_
      refine n_then ?_
      have hA32 := hA31.keep [2, 3, 4, 6, 9, 16, 17]
      simp only [argsE, keepE, lookS, Nat.reduceBEq, cond_true, cond_false, Nat.reduceAdd, gv_tt, gv_ff, Bool.true_and, Bool.false_and, Bool.true_or, Bool.false_or] at hA32
      clear hA29 hA30 hA31 a30
      -- round
      rw [show ((j : Int) + 1) = ((j + 1 : Nat) : Int) by omega] at hA32
      exact ⟨kk - 1, by omega, j + 1, b, A1, c1, l', gs, v9, by omega, hA32, K3, K4, K6, hmx, hbl, hu, HB, by omega, hres, hbx, by omega, by omega, hrow, hoct⟩
    case nR =>
      have hq2 : inU us x.uid = true := by simpa using hq2
      rw [hq2, cond_true] at hres
      have hap : refAppV b.nm b.e b.nx l' x = apR b (strip x) := by unfold apR; rw [← hbl, refAppV_bare]
      have hnx := refAppV_nx (nm := b.nm) (e := b.e) (l := l') (m := x) hbx
      have hlen := refAppV_len b.nm b.e b.nx l' x
      obtain ⟨b', u, q, hap2⟩ : ∃ b' u q, apR b (strip x) = (b', u, q) := ⟨_, _, _, rfl⟩
      rw [hap, hap2] at hnx hlen
      rw [hap2] at hres
      simp only at hres hnx hlen
      refine wp_skip ?_
      refine n_then ?_
      refine wp_seq ?_
      refine wp_region_split 14 ?_
      simp only [List.take_succ_cons, List.take_zero, List.drop_succ_cons, List.drop_zero]
      refine wp_any_split_at hA28 [(.det ?dD0), (.det ?dD1), (.det ?dD2), (.det ?dD3), (.det ?dD4), (.det ?dD5), (.used (fun v wy => ∃ r, v = .tuple #[r, .int .u32 (u : Nat), .int .i64 (q : Nat)] ∧ GivesO w5.heap.size wy r b' (l' ++ [x]))), (.held (fun v wy => ∃ r, v = .tuple #[r, .int .u32 (u : Nat), .int .i64 (q : Nat)] ∧ GivesO w5.heap.size wy r b' (l' ++ [x]))), (.used (fun v wy => GivesO w5.heap.size wy v b' (l' ++ [x]))), (.det ?dD9), (.det ?dD10), (.held (fun v wy => ∃ g a b c d, v = .pointer (some ⟨g, 0, none⟩) ∧ w5.heap.size ≤ g ∧ Blk wy g 25 #[a, b, c, d] ∧ [a, b, c, d].all noU8 = true)), (.det undef), (.det ?dD13)] [⟨(some 12), none, [11], fun sg wy => ∃ (g : Nat) (A9 : Option Addr) (c9 : Nat) (l9 : List MsgV), sg 11 = .pointer (some ⟨g, 0, none⟩) ∧ w5.heap.size ≤ g ∧ Blk wy g 25 #[.string b'.nm, .int .u32 (b'.e : Nat), .int .u32 (b'.nx : Nat), .slice A9 l9.length c9] ∧ OwnM w5.heap.size wy (.slice A9 l9.length c9) l9 ∧ bare l9 = b'.l ∧ ∀ y ∈ l9, ∃ z ∈ l' ++ [x], z.a = y.a ∧ z.b = y.b, fun s s2 wy hs h => by simpa only [hs 11 (by simp)] using h⟩] (fun wy => Below w5.heap.size w5 wy) (TSp [(12, (fun wy wz => ∃ g a b c d, Blk wy g 25 #[a, b, c, d] ∧ [a, b, c, d].all noU8 = true ∧ Only g wy wz ∧ ∃ a' b' c' d', Blk wz g 25 #[a', b', c', d'] ∧ [a', b', c', d'].all noU8 = true))] Grows) (by kernel_rfl) rfl (by kernel_rfl) (by kernel_rfl) rfl (by kernel_rfl) (by kernel_rfl) (by kernel_rfl) (by kernel_rfl) ((Below.refl w5.heap.size w5).drew) (stab_sp [(12, (fun wy wz => ∃ g a b c d, Blk wy g 25 #[a, b, c, d] ∧ [a, b, c, d].all noU8 = true ∧ Only g wy wz ∧ ∃ a' b' c' d', Blk wz g 25 #[a', b', c', d'] ∧ [a', b', c', d'].all noU8 = true))] [true, true, true, true, true, true, false, false, false, true, true, false, true, true] [true, true, true, true, true, true, false, true, false, true, true, true, true, true] [(12, 7), (12, 11)] rfl rfl rfl (by kernel_rfl) ⟨trivial, trivial, trivial, trivial, trivial, trivial, (fun _ _ _ _ ⟨r, h1, v, l9, h2, h3, h4⟩ hb => ⟨r, h1, v, l9, h2, h3.below hb, h4⟩), (fun _ _ _ _ ⟨r, h1, v, l9, h2, h3, h4⟩ hb => ⟨r, h1, v, l9, h2, h3.below hb, h4⟩), (fun _ _ _ _ ⟨v, l9, h2, h3, h4⟩ hb => ⟨v, l9, h2, h3.below hb, h4⟩), trivial, trivial, (fun _ _ _ _ ⟨g, a, b, c, d, h1, h2, h3, h4⟩ hb => ⟨g, a, b, c, d, h1, h2, h3.below hb h3.lt, h4⟩), trivial, trivial, trivial⟩ ⟨(fun _ _ _ _ ⟨r, h1, v, l9, h2, h3, h4, h5⟩ ⟨g, a, b, c, d, hk, hno, hs, _⟩ => ⟨r, h1, v, l9, h2, h3.only hs (own_ne h3.row hk (by decide)) (fun m hm => off_blk (h3.octs m hm) hk hno), h4, h5⟩), (fun _ _ _ _ ⟨g, a, b, c, d, h1, h2, h3, h4⟩ ⟨g', a2, b2, c2, d2, hk, hno, hs, a3, b3, c3, d3, hk3, hno3⟩ => if e : g = g' then ⟨g, a3, b3, c3, d3, h1, h2, e ▸ hk3, hno3⟩ else ⟨g, a, b, c, d, h1, h2, hs.blk h3 e, h4⟩), trivial⟩) (List.forall_mem_cons.2 ⟨(fun hn => by cases hn), (fun _ h => by cases h)⟩) (phase_sp [(12, (fun wy wz => ∃ g a b c d, Blk wy g 25 #[a, b, c, d] ∧ [a, b, c, d].all noU8 = true ∧ Only g wy wz ∧ ∃ a' b' c' d', Blk wz g 25 #[a', b', c', d'] ∧ [a', b', c', d'].all noU8 = true))] [((some 12), none)] [] rfl (by kernel_rfl) (List.forall_mem_cons.2 ⟨fun _ _ _ _ ⟨g, A9, c9, l9, h1, h2, h3, h4, h5⟩ hb => ⟨g, A9, c9, l9, h1, h2, h3.below hb h3.lt, h4.below hb, h5⟩, (fun _ h => by cases h)⟩) trivial) (List.forall_mem_cons.2 ⟨(fun a h => by first | (exact (no_1 h).elim) | (injection h with h; subst h; exact Nat.le_of_ble_eq_true rfl)), (fun _ h => by cases h)⟩) ⟨?oD0, ?oD1, ?oD2, ?oD3, ?oD4, ?oD5, ?oD6, ?oD7, ?oD8, ?oD9, ?oD10, ?oD11, ?oD12, ?oD13, trivial⟩ (by kernel_rfl) ?fD
      case oD0 =>
        intro ev wo hev hC hs hph
        have e4 := see_env hA28 hs 4 (by kernel_rfl) (by kernel_rfl) rfl
        have Kx3 := K3.below hC K3.lt
        have Kx4 := K4.below hC K4.lt
        have HBx := HB.trans (hC.mono HB.size)
        have z0 := (HBx.cell hadl).trans k0
        have z1 := (HBx.cell (p := ⟨(ad.add (j * 4)).block, (ad.add (j * 4)).off + 1, none⟩) hadl).trans k1
        have z2 := (HBx.cell (p := ⟨(ad.add (j * 4)).block, (ad.add (j * 4)).off + 2, none⟩) hadl).trans k2
        have z3 := (HBx.cell (p := ⟨(ad.add (j * 4)).block, (ad.add (j * 4)).off + 3, none⟩) hadl).trans k3
        exact ob_det (wanted_none rfl) rfl (by kernel_rfl) hC (TSp.of rfl (Grows.refl _)) (by simp [go_sem, e4, Kx3.cell, Kx4.cell, z0, z1, z2, z3, K3.cell, z0, jj0, jj1]; try first | exact ⟨rfl, rfl⟩ | rfl)
      case oD1 =>
        intro ev wo hev hC hs hph
        have e3 := see_env hA28 hs 3 (by kernel_rfl) (by kernel_rfl) rfl
        exact ob_det (wanted_none rfl) rfl (by kernel_rfl) hC (TSp.of rfl (Grows.refl _)) (by simp [go_sem, e3]; try first | exact ⟨rfl, rfl⟩ | rfl)
      case oD2 =>
        intro ev wo hev hC hs hph
        have e31 := see_det hs 31 1 (by kernel_rfl) (by kernel_rfl) rfl
        have Kx3 := K3.below hC K3.lt
        have Kx4 := K4.below hC K4.lt
        have HBx := HB.trans (hC.mono HB.size)
        have z0 := (HBx.cell hadl).trans k0
        have z1 := (HBx.cell (p := ⟨(ad.add (j * 4)).block, (ad.add (j * 4)).off + 1, none⟩) hadl).trans k1
        have z2 := (HBx.cell (p := ⟨(ad.add (j * 4)).block, (ad.add (j * 4)).off + 2, none⟩) hadl).trans k2
        have z3 := (HBx.cell (p := ⟨(ad.add (j * 4)).block, (ad.add (j * 4)).off + 3, none⟩) hadl).trans k3
        exact ob_det (wanted_none rfl) rfl (by kernel_rfl) hC (TSp.of rfl (Grows.refl _)) (by simp [go_sem, e31, Kx3.cell, Kx4.cell, z0, z1, z2, z3, K3.cell, z0, jj0, jj1]; try first | exact ⟨rfl, rfl⟩ | rfl)
      case oD3 =>
        intro ev wo hev hC hs hph
        have e10 := see_env hA28 hs 10 (by kernel_rfl) (by kernel_rfl) rfl
        exact ob_det (wanted_none rfl) rfl (by kernel_rfl) hC (TSp.of rfl (Grows.refl _)) (by simp [go_sem, e10]; try first | exact ⟨rfl, rfl⟩ | rfl)
      case oD4 =>
        intro ev wo hev hC hs hph
        have e32 := see_det hs 32 2 (by kernel_rfl) (by kernel_rfl) rfl
        have e33 := see_det hs 33 3 (by kernel_rfl) (by kernel_rfl) rfl
        have Kx3 := K3.below hC K3.lt
        have Kx4 := K4.below hC K4.lt
        have HBx := HB.trans (hC.mono HB.size)
        have z0 := (HBx.cell hadl).trans k0
        have z1 := (HBx.cell (p := ⟨(ad.add (j * 4)).block, (ad.add (j * 4)).off + 1, none⟩) hadl).trans k1
        have z2 := (HBx.cell (p := ⟨(ad.add (j * 4)).block, (ad.add (j * 4)).off + 2, none⟩) hadl).trans k2
        have z3 := (HBx.cell (p := ⟨(ad.add (j * 4)).block, (ad.add (j * 4)).off + 3, none⟩) hadl).trans k3
        exact ob_det (wanted_none rfl) rfl (by kernel_rfl) hC (TSp.of rfl (Grows.refl _)) (by simp [go_sem, e32, e33, jj0, jj1]; try first | exact ⟨rfl, rfl⟩ | rfl)
      case oD5 =>
        intro ev wo hev hC hs hph
        have e34 := see_det hs 34 4 (by kernel_rfl) (by kernel_rfl) rfl
        have Kx3 := K3.below hC K3.lt
        have Kx4 := K4.below hC K4.lt
        have HBx := HB.trans (hC.mono HB.size)
        have z0 := (HBx.cell hadl).trans k0
        have z1 := (HBx.cell (p := ⟨(ad.add (j * 4)).block, (ad.add (j * 4)).off + 1, none⟩) hadl).trans k1
        have z2 := (HBx.cell (p := ⟨(ad.add (j * 4)).block, (ad.add (j * 4)).off + 2, none⟩) hadl).trans k2
        have z3 := (HBx.cell (p := ⟨(ad.add (j * 4)).block, (ad.add (j * 4)).off + 3, none⟩) hadl).trans k3
        exact ob_det (wanted_none rfl) rfl (by kernel_rfl) hC (TSp.of rfl (Grows.refl _)) (by simp [go_sem, e34, Kx3.cell, Kx4.cell, z0, z1, z2, z3, K3.cell, z0, jj0, jj1]; try first | exact ⟨rfl, rfl⟩ | rfl)
      case oD6 =>
        intro ev wo hev hC hs hph
        have e30 := see_det hs 30 0 (by kernel_rfl) (by kernel_rfl) rfl
        have e35 := see_det hs 35 5 (by kernel_rfl) (by kernel_rfl) rfl
        have Kx3 := K3.below hC K3.lt
        have Kx4 := K4.below hC K4.lt
        have HBx := HB.trans (hC.mono HB.size)
        have z0 := (HBx.cell hadl).trans k0
        have z1 := (HBx.cell (p := ⟨(ad.add (j * 4)).block, (ad.add (j * 4)).off + 1, none⟩) hadl).trans k1
        have z2 := (HBx.cell (p := ⟨(ad.add (j * 4)).block, (ad.add (j * 4)).off + 2, none⟩) hadl).trans k2
        have z3 := (HBx.cell (p := ⟨(ad.add (j * 4)).block, (ad.add (j * 4)).off + 3, none⟩) hadl).trans k3
        exact ob_yes (wanted_none rfl) (does_enter (by simp [go_sem, e30, e35, hev.func, hev.const]; try first | exact ⟨rfl, rfl⟩ | rfl) (Calls.mono (refAppend_any b.nm A1 c1 l'.length b.e b.nx l' x _ (by omega) hbx (hmx.below hC) (((hms.octs x hxm).below HBx).more HBx.size) (hms.caps x hxm)) (by
          rw [hap, hap2]
          rintro ev2 w9 ⟨r, rfl, hr, hb3⟩
          exact ⟨_, rfl, hC.trans (hb3.mono hC.size), TSp.of rfl hb3, ⟨r, rfl, by obtain ⟨v, l9, h2, h3, h4⟩ := hr; exact ⟨v, l9, h2, h3.mono hC.size, h4⟩⟩, no_start (by kernel_rfl)⟩)))
      case oD7 =>
        intro ev wo hev hC hs hph
        have u36 := see_used hs 36 6 (by kernel_rfl) (by kernel_rfl) rfl
        have Kx3 := K3.below hC K3.lt
        have Kx4 := K4.below hC K4.lt
        have HBx := HB.trans (hC.mono HB.size)
        have z0 := (HBx.cell hadl).trans k0
        have z1 := (HBx.cell (p := ⟨(ad.add (j * 4)).block, (ad.add (j * 4)).off + 1, none⟩) hadl).trans k1
        have z2 := (HBx.cell (p := ⟨(ad.add (j * 4)).block, (ad.add (j * 4)).off + 2, none⟩) hadl).trans k2
        have z3 := (HBx.cell (p := ⟨(ad.add (j * 4)).block, (ad.add (j * 4)).off + 3, none⟩) hadl).trans k3
        exact ob_yes (wanted_none rfl) (does_value (v := ev (.tmp 36)) (by simp [go_sem]) ⟨hC, TSp.of rfl (Grows.refl _), u36, no_start (by kernel_rfl)⟩)
      case oD8 =>
        intro ev wo hev hC hs hph
        have u29 := see_held hs 29 7 (by kernel_rfl) (by kernel_rfl) rfl
        have Kx3 := K3.below hC K3.lt
        have Kx4 := K4.below hC K4.lt
        have HBx := HB.trans (hC.mono HB.size)
        have z0 := (HBx.cell hadl).trans k0
        have z1 := (HBx.cell (p := ⟨(ad.add (j * 4)).block, (ad.add (j * 4)).off + 1, none⟩) hadl).trans k1
        have z2 := (HBx.cell (p := ⟨(ad.add (j * 4)).block, (ad.add (j * 4)).off + 2, none⟩) hadl).trans k2
        have z3 := (HBx.cell (p := ⟨(ad.add (j * 4)).block, (ad.add (j * 4)).off + 3, none⟩) hadl).trans k3
        obtain ⟨r, e29, hr⟩ := u29
        exact ob_yes (wanted_none rfl) (does_value (v := r) (by simp [go_sem, e29]) ⟨hC, TSp.of rfl (Grows.refl _), hr, no_start (by kernel_rfl)⟩)
      case oD9 =>
        intro ev wo hev hC hs hph
        have u29 := see_held hs 29 7 (by kernel_rfl) (by kernel_rfl) rfl
        have Kx3 := K3.below hC K3.lt
        have Kx4 := K4.below hC K4.lt
        have HBx := HB.trans (hC.mono HB.size)
        have z0 := (HBx.cell hadl).trans k0
        have z1 := (HBx.cell (p := ⟨(ad.add (j * 4)).block, (ad.add (j * 4)).off + 1, none⟩) hadl).trans k1
        have z2 := (HBx.cell (p := ⟨(ad.add (j * 4)).block, (ad.add (j * 4)).off + 2, none⟩) hadl).trans k2
        have z3 := (HBx.cell (p := ⟨(ad.add (j * 4)).block, (ad.add (j * 4)).off + 3, none⟩) hadl).trans k3
        obtain ⟨r, e29, hr⟩ := u29
        exact ob_det (wanted_none rfl) rfl (by kernel_rfl) hC (TSp.of rfl (Grows.refl _)) (by simp [go_sem, e29]; try first | exact ⟨rfl, rfl⟩ | rfl)
      case oD10 =>
        intro ev wo hev hC hs hph
        have u29 := see_held hs 29 7 (by kernel_rfl) (by kernel_rfl) rfl
        have Kx3 := K3.below hC K3.lt
        have Kx4 := K4.below hC K4.lt
        have HBx := HB.trans (hC.mono HB.size)
        have z0 := (HBx.cell hadl).trans k0
        have z1 := (HBx.cell (p := ⟨(ad.add (j * 4)).block, (ad.add (j * 4)).off + 1, none⟩) hadl).trans k1
        have z2 := (HBx.cell (p := ⟨(ad.add (j * 4)).block, (ad.add (j * 4)).off + 2, none⟩) hadl).trans k2
        have z3 := (HBx.cell (p := ⟨(ad.add (j * 4)).block, (ad.add (j * 4)).off + 3, none⟩) hadl).trans k3
        obtain ⟨r, e29, hr⟩ := u29
        exact ob_det (wanted_none rfl) rfl (by kernel_rfl) hC (TSp.of rfl (Grows.refl _)) (by simp [go_sem, e29]; try first | exact ⟨rfl, rfl⟩ | rfl)
      case oD11 =>
        intro ev wo hev hC hs hph
        have Kx3 := K3.below hC K3.lt
        have Kx4 := K4.below hC K4.lt
        have HBx := HB.trans (hC.mono HB.size)
        have z0 := (HBx.cell hadl).trans k0
        have z1 := (HBx.cell (p := ⟨(ad.add (j * 4)).block, (ad.add (j * 4)).off + 1, none⟩) hadl).trans k1
        have z2 := (HBx.cell (p := ⟨(ad.add (j * 4)).block, (ad.add (j * 4)).off + 2, none⟩) hadl).trans k2
        have z3 := (HBx.cell (p := ⟨(ad.add (j * 4)).block, (ad.add (j * 4)).off + 3, none⟩) hadl).trans k3
        have hbn := (Below.refl wo.heap.size wo).alloc (Nat.le_refl _) (.cells #[.string ⟨#[]⟩, .int .u32 0, .int .u32 0, .slice none 0 0] 25)
        exact ob_yes (wanted_none rfl) (does_value (v := .pointer (some ⟨wo.heap.size, 0, none⟩)) (w' := wo.alloc (.cells #[.string ⟨#[]⟩, .int .u32 0, .int .u32 0, .slice none 0 0] 25)) (by simp [go_sem]) ⟨hC.trans (hbn.mono hC.size), TSp.of rfl hbn, ⟨_, _, _, _, _, rfl, hC.size, Blk.new wo _ _, rfl⟩, no_start (by kernel_rfl)⟩)
      case oD12 =>
        intro ev wo hev hC hs hph
        have u11 := see_held hs 11 11 (by kernel_rfl) (by kernel_rfl) rfl
        have u37 := see_used hs 37 8 (by kernel_rfl) (by kernel_rfl) rfl
        have Kx3 := K3.below hC K3.lt
        have Kx4 := K4.below hC K4.lt
        have HBx := HB.trans (hC.mono HB.size)
        have z0 := (HBx.cell hadl).trans k0
        have z1 := (HBx.cell (p := ⟨(ad.add (j * 4)).block, (ad.add (j * 4)).off + 1, none⟩) hadl).trans k1
        have z2 := (HBx.cell (p := ⟨(ad.add (j * 4)).block, (ad.add (j * 4)).off + 2, none⟩) hadl).trans k2
        have z3 := (HBx.cell (p := ⟨(ad.add (j * 4)).block, (ad.add (j * 4)).off + 3, none⟩) hadl).trans k3
        obtain ⟨g, a, b2, c3, d, e11, hg2, hk, hno⟩ := u11
        obtain ⟨v, l9, e37, ho9, hbl9, hz9⟩ := u37
        obtain ⟨A9, c9, hv, _, _⟩ := ho9.msgs
        subst hv
        have hs := Only.setAll (g := g) [.string b'.nm, .int .u32 (b'.e : Nat), .int .u32 (b'.nx : Nat), .slice A9 l9.length c9] 0 wo
        have hK2 : Blk (setAll wo g 0 [.string b'.nm, .int .u32 (b'.e : Nat), .int .u32 (b'.nx : Nat), .slice A9 l9.length c9]) g 25 #[.string b'.nm, .int .u32 (b'.e : Nat), .int .u32 (b'.nx : Nat), .slice A9 l9.length c9] := by simpa using blk_setAll [.string b'.nm, .int .u32 (b'.e : Nat), .int .u32 (b'.nx : Nat), .slice A9 l9.length c9] 0 _ _ hk rfl
        exact ob_yes (wanted_none rfl) (does_skip (w' := setAll wo g 0 [.string b'.nm, .int .u32 (b'.e : Nat), .int .u32 (b'.nx : Nat), .slice A9 l9.length c9]) (by simp [go_sem, e11, e37, setAll, hk.cell, hk.frozen]) ⟨hs.below hC hg2, TSp.sp rfl ⟨g, a, b2, c3, d, hk, hno, hs, _, _, _, _, hK2, rfl⟩, rfl, (List.forall_mem_cons.2 ⟨fun _ => ⟨g, A9, c9, l9, e11, hg2, hK2, ho9.only hs (own_ne ho9.row hk (by decide)) (fun m hm => off_blk (ho9.octs m hm) hk hno), hbl9, hz9⟩, (fun _ h => by cases h)⟩)⟩)
      case oD13 =>
        intro ev wo hev hC hs hph
        have e38 := see_det hs 38 9 (by kernel_rfl) (by kernel_rfl) rfl
        exact ob_det (wanted_none rfl) rfl (by kernel_rfl) hC (TSp.of rfl (Grows.refl _)) (by simp [go_sem, e38]; try first | exact ⟨rfl, rfl⟩ | rfl)
      intro sg wf hC hph
      intro x36 hx36
      intro x29 hx29 h29
      intro x37 hx37
      intro x11 hx11 h11
      intro a33 hA33
      have hA34 := hA33.keep [2, 3, 4, 6, 9, 11, 12, 16, 17, 39]
      simp only [argsE, keepE, lookS, Nat.reduceBEq, cond_true, cond_false, Nat.reduceAdd, gv_tt, gv_ff, Bool.true_and, Bool.false_and, Bool.true_or, Bool.false_or] at hA34
      clear hA28 hA33
      obtain ⟨g, A9, c9, l9, hg, hgB, K11, ho9, hbl9, hz9⟩ := (hph _ List.mem_cons_self rfl)
      rw [hg] at hx11
      subst hx11
      clear h11 hg hmx
      replace K3 := K3.below hC K3.lt
      replace K4 := K4.below hC K4.lt
      replace K6 := K6.below hC K6.lt
      replace HB := HB.trans (hC.mono HB.size)
      replace hu := hu.below hC
      have hzf := hC.size
      have hl9 : l9.length ≤ 500 := by rw [← bare_len, hbl9]; exact hlen
      have hoct9 : ∀ y ∈ l9, 0 < y.b.length → ∀ ad, y.a = some ad → ad.block < w.heap.size := fun y hy hn ad ha => by
        obtain ⟨z, hz, h1, h2⟩ := hz9 y hy
        rw [← h2] at hn
        rw [← h1] at ha
        rcases List.mem_append.1 hz with hz | hz
        · exact hoct z hz hn ad ha
        · rw [List.mem_singleton.1 hz] at hn ha
          exact hfarO x (hms.octs x hxm) hn ad ha
      refine wl_op hA34 rfl rfl (by decide) (fun ev h => by simp [go_sem, h.get 39 rfl, K3.cell, z0, jj0, jj1]; try first | exact ⟨rfl, rfl⟩ | rfl) fun a35 hA35 => ?_
      refine wl_nil ?_
      refine n_then ?_
      have hA36 := hA35.keep [2, 3, 4, 6, 9, 11, 12, 13, 16, 17]
      simp only [argsE, keepE, lookS, Nat.reduceBEq, cond_true, cond_false, Nat.reduceAdd, gv_tt, gv_ff, Bool.true_and, Bool.false_and, Bool.true_or, Bool.false_or] at hA36
      clear hA34 hA35 a33
      refine wp_seq ?_
      refine wp_seq ?_
      refine wp_region_lit ?_
      refine wl_op hA36 rfl rfl (by decide) (fun ev h => by simp [go_sem, h.get 13 rfl, K3.cell, z0, jj0, jj1]; try first | exact ⟨rfl, rfl⟩ | rfl) fun a37 hA37 => ?_
      refine wl_op hA37 rfl rfl (by decide) (fun ev h => by simp [go_sem, h.c, h.get 40 rfl, K3.cell, z0, jj0, jj1]; try first | exact ⟨rfl, rfl⟩ | rfl) fun a38 hA38 => ?_
      refine wl_nil ?_
      refine n_then ?_
      have hA39 := hA38.keep [2, 3, 4, 6, 9, 11, 12, 13, 16, 17, 41]
      simp only [argsE, keepE, lookS, Nat.reduceBEq, cond_true, cond_false, Nat.reduceAdd, gv_tt, gv_ff, Bool.true_and, Bool.false_and, Bool.true_or, Bool.false_or] at hA39
      clear hA36 hA37 hA38 a35 a37
      -- cond
      rw [show ((q : Int) != 0) = !(q == 0) by unfold bne; rw [show ((q : Int) == 0) = (q == 0) by rw [Bool.eq_iff_iff]; simp]] at hA39
      refine wp_if hA39 41 _ rfl (fun hq3 => ?yS) (fun hq3 => ?nS)
      case yS =>
        have hq3 : (q == 0) = false := by simpa using hq3
        rw [hq3, cond_false] at hres
        refine wp_seq ?_
        refine wp_region_lit ?_
        refine wl_op hA39 rfl rfl (by decide) (fun ev h => by simp [go_sem, K3.cell, z0, jj0, jj1]; try first | exact ⟨rfl, rfl⟩ | rfl) fun a40 hA40 => ?_
        refine wl_op hA40 rfl rfl (by decide) (fun ev h => by simp [go_sem, h.get 13 rfl, K3.cell, z0, jj0, jj1]; try first | exact ⟨rfl, rfl⟩ | rfl) fun a41 hA41 => ?_
        -- stop store slot None
        refine wl_set [.string ⟨#[]⟩, .int .u32 0, .int .u32 0, .slice none 0 0] hA41 rfl rfl K6 (by rfl) (fun ev h => by simp [go_sem, h.get 6 rfl, h.get 42 rfl, K3.cell, z0, jj0, jj1, setAll, K6.cell, K6.frozen]) fun w14 (K6 : Blk _ _ _ _) hs14 => ?_
        refine wl_op hA41 rfl rfl (by decide) (fun ev h => by simp [go_sem, h.c, K6.cell]; try first | exact ⟨rfl, rfl⟩ | rfl) fun a42 hA42 => ?_
        refine wl_op hA42 rfl rfl (by decide) (fun ev h => by simp [go_sem, h.get 43 rfl, K6.cell]; try first | exact ⟨rfl, rfl⟩ | rfl) fun a43 hA43 => ?_
        refine wl_nil ?_
        refine n_then ?_
        have hA44 := hA43.keep [6, 7, 8]
        simp only [argsE, keepE, lookS, Nat.reduceBEq, cond_true, cond_false, Nat.reduceAdd, gv_tt, gv_ff, Bool.true_and, Bool.false_and, Bool.true_or, Bool.false_or] at hA44
        clear hA39 hA40 hA41 hA42 hA43 a40 a41 a42
        refine wp_ret ?_
        refine r_then ?_
        refine r_block ?_
        refine r_then ?_
        refine r_then ?_
        refine r_block ?_
        refine r_then ?_
        refine bodyPost_ret (by simp [results, Tryd.results24, go_sem, hA44.env 6 _ rfl, hA44.env 7 _ rfl, hA44.env 8 _ rfl, K6.cell]; try first | exact ⟨rfl, rfl⟩ | rfl) hA44.defers ?_
        rw [← hres]
        exact ⟨_, _, rfl, ⟨none, 0, [], rfl, Msgs.nil _, rfl⟩, OwnU.nil _ _, hs14.below HB (by omega)⟩
      case nS =>
        have hq3 : (q == 0) = true := by simpa using hq3
        rw [hq3, cond_true] at hres
        have hne4 := own_ne ho9.row K4 (by decide)
        have hoff4 : ∀ m ∈ l9, Off w1.heap.size m := fun m hm => off_blk (ho9.octs m hm) K4 rfl
        have hneu4 := own_ne hu K4 (by decide)
        refine wp_skip ?_
        refine n_then ?_
        refine wp_seq ?_
        refine wp_region_lit ?_
        refine wl_op hA39 rfl rfl (by decide) (fun ev h => by simp [go_sem, h.get 11 rfl, K11.cell]; try first | exact ⟨rfl, rfl⟩ | rfl) fun a45 hA45 => ?_
        -- stop store slot None
        refine wl_set [.string b'.nm, .int .u32 (b'.e : Nat), .int .u32 (b'.nx : Nat), .slice A9 l9.length c9] hA45 rfl rfl K4 (by rfl) (fun ev h => by simp [go_sem, h.get 4 rfl, h.get 44 rfl, K11.cell, setAll, K4.cell, K4.frozen]) fun w14 (K4 : Blk _ _ _ _) hs14 => ?_
        replace ho9 := ho9.only hs14 hne4 hoff4
        replace hu : OwnU w3.heap.size w14 v9 gs := hu.keep fun g hg => hs14.block g (hneu4 g hg)
        replace K3 := hs14.blk K3 (by omega)
        replace K6 := hs14.blk K6 (by omega)
        replace HB := hs14.below HB (by omega)
        have hz14 := hs14.size
        refine wl_nil ?_
        refine n_then ?_
        have hA46 := hA45.keep [2, 3, 4, 6, 9, 12, 16, 17]
        simp only [argsE, keepE, lookS, Nat.reduceBEq, cond_true, cond_false, Nat.reduceAdd, gv_tt, gv_ff, Bool.true_and, Bool.false_and, Bool.true_or, Bool.false_or] at hA46
        clear hA39 hA45
        refine wp_region_lit ?_
        refine wl_op hA46 rfl rfl (by decide) (fun ev h => by simp [go_sem, h.get 9 rfl, K11.cell]; try first | exact ⟨rfl, rfl⟩ | rfl) fun a47 hA47 => ?_
        refine wl_op hA47 rfl rfl (by decide) (fun ev h => by simp [go_sem, h.get 12 rfl, K11.cell]; try first | exact ⟨rfl, rfl⟩ | rfl) fun a48 hA48 => ?_
        -- stop buildSlice slot 47
        refine wl_new hA48 rfl rfl (by decide) (fun ev h => by simp [go_sem, h.get 46 rfl, K11.cell]; try first | exact ⟨rfl, rfl⟩ | rfl) fun w15 a49 (K47 : Blk _ _ _ _) hz15 hb15 hA49 => ?_
        replace K3 := K3.below hb15 K3.lt
        replace K4 := K4.below hb15 K4.lt
        replace K6 := K6.below hb15 K6.lt
        replace HB := HB.trans (hb15.mono HB.size)
        replace hu := hu.below hb15
        replace ho9 := ho9.below hb15
        -- stop call slot 48
        obtain ⟨r, w16, hr, hu16, hgr⟩ := run_appU (m := [u]) (c := 1) hu (u32_blk K47) (by simp; omega) (by omega)
        have hap16 : Apart (fun i => v9.ownBlock = some i) w15 w16 := (Apart.refl _ w15).grown hgr (fun g hg => .inr hg)
        have hbu : ∀ g, v9.ownBlock = some g → w3.heap.size ≤ g := fun g hg => (World.ownsRow.lt hu g hg).1
        refine wl_op hA49 rfl rfl (by decide) (fun ev h => exec_append rfl (h.get 45 rfl) (h.get 47 rfl) hr) fun a50 hA50 => ?_
        have hz16 := hgr.size
        have ho16 : OwnM w5.heap.size w16 (.slice A9 l9.length c9) l9 :=
          ⟨own_keep ho9.row fun g hg => hap16.block g (World.ownsRow.lt ho9.row g hg).2 (fun h => own_ne2 ho9.row hu (by decide) hg h rfl), fun m hm => hap16.reads (ho9.octs m hm) (fun hn ad ha h => by
            have h1 := hoct9 m hm hn ad ha
            have h2 := hbu _ h
            omega), ho9.off, ho9.uids, ho9.caps⟩
        replace K3 := hap16.blk K3 (fun h => own_ne hu K3 (by decide) _ h rfl)
        replace K4 := hap16.blk K4 (fun h => own_ne hu K4 (by decide) _ h rfl)
        replace K6 := hap16.blk K6 (fun h => own_ne hu K6 (by decide) _ h rfl)
        replace HB := HB.trans (hap16.toBelow (B := w.heap.size) (fun i hi => by have := hbu i hi; omega) (by omega))
        have hm16 : Msgs w16 A9 l9.length l9 := by
          obtain ⟨A', c', e, h, _⟩ := ho16.msgs
          injection e with e1 _ _
          subst e1
          exact h
        refine wl_op hA50 rfl rfl (by decide) (fun ev h => by simp [go_sem, h.get 48 rfl, hwj]; try first | exact ⟨rfl, rfl⟩ | rfl) fun a51 hA51 => ?_
        refine wl_nil ?_
        refine n_block ?_
        refine n_then ?_
        have hA52 := hA51.keep [2, 3, 4, 6, 9, 16, 17]
        simp only [argsE, keepE, lookS, Nat.reduceBEq, cond_true, cond_false, Nat.reduceAdd, gv_tt, gv_ff, Bool.true_and, Bool.false_and, Bool.true_or, Bool.false_or] at hA52
        clear hA46 hA47 hA48 hA49 hA50 hA51 a45 a47 a48 a49 a50
        refine wp_region_lit ?_
        refine wl_op hA52 rfl rfl (by decide) (fun ev h => by simp [go_sem, h.c, h.get 17 rfl, hwj]; try first | exact ⟨rfl, rfl⟩ | rfl) fun a53 hA53 => ?_
        refine wl_op hA53 rfl rfl (by decide) (fun ev h => by simp [go_sem, h.get 49 rfl, hwj]; try first | exact ⟨rfl, rfl⟩ | rfl) fun a54 hA54 => ?_
        refine wl_nil ?_
        refine n_then ?_
        have hA55 := hA54.keep [2, 3, 4, 6, 9, 16, 17]
        simp only [argsE, keepE, lookS, Nat.reduceBEq, cond_true, cond_false, Nat.reduceAdd, gv_tt, gv_ff, Bool.true_and, Bool.false_and, Bool.true_or, Bool.false_or] at hA55
        clear hA52 hA53 hA54 a51 a53
        -- round
        rw [show ((j : Int) + 1) = ((j + 1 : Nat) : Int) by omega] at hA55
        exact ⟨kk - 1, by omega, j + 1, b', A9, c9, l9, gs ++ [u], _, by omega, hA55, K3, K4, K6, hm16, hbl9, hu16, HB, by omega, hres, hnx, by omega, by simp; omega, fun hn ad ha => .inr (by have := own_ge ho16 (g := ad.block) (by rw [ha]; rfl); omega), hoct9⟩
  case nL =>
    have hjn : j = n := by simp at hq; omega
    subst hjn
    rw [List.drop_of_length_le (by omega)] at hres
    have hres2 : (b, gs, 0) = res := hres
    have hneu6 := own_ne hu K6 (by decide)
    refine wp_exit ?_
    refine x_then ?_
    refine x_then ?_
    refine x_block ?_
    refine n_then ?_
    have hA56 := hA15.keep [4, 6, 9]
    simp only [argsE, keepE, lookS, Nat.reduceBEq, cond_true, cond_false, Nat.reduceAdd, gv_tt, gv_ff, Bool.true_and, Bool.false_and, Bool.true_or, Bool.false_or] at hA56
    clear hA15
    refine wp_seq ?_
    refine wp_region_lit ?_
    refine wl_op hA56 rfl rfl (by decide) (fun ev h => by simp [go_sem, h.get 4 rfl, K4.cell]; try first | exact ⟨rfl, rfl⟩ | rfl) fun a57 hA57 => ?_
    refine wl_op hA57 rfl rfl (by decide) (fun ev h => by simp [go_sem, h.get 9 rfl, K4.cell]; try first | exact ⟨rfl, rfl⟩ | rfl) fun a58 hA58 => ?_
    -- stop store slot None
    refine wl_set [.string b.nm, .int .u32 (b.e : Nat), .int .u32 (b.nx : Nat), .slice A1 l'.length c1] hA58 rfl rfl K6 (by rfl) (fun ev h => by simp [go_sem, h.get 6 rfl, h.get 50 rfl, K4.cell, setAll, K6.cell, K6.frozen]) fun w14 (K6 : Blk _ _ _ _) hs14 => ?_
    refine wl_op hA58 rfl rfl (by decide) (fun ev h => by simp [go_sem, h.get 51 rfl, K6.cell]; try first | exact ⟨rfl, rfl⟩ | rfl) fun a59 hA59 => ?_
    refine wl_op hA59 rfl rfl (by decide) (fun ev h => by simp [go_sem, h.c, K6.cell]; try first | exact ⟨rfl, rfl⟩ | rfl) fun a60 hA60 => ?_
    refine wl_nil ?_
    refine n_then ?_
    have hA61 := hA60.keep [6, 7, 8]
    simp only [argsE, keepE, lookS, Nat.reduceBEq, cond_true, cond_false, Nat.reduceAdd, gv_tt, gv_ff, Bool.true_and, Bool.false_and, Bool.true_or, Bool.false_or] at hA61
    clear hA56 hA57 hA58 hA59 hA60 a57 a58 a59
    refine wp_ret ?_
    refine bodyPost_ret (by simp [results, Tryd.results24, go_sem, hA61.env 6 _ rfl, hA61.env 7 _ rfl, hA61.env 8 _ rfl, K6.cell]; try first | exact ⟨rfl, rfl⟩ | rfl) hA61.defers ?_
    rw [← hres2]
    refine ⟨_, _, rfl, ⟨A1, c1, l', rfl, hmx.only hs14 (fun hn ad ha => ?_) (fun m hm hn ad ha => ?_), hbl⟩, (hu.keep fun g hg => hs14.block g (hneu6 g hg)).mono (by omega), hs14.below HB (by omega)⟩
    · rcases hrow hn ad ha with h | h <;> omega
    · have := hoct m hm hn ad ha
      omega
end Go.Proofs.YtbbhblnhbgkcaaaDoor
