/-
  Walks: flags of those that are named are changed.
-/
import Derived.Test.YtbbhblnhbgkcaaaDoorMailRefAppend
import Derived.Test.YtbbhblnhbgkcaaaDoorChange
import Derived.Test.YtbbhblnhbgkcaaaDoorUids
namespace Go.Proofs.YtbbhblnhbgkcaaaDoor
open Go.RowKit
set_option linter.unusedSimpArgs false
set_option linter.unusedVariables false
def mixL {M : Type} (f : M → M) (l : List M) (j : Nat) : List M := (l.take j).map f ++ l.drop j
theorem mixL_len {M : Type} (f : M → M) (l : List M) (j : Nat) : (mixL f l j).length = l.length := by
  unfold mixL
  rw [List.length_append, List.length_map, List.length_take, List.length_drop]
  omega
theorem mixL_0 {M : Type} (f : M → M) (l : List M) : mixL f l 0 = l := by simp [mixL]
theorem mixL_all {M : Type} (f : M → M) (l : List M) : mixL f l l.length = l.map f := by simp [mixL]
theorem mixL_get {M : Type} (f : M → M) (l : List M) (j : Nat) (h : j < l.length) : (mixL f l j)[j]? = l[j]? := by
  unfold mixL
  have hl : ((l.take j).map f).length = j := by simp; omega
  rw [List.getElem?_append_right (by omega), hl, Nat.sub_self, List.getElem?_drop, Nat.add_zero]
theorem mixL_set {M : Type} (f : M → M) (l : List M) (j : Nat) (x : M) (hx : l[j]? = some x) : (mixL f l j).set j (f x) = mixL f l (j + 1) := by
  have hj := (List.getElem?_eq_some_iff.1 hx).1
  have hl : ((l.take j).map f).length = j := by simp; omega
  unfold mixL
  rw [List.set_append_right _ _ (by omega), hl, Nat.sub_self, List.drop_eq_getElem_cons hj, List.set_cons_zero, List.take_add_one, hx, List.map_append, List.append_assoc]
  rfl
theorem mixL_same {M : Type} (f : M → M) (l : List M) (j : Nat) (x : M) (hx : l[j]? = some x) (h : f x = x) : mixL f l (j + 1) = mixL f l j := by
  rw [← mixL_set f l j x hx, h]
  refine List.ext_getElem? fun i => ?_
  rw [List.getElem?_set]
  split
  · next e =>
    subst e
    have := (List.getElem?_eq_some_iff.1 hx).1
    rw [mixL_get f l j this, hx, mixL_len]
    simp [this]
  · rfl
/-- a message whose flags are changed, if it is named -/
def chg (us : List Nat) (by_ how : Int) (m : MsgV) : MsgV := bif inU us m.uid then { m with flags := (changeV m.flags by_ how : Nat) } else m
theorem chg_uid (us : List Nat) (by_ how : Int) (m : MsgV) : (chg us by_ how m).uid = m.uid := by unfold chg; cases inU us m.uid <;> rfl
theorem chg_b (us : List Nat) (by_ how : Int) (m : MsgV) : (chg us by_ how m).b = m.b := by unfold chg; cases inU us m.uid <;> rfl
theorem chg_date (us : List Nat) (by_ how : Int) (m : MsgV) : (chg us by_ how m).date = m.date := by unfold chg; cases inU us m.uid <;> rfl
theorem chg_strip (us : List Nat) (by_ how : Int) (m : MsgV) : strip (chg us by_ how m) = chg us by_ how (strip m) := by
  unfold chg
  show strip (bif inU us m.uid then _ else _) = (bif inU us m.uid then _ else _)
  cases inU us m.uid <;> rfl
theorem bare_set2 {l : List MsgV} {i : Nat} {y : MsgV} : bare (l.set i y) = (bare l).set i (strip y) := by unfold bare; rw [List.map_set]
def storeV (nm : ByteArray) (e nx : Nat) (l : List MsgV) (us : List Nat) (by_ how : Int) : BoxV := ⟨nm, e, nx, (bare l).map (chg us by_ how)⟩
def stV (nm : ByteArray) (e nx : Nat) (l : List MsgV) (us : List Nat) (by_ how : Int) : BoxV × Nat := bif !boxRight nm e nx l then (zeroB, 1) else (storeV nm e nx l us by_ how, 0)
set_option maxRecDepth 100000 in
set_option maxHeartbeats 2000000 in
theorem store_any (nm : ByteArray) (A A2 : Option Addr) (c n e nx c2 k : Nat) (l : List MsgV) (us : List Nat) (by_ how : Int) (w : World) (hm : MaxCell w) (hg : 1 < w.heap.size) (htab : Lib.TabIs Tryd.prog w "internal/strconv.uint64pow10" .u64 Lib.pow10Tab)
    (hs : nm.size ≤ 9223372036854775807) (hn : n ≤ 140737488355328) (hms : Msgs w A n l) (hk : k ≤ 140737488355328) (hus : us.length = k) (hur : Reads w w.heap.size 1 A2 k (u32s us)) :
    Calls Tryd.prog 19 #[.agg (boxC nm e nx A n c), .slice A2 k c2, .int .i64 by_, .int .i64 how] w fun ev w' => ∃ r, ev = .returned (.tuple #[r, .int .i64 ((stV nm e nx l us by_ how).2 : Nat)]) ∧ GivesB w.heap.size w' r (stV nm e nx l us by_ how).1 ∧ Below w.heap.size w w' := by
  have Ht := Lib.tabBelow_of_tabIs htab
  have hl := hms.len
  refine calls_at 43 Tryd.func19 rfl rfl (Nat.le_of_ble_eq_true rfl) ?_
  intro a hA
  simp only [argsE, keepE, lookS, Nat.reduceBEq, cond_true, cond_false, Nat.reduceAdd, gv_tt, gv_ff, Bool.true_and, Bool.false_and, Bool.true_or, Bool.false_or] at hA
  refine wp_seq ?_
  refine wp_region_lit ?_
  -- stop box slot 4
  refine wl_new hA rfl rfl (by decide) (fun ev h => by simp [go_sem, h.get 0 rfl]; try first | exact ⟨rfl, rfl⟩ | rfl) fun w1 a1 (K : Blk _ _ _ _) hz1 hb1 hA1 => ?_
  replace hm := hm.below hg hb1; replace hg := Nat.lt_of_lt_of_le hg hb1.size
  refine wl_new hA1 rfl rfl (by decide) (fun ev h => by simp [go_sem]; try first | exact ⟨rfl, rfl⟩ | rfl) fun w2 a2 (K8 : Blk _ _ _ _) hz2 hb2 hA2 => ?_
  replace hm := hm.below hg hb2; replace hg := Nat.lt_of_lt_of_le hg hb2.size
  replace K := K.below hb2 K.lt
  have HB := hb1.trans (hb2.mono hb1.size)
  unfold boxC at K
  refine wl_op hA2 rfl rfl (by decide) (fun ev h => by simp [go_sem, h.c, K.cell]; try first | exact ⟨rfl, rfl⟩ | rfl) fun a3 hA3 => ?_
  refine wl_nil ?_
  refine n_then ?_
  have hA4 := hA3.keep [1, 2, 3, 4, 8]
  simp only [argsE, keepE, lookS, Nat.reduceBEq, cond_true, cond_false, Nat.reduceAdd, gv_tt, gv_ff, Bool.true_and, Bool.false_and, Bool.true_or, Bool.false_or] at hA4
  clear hA hA1 hA2 hA3 a1 a2
  refine wp_seq ?_
  refine wp_seq ?_
  refine wp_region_lit ?_
  refine wl_op hA4 rfl rfl (by decide) (fun ev h => by simp [go_sem, h.get 4 rfl, K.cell]; try first | exact ⟨rfl, rfl⟩ | rfl) fun a5 hA5 => ?_
  -- stop call slot 14
  refine wl_call hA5 rfl rfl (by decide) (fun ev h => by simp [go_sem, h.get 13 rfl, K.cell, h.f]; try first | exact ⟨rfl, rfl⟩ | rfl) (right_any nm A c n e nx l _ hm hg (Ht _ HB) hs (by omega) (hms.below HB)) ?_
  rintro e w3 ⟨rfl, hb3⟩
  refine ⟨_, rfl, fun a6 hA6 => ?_⟩
  replace hm := hm.below hg hb3; replace hg := Nat.lt_of_lt_of_le hg hb3.size
  replace K := K.below hb3 K.lt
  replace K8 := K8.below hb3 K8.lt
  replace HB := HB.trans (hb3.mono HB.size)
  have hz3 := hb3.size
  refine wl_op hA6 rfl rfl (by decide) (fun ev h => by simp [go_sem, h.get 14 rfl, K.cell]; try first | exact ⟨rfl, rfl⟩ | rfl) fun a7 hA7 => ?_
  refine wl_nil ?_
  refine n_then ?_
  have hA8 := hA7.keep [1, 2, 3, 4, 8, 15]
  simp only [argsE, keepE, lookS, Nat.reduceBEq, cond_true, cond_false, Nat.reduceAdd, gv_tt, gv_ff, Bool.true_and, Bool.false_and, Bool.true_or, Bool.false_or] at hA8
  clear hA4 hA5 hA6 hA7 a3 a5 a6
  -- cond
  refine wp_if hA8 15 _ rfl (fun hq => ?yA) (fun hq => ?nA)
  case yA =>
    have hap : stV nm e nx l us by_ how = (zeroB, 1) := by unfold stV; rw [hq]; rfl
    rw [hap]
    refine wp_seq ?_
    refine wp_region_lit ?_
    refine wl_op hA8 rfl rfl (by decide) (fun ev h => by simp [go_sem, K.cell]; try first | exact ⟨rfl, rfl⟩ | rfl) fun a9 hA9 => ?_
    -- stop store slot None
    refine wl_set [.string ⟨#[]⟩, .int .u32 0, .int .u32 0, .slice none 0 0] hA9 rfl rfl K8 (by rfl) (fun ev h => by simp [go_sem, h.get 8 rfl, h.get 16 rfl, K.cell, setAll, K8.cell, K8.frozen]) fun w6 (K8 : Blk _ _ _ _) hs6 => ?_
    refine wl_op hA9 rfl rfl (by decide) (fun ev h => by simp [go_sem, h.c, K8.cell]; try first | exact ⟨rfl, rfl⟩ | rfl) fun a10 hA10 => ?_
    refine wl_nil ?_
    refine n_then ?_
    have hA11 := hA10.keep [8, 9]
    simp only [argsE, keepE, lookS, Nat.reduceBEq, cond_true, cond_false, Nat.reduceAdd, gv_tt, gv_ff, Bool.true_and, Bool.false_and, Bool.true_or, Bool.false_or] at hA11
    clear hA8 hA9 hA10 a9
    refine wp_ret ?_
    refine r_then ?_
    refine bodyPost_ret (by simp [results, Tryd.results19, go_sem, hA11.env 8 _ rfl, hA11.env 9 _ rfl, K8.cell]; try first | exact ⟨rfl, rfl⟩ | rfl) hA11.defers ?_
    exact ⟨_, rfl, GivesB.zero _ _, hs6.below HB (by omega)⟩
  case nA =>
    have hap : stV nm e nx l us by_ how = (storeV nm e nx l us by_ how, 0) := by unfold stV; rw [hq]; rfl
    have hri : boxRight nm e nx l = true := by simpa using hq
    have hn5 : n ≤ 500 := by
      unfold boxRight at hri
      simp only [Bool.and_eq_true, decide_eq_true_eq] at hri
      rw [← hl]; exact hri.1.2
    rw [hap]
    unfold storeV
    clear hq
    refine wp_skip ?_
    refine n_then ?_
    refine wp_seq ?_
    refine wp_region_lit ?_
    refine wl_op hA8 rfl rfl (by decide) (fun ev h => by simp [go_sem, h.get 4 rfl, K.cell]; try first | exact ⟨rfl, rfl⟩ | rfl) fun a12 hA12 => ?_
    -- stop call slot 18
    refine wl_call hA12 rfl rfl (by decide) (fun ev h => by simp [go_sem, h.get 17 rfl, K.cell, h.f]; try first | exact ⟨rfl, rfl⟩ | rfl) (cloneBox_any nm A c n e nx l _ (by omega) (fun x hx => Nat.le_trans (right_msg hri hx).2.2 (by omega)) (hms.below HB)) ?_
    rintro e w4 ⟨v, l1, rfl, ho, hbl, hb4⟩
    refine ⟨_, rfl, fun a13 hA13 => ?_⟩
    replace hm := hm.below hg hb4; replace hg := Nat.lt_of_lt_of_le hg hb4.size
    replace K := K.below hb4 K.lt
    replace K8 := K8.below hb4 K8.lt
    replace HB := HB.trans (hb4.mono HB.size)
    have hll := len_of_bare hbl
    obtain ⟨A1, c1, hv, hm1, hc1⟩ := ho.msgs
    subst hv
    clear hm1
    rw [hll, hl] at hc1 ho
    rw [hll, hl] at hA13
    have hz4 := hb4.size
    -- stop alloc slot 10
    refine wl_local [.string nm, .int .u32 (e : Nat), .int .u32 (nx : Nat), .slice A1 n c1] hA13 rfl rfl (by decide) (fun ev h => by simp [go_sem, K.cell]; try first | exact ⟨rfl, rfl⟩ | rfl) rfl rfl (by rfl) (fun w1 g ev hb h => by simp [go_sem, h.get 10 rfl, h.get 18 rfl, K.cell, setAll, hb.cell, hb.frozen]) fun w5 a14 (K10 : Blk _ _ _ _) hz5 hb5 hA14 => ?_
    replace K8 := K8.below hb5 K8.lt
    replace HB := HB.trans (hb5.mono HB.size)
    replace ho := ho.below hb5
    refine wl_nil ?_
    refine n_then ?_
    have hA15 := hA14.keep [1, 2, 3, 8, 10]
    simp only [argsE, keepE, lookS, Nat.reduceBEq, cond_true, cond_false, Nat.reduceAdd, gv_tt, gv_ff, Bool.true_and, Bool.false_and, Bool.true_or, Bool.false_or] at hA15
    clear hA8 hA12 hA13 hA14 a12 a13
    refine wp_seq ?_
    refine wp_seq ?_
    refine wp_region_lit ?_
    refine wl_op hA15 rfl rfl (by decide) (fun ev h => by simp [go_sem, h.get 10 rfl, K10.cell]; try first | exact ⟨rfl, rfl⟩ | rfl) fun a16 hA16 => ?_
    refine wl_op hA16 rfl rfl (by decide) (fun ev h => by simp [go_sem, h.get 19 rfl, K10.cell]; try first | exact ⟨rfl, rfl⟩ | rfl) fun a17 hA17 => ?_
    refine wl_op hA17 rfl rfl (by decide) (fun ev h => by simp [go_sem, h.get 20 rfl, K10.cell]; try first | exact ⟨rfl, rfl⟩ | rfl) fun a18 hA18 => ?_
    refine wl_op hA18 rfl rfl (by decide) (fun ev h => by simp [go_sem, h.c, K10.cell]; try first | exact ⟨rfl, rfl⟩ | rfl) fun a19 hA19 => ?_
    refine wl_nil ?_
    refine n_then ?_
    have hA20 := hA19.keep [1, 2, 3, 8, 10, 20, 21, 22]
    simp only [argsE, keepE, lookS, Nat.reduceBEq, cond_true, cond_false, Nat.reduceAdd, gv_tt, gv_ff, Bool.true_and, Bool.false_and, Bool.true_or, Bool.false_or] at hA20
    clear hA15 hA16 hA17 hA18 hA19 a14 a16 a17 a18
    refine wp_block ?_
    -- loop
    have hblen : (bare l).length = n := by rw [bare_len, hl]
    refine wp_loop_at (fun kk a wx => ∃ (j : Nat) (l' : List MsgV), j + kk = n ∧ At 43 [(1, .slice A2 k c2), (2, .int .i64 by_), (3, .int .i64 how), (8, .pointer (some ⟨w1.heap.size, 0, none⟩)), (10, .pointer (some ⟨w4.heap.size, 0, none⟩)), (20, .slice A1 n c1), (21, .int .i64 (n : Nat)), (22, .int .i64 (j : Nat))] a ∧ OwnM w3.heap.size wx (.slice A1 n c1) l' ∧ bare l' = mixL (chg us by_ how) (bare l) j ∧ Blk wx w1.heap.size 25 #[.string ⟨#[]⟩, .int .u32 0, .int .u32 0, .slice none 0 0] ∧ Blk wx w4.heap.size 25 #[.string nm, .int .u32 (e : Nat), .int .u32 (nx : Nat), .slice A1 n c1] ∧ Below w.heap.size w wx) (n) ?_ ?_
    · exact ⟨0, l1, by omega, hA20, ho, by rw [mixL_0, hbl], K8, K10, HB⟩
    clear K8 K10 ho HB hbl hll
    rintro kk a wx ⟨j, l', hjk, hA, ho, hbl, K8, K10, HB⟩
    have hll : l'.length = n := by rw [← bare_len, hbl, mixL_len, hblen]
    refine wp_seq ?_
    refine wp_region_lit ?_
    refine wl_op hA rfl rfl (by decide) (fun ev h => by simp [go_sem, h.get 22 rfl, h.get 21 rfl]; try first | exact ⟨rfl, rfl⟩ | rfl) fun a21 hA21 => ?_
    refine wl_nil ?_
    refine n_then ?_
    have hA22 := hA21.keep [1, 2, 3, 8, 10, 20, 21, 22, 23]
    simp only [argsE, keepE, lookS, Nat.reduceBEq, cond_true, cond_false, Nat.reduceAdd, gv_tt, gv_ff, Bool.true_and, Bool.false_and, Bool.true_or, Bool.false_or] at hA22
    clear hA hA21
    refine wp_seq ?_
    -- cond
    refine wp_if hA22 23 _ rfl (fun hq => ?yL) (fun hq => ?nL)
    case yL =>
      have hlt : j < n := by simp at hq; omega
      obtain ⟨x, hx⟩ : ∃ x, l'[j]? = some x := ⟨_, List.getElem?_eq_getElem (by omega)⟩
      have hbx : (bare l)[j]? = some (strip x) := by rw [← mixL_get (chg us by_ how) (bare l) j (by omega), ← hbl, bare_get, hx]; rfl
      obtain ⟨g, cc, hv, hgB, hglt⟩ := ho.at_ (by omega)
      injection hv with hv1 _ hv3
      subst hv1 hv3
      have k0 : wx.cell? ⟨g, j * 4, none⟩ = some (.int .u32 (x.uid : Nat)) := by simpa using ho.cell hx (k := 0) rfl
      have k1 := ho.cell hx (k := 1) rfl
      have k2 := ho.cell hx (k := 2) rfl
      have k3 := ho.cell hx (k := 3) rfl
      have jj0 : (0 : Int) ≤ (j : Int) := by omega
      have jj1 : (j : Int) < (n : Int) := by omega
      have hwj : IntKind.i64.wrap ((j : Int) + 1) = (j : Int) + 1 := IntWalk.i64_in _ (by omega)
      have hoffx : ∀ m ∈ l', Off wx.heap.size m := fun m hm => off_lt (ho.octs m hm) (Nat.le_refl _)
      have hw0 := HB.size
      have hK8 := K8.lt
      have hK10 := K10.lt
      refine wp_skip ?_
      refine n_then ?_
      refine wp_seq ?_
      refine wp_block ?_
      refine wp_seq ?_
      refine wp_region_lit ?_
      refine wl_op hA22 rfl rfl (by decide) (fun ev h => by simp [go_sem, h.get 22 rfl, add0, k0, k1, k2, k3, jj0, jj1]; try first | exact ⟨rfl, rfl⟩ | rfl) fun a23 hA23 => ?_
      refine wl_op hA23 rfl rfl (by decide) (fun ev h => by simp [go_sem, h.get 20 rfl, h.get 22 rfl, add0, k0, k1, k2, k3, jj0, jj1]; try first | exact ⟨rfl, rfl⟩ | rfl) fun a24 hA24 => ?_
      refine wl_op hA24 rfl rfl (by decide) (fun ev h => by simp [go_sem, h.get 25 rfl, add0, k0, k1, k2, k3, jj0, jj1]; try first | exact ⟨rfl, rfl⟩ | rfl) fun a25 hA25 => ?_
      -- stop alloc slot 12
      refine wl_new hA25 rfl rfl (by decide) (fun ev h => by simp [go_sem, add0, k0, k1, k2, k3, jj0, jj1]; try first | exact ⟨rfl, rfl⟩ | rfl) fun w6 a26 (K12 : Blk _ _ _ _) hz6 hb6 hA26 => ?_
      replace K8 := K8.below hb6 K8.lt
      replace K10 := K10.below hb6 K10.lt
      replace HB := HB.trans (hb6.mono HB.size)
      replace ho := ho.below hb6
      refine wl_op hA26 rfl rfl (by decide) (fun ev h => by simp [go_sem, h.get 24 rfl, add0, k0, k1, k2, k3, jj0, jj1]; try first | exact ⟨rfl, rfl⟩ | rfl) fun a27 hA27 => ?_
      -- stop store slot None
      refine wl_set [.int .u32 (x.uid : Nat), .int .i64 x.date, .int .i64 x.flags, .slice x.a x.b.length x.c] hA27 rfl rfl K12 (by rfl) (fun ev h => by simp [go_sem, h.get 12 rfl, h.get 26 rfl, add0, k0, k1, k2, k3, jj0, jj1, setAll, K12.cell, K12.frozen]) fun w7 (K12 : Blk _ _ _ _) hs7 => ?_
      replace ho := ho.only hs7 (fun g' hg' => by rw [← Option.some.inj hg']; show g ≠ _; omega) hoffx
      replace HB := hs7.below HB hw0
      replace K8 := hs7.blk K8 (by omega)
      replace K10 := hs7.blk K10 (by omega)
      clear k0 k1 k2 k3
      refine wl_nil ?_
      refine n_then ?_
      have hA28 := hA27.keep [1, 2, 3, 8, 10, 11, 12, 20, 21, 22]
      simp only [argsE, keepE, lookS, Nat.reduceBEq, cond_true, cond_false, Nat.reduceAdd, gv_tt, gv_ff, Bool.true_and, Bool.false_and, Bool.true_or, Bool.false_or] at hA28
      clear hA22 hA23 hA24 hA25 hA26 hA27 a23 a24 a25 a26
      refine wp_seq ?_
      refine wp_region_lit ?_
      refine wl_op hA28 rfl rfl (by decide) (fun ev h => by simp [go_sem, h.get 1 rfl, K12.cell]; try first | exact ⟨rfl, rfl⟩ | rfl) fun a29 hA29 => ?_
      refine wl_op hA29 rfl rfl (by decide) (fun ev h => by simp [go_sem, h.get 12 rfl, K12.cell]; try first | exact ⟨rfl, rfl⟩ | rfl) fun a30 hA30 => ?_
      refine wl_op hA30 rfl rfl (by decide) (fun ev h => by simp [go_sem, h.get 28 rfl, K12.cell]; try first | exact ⟨rfl, rfl⟩ | rfl) fun a31 hA31 => ?_
      -- stop call slot 30
      refine wl_call hA31 rfl rfl (by decide) (fun ev h => by simp [go_sem, h.get 27 rfl, h.get 29 rfl, K12.cell, h.f]; try first | exact ⟨rfl, rfl⟩ | rfl) (contains_u32 A2 c2 k x.uid us _ hk hus ((hur.below HB).more HB.size)) ?_
      rintro e w8 ⟨rfl, hb8⟩
      refine ⟨_, rfl, fun a32 hA32 => ?_⟩
      replace K8 := K8.below hb8 K8.lt
      replace K10 := K10.below hb8 K10.lt
      replace HB := HB.trans (hb8.mono HB.size)
      replace ho := ho.below hb8
      replace K12 := K12.below hb8 K12.lt
      refine wl_nil ?_
      refine n_then ?_
      have hA33 := hA32.keep [1, 2, 3, 8, 10, 11, 12, 20, 21, 22, 30]
      simp only [argsE, keepE, lookS, Nat.reduceBEq, cond_true, cond_false, Nat.reduceAdd, gv_tt, gv_ff, Bool.true_and, Bool.false_and, Bool.true_or, Bool.false_or] at hA33
      clear hA28 hA29 hA30 hA31 hA32 a27 a29 a30 a31
      -- cond
      refine wp_if hA33 30 _ rfl (fun hq2 => ?yR) (fun hq2 => ?nR)
      case yR =>
        refine wp_region_split 8 ?_
        simp only [List.take_succ_cons, List.take_zero, List.drop_succ_cons, List.drop_zero]
        refine wp_any_split_at hA33 [(.det ?dD0), (.det ?dD1), (.det ?dD2), (.det ?dD3), (.det ?dD4), (.det ?dD5), (.det ?dD6), (.det ?dD7)] [] (fun wy => Below w8.heap.size w8 wy) (TSp [] Grows) (by kernel_rfl) rfl (by kernel_rfl) (by kernel_rfl) rfl (by kernel_rfl) (by kernel_rfl) (by kernel_rfl) (by kernel_rfl) ((Below.refl w8.heap.size w8).drew) (stab_sp [] [true, true, true, true, true, true, true, true] [true, true, true, true, true, true, true, true] [] rfl rfl rfl (by kernel_rfl) ⟨trivial, trivial, trivial, trivial, trivial, trivial, trivial, trivial, trivial⟩ trivial) (fun _ h => by cases h) (fun _ _ _ _ h => by cases h) (fun _ h => by cases h) ⟨?oD0, ?oD1, ?oD2, ?oD3, ?oD4, ?oD5, ?oD6, ?oD7, trivial⟩ ?fD
        case oD0 =>
          intro ev wo hev hC hs hph
          have e10 := see_env hA33 hs 10 (by kernel_rfl) (by kernel_rfl) rfl
          exact ob_det (wanted_none rfl) rfl (by kernel_rfl) hC (TSp.of rfl (Grows.refl _)) (by simp [go_sem, e10]; try first | exact ⟨rfl, rfl⟩ | rfl)
        case oD1 =>
          intro ev wo hev hC hs hph
          have e31 := see_det hs 31 0 (by kernel_rfl) (by kernel_rfl) rfl
          have Kx10 := K10.below hC K10.lt
          have Kx12 := K12.below hC K12.lt
          exact ob_det (wanted_none rfl) rfl (by kernel_rfl) hC (TSp.of rfl (Grows.refl _)) (by simp [go_sem, e31, Kx10.cell, Kx12.cell, K12.cell]; try first | exact ⟨rfl, rfl⟩ | rfl)
        case oD2 =>
          intro ev wo hev hC hs hph
          have e11 := see_env hA33 hs 11 (by kernel_rfl) (by kernel_rfl) rfl
          exact ob_det (wanted_none rfl) rfl (by kernel_rfl) hC (TSp.of rfl (Grows.refl _)) (by simp [go_sem, e11]; try first | exact ⟨rfl, rfl⟩ | rfl)
        case oD3 =>
          intro ev wo hev hC hs hph
          have e12 := see_env hA33 hs 12 (by kernel_rfl) (by kernel_rfl) rfl
          exact ob_det (wanted_none rfl) rfl (by kernel_rfl) hC (TSp.of rfl (Grows.refl _)) (by simp [go_sem, e12]; try first | exact ⟨rfl, rfl⟩ | rfl)
        case oD4 =>
          intro ev wo hev hC hs hph
          have e34 := see_det hs 34 3 (by kernel_rfl) (by kernel_rfl) rfl
          have Kx10 := K10.below hC K10.lt
          have Kx12 := K12.below hC K12.lt
          exact ob_det (wanted_none rfl) rfl (by kernel_rfl) hC (TSp.of rfl (Grows.refl _)) (by simp [go_sem, e34, Kx10.cell, Kx12.cell, K12.cell]; try first | exact ⟨rfl, rfl⟩ | rfl)
        case oD5 =>
          intro ev wo hev hC hs hph
          have e2 := see_env hA33 hs 2 (by kernel_rfl) (by kernel_rfl) rfl
          exact ob_det (wanted_none rfl) rfl (by kernel_rfl) hC (TSp.of rfl (Grows.refl _)) (by simp [go_sem, e2]; try first | exact ⟨rfl, rfl⟩ | rfl)
        case oD6 =>
          intro ev wo hev hC hs hph
          have e3 := see_env hA33 hs 3 (by kernel_rfl) (by kernel_rfl) rfl
          exact ob_det (wanted_none rfl) rfl (by kernel_rfl) hC (TSp.of rfl (Grows.refl _)) (by simp [go_sem, e3]; try first | exact ⟨rfl, rfl⟩ | rfl)
        case oD7 =>
          intro ev wo hev hC hs hph
          have e35 := see_det hs 35 4 (by kernel_rfl) (by kernel_rfl) rfl
          have e36 := see_det hs 36 5 (by kernel_rfl) (by kernel_rfl) rfl
          have e37 := see_det hs 37 6 (by kernel_rfl) (by kernel_rfl) rfl
          have Kx10 := K10.below hC K10.lt
          have Kx12 := K12.below hC K12.lt
          exact ob_yes (wanted_none rfl) (does_enter (by simp [go_sem, e35, e36, e37, hev.func, hev.const]; try first | exact ⟨rfl, rfl⟩ | rfl) (Calls.mono (change_any x.flags by_ how _) (by
            rintro ev2 w3 ⟨rfl, hb3⟩
            exact ⟨_, rfl, hC.trans (hb3.mono hC.size), TSp.of rfl hb3, (by rfl), no_start (by kernel_rfl)⟩)))
        intro wf hC hph
        intro a34 hA34
        have hA35 := hA34.keep [1, 2, 3, 8, 10, 20, 21, 22, 32, 33, 38]
        simp only [argsE, keepE, lookS, Nat.reduceBEq, cond_true, cond_false, Nat.reduceAdd, gv_tt, gv_ff, Bool.true_and, Bool.false_and, Bool.true_or, Bool.false_or] at hA35
        clear hA33 hA34
        replace K8 := K8.below hC K8.lt
        replace K10 := K10.below hC K10.lt
        replace HB := HB.trans (hC.mono HB.size)
        replace ho := ho.below hC
        have hfr := ho.row
        rw [own_len ho.row] at hfr
        refine wl_op hA35 rfl rfl (by decide) (fun ev h => by simp [go_sem, h.get 32 rfl, h.get 33 rfl, jj0, jj1, add0, hfr.frozenAt, ho.cell hx (k := 2) rfl]; try first | exact ⟨rfl, rfl⟩ | rfl) fun a36 hA36 => ?_
        refine wl_op hA36 rfl rfl (by decide) (fun ev h => by simp [go_sem, h.get 39 rfl, jj0, jj1, add0, hfr.frozenAt, ho.cell hx (k := 2) rfl]; try first | exact ⟨rfl, rfl⟩ | rfl) fun a37 hA37 => ?_
        -- stop store slot None
        have hmx := List.mem_of_getElem? hx
        obtain ⟨h8, h9⟩ := ho.set (y := ⟨x.uid, x.date, (changeV x.flags by_ how : Nat), x.a, x.c, x.b⟩) hx (j := 2) (by omega) rfl (ho.octs x hmx) (ho.off g rfl x hmx) (ho.uids x hmx) (ho.caps x hmx)
        replace K8 := K8.grown h9 (fun e => own_far ho (show w1.heap.size < w3.heap.size by omega) _ e.symm rfl)
        replace K10 := K10.grown h9 (fun e => own_ne ho.row K10 (by decide) _ e.symm rfl)
        replace HB := HB.grown h9 HB.size (fun k hk => by rw [← Option.some.inj hk]; omega)
        refine wl_skip hA37 rfl rfl (fun ev h => by simp [go_sem, h.get 40 rfl, h.get 38 rfl, jj0, jj1, add0, hfr.frozenAt, ho.cell hx (k := 2) rfl]; try first | exact ⟨rfl, rfl⟩ | rfl) ?_
        refine wl_nil ?_
        refine n_block ?_
        refine n_then ?_
        have hA38 := hA37.keep [1, 2, 3, 8, 10, 20, 21, 22]
        simp only [argsE, keepE, lookS, Nat.reduceBEq, cond_true, cond_false, Nat.reduceAdd, gv_tt, gv_ff, Bool.true_and, Bool.false_and, Bool.true_or, Bool.false_or] at hA38
        clear hA35 hA36 hA37 a34 a36
        refine wp_region_lit ?_
        refine wl_op hA38 rfl rfl (by decide) (fun ev h => by simp [go_sem, h.c, h.get 22 rfl, hwj]; try first | exact ⟨rfl, rfl⟩ | rfl) fun a39 hA39 => ?_
        refine wl_op hA39 rfl rfl (by decide) (fun ev h => by simp [go_sem, h.get 41 rfl, hwj]; try first | exact ⟨rfl, rfl⟩ | rfl) fun a40 hA40 => ?_
        refine wl_nil ?_
        refine n_then ?_
        have hA41 := hA40.keep [1, 2, 3, 8, 10, 20, 21, 22]
        simp only [argsE, keepE, lookS, Nat.reduceBEq, cond_true, cond_false, Nat.reduceAdd, gv_tt, gv_ff, Bool.true_and, Bool.false_and, Bool.true_or, Bool.false_or] at hA41
        clear hA38 hA39 hA40 a37 a39
        -- round
        rw [show ((j : Int) + 1) = ((j + 1 : Nat) : Int) by omega] at hA41
        exact ⟨kk - 1, by omega, j + 1, _, by omega, hA41, h8, by rw [bare_set2, hbl, show strip _ = chg us by_ how (strip x) by unfold chg; rw [show (strip x).uid = x.uid from rfl, hq2]; rfl, mixL_set _ _ _ _ hbx], K8, K10, HB⟩
      case nR =>
        refine wp_skip ?_
        refine n_block ?_
        refine n_then ?_
        refine wp_region_lit ?_
        refine wl_op hA33 rfl rfl (by decide) (fun ev h => by simp [go_sem, h.c, h.get 22 rfl, hwj]; try first | exact ⟨rfl, rfl⟩ | rfl) fun a42 hA42 => ?_
        refine wl_op hA42 rfl rfl (by decide) (fun ev h => by simp [go_sem, h.get 41 rfl, hwj]; try first | exact ⟨rfl, rfl⟩ | rfl) fun a43 hA43 => ?_
        refine wl_nil ?_
        refine n_then ?_
        have hA44 := hA43.keep [1, 2, 3, 8, 10, 20, 21, 22]
        simp only [argsE, keepE, lookS, Nat.reduceBEq, cond_true, cond_false, Nat.reduceAdd, gv_tt, gv_ff, Bool.true_and, Bool.false_and, Bool.true_or, Bool.false_or] at hA44
        clear hA33 hA42 hA43 a42
        -- round
        rw [show ((j : Int) + 1) = ((j + 1 : Nat) : Int) by omega] at hA44
        exact ⟨kk - 1, by omega, j + 1, l', by omega, hA44, ho, by rw [hbl, mixL_same _ _ _ _ hbx (by unfold chg; rw [show (strip x).uid = x.uid from rfl, hq2]; rfl)], K8, K10, HB⟩
    case nL =>
      have hjn : j = n := by simp at hq; omega
      subst hjn
      refine wp_exit ?_
      refine x_then ?_
      refine x_then ?_
      refine x_block ?_
      refine n_then ?_
      have hA45 := hA22.keep [8, 10]
      simp only [argsE, keepE, lookS, Nat.reduceBEq, cond_true, cond_false, Nat.reduceAdd, gv_tt, gv_ff, Bool.true_and, Bool.false_and, Bool.true_or, Bool.false_or] at hA45
      clear hA22
      refine wp_seq ?_
      refine wp_region_lit ?_
      refine wl_op hA45 rfl rfl (by decide) (fun ev h => by simp [go_sem, h.get 10 rfl, K10.cell]; try first | exact ⟨rfl, rfl⟩ | rfl) fun a46 hA46 => ?_
      -- stop store slot None
      have hoff8 : ∀ m ∈ l', Off w1.heap.size m := fun m hm => off_blk (ho.octs m hm) K8 rfl
      refine wl_set [.string nm, .int .u32 (e : Nat), .int .u32 (nx : Nat), .slice A1 j c1] hA46 rfl rfl K8 (by rfl) (fun ev h => by simp [go_sem, h.get 8 rfl, h.get 42 rfl, K10.cell, setAll, K8.cell, K8.frozen]) fun w9 (K8 : Blk _ _ _ _) hs9 => ?_
      refine wl_op hA46 rfl rfl (by decide) (fun ev h => by simp [go_sem, h.c, K8.cell]; try first | exact ⟨rfl, rfl⟩ | rfl) fun a47 hA47 => ?_
      refine wl_nil ?_
      refine n_then ?_
      have hA48 := hA47.keep [8, 9]
      simp only [argsE, keepE, lookS, Nat.reduceBEq, cond_true, cond_false, Nat.reduceAdd, gv_tt, gv_ff, Bool.true_and, Bool.false_and, Bool.true_or, Bool.false_or] at hA48
      clear hA45 hA46 hA47 a46
      refine wp_ret ?_
      refine bodyPost_ret (by simp [results, Tryd.results19, go_sem, hA48.env 8 _ rfl, hA48.env 9 _ rfl, K8.cell]; try first | exact ⟨rfl, rfl⟩ | rfl) hA48.defers ?_
      exact ⟨_, rfl, ⟨_, l', rfl, (ho.only hs9 (own_far ho (by omega)) hoff8).mono (by omega), by rw [hbl, ← hblen, mixL_all]⟩, hs9.below HB (by omega)⟩
end Go.Proofs.YtbbhblnhbgkcaaaDoor
