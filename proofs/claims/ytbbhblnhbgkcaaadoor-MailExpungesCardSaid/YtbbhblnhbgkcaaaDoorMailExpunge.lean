/-
  Walks: those with \\Deleted that are named are taken away.
-/
import Derived.Test.YtbbhblnhbgkcaaaDoorMailStore
import Derived.Test.YtbbhblnhbgkcaaaDoorOwnU
namespace Go.Proofs.YtbbhblnhbgkcaaaDoor
open Go.RowKit
set_option linter.unusedSimpArgs false
set_option linter.unusedVariables false
def goesV (all : Bool) (us : List Nat) (m : MsgV) : Bool := bitI m.flags 3 && (all || inU us m.uid)
def goneL (p : MsgV → Bool) (l : List MsgV) : List Nat := (l.filter p).map (·.uid)
def leftL (p : MsgV → Bool) (l : List MsgV) : List MsgV := l.filter fun m => !p m
theorem goneL_succ {p : MsgV → Bool} {l : List MsgV} {j : Nat} {x : MsgV} (hx : l[j]? = some x) : goneL p (l.take (j + 1)) = goneL p (l.take j) ++ (bif p x then [x.uid] else []) := by
  unfold goneL
  rw [List.take_add_one, hx, List.filter_append, List.map_append]
  cases h : p x <;> simp [h]
theorem leftL_succ {p : MsgV → Bool} {l : List MsgV} {j : Nat} {x : MsgV} (hx : l[j]? = some x) : leftL p (l.take (j + 1)) = leftL p (l.take j) ++ (bif p x then [] else [x]) := by
  unfold leftL
  rw [List.take_add_one, hx, List.filter_append]
  cases h : p x <;> simp [h]
theorem leftL_len (p : MsgV → Bool) (l : List MsgV) : (leftL p l).length ≤ l.length := List.length_filter_le _ _
theorem goneL_len (p : MsgV → Bool) (l : List MsgV) : (goneL p l).length ≤ l.length := by unfold goneL; rw [List.length_map]; exact List.length_filter_le _ _
theorem i64_and8 (n : Int) : (bits .and .i64 n 8 != 0) = bitI n 3 := by
  have h1 : (BitVec.ofInt 64 8).toNat = 2 ^ 3 := by decide
  have key : (BitVec.ofInt 64 n &&& BitVec.ofInt 64 8).toNat = (n % ((2 ^ 64 : Nat) : Int)).toNat / 2 ^ 3 % 2 * 2 ^ 3 := by
    rw [BitVec.toNat_and, BitVec.toNat_ofInt, h1, nat_bit]
  have e : bits .and .i64 n 8 = n / 8 % 2 * 8 := by
    show IntKind.i64.wrap ((BitVec.ofInt 64 n &&& BitVec.ofInt 64 8).toNat : Nat) = _
    rw [key, IntKind.wrap_i64]
    omega
  rw [e]
  unfold bitI
  rw [Bool.eq_iff_iff]
  simp
  omega
/-- a cell of the closure's that holds a list of numbers -/
def Gone (B pg : Nat) (w : World) (gs : List Nat) : Prop := ∃ vg, Blk w pg 42 #[vg] ∧ OwnU B w vg gs
theorem Gone.below {B pg : Nat} {w w' : World} {gs : List Nat} (h : Gone B pg w gs) (hb : Below w.heap.size w w') : Gone B pg w' gs := by
  obtain ⟨vg, K, ho⟩ := h
  exact ⟨vg, K.below hb K.lt, ho.below hb⟩
theorem Gone.mono {B B' pg : Nat} {w : World} {gs : List Nat} (h : Gone B pg w gs) (hb : B' ≤ B) : Gone B' pg w gs := by
  obtain ⟨vg, K, ho⟩ := h
  exact ⟨vg, K, ho.mono hb⟩
theorem Gone.lt {B pg : Nat} {w : World} {gs : List Nat} (h : Gone B pg w gs) : pg < w.heap.size := by
  obtain ⟨vg, K, ho⟩ := h
  exact K.lt
/-- another block is set -/
theorem Gone.grown {B pg g : Nat} {w w' : World} {gs : List Nat} {v : Value} {n c : Nat} {T : TypeId} {size : Nat} {xs : List Value} {B2 : Nat} (h : Gone B pg w gs) (ho : w.ownsRow B2 T size (.slice (some ⟨g, 0, none⟩) n c) v.cells.size xs ∨ Blk w g T v.cells) (hT : T ≠ 22) (hT2 : T ≠ 42) (hg : w.grownBy w' (some g)) : Gone B pg w' gs := by
  obtain ⟨vg, K, hu⟩ := h
  have hk : ∃ cs, Blk w g T cs := by
    rcases ho with ho | ho
    · exact own_kind ho rfl
    · exact ⟨_, ho⟩
  obtain ⟨cs, hk⟩ := hk
  refine ⟨vg, K.grown hg (fun e => ?_), own_keep hu fun k hk2 => hg.block k (World.ownsRow.lt hu k hk2).2 (fun e => ?_)⟩
  · have e := Option.some.inj e
    subst e
    unfold Blk at K hk
    rw [K] at hk
    injection hk with hk
    injection hk with _ hk
    exact hT2 hk.symm
  · have e := Option.some.inj e
    exact own_ne hu hk hT k hk2 e
set_option maxRecDepth 100000 in
set_option maxHeartbeats 1000000 in
theorem expunge1_any (pa pu pg B k c2 : Nat) (all : Bool) (A2 : Option Addr) (us gs : List Nat) (x : MsgV) (w : World) (Ka : Blk w pa 4 #[.bool all]) (Ku : Blk w pu 42 #[.slice A2 k c2]) (hG : Gone B pg w gs) (hB : B ≤ w.heap.size)
    (hk : k ≤ 140737488355328) (hus : us.length = k) (hur : Reads w w.heap.size 1 A2 k (u32s us)) (hgs : gs.length ≤ 100000) :
    Calls Tryd.prog 43 #[.agg #[.int .u32 (x.uid : Nat), .int .i64 x.date, .int .i64 x.flags, .slice x.a x.b.length x.c], .pointer (some ⟨pa, 0, none⟩), .pointer (some ⟨pu, 0, none⟩), .pointer (some ⟨pg, 0, none⟩)] w
      fun ev w' => ev = .returned (.bool (goesV all us x)) ∧ Gone B pg w' (gs ++ bif goesV all us x then [x.uid] else []) ∧ (goesV all us x = false → Below w.heap.size w w') ∧ Apart (fun i => i = pg ∨ B ≤ i) w w' := by
  have hpg := hG.lt
  refine calls_at 27 Tryd.func43 rfl rfl (Nat.le_of_ble_eq_true rfl) ?_
  intro a hA
  simp only [argsE, keepE, lookS, Nat.reduceBEq, cond_true, cond_false, Nat.reduceAdd, gv_tt, gv_ff, Bool.true_and, Bool.false_and, Bool.true_or, Bool.false_or] at hA
  refine wp_seq ?_
  refine wp_region_lit ?_
  -- stop box slot 4
  refine wl_new hA rfl rfl (by decide) (fun ev h => by simp [go_sem, h.get 0 rfl]; try first | exact ⟨rfl, rfl⟩ | rfl) fun w1 a1 (K : Blk _ _ _ _) hz1 hb1 hA1 => ?_
  replace Ka := Ka.below hb1 Ka.lt
  replace Ku := Ku.below hb1 Ku.lt
  replace hG := hG.below hb1
  replace hur := (hur.below hb1).more hb1.size
  have HB := hb1
  refine wl_op hA1 rfl rfl (by decide) (fun ev h => by simp [go_sem, h.c, K.cell, Ka.cell, Ku.cell, i64_and8]; try first | exact ⟨rfl, rfl⟩ | rfl) fun a2 hA2 => ?_
  refine wl_nil ?_
  refine n_then ?_
  have hA3 := hA2.keep [1, 2, 3, 4]
  simp only [argsE, keepE, lookS, Nat.reduceBEq, cond_true, cond_false, Nat.reduceAdd, gv_tt, gv_ff, Bool.true_and, Bool.false_and, Bool.true_or, Bool.false_or] at hA3
  clear hA hA1 hA2 a1
  refine wp_seq ?_
  refine wp_region_lit ?_
  refine wl_op hA3 rfl rfl (by decide) (fun ev h => by simp [go_sem, h.get 4 rfl, K.cell, Ka.cell, Ku.cell, i64_and8]; try first | exact ⟨rfl, rfl⟩ | rfl) fun a4 hA4 => ?_
  refine wl_op hA4 rfl rfl (by decide) (fun ev h => by simp [go_sem, h.get 7 rfl, K.cell, Ka.cell, Ku.cell, i64_and8]; try first | exact ⟨rfl, rfl⟩ | rfl) fun a5 hA5 => ?_
  refine wl_op hA5 rfl rfl (by decide) (fun ev h => by simp [go_sem, h.c, h.get 8 rfl, K.cell, Ka.cell, Ku.cell, i64_and8]; try first | exact ⟨rfl, rfl⟩ | rfl) fun a6 hA6 => ?_
  refine wl_op hA6 rfl rfl (by decide) (fun ev h => by simp [go_sem, h.c, h.get 9 rfl, K.cell, Ka.cell, Ku.cell, i64_and8]; try first | exact ⟨rfl, rfl⟩ | rfl) fun a7 hA7 => ?_
  refine wl_op hA7 rfl rfl (by decide) (fun ev h => by simp [go_sem, h.get 10 rfl, K.cell, Ka.cell, Ku.cell, i64_and8]; try first | exact ⟨rfl, rfl⟩ | rfl) fun a8 hA8 => ?_
  refine wl_guard _ hA8 rfl rfl rfl rfl (by decide) (fun hq ev h => by simp [go_sem, (h.get 1 rfl), K.cell, Ka.cell, Ku.cell, i64_and8]; try first | exact ⟨rfl, rfl⟩ | rfl) fun a9 hA9 => ?_
  refine wl_guard _ hA9 rfl rfl rfl rfl (by decide) (fun hq ev h => by simp [go_sem, ((h.get 12 rfl).trans (gw_t (beq_t hq))), K.cell, Ka.cell, Ku.cell, i64_and8]; try first | exact ⟨rfl, rfl⟩ | rfl) fun a10 hA10 => ?_
  refine wl_guard2 _ _ hA10 rfl rfl rfl rfl (by decide) (fun hq hr ev h => by simp [go_sem, (h.get 2 rfl), K.cell, Ka.cell, Ku.cell, i64_and8]; try first | exact ⟨rfl, rfl⟩ | rfl) fun a11 hA11 => ?_
  refine wl_guard2 _ _ hA11 rfl rfl rfl rfl (by decide) (fun hq hr ev h => by simp [go_sem, (h.get 4 rfl), K.cell, Ka.cell, Ku.cell, i64_and8]; try first | exact ⟨rfl, rfl⟩ | rfl) fun a12 hA12 => ?_
  refine wl_guard2 _ _ hA12 rfl rfl rfl rfl (by decide) (fun hq hr ev h => by simp [go_sem, ((h.get 15 rfl).trans (gw_t (and_beq hq hr))), K.cell, Ka.cell, Ku.cell, i64_and8]; try first | exact ⟨rfl, rfl⟩ | rfl) fun a13 hA13 => ?_
  -- stop call slot 17
  refine wl_gcallv2 _ _ hA13 rfl rfl rfl rfl (by decide) (fun hq hr ev h => by simp [go_sem, ((h.get 14 rfl).trans (gw_t (and_beq hq hr))), ((h.get 16 rfl).trans (gw_t (and_beq hq hr))), K.cell, Ka.cell, Ku.cell, i64_and8, h.f]; try first | exact ⟨rfl, rfl⟩ | rfl) (fun hq hr => contains_u32 A2 c2 k x.uid us _ hk hus hur) fun a14 w2 hb2 hA14 => ?_
  replace Ka := Ka.below hb2 Ka.lt
  replace Ku := Ku.below hb2 Ku.lt
  replace hG := hG.below hb2
  replace K := K.below hb2 K.lt
  replace HB := HB.trans (hb2.mono HB.size)
  refine wl_guard _ hA14 rfl rfl rfl rfl (by decide) (fun hq ev h => by first | exact pick_and rfl (((h.get 13 rfl).trans (gw_t (beq_t hq)))) (h.c _) (((h.get 17 rfl).trans (gw_a (beq_t hq)))) | exact pick_or rfl (((h.get 13 rfl).trans (gw_t (beq_t hq)))) (h.c _) (((h.get 17 rfl).trans (gw_a (beq_t hq)))) | (simp [go_sem, h.c, ((h.get 13 rfl).trans (gw_t (beq_t hq))), ((h.get 17 rfl).trans (gw_a (beq_t hq))), K.cell, Ka.cell, Ku.cell, i64_and8, gv_or, gv_and]; try first | exact ⟨rfl, rfl⟩ | rfl)) fun a15 hA15 => ?_
  refine wl_op hA15 rfl rfl (by decide) (fun ev h => by first | exact pick_and rfl (h.get 11 rfl) (h.get 18 rfl) (h.c _) | exact pick_or rfl (h.get 11 rfl) (h.get 18 rfl) (h.c _) | (simp [go_sem, h.c, h.get 11 rfl, h.get 18 rfl, K.cell, Ka.cell, Ku.cell, i64_and8, gv_or, gv_and]; try first | exact ⟨rfl, rfl⟩ | rfl)) fun a16 hA16 => ?_
  refine wl_op hA16 rfl rfl (by decide) (fun ev h => by simp [go_sem, h.get 19 rfl, K.cell, Ka.cell, Ku.cell, i64_and8]; try first | exact ⟨rfl, rfl⟩ | rfl) fun a17 hA17 => ?_
  refine wl_nil ?_
  refine n_then ?_
  have hA18 := hA17.keep [3, 4, 6]
  simp only [argsE, keepE, lookS, Nat.reduceBEq, cond_true, cond_false, Nat.reduceAdd, gv_tt, gv_ff, Bool.true_and, Bool.false_and, Bool.true_or, Bool.false_or] at hA18
  clear hA3 hA4 hA5 hA6 hA7 hA8 hA9 hA10 hA11 hA12 hA13 hA14 hA15 hA16 hA17 a2 a4 a5 a6 a7 a8 a9 a10 a11 a12 a13 a14 a15 a16
  refine wp_seq ?_
  refine wp_seq ?_
  refine wp_region_lit ?_
  refine wl_op hA18 rfl rfl (by decide) (fun ev h => by simp [go_sem, h.get 6 rfl, K.cell, Ka.cell, Ku.cell, i64_and8]; try first | exact ⟨rfl, rfl⟩ | rfl) fun a19 hA19 => ?_
  refine wl_nil ?_
  refine n_then ?_
  have hA20 := hA19.keep [3, 4, 6, 20]
  simp only [argsE, keepE, lookS, Nat.reduceBEq, cond_true, cond_false, Nat.reduceAdd, gv_tt, gv_ff, Bool.true_and, Bool.false_and, Bool.true_or, Bool.false_or] at hA20
  clear hA18 hA19 a17
  -- cond
  obtain ⟨q, hqe⟩ : ∃ q, goesV all us x = q := ⟨_, rfl⟩
  have hqe2 : (bitI x.flags 3 && (all || inU us x.uid)) = q := hqe
  rw [hqe2] at hA20
  rw [hqe]
  refine wp_if hA20 20 _ rfl (fun hq => ?yR) (fun hq => ?nR)
  case yR =>
    subst hq
    obtain ⟨vg, Kg, ho⟩ := hG
    have hne := own_ne ho Kg (by decide)
    have hneK := own_ne ho K (by decide)
    refine wp_region_lit ?_
    refine wl_op hA20 rfl rfl (by decide) (fun ev h => by simp [go_sem, h.get 3 rfl, Kg.cell, K.cell]; try first | exact ⟨rfl, rfl⟩ | rfl) fun a21 hA21 => ?_
    refine wl_op hA21 rfl rfl (by decide) (fun ev h => by simp [go_sem, h.get 4 rfl, Kg.cell, K.cell]; try first | exact ⟨rfl, rfl⟩ | rfl) fun a22 hA22 => ?_
    refine wl_op hA22 rfl rfl (by decide) (fun ev h => by simp [go_sem, h.get 22 rfl, Kg.cell, K.cell]; try first | exact ⟨rfl, rfl⟩ | rfl) fun a23 hA23 => ?_
    -- stop buildSlice slot 24
    refine wl_new hA23 rfl rfl (by decide) (fun ev h => by simp [go_sem, h.get 23 rfl, Kg.cell, K.cell]; try first | exact ⟨rfl, rfl⟩ | rfl) fun w3 a24 (K24 : Blk _ _ _ _) hz3 hb3 hA24 => ?_
    replace Kg := Kg.below hb3 Kg.lt
    replace K := K.below hb3 K.lt
    replace HB := HB.trans (hb3.mono HB.size)
    have ho := ho.below hb3
    obtain ⟨Ag, cg, rfl, hrg⟩ := ho.reads
    obtain ⟨r, w4, hr, ho4, hgr⟩ := run_appU (c := 1) ho (u32_blk K24) (by simp; omega) (Nat.le_trans hB HB.size)
    refine wl_op hA24 rfl rfl (by decide) (fun ev h => exec_append rfl (h.get 21 rfl) (h.get 24 rfl) hr) fun a25 hA25 => ?_
    replace Kg := Kg.grown hgr (fun e => hne _ e.symm rfl)
    obtain ⟨Ar, cr, rfl, hrr⟩ := ho4.reads
    have hne4 := own_ne ho4 Kg (by decide)
    -- stop store slot None
    refine wl_setf [.slice Ar (gs ++ [x.uid]).length cr] _ hA25 rfl rfl Kg (j := 0) (by rfl) (fun ev h => by simp [go_sem, h.get 3 rfl, h.get 25 rfl, Kg.cell, K.cell, Kg.cell, Kg.frozen]; try first | exact ⟨rfl, rfl⟩ | rfl) fun w5 (Kg : Blk _ _ _ _) hs5 => ?_
    refine wl_nil ?_
    refine n_then ?_
    have hA26 := hA25.keep [6]
    simp only [argsE, keepE, lookS, Nat.reduceBEq, cond_true, cond_false, Nat.reduceAdd, gv_tt, gv_ff, Bool.true_and, Bool.false_and, Bool.true_or, Bool.false_or] at hA26
    clear hA20 hA21 hA22 hA23 hA24 hA25 a21 a22 a23 a24
    refine wp_seq ?_
    refine wp_region_lit ?_
    refine wl_op hA26 rfl rfl (by decide) (fun ev h => by simp [go_sem, h.get 6 rfl, Kg.cell, K.cell]; try first | exact ⟨rfl, rfl⟩ | rfl) fun a27 hA27 => ?_
    refine wl_op hA27 rfl rfl (by decide) (fun ev h => by simp [go_sem, h.get 26 rfl, Kg.cell, K.cell]; try first | exact ⟨rfl, rfl⟩ | rfl) fun a28 hA28 => ?_
    refine wl_nil ?_
    refine n_then ?_
    have hA29 := hA28.keep [5]
    simp only [argsE, keepE, lookS, Nat.reduceBEq, cond_true, cond_false, Nat.reduceAdd, gv_tt, gv_ff, Bool.true_and, Bool.false_and, Bool.true_or, Bool.false_or] at hA29
    clear hA26 hA27 hA28 a25 a27
    refine wp_ret ?_
    refine ret_1 hA29 5 rfl rfl ?_
    refine ⟨rfl, ⟨_, Kg, own_keep ho4 fun g hg => hs5.block g (hne4 g hg)⟩, fun h => (by cases h), ?_⟩
    have a3 : Apart (fun i => i = pg ∨ B ≤ i) w w3 := (Apart.refl _ w).trans (S' := fun _ => False) ⟨HB.os, HB.tape, HB.output, HB.size, fun i hi _ => HB.block i hi⟩ (fun _ _ h => h.elim)
    exact (a3.grown hgr (fun g hg => .inr (.inr (World.ownsRow.lt ho g hg).1))).only hs5 (.inr (.inl rfl))
  case nR =>
    subst hq
    refine wp_skip ?_
    refine n_then ?_
    refine wp_seq ?_
    refine wp_region_lit ?_
    refine wl_op hA20 rfl rfl (by decide) (fun ev h => by simp [go_sem, h.get 6 rfl, K.cell, Ka.cell, Ku.cell, i64_and8]; try first | exact ⟨rfl, rfl⟩ | rfl) fun a30 hA30 => ?_
    refine wl_op hA30 rfl rfl (by decide) (fun ev h => by simp [go_sem, h.get 26 rfl, K.cell, Ka.cell, Ku.cell, i64_and8]; try first | exact ⟨rfl, rfl⟩ | rfl) fun a31 hA31 => ?_
    refine wl_nil ?_
    refine n_then ?_
    have hA32 := hA31.keep [5]
    simp only [argsE, keepE, lookS, Nat.reduceBEq, cond_true, cond_false, Nat.reduceAdd, gv_tt, gv_ff, Bool.true_and, Bool.false_and, Bool.true_or, Bool.false_or] at hA32
    clear hA20 hA30 hA31 a30
    refine wp_ret ?_
    refine ret_1 hA32 5 rfl rfl ?_
    refine ⟨rfl, by rw [cond_false, List.append_nil]; exact hG, fun _ => HB, ?_⟩
    exact (Apart.refl _ w).trans (S' := fun _ => False) ⟨HB.os, HB.tape, HB.output, HB.size, fun i hi _ => HB.block i hi⟩ (fun _ _ h => h.elim)
/-- the first that goes -/
def firstP (p : MsgV → Bool) : List MsgV → Nat → Int
  | [], _ => -1
  | x :: r, j => bif p x then (j : Int) else firstP p r (j + 1)
theorem firstP_at {p : MsgV → Bool} {l : List MsgV} {j : Nat} {x : MsgV} (hx : l[j]? = some x) : firstP p (l.drop j) j = bif p x then (j : Int) else firstP p (l.drop (j + 1)) (j + 1) := by
  rw [List.drop_eq_getElem_cons (List.getElem?_eq_some_iff.1 hx).1, (List.getElem?_eq_some_iff.1 hx).2]
  rfl
def clos (pa pu pg : Nat) : Value := .func (.func 43) #[] #[.pointer (some ⟨pa, 0, none⟩), .pointer (some ⟨pu, 0, none⟩), .pointer (some ⟨pg, 0, none⟩)]
set_option maxRecDepth 100000 in
set_option maxHeartbeats 1000000 in
theorem indexE_any (pa pu pg k c2 : Nat) (all : Bool) (A2 : Option Addr) (us : List Nat) (A : Option Addr) (c n : Nat) (l : List MsgV) (w : World) (Ka : Blk w pa 4 #[.bool all]) (Ku : Blk w pu 42 #[.slice A2 k c2]) (hG : Gone w.heap.size pg w [])
    (hk : k ≤ 140737488355328) (hus : us.length = k) (hur : Reads w w.heap.size 1 A2 k (u32s us)) (hn : n ≤ 100000) (hms : Msgs w A n l) :
    Calls Tryd.prog 34 #[.slice A n c, clos pa pu pg] w
      fun ev w' => ∃ r : Int, ev = .returned (.int .i64 r) ∧ (r = -1 ∧ leftL (goesV all us) l = l ∧ goneL (goesV all us) l = [] ∧ Gone w.heap.size pg w' [] ∧ Below w.heap.size w w' ∨
        ∃ i : Nat, i < n ∧ r = (i : Nat) ∧ leftL (goesV all us) (l.take (i + 1)) = l.take i ∧ Gone w.heap.size pg w' (goneL (goesV all us) (l.take (i + 1))) ∧ Apart (fun i => i = pg) w w') := by
  have hl := hms.len
  have HB := Below.refl w.heap.size w
  unfold clos
  refine calls_at 19 Tryd.func34 rfl rfl (Nat.le_of_ble_eq_true rfl) ?_
  intro a hA
  simp only [argsE, keepE, lookS, Nat.reduceBEq, cond_true, cond_false, Nat.reduceAdd, gv_tt, gv_ff, Bool.true_and, Bool.false_and, Bool.true_or, Bool.false_or] at hA
  refine wp_seq ?_
  refine wp_region_lit ?_
  refine wl_op hA rfl rfl (by decide) (fun ev h => by simp [go_sem, h.c]; try first | exact ⟨rfl, rfl⟩ | rfl) fun a33 hA33 => ?_
  refine wl_nil ?_
  refine n_then ?_
  have hA34 := hA33.keep [0, 1]
  simp only [argsE, keepE, lookS, Nat.reduceBEq, cond_true, cond_false, Nat.reduceAdd, gv_tt, gv_ff, Bool.true_and, Bool.false_and, Bool.true_or, Bool.false_or] at hA34
  clear hA hA33
  refine wp_seq ?_
  refine wp_seq ?_
  refine wp_region_lit ?_
  refine wl_op hA34 rfl rfl (by decide) (fun ev h => by simp [go_sem, h.get 0 rfl]; try first | exact ⟨rfl, rfl⟩ | rfl) fun a35 hA35 => ?_
  refine wl_op hA35 rfl rfl (by decide) (fun ev h => by simp [go_sem, h.get 6 rfl]; try first | exact ⟨rfl, rfl⟩ | rfl) fun a36 hA36 => ?_
  refine wl_op hA36 rfl rfl (by decide) (fun ev h => by simp [go_sem, h.c]; try first | exact ⟨rfl, rfl⟩ | rfl) fun a37 hA37 => ?_
  refine wl_nil ?_
  refine n_then ?_
  have hA38 := hA37.keep [0, 1, 7, 8]
  simp only [argsE, keepE, lookS, Nat.reduceBEq, cond_true, cond_false, Nat.reduceAdd, gv_tt, gv_ff, Bool.true_and, Bool.false_and, Bool.true_or, Bool.false_or] at hA38
  clear hA34 hA35 hA36 hA37 a33 a35 a36
  refine wp_block ?_
  -- loop
  refine wp_loop_at (fun kk a wx => ∃ (j : Nat), j + kk = n ∧ At 19 [(0, .slice A n c), (1, .func (.func 43) #[] #[.pointer (some ⟨pa, 0, none⟩), .pointer (some ⟨pu, 0, none⟩), .pointer (some ⟨pg, 0, none⟩)]), (7, .int .i64 (n : Nat)), (8, .int .i64 (j : Nat))] a ∧ leftL (goesV all us) (l.take j) = l.take j ∧ goneL (goesV all us) (l.take j) = [] ∧ Gone w.heap.size pg wx [] ∧ Below w.heap.size w wx) (n) ?_ ?_
  · exact ⟨0, by omega, hA38, rfl, rfl, hG, HB⟩
  clear HB hG
  rintro kk a wx ⟨j, hjk, hA, hleft, hgone, hG, HB⟩
  refine wp_seq ?_
  refine wp_region_lit ?_
  refine wl_op hA rfl rfl (by decide) (fun ev h => by simp [go_sem, h.get 8 rfl, h.get 7 rfl]; try first | exact ⟨rfl, rfl⟩ | rfl) fun a39 hA39 => ?_
  refine wl_nil ?_
  refine n_then ?_
  have hA40 := hA39.keep [0, 1, 7, 8, 9]
  simp only [argsE, keepE, lookS, Nat.reduceBEq, cond_true, cond_false, Nat.reduceAdd, gv_tt, gv_ff, Bool.true_and, Bool.false_and, Bool.true_or, Bool.false_or] at hA40
  clear hA hA39
  refine wp_seq ?_
  -- cond
  refine wp_if hA40 9 _ rfl (fun hq => ?yL) (fun hq => ?nL)
  case yL =>
    have hlt : j < n := by simp at hq; omega
    obtain ⟨x, hx⟩ : ∃ x, l[j]? = some x := ⟨_, List.getElem?_eq_getElem (by omega)⟩
    obtain ⟨ad, rfl, hadl, k0, k1, k2, k3⟩ := hms.at_ hx
    have z0 := (HB.cell hadl).trans k0
    have z1 := (HB.cell (p := ⟨(ad.add (j * 4)).block, (ad.add (j * 4)).off + 1, none⟩) hadl).trans k1
    have z2 := (HB.cell (p := ⟨(ad.add (j * 4)).block, (ad.add (j * 4)).off + 2, none⟩) hadl).trans k2
    have z3 := (HB.cell (p := ⟨(ad.add (j * 4)).block, (ad.add (j * 4)).off + 3, none⟩) hadl).trans k3
    have jj0 : (0 : Int) ≤ (j : Int) := by omega
    have jj1 : (j : Int) < (n : Int) := by omega
    have hwj : IntKind.i64.wrap ((j : Int) + 1) = (j : Int) + 1 := IntWalk.i64_in _ (by omega)
    refine wp_skip ?_
    refine n_then ?_
    refine wp_seq ?_
    refine wp_block ?_
    refine wp_seq ?_
    refine wp_region_lit ?_
    refine wl_op hA40 rfl rfl (by decide) (fun ev h => by simp [go_sem, h.get 8 rfl, z0, z1, z2, z3, jj0, jj1, hwj]; try first | exact ⟨rfl, rfl⟩ | rfl) fun a41 hA41 => ?_
    refine wl_op hA41 rfl rfl (by decide) (fun ev h => by simp [go_sem, h.get 10 rfl, z0, z1, z2, z3, jj0, jj1, hwj]; try first | exact ⟨rfl, rfl⟩ | rfl) fun a42 hA42 => ?_
    refine wl_nil ?_
    refine n_then ?_
    have hA43 := hA42.keep [0, 1, 5, 7, 8]
    simp only [argsE, keepE, lookS, Nat.reduceBEq, cond_true, cond_false, Nat.reduceAdd, gv_tt, gv_ff, Bool.true_and, Bool.false_and, Bool.true_or, Bool.false_or] at hA43
    clear hA40 hA41 hA42 a41
    refine wp_seq ?_
    refine wp_region_lit ?_
    refine wl_op hA43 rfl rfl (by decide) (fun ev h => by simp [go_sem, h.get 1 rfl, z0, z1, z2, z3, jj0, jj1, hwj]; try first | exact ⟨rfl, rfl⟩ | rfl) fun a44 hA44 => ?_
    refine wl_op hA44 rfl rfl (by decide) (fun ev h => by simp [go_sem, h.get 0 rfl, z0, z1, z2, z3, jj0, jj1, hwj]; try first | exact ⟨rfl, rfl⟩ | rfl) fun a45 hA45 => ?_
    refine wl_op hA45 rfl rfl (by decide) (fun ev h => by simp [go_sem, h.get 5 rfl, z0, z1, z2, z3, jj0, jj1, hwj]; try first | exact ⟨rfl, rfl⟩ | rfl) fun a46 hA46 => ?_
    refine wl_op hA46 rfl rfl (by decide) (fun ev h => by simp [go_sem, h.get 12 rfl, h.get 13 rfl, z0, z1, z2, z3, jj0, jj1, hwj]; try first | exact ⟨rfl, rfl⟩ | rfl) fun a47 hA47 => ?_
    refine wl_op hA47 rfl rfl (by decide) (fun ev h => by simp [go_sem, h.get 14 rfl, z0, z1, z2, z3, jj0, jj1, hwj]; try first | exact ⟨rfl, rfl⟩ | rfl) fun a48 hA48 => ?_
    -- stop call slot 16
    refine wl_call hA48 rfl rfl (by decide) (fun ev h => by simp [go_sem, h.get 11 rfl, h.get 15 rfl, z0, z1, z2, z3, jj0, jj1, hwj]; try first | exact ⟨rfl, rfl⟩ | rfl) (expunge1_any pa pu pg w.heap.size k c2 all A2 us [] x _ (Ka.below HB Ka.lt) (Ku.below HB Ku.lt) hG HB.size hk hus ((hur.below HB).more HB.size) (by simp)) ?_
    rintro e w2 ⟨rfl, hG2, hbel, hap⟩
    refine ⟨_, rfl, fun a49 hA49 => ?_⟩
    refine wl_nil ?_
    refine n_then ?_
    have hA50 := hA49.keep [0, 1, 5, 7, 8, 16]
    simp only [argsE, keepE, lookS, Nat.reduceBEq, cond_true, cond_false, Nat.reduceAdd, gv_tt, gv_ff, Bool.true_and, Bool.false_and, Bool.true_or, Bool.false_or] at hA50
    clear hA43 hA44 hA45 hA46 hA47 hA48 hA49 a42 a44 a45 a46 a47 a48
    -- cond
    obtain ⟨q, hqe⟩ : ∃ q, goesV all us x = q := ⟨_, rfl⟩
    rw [hqe] at hA50
    have hg1 := goneL_succ (p := goesV all us) hx
    have hl1 := leftL_succ (p := goesV all us) hx
    rw [hqe] at hg1 hl1 hG2
    rw [hgone] at hg1
    rw [hleft] at hl1
    refine wp_if hA50 16 _ rfl (fun hq2 => ?yR) (fun hq2 => ?nR)
    case yR =>
      subst hq2
      refine wp_seq ?_
      refine wp_region_lit ?_
      refine wl_op hA50 rfl rfl (by decide) (fun ev h => by simp [go_sem, h.get 5 rfl, z0, z1, z2, z3, jj0, jj1, hwj]; try first | exact ⟨rfl, rfl⟩ | rfl) fun a51 hA51 => ?_
      refine wl_op hA51 rfl rfl (by decide) (fun ev h => by simp [go_sem, h.get 17 rfl, z0, z1, z2, z3, jj0, jj1, hwj]; try first | exact ⟨rfl, rfl⟩ | rfl) fun a52 hA52 => ?_
      refine wl_nil ?_
      refine n_then ?_
      have hA53 := hA52.keep [4]
      simp only [argsE, keepE, lookS, Nat.reduceBEq, cond_true, cond_false, Nat.reduceAdd, gv_tt, gv_ff, Bool.true_and, Bool.false_and, Bool.true_or, Bool.false_or] at hA53
      clear hA50 hA51 hA52 a51
      refine wp_ret ?_
      refine r_block ?_
      refine r_then ?_
      refine r_then ?_
      refine r_block ?_
      refine r_then ?_
      refine ret_1 hA53 4 rfl rfl ?_
      refine ⟨_, rfl, .inr ⟨j, hlt, rfl, ?_, ?_, ?_⟩⟩
      · rw [hl1]; simp
      · rw [hg1]; exact hG2
      · exact (Apart.refl _ w).trans (S' := fun i => i = pg ∨ w.heap.size ≤ i) ⟨hap.os.trans HB.os, hap.tape.trans HB.tape, hap.output.trans HB.output, Nat.le_trans HB.size hap.size, fun i hi hn => (hap.block i (Nat.lt_of_lt_of_le hi HB.size) hn).trans (HB.block i hi)⟩ (fun i hi h => by rcases h with h | h; exact h; omega)
    case nR =>
      subst hq2
      refine wp_skip ?_
      refine n_block ?_
      refine n_then ?_
      refine wp_region_lit ?_
      refine wl_op hA50 rfl rfl (by decide) (fun ev h => by simp [go_sem, h.c, h.get 8 rfl, z0, z1, z2, z3, jj0, jj1, hwj]; try first | exact ⟨rfl, rfl⟩ | rfl) fun a54 hA54 => ?_
      refine wl_op hA54 rfl rfl (by decide) (fun ev h => by simp [go_sem, h.get 18 rfl, z0, z1, z2, z3, jj0, jj1, hwj]; try first | exact ⟨rfl, rfl⟩ | rfl) fun a55 hA55 => ?_
      refine wl_nil ?_
      refine n_then ?_
      have hA56 := hA55.keep [0, 1, 7, 8]
      simp only [argsE, keepE, lookS, Nat.reduceBEq, cond_true, cond_false, Nat.reduceAdd, gv_tt, gv_ff, Bool.true_and, Bool.false_and, Bool.true_or, Bool.false_or] at hA56
      clear hA50 hA54 hA55 a54
      -- round
      rw [show ((j : Int) + 1) = ((j + 1 : Nat) : Int) by omega] at hA56
      have hb2 := hbel hqe
      exact ⟨kk - 1, by omega, j + 1, by omega, hA56, by rw [hl1, List.take_add_one, hx]; rfl, hg1, hG2, HB.trans (hb2.mono HB.size)⟩
  case nL =>
    have hjn : j = n := by simp at hq; omega
    subst hjn
    rw [← hl, List.take_length] at hleft hgone
    refine wp_exit ?_
    refine x_then ?_
    refine x_then ?_
    refine x_block ?_
    refine n_then ?_
    have hA57 := hA40.keep []
    simp only [argsE, keepE, lookS, Nat.reduceBEq, cond_true, cond_false, Nat.reduceAdd, gv_tt, gv_ff, Bool.true_and, Bool.false_and, Bool.true_or, Bool.false_or] at hA57
    clear hA40
    refine wp_seq ?_
    refine wp_region_lit ?_
    refine wl_op hA57 rfl rfl (by decide) (fun ev h => by simp [go_sem, h.c]; try first | exact ⟨rfl, rfl⟩ | rfl) fun a58 hA58 => ?_
    refine wl_nil ?_
    refine n_then ?_
    have hA59 := hA58.keep [4]
    simp only [argsE, keepE, lookS, Nat.reduceBEq, cond_true, cond_false, Nat.reduceAdd, gv_tt, gv_ff, Bool.true_and, Bool.false_and, Bool.true_or, Bool.false_or] at hA59
    clear hA57 hA58
    refine wp_ret ?_
    refine ret_1 hA59 4 rfl rfl ?_
    exact ⟨_, rfl, .inl ⟨rfl, hleft, hgone, hG, HB⟩⟩
end Go.Proofs.YtbbhblnhbgkcaaaDoor
