/-
  Walks: messages that go are taken from a row.
-/
import Derived.Test.YtbbhblnhbgkcaaaDoorMailExpunge
namespace Go.Proofs.YtbbhblnhbgkcaaaDoor
open Go.RowKit
set_option linter.unusedSimpArgs false
set_option linter.unusedVariables false
/-- a row of messages out of a list whose octets stay -/
theorem OwnM.again {B g n c : Nat} {w w' : World} {S : Nat → Prop} {l l' : List MsgV} (h : OwnM B w (.slice (some ⟨g, 0, none⟩) n c) l) (ha : Apart S w w') (hS : ∀ m ∈ l, 0 < m.b.length → ∀ ad, m.a = some ad → ¬ S ad.block)
    (hr : w'.ownsRow B 30 4 (.slice (some ⟨g, 0, none⟩) n c) l'.length (l'.flatMap msgC)) (hm : ∀ m ∈ l', m ∈ l) : OwnM B w' (.slice (some ⟨g, 0, none⟩) n c) l' :=
  ⟨hr, fun m h' => ha.reads (h.octs m (hm m h')) (hS m (hm m h')), fun g' hg' m h' => h.off g' hg' m (hm m h'), fun m h' => h.uids m (hm m h'), fun m h' => h.caps m (hm m h')⟩
theorem Apart.mono {S S' : Nat → Prop} {w w' : World} (h : Apart S w w') (hs : ∀ i, S i → S' i) : Apart S' w w' := ⟨h.os, h.tape, h.output, h.size, fun i hi hn => h.block i hi fun h' => hn (hs i h')⟩
theorem Gone.off {B pg : Nat} {w : World} {gs : List Nat} {m : MsgV} (h : Gone B pg w gs) (hm : Reads w w.heap.size 1 m.a m.b.length (u8s m.b)) : Off pg m := by
  obtain ⟨vg, K, ho⟩ := h
  obtain ⟨A, c, rfl, _⟩ := ho.reads
  exact off_blk hm K rfl
theorem Gone.ne {B B2 pg size n g : Nat} {w : World} {gs : List Nat} {v : Value} {e : TypeId} {xs : List Value} (h : Gone B pg w gs) (ho : w.ownsRow B2 e size v n xs) (he : 42 ≠ e) (hg : v.ownBlock = some g) : g ≠ pg := by
  obtain ⟨vg, K, _⟩ := h
  exact own_ne ho K he g hg
theorem Gone.rowed {B B2 pg size n c k g : Nat} {w w' : World} {gs : List Nat} {e : TypeId} {xs : List Value} (h : Gone B pg w gs) (ho : w.ownsRow B2 e size (.slice (some ⟨g, 0, none⟩) n c) k xs) (he : 42 ≠ e) (he2 : 22 ≠ e) (hg : w.grownBy w' (some g)) : Gone B pg w' gs := by
  have hne := h.ne ho he rfl
  obtain ⟨vg, K, hu⟩ := h
  exact ⟨vg, K.grown hg (fun e => hne (Option.some.inj e).symm), own_keep hu fun k hk => hg.block k (World.ownsRow.lt hu k hk).2 fun e => own_ne2 ho hu he2 rfl hk (Option.some.inj e).symm⟩
set_option maxRecDepth 100000 in
set_option maxHeartbeats 2000000 in
theorem deleteE_any (pa pu pg k c2 B : Nat) (all : Bool) (A2 : Option Addr) (us : List Nat) (A : Option Addr) (c n : Nat) (l : List MsgV) (w : World) (Ka : Blk w pa 4 #[.bool all]) (Ku : Blk w pu 42 #[.slice A2 k c2]) (hG : Gone w.heap.size pg w [])
    (hpa : pa < B) (hpu : pu < B) (hpg : B ≤ pg) (hBw : B ≤ w.heap.size) (hk : k ≤ 140737488355328) (hus : us.length = k) (hur : Reads w B 1 A2 k (u32s us)) (hn : n ≤ 100000) (ho : OwnM B w (.slice A n c) l) :
    Calls Tryd.prog 42 #[.slice A n c, clos pa pu pg] w
      fun ev w' => ∃ v, ev = .returned v ∧ OwnM B w' v (leftL (goesV all us) l) ∧ Gone w.heap.size pg w' (goneL (goesV all us) l) ∧ Apart (fun i => i = pg ∨ (Value.slice A n c).ownBlock = some i) w w' := by
  have hl := own_len ho.row
  have hms : Msgs w A n l := by
    obtain ⟨A', c', e, hm, _⟩ := ho.msgs
    injection e with e1 _ e3
    subst e1
    rw [← hl]; exact hm
  have Idx := indexE_any pa pu pg k c2 all A2 us A c n l w Ka Ku hG hk hus (hur.more hBw) hn hms
  unfold clos at Idx ⊢
  refine calls_at 42 Tryd.func42 rfl rfl (Nat.le_of_ble_eq_true rfl) ?_
  intro a hA
  simp only [argsE, keepE, lookS, Nat.reduceBEq, cond_true, cond_false, Nat.reduceAdd, gv_tt, gv_ff, Bool.true_and, Bool.false_and, Bool.true_or, Bool.false_or] at hA
  refine wp_seq ?_
  refine wp_region_lit ?_
  refine wl_op hA rfl rfl (by decide) (fun ev h => by simp [go_sem, h.c]; try first | exact ⟨rfl, rfl⟩ | rfl) fun a1 hA1 => ?_
  refine wl_nil ?_
  refine n_then ?_
  have hA2 := hA1.keep [0, 1]
  simp only [argsE, keepE, lookS, Nat.reduceBEq, cond_true, cond_false, Nat.reduceAdd, gv_tt, gv_ff, Bool.true_and, Bool.false_and, Bool.true_or, Bool.false_or] at hA2
  clear hA hA1
  refine wp_seq ?_
  refine wp_region_lit ?_
  refine wl_op hA2 rfl rfl (by decide) (fun ev h => by simp [go_sem, h.get 0 rfl]; try first | exact ⟨rfl, rfl⟩ | rfl) fun a3 hA3 => ?_
  refine wl_op hA3 rfl rfl (by decide) (fun ev h => by simp [go_sem, h.get 1 rfl]; try first | exact ⟨rfl, rfl⟩ | rfl) fun a4 hA4 => ?_
  -- stop call slot 10
  refine wl_call hA4 rfl rfl (by decide) (fun ev h => by simp [go_sem, h.get 8 rfl, h.get 9 rfl, h.f]; try first | exact ⟨rfl, rfl⟩ | rfl) (Idx) ?_
  rintro e w1 ⟨r, rfl, hI⟩
  refine ⟨_, rfl, fun a5 hA5 => ?_⟩
  refine wl_op hA5 rfl rfl (by decide) (fun ev h => by simp [go_sem, h.get 10 rfl]; try first | exact ⟨rfl, rfl⟩ | rfl) fun a6 hA6 => ?_
  refine wl_nil ?_
  refine n_then ?_
  have hA7 := hA6.keep [0, 1, 5]
  simp only [argsE, keepE, lookS, Nat.reduceBEq, cond_true, cond_false, Nat.reduceAdd, gv_tt, gv_ff, Bool.true_and, Bool.false_and, Bool.true_or, Bool.false_or] at hA7
  clear hA2 hA3 hA4 hA5 hA6 a1 a3 a4 a5
  refine wp_seq ?_
  refine wp_seq ?_
  refine wp_region_lit ?_
  refine wl_op hA7 rfl rfl (by decide) (fun ev h => by simp [go_sem, h.get 5 rfl]; try first | exact ⟨rfl, rfl⟩ | rfl) fun a8 hA8 => ?_
  refine wl_op hA8 rfl rfl (by decide) (fun ev h => by simp [go_sem, h.c, h.get 11 rfl]; try first | exact ⟨rfl, rfl⟩ | rfl) fun a9 hA9 => ?_
  refine wl_nil ?_
  refine n_then ?_
  have hA10 := hA9.keep [0, 1, 5, 12]
  simp only [argsE, keepE, lookS, Nat.reduceBEq, cond_true, cond_false, Nat.reduceAdd, gv_tt, gv_ff, Bool.true_and, Bool.false_and, Bool.true_or, Bool.false_or] at hA10
  clear hA7 hA8 hA9 a6 a8
  -- cond
  refine wp_if hA10 12 _ rfl (fun hq => ?yA) (fun hq => ?nA)
  case yA =>
    have hr1 : r = -1 := by simpa using hq
    refine wp_seq ?_
    refine wp_region_lit ?_
    refine wl_op hA10 rfl rfl (by decide) (fun ev h => by simp [go_sem, h.get 0 rfl]; try first | exact ⟨rfl, rfl⟩ | rfl) fun a11 hA11 => ?_
    refine wl_op hA11 rfl rfl (by decide) (fun ev h => by simp [go_sem, h.get 13 rfl]; try first | exact ⟨rfl, rfl⟩ | rfl) fun a12 hA12 => ?_
    refine wl_nil ?_
    refine n_then ?_
    have hA13 := hA12.keep [4]
    simp only [argsE, keepE, lookS, Nat.reduceBEq, cond_true, cond_false, Nat.reduceAdd, gv_tt, gv_ff, Bool.true_and, Bool.false_and, Bool.true_or, Bool.false_or] at hA13
    clear hA10 hA11 hA12 a11
    refine wp_ret ?_
    refine r_then ?_
    refine ret_1 hA13 4 rfl rfl ?_
    rcases hI with ⟨_, h1, h2, h3, h4⟩ | ⟨i, _, h1, _⟩
    · refine ⟨_, rfl, by rw [h1]; exact ho.below h4, by rw [h2]; exact h3, ?_⟩
      exact (Apart.refl _ w).below h4
    · omega
  case nA =>
    have hr1 : ¬ r = -1 := by simpa using hq
    obtain ⟨i0, hi0, hr0, hleft0, hG1, hap1⟩ : ∃ i : Nat, i < n ∧ r = (i : Nat) ∧ leftL (goesV all us) (l.take (i + 1)) = l.take i ∧ Gone w.heap.size pg w1 (goneL (goesV all us) (l.take (i + 1))) ∧ Apart (fun i => i = pg) w w1 := by
      rcases hI with ⟨h, _⟩ | h
      · exact absurd h hr1
      · exact h
    clear hI hq hr1 Idx
    subst hr0
    obtain ⟨g, cc, hv, hgB, hglt⟩ := ho.at_ (by omega)
    injection hv with hv1 _ hv3
    subst hv1 hv3
    have hgpg : g ≠ pg := hG.ne ho.row (by decide) rfl
    have hoffS : ∀ m ∈ l, 0 < m.b.length → ∀ ad, m.a = some ad → ¬ (ad.block = pg ∨ ad.block = g) := fun m hm hn ad ha h => by
      rcases h with h | h
      · exact hG.off (ho.octs m hm) hn ad ha h
      · exact ho.off g rfl m hm hn ad ha h
    have hlen : l.length = n := hl
    have hap : Apart (fun q => q = pg ∨ q = g) w w1 := hap1.mono fun i h => .inl h
    have hrow : w1.ownsRow B 30 4 (.slice (some ⟨g, 0, none⟩) n c) l.length (l.flatMap msgC) := own_keep ho.row fun g' hg' => by
      rw [← Option.some.inj hg']
      exact hap1.block g hglt hgpg
    have ho1 := ho.again hap hoffS hrow fun _ h => h
    have hwi : IntKind.i64.wrap ((i0 : Int) + 1) = (i0 : Int) + 1 := IntWalk.i64_in _ (by omega)
    refine wp_skip ?_
    refine n_then ?_
    refine wp_seq ?_
    refine wp_seq ?_
    refine wp_region_lit ?_
    refine wl_op hA10 rfl rfl (by decide) (fun ev h => by simp [go_sem, h.get 5 rfl, hwi]; try first | exact ⟨rfl, rfl⟩ | rfl) fun a14 hA14 => ?_
    refine wl_op hA14 rfl rfl (by decide) (fun ev h => by simp [go_sem, h.c, h.get 14 rfl, hwi]; try first | exact ⟨rfl, rfl⟩ | rfl) fun a15 hA15 => ?_
    refine wl_op hA15 rfl rfl (by decide) (fun ev h => by simp [go_sem, h.get 15 rfl, hwi]; try first | exact ⟨rfl, rfl⟩ | rfl) fun a16 hA16 => ?_
    refine wl_nil ?_
    refine n_then ?_
    have hA17 := hA16.keep [0, 1, 5, 6]
    simp only [argsE, keepE, lookS, Nat.reduceBEq, cond_true, cond_false, Nat.reduceAdd, gv_tt, gv_ff, Bool.true_and, Bool.false_and, Bool.true_or, Bool.false_or] at hA17
    clear hA10 hA14 hA15 hA16 a14 a15
    refine wp_block ?_
    -- loop
    rw [show ((i0 : Int) + 1) = ((i0 + 1 : Nat) : Int) by omega] at hA17
    refine wp_loop_at (fun kk a wx => ∃ (i j : Nat) (l' : List MsgV), j + kk = n ∧ i < j ∧ At 42 [(0, .slice (some ⟨g, 0, none⟩) n c), (1, .func (.func 43) #[] #[.pointer (some ⟨pa, 0, none⟩), .pointer (some ⟨pu, 0, none⟩), .pointer (some ⟨pg, 0, none⟩)]), (5, .int .i64 (i : Nat)), (6, .int .i64 (j : Nat))] a ∧ OwnM B wx (.slice (some ⟨g, 0, none⟩) n c) l' ∧ l'.take i = leftL (goesV all us) (l.take j) ∧ l'.drop j = l.drop j ∧ (∀ m ∈ l', m ∈ l) ∧ Gone w.heap.size pg wx (goneL (goesV all us) (l.take j)) ∧ Apart (fun q => q = pg ∨ q = g) w wx) (n - (i0 + 1)) ?_ ?_
    · exact ⟨i0, i0 + 1, l, by omega, by omega, hA17, ho1, hleft0.symm, rfl, fun _ h => h, hG1, hap⟩
    clear hG1 hap hap1 hrow ho1 hleft0 hG
    rintro kk a wx ⟨i, j, l', hjk, hij, hA, ho', htake, hdrop, hmem, hG, hap⟩
    have hlen' : l'.length = n := own_len ho'.row
    have hBb : Below B w wx := hap.toBelow (fun q hq => by rcases hq with h | h <;> omega) hBw
    have hpgx := hG.lt
    have hsz := hap.size
    refine wp_seq ?_
    refine wp_seq ?_
    refine wp_region_lit ?_
    refine wl_op hA rfl rfl (by decide) (fun ev h => by simp [go_sem, h.get 6 rfl]; try first | exact ⟨rfl, rfl⟩ | rfl) fun a18 hA18 => ?_
    refine wl_op hA18 rfl rfl (by decide) (fun ev h => by simp [go_sem, h.get 0 rfl]; try first | exact ⟨rfl, rfl⟩ | rfl) fun a19 hA19 => ?_
    refine wl_op hA19 rfl rfl (by decide) (fun ev h => by simp [go_sem, h.get 17 rfl]; try first | exact ⟨rfl, rfl⟩ | rfl) fun a20 hA20 => ?_
    refine wl_op hA20 rfl rfl (by decide) (fun ev h => by simp [go_sem, h.get 16 rfl, h.get 18 rfl]; try first | exact ⟨rfl, rfl⟩ | rfl) fun a21 hA21 => ?_
    refine wl_nil ?_
    refine n_then ?_
    have hA22 := hA21.keep [0, 1, 5, 6, 19]
    simp only [argsE, keepE, lookS, Nat.reduceBEq, cond_true, cond_false, Nat.reduceAdd, gv_tt, gv_ff, Bool.true_and, Bool.false_and, Bool.true_or, Bool.false_or] at hA22
    clear hA hA18 hA19 hA20 hA21 a18 a19 a20
    -- cond
    refine wp_if hA22 19 _ rfl (fun hq => ?yL) (fun hq => ?nL)
    case yL =>
      have hlt : j < n := by simp at hq; omega
      obtain ⟨x, hx⟩ : ∃ x, l[j]? = some x := ⟨_, List.getElem?_eq_getElem (by omega)⟩
      have hx' : l'[j]? = some x := by
        have h1 := congrArg List.head? hdrop
        rwa [List.head?_drop, List.head?_drop, hx] at h1
      obtain ⟨y, hy⟩ : ∃ y, l'[i]? = some y := ⟨_, List.getElem?_eq_getElem (by omega)⟩
      have k0 : wx.cell? ⟨g, j * 4, none⟩ = some (.int .u32 (x.uid : Nat)) := by simpa using ho'.cell hx' (k := 0) rfl
      have k1 := ho'.cell hx' (k := 1) rfl
      have k2 := ho'.cell hx' (k := 2) rfl
      have k3 := ho'.cell hx' (k := 3) rfl
      have jj0 : (0 : Int) ≤ (j : Int) := by omega
      have jj1 : (j : Int) < (n : Int) := by omega
      have ii0 : (0 : Int) ≤ (i : Int) := by omega
      have ii1 : (i : Int) < (n : Int) := by omega
      have hwj : IntKind.i64.wrap ((j : Int) + 1) = (j : Int) + 1 := IntWalk.i64_in _ (by omega)
      have hwi : IntKind.i64.wrap ((i : Int) + 1) = (i : Int) + 1 := IntWalk.i64_in _ (by omega)
      have hg1 := goneL_succ (p := goesV all us) hx
      have hl1 := leftL_succ (p := goesV all us) hx
      have hgl := goneL_len (goesV all us) (l.take j)
      rw [List.length_take] at hgl
      refine wp_skip ?_
      refine n_then ?_
      refine wp_seq ?_
      refine wp_block ?_
      refine wp_seq ?_
      refine wp_region_lit ?_
      refine wl_op hA22 rfl rfl (by decide) (fun ev h => by simp [go_sem, h.get 0 rfl, add0, k0, k1, k2, k3, jj0, jj1]; try first | exact ⟨rfl, rfl⟩ | rfl) fun a23 hA23 => ?_
      refine wl_op hA23 rfl rfl (by decide) (fun ev h => by simp [go_sem, h.get 6 rfl, add0, k0, k1, k2, k3, jj0, jj1]; try first | exact ⟨rfl, rfl⟩ | rfl) fun a24 hA24 => ?_
      refine wl_op hA24 rfl rfl (by decide) (fun ev h => by simp [go_sem, h.get 22 rfl, h.get 23 rfl, add0, k0, k1, k2, k3, jj0, jj1]; try first | exact ⟨rfl, rfl⟩ | rfl) fun a25 hA25 => ?_
      refine wl_op hA25 rfl rfl (by decide) (fun ev h => by simp [go_sem, h.get 24 rfl, add0, k0, k1, k2, k3, jj0, jj1]; try first | exact ⟨rfl, rfl⟩ | rfl) fun a26 hA26 => ?_
      -- stop alloc slot 7
      refine wl_local [.int .u32 (x.uid : Nat), .int .i64 x.date, .int .i64 x.flags, .slice x.a x.b.length x.c] hA26 rfl rfl (by decide) (fun ev h => by simp [go_sem, add0, k0, k1, k2, k3, jj0, jj1]; try first | exact ⟨rfl, rfl⟩ | rfl) rfl rfl (by rfl) (fun w1 g ev hb h => by simp [go_sem, h.get 7 rfl, h.get 25 rfl, add0, k0, k1, k2, k3, jj0, jj1, setAll, hb.cell, hb.frozen]) fun w5 a27 (K7 : Blk _ _ _ _) hz5 hb5 hA27 => ?_
      replace ho' := ho'.below hb5
      replace hG := hG.below hb5
      replace hap := hap.below hb5
      replace hBb := hBb.trans (hb5.mono (Nat.le_trans hBw hsz))
      refine wl_nil ?_
      refine n_then ?_
      have hA28 := hA27.keep [0, 1, 5, 6, 7]
      simp only [argsE, keepE, lookS, Nat.reduceBEq, cond_true, cond_false, Nat.reduceAdd, gv_tt, gv_ff, Bool.true_and, Bool.false_and, Bool.true_or, Bool.false_or] at hA28
      clear hA22 hA23 hA24 hA25 hA26 hA27 a23 a24 a25 a26
      refine wp_seq ?_
      refine wp_region_lit ?_
      refine wl_op hA28 rfl rfl (by decide) (fun ev h => by simp [go_sem, h.get 1 rfl, K7.cell]; try first | exact ⟨rfl, rfl⟩ | rfl) fun a29 hA29 => ?_
      refine wl_op hA29 rfl rfl (by decide) (fun ev h => by simp [go_sem, h.get 7 rfl, K7.cell]; try first | exact ⟨rfl, rfl⟩ | rfl) fun a30 hA30 => ?_
      -- stop call slot 28
      refine wl_call hA30 rfl rfl (by decide) (fun ev h => by simp [go_sem, h.get 26 rfl, h.get 27 rfl, K7.cell]; try first | exact ⟨rfl, rfl⟩ | rfl) (expunge1_any pa pu pg w.heap.size k c2 all A2 us (goneL (goesV all us) (l.take j)) x _ (Ka.below hBb hpa) (Ku.below hBb hpu) hG hap.size hk hus ((hur.below hBb).more (Nat.le_trans hBw hap.size)) (by omega)) ?_
      rintro e w7 ⟨rfl, hG2, hbel, hap2⟩
      refine ⟨_, rfl, fun a31 hA31 => ?_⟩
      have hap7 : Apart (fun q => q = pg ∨ q = g) w w7 := hap.trans hap2 (fun q hq h => by rcases h with h | h; exact .inl h; omega)
      refine wl_op hA31 rfl rfl (by decide) (fun ev h => by simp [go_sem, h.get 28 rfl, K7.cell]; try first | exact ⟨rfl, rfl⟩ | rfl) fun a32 hA32 => ?_
      refine wl_nil ?_
      refine n_then ?_
      have hA33 := hA32.keep [0, 1, 5, 6, 7, 29]
      simp only [argsE, keepE, lookS, Nat.reduceBEq, cond_true, cond_false, Nat.reduceAdd, gv_tt, gv_ff, Bool.true_and, Bool.false_and, Bool.true_or, Bool.false_or] at hA33
      clear hA28 hA29 hA30 hA31 hA32 a27 a29 a30 a31
      -- cond
      obtain ⟨q, hqe⟩ : ∃ q, goesV all us x = q := ⟨_, rfl⟩
      rw [hqe] at hA33
      rw [hqe] at hg1 hl1 hG2
      have hdrop1 : l'.drop (j + 1) = l.drop (j + 1) := by rw [← List.tail_drop, hdrop, List.tail_drop]
      have hmx : x ∈ l' := List.mem_of_getElem? hx'
      refine wp_if hA33 29 _ rfl (fun hq2 => ?yR) (fun hq2 => ?nR)
      case yR =>
        have hq2 : q = false := by simpa using hq2
        subst hq2
        have hb7 := hbel hqe
        rw [cond_false, List.append_nil] at hG2 hg1
        rw [cond_false] at hl1
        have ho7 := ho'.below hb7
        have K77 := K7.below hb7 K7.lt
        have hfr := ho7.row
        rw [own_len ho7.row] at hfr
        obtain ⟨h8, h9⟩ := ho7.put hy (ho7.octs x hmx) (ho7.off g rfl x hmx) (ho7.uids x hmx) (ho7.caps x hmx)
        have q0 : w7.cell? ⟨g, i * 4, none⟩ = some (.int .u32 (y.uid : Nat)) := by simpa using ho7.cell hy (k := 0) rfl
        have q1 := ho7.cell hy (k := 1) rfl
        have q2 := ho7.cell hy (k := 2) rfl
        have q3 := ho7.cell hy (k := 3) rfl
        have hG9 := hG2.rowed ho7.row (by decide) (by decide) h9
        have hap9 := hap7.grown h9 (fun q hq => .inr (.inr (Option.some.inj hq).symm))
        have hfr0 : w7.frozen? ⟨g, i * 4, none⟩ = false := hfr.frozenAt _
        refine wp_seq ?_
        refine wp_region_lit ?_
        refine wl_op hA33 rfl rfl (by decide) (fun ev h => by simp [go_sem, h.get 0 rfl, add0, ii0, ii1, K77.cell, q0, q1, q2, q3, hfr.frozenAt]; try first | exact ⟨rfl, rfl⟩ | rfl) fun a34 hA34 => ?_
        refine wl_op hA34 rfl rfl (by decide) (fun ev h => by simp [go_sem, h.get 5 rfl, add0, ii0, ii1, K77.cell, q0, q1, q2, q3, hfr.frozenAt]; try first | exact ⟨rfl, rfl⟩ | rfl) fun a35 hA35 => ?_
        refine wl_op hA35 rfl rfl (by decide) (fun ev h => by simp [go_sem, h.get 7 rfl, add0, ii0, ii1, K77.cell, q0, q1, q2, q3, hfr.frozenAt]; try first | exact ⟨rfl, rfl⟩ | rfl) fun a36 hA36 => ?_
        refine wl_op hA36 rfl rfl (by decide) (fun ev h => by simp [go_sem, h.get 30 rfl, h.get 31 rfl, add0, ii0, ii1, K77.cell, q0, q1, q2, q3, hfr.frozenAt]; try first | exact ⟨rfl, rfl⟩ | rfl) fun a37 hA37 => ?_
        -- stop store slot None
        refine wl_skip hA37 rfl rfl (fun ev h => by simp [go_sem, h.get 33 rfl, h.get 32 rfl, add0, ii0, ii1, K77.cell, q0, q1, q2, q3, hfr.frozenAt]; try first | exact ⟨rfl, rfl⟩ | rfl) ?_
        refine wl_nil ?_
        refine n_then ?_
        have hA38 := hA37.keep [0, 1, 5, 6]
        simp only [argsE, keepE, lookS, Nat.reduceBEq, cond_true, cond_false, Nat.reduceAdd, gv_tt, gv_ff, Bool.true_and, Bool.false_and, Bool.true_or, Bool.false_or] at hA38
        clear hA33 hA34 hA35 hA36 hA37 a34 a35 a36
        refine wp_region_lit ?_
        refine wl_op hA38 rfl rfl (by decide) (fun ev h => by simp [go_sem, h.get 5 rfl, hwi, hwj]; try first | exact ⟨rfl, rfl⟩ | rfl) fun a39 hA39 => ?_
        refine wl_op hA39 rfl rfl (by decide) (fun ev h => by simp [go_sem, h.c, h.get 34 rfl, hwi, hwj]; try first | exact ⟨rfl, rfl⟩ | rfl) fun a40 hA40 => ?_
        refine wl_op hA40 rfl rfl (by decide) (fun ev h => by simp [go_sem, h.get 35 rfl, hwi, hwj]; try first | exact ⟨rfl, rfl⟩ | rfl) fun a41 hA41 => ?_
        refine wl_nil ?_
        refine n_block ?_
        refine n_then ?_
        have hA42 := hA41.keep [0, 1, 5, 6]
        simp only [argsE, keepE, lookS, Nat.reduceBEq, cond_true, cond_false, Nat.reduceAdd, gv_tt, gv_ff, Bool.true_and, Bool.false_and, Bool.true_or, Bool.false_or] at hA42
        clear hA38 hA39 hA40 hA41 a37 a39 a40
        refine wp_region_lit ?_
        refine wl_op hA42 rfl rfl (by decide) (fun ev h => by simp [go_sem, h.get 6 rfl, hwi, hwj]; try first | exact ⟨rfl, rfl⟩ | rfl) fun a43 hA43 => ?_
        refine wl_op hA43 rfl rfl (by decide) (fun ev h => by simp [go_sem, h.c, h.get 20 rfl, hwi, hwj]; try first | exact ⟨rfl, rfl⟩ | rfl) fun a44 hA44 => ?_
        refine wl_op hA44 rfl rfl (by decide) (fun ev h => by simp [go_sem, h.get 21 rfl, hwi, hwj]; try first | exact ⟨rfl, rfl⟩ | rfl) fun a45 hA45 => ?_
        refine wl_nil ?_
        refine n_then ?_
        have hA46 := hA45.keep [0, 1, 5, 6]
        simp only [argsE, keepE, lookS, Nat.reduceBEq, cond_true, cond_false, Nat.reduceAdd, gv_tt, gv_ff, Bool.true_and, Bool.false_and, Bool.true_or, Bool.false_or] at hA46
        clear hA42 hA43 hA44 hA45 a41 a43 a44
        -- round
        rw [show ((j : Int) + 1) = ((j + 1 : Nat) : Int) by omega, show ((i : Int) + 1) = ((i + 1 : Nat) : Int) by omega] at hA46
        refine ⟨kk - 1, by omega, i + 1, j + 1, _, by omega, by omega, hA46, h8, ?_, ?_, ?_, by rw [hg1]; exact hG9, hap9⟩
        · rw [List.take_add_one, List.take_set_of_le (Nat.le_refl i), List.getElem?_set_self (by omega), htake, hl1]; rfl
        · rw [List.drop_set_of_lt (by omega)]; exact hdrop1
        · intro m hm
          rcases List.mem_or_eq_of_mem_set hm with h | h
          · exact hmem m h
          · subst h; exact hmem _ hmx
      case nR =>
        have hq2 : q = true := by simpa using hq2
        subst hq2
        rw [cond_true] at hG2 hg1 hl1
        have row7 : w7.ownsRow B 30 4 (.slice (some ⟨g, 0, none⟩) n c) l'.length (l'.flatMap msgC) := own_keep ho'.row fun g' hg' => by
          rw [← Option.some.inj hg']
          exact hap2.block g (by show g < w5.heap.size; omega) (fun h => by rcases h with h | h; exact hgpg h; omega)
        have ho7 := ho.again hap7 hoffS row7 hmem
        refine wp_skip ?_
        refine n_block ?_
        refine n_then ?_
        refine wp_region_lit ?_
        refine wl_op hA33 rfl rfl (by decide) (fun ev h => by simp [go_sem, h.get 6 rfl, hwj]; try first | exact ⟨rfl, rfl⟩ | rfl) fun a47 hA47 => ?_
        refine wl_op hA47 rfl rfl (by decide) (fun ev h => by simp [go_sem, h.c, h.get 20 rfl, hwj]; try first | exact ⟨rfl, rfl⟩ | rfl) fun a48 hA48 => ?_
        refine wl_op hA48 rfl rfl (by decide) (fun ev h => by simp [go_sem, h.get 21 rfl, hwj]; try first | exact ⟨rfl, rfl⟩ | rfl) fun a49 hA49 => ?_
        refine wl_nil ?_
        refine n_then ?_
        have hA50 := hA49.keep [0, 1, 5, 6]
        simp only [argsE, keepE, lookS, Nat.reduceBEq, cond_true, cond_false, Nat.reduceAdd, gv_tt, gv_ff, Bool.true_and, Bool.false_and, Bool.true_or, Bool.false_or] at hA50
        clear hA33 hA47 hA48 hA49 a47 a48
        -- round
        rw [show ((j : Int) + 1) = ((j + 1 : Nat) : Int) by omega] at hA50
        exact ⟨kk - 1, by omega, i, j + 1, l', by omega, by omega, hA50, ho7, by rw [htake, hl1, List.append_nil], hdrop1, hmem, by rw [hg1]; exact hG2, hap7⟩
    case nL =>
      have hjn : j = n := by simp at hq; omega
      subst hjn
      obtain ⟨A9, c9, e9, hc9, _⟩ := own_caps ho'.row
      injection e9 with _ _ e9
      subst e9
      rw [hlen'] at hc9
      have hij2 : i ≤ j := by omega
      have hci : ¬ c = i := by omega
      have hjc : j ≤ c := hc9
      obtain ⟨w9, hcl, ho9, hg9⟩ := run_clearM (d := c - i) ho' hij
      have hG9 := hG.rowed ho'.row (by decide) (by decide) hg9
      have hap9 := hap.grown hg9 (fun q hq => .inr (.inr (Option.some.inj hq).symm))
      rw [← hlen, List.take_length] at htake hG9
      rw [htake] at ho9
      have hic : i ≤ c := by omega
      refine wp_exit ?_
      refine x_then ?_
      refine x_then ?_
      refine x_block ?_
      refine n_then ?_
      have hA51 := hA22.keep [0, 5]
      simp only [argsE, keepE, lookS, Nat.reduceBEq, cond_true, cond_false, Nat.reduceAdd, gv_tt, gv_ff, Bool.true_and, Bool.false_and, Bool.true_or, Bool.false_or] at hA51
      clear hA22
      refine wp_seq ?_
      refine wp_region_lit ?_
      refine wl_op hA51 rfl rfl (by decide) (fun ev h => by simp [go_sem, h.get 0 rfl, add0, hij2, hci, hjc]; try first | exact ⟨rfl, rfl⟩ | rfl) fun a52 hA52 => ?_
      refine wl_op hA52 rfl rfl (by decide) (fun ev h => by simp [go_sem, h.get 5 rfl, add0, hij2, hci, hjc]; try first | exact ⟨rfl, rfl⟩ | rfl) fun a53 hA53 => ?_
      refine wl_op hA53 rfl rfl (by decide) (fun ev h => by simp [go_sem, h.get 36 rfl, h.get 37 rfl, add0, hij2, hci, hjc]; try first | exact ⟨rfl, rfl⟩ | rfl) fun a54 hA54 => ?_
      -- stop call slot None
      refine wl_val0 hA54 rfl rfl (fun ev h => by simp [go_sem, h.get 38 rfl, add0, hij2, hci, hjc, hcl]; try first | exact ⟨rfl, rfl⟩ | rfl) ?_
      refine wl_nil ?_
      refine n_then ?_
      have hA55 := hA54.keep [0, 5]
      simp only [argsE, keepE, lookS, Nat.reduceBEq, cond_true, cond_false, Nat.reduceAdd, gv_tt, gv_ff, Bool.true_and, Bool.false_and, Bool.true_or, Bool.false_or] at hA55
      clear hA51 hA52 hA53 hA54 a52 a53
      refine wp_seq ?_
      refine wp_region_lit ?_
      refine wl_op hA55 rfl rfl (by decide) (fun ev h => by simp [go_sem, h.get 0 rfl, hic, add0]; try first | exact ⟨rfl, rfl⟩ | rfl) fun a56 hA56 => ?_
      refine wl_op hA56 rfl rfl (by decide) (fun ev h => by simp [go_sem, h.get 5 rfl, hic, add0]; try first | exact ⟨rfl, rfl⟩ | rfl) fun a57 hA57 => ?_
      refine wl_op hA57 rfl rfl (by decide) (fun ev h => by simp [go_sem, h.get 39 rfl, h.get 40 rfl, hic, add0]; try first | exact ⟨rfl, rfl⟩ | rfl) fun a58 hA58 => ?_
      refine wl_op hA58 rfl rfl (by decide) (fun ev h => by simp [go_sem, h.get 41 rfl, hic, add0]; try first | exact ⟨rfl, rfl⟩ | rfl) fun a59 hA59 => ?_
      refine wl_nil ?_
      refine n_then ?_
      have hA60 := hA59.keep [4]
      simp only [argsE, keepE, lookS, Nat.reduceBEq, cond_true, cond_false, Nat.reduceAdd, gv_tt, gv_ff, Bool.true_and, Bool.false_and, Bool.true_or, Bool.false_or] at hA60
      clear hA55 hA56 hA57 hA58 hA59 a54 a56 a57 a58
      refine wp_ret ?_
      -- ret
      refine ret_1 hA60 4 rfl rfl ?_
      refine ⟨_, rfl, ho9, hG9, hap9.mono fun q hq => ?_⟩
      rcases hq with h | h
      · exact .inl h
      · exact .inr (by rw [h]; rfl)
end Go.Proofs.YtbbhblnhbgkcaaaDoor
