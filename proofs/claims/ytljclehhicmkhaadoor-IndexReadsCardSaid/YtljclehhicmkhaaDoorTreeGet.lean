/-
  Walk: a page's tree.
-/
import Derived.Test.YtljclehhicmkhaaDoorTreePut
namespace Go.Proofs.YtljclehhicmkhaaDoor
open Go.RowKit
def inTreeL : Nat → InM → List PlaceM × InM
  | 0, s => ([], s)
  | n + 1, s => ((inTreeL n s).1 ++ [(((inN (inTreeL n s).2 1).1 : Int), (inText (inN (inTreeL n s).2 1).2).1)], (inText (inN (inTreeL n s).2 1).2).2)
theorem inTreeL_len : ∀ (n : Nat) (s : InM), (inTreeL n s).1.length = n
  | 0, _ => rfl
  | n + 1, s => by
    show (_ ++ [_]).length = _
    rw [List.length_append, inTreeL_len n s]; rfl
theorem inTreeL_rest : ∀ (n : Nat) (s : InM), (inTreeL n s).2.rest.length ≤ s.rest.length
  | 0, _ => Nat.le_refl _
  | n + 1, s => Nat.le_trans (inText_rest _) (Nat.le_trans (inTake_rest _ _) (inTreeL_rest n s))
theorem inTake_part (s : InM) (n : Int) : (inTake s n).1.length ≤ s.rest.length := by
  unfold inTake
  split
  · simp
  · split
    · simp
    · simp only [List.length_take]; omega
theorem inText_size (s : InM) : (inText s).1.size ≤ s.rest.length := by
  unfold inText
  have h1 := inTake_part (inN s 2).2 (inN s 2).1
  have h2 : (inN s 2).2.rest.length ≤ s.rest.length := inTake_rest _ _
  show (inTake (inN s 2).2 (inN s 2).1).1.toArray.size ≤ _
  rw [List.size_toArray]
  omega
theorem inTreeL_sizes : ∀ (n : Nat) (s : InM), ∀ q ∈ (inTreeL n s).1, q.2.size ≤ s.rest.length
  | 0, s, q, h => by cases h
  | n + 1, s, q, h => by
    rcases List.mem_append.1 h with h | h
    · exact inTreeL_sizes n s q h
    · rw [List.mem_singleton] at h
      subst h
      exact Nat.le_trans (inText_size _) (Nat.le_trans (inTake_rest _ _) (inTreeL_rest n s))
def readTree (p : List UInt8) : List PlaceM := (inTreeL (inN ⟨p, false⟩ 1).1 (inN ⟨p, false⟩ 1).2).1
def getTreeV (b : List UInt8) : Option (List PlaceM) := match pageGet 3 b with
  | none => none
  | some p => if rightTreeV (readTree p) = true ∧ pageB 3 (treeB (readTree p)) = b then some (readTree p) else none
def getErr {V : Type} (o : Option V) : Int := if o.isSome = true then 0 else 9
theorem place_info : (Tryd.prog.info? 26).map (fun i => (i.zero, i.size, i.bytes)) = some (some (.agg #[.int .i64 0, .string ⟨#[]⟩]), 2, 24) := by kernel_rfl
/-- append of places, shut -/
def appendPS (args : Array Value) : Sem Next := do pure (.value (← Builtin.append_ #[22, 22] 22 args))
theorem builtin_appendP (cs : Array Bool) (args : Array Value) : builtin .append #[22, 22] 22 cs args = appendPS args := rfl
theorem run_appendP {w : World} {B n : Nat} {v : Value} {l m : List PlaceM} (h : w.ownsRow B 26 2 v n (pcells l)) {A : Option Addr} (c : Nat) {k n2 Bd : Nat} (hk : m.length = k) (hn2 : n + k = n2) (hr : Reads w Bd 2 A k (pcells m)) (hlen : n2 ≤ 1000000) (hB : B ≤ w.heap.size) :
    ∃ A' c' w', (appendPS #[v, .slice A k c]).run Tryd.prog w = .ok (.value (.slice A' n2 c')) w' ∧ w'.ownsRow B 26 2 (.slice A' n2 c') n2 (pcells (l ++ m)) ∧ w.grownBy w' v.ownBlock := by
  subst hk hn2
  obtain ⟨i0, hi0, hz0, hz1, hz2⟩ := info_parts place_info
  obtain ⟨v', w', hrun, ho, hg⟩ := run_append_any (P := Tryd.prog) w B 22 22 26 i0 _ 2 24 Tryd.underlying22 hi0 hz0 hz1 hz2 rfl (by omega) v n (pcells l) h A m.length c (pcells m) (Gives.of_reads hr (pcells_one m)) (by unfold maxLen; omega) (by omega) hB
  rw [← pcells_append] at ho
  obtain ⟨A', c', rfl, _, _⟩ := own_reads ho
  exact ⟨A', c', w', by unfold appendPS; simp only [Sem.run_bind, hrun, Result.andThen_ok, Sem.run_pure], ho, hg⟩
theorem own_kind {w : World} {base n size : Nat} {v : Value} {e : TypeId} {xs : List Value} (h : w.ownsRow base e size v n xs) {g : Nat} (hg : v.ownBlock = some g) : ∃ cs, w.heap[g]? = some (.cells cs e (0, 0)) := by
  rcases h.2 with ⟨rfl, _⟩ | ⟨g', cap, cur, rfl, _, hgg, _⟩
  · cases hg
  · injection hg with hg
    subst hg
    exact ⟨cur, hgg⟩
theorem own_ne {w : World} {base n size i : Nat} {v : Value} {e t : TypeId} {xs : List Value} {cs : Array Value} (h : w.ownsRow base e size v n xs) (hi : Blk w i t cs) (ht : t ≠ e) : ∀ g, v.ownBlock = some g → g ≠ i := fun g hg he => by
  obtain ⟨cs', hc⟩ := own_kind h hg
  unfold Blk at hi
  rw [he, hi] at hc
  injection hc with hc
  injection hc with _ hc
  exact ht hc
theorem InAt.grownT {w w' : World} {i : Nat} {s : InM} {v vL : Value} (h : InAt w i s v) {base n size : Nat} {e : TypeId} {xs : List Value} (ho : w.ownsRow base e size vL n xs) (h1 : 84 ≠ e) (h2 : 5 ≠ e) (hg : w.grownBy w' vL.ownBlock) : InAt w' i s v := by
  have hi := h.cells.grown hg (fun e => own_ne ho h.cells h1 i e.symm rfl)
  refine ⟨hi, ?_⟩
  rcases h.row with h | ⟨ad, c, e, hc, hr, hu⟩
  · exact .inl h
  · have hk : w'.heap[ad.block]? = w.heap[ad.block]? := hg.block ad.block hu.lt (fun e => by
      obtain ⟨cs', hc⟩ := own_kind ho e.symm
      obtain ⟨cs, p, hh⟩ := hu
      rw [hh] at hc
      injection hc with hc
      injection hc with _ hc
      exact h2 hc)
    refine .inr ⟨ad, c, e, hc, ⟨hr.1, fun hn => ?_⟩, hu.same hk⟩
    obtain ⟨ad', e', hlt, hcc⟩ := hr.2 hn
    injection e' with e'
    subst e'
    exact ⟨ad, rfl, Nat.lt_of_lt_of_le hlt hg.size, fun j u hu' => (World.cell?_of_block (by rw [block_of_add]; exact hk)).trans (hcc j u hu')⟩
theorem litP {w : World} {g : Nat} {x : PlaceM} (h : Blk w g 26 #[.int .i64 x.1, .string x.2]) : Reads w w.heap.size 2 (some ⟨g, 0, none⟩) 1 (pcells [x]) := by
  refine ⟨rfl, fun _ => ⟨⟨g, 0, none⟩, rfl, h.lt, fun j u hu => ?_⟩⟩
  have ha : (⟨g, 0, none⟩ : Addr).add j = ⟨g, j, none⟩ := by unfold Addr.add; split <;> simp_all
  rw [ha, h.cell, ← hu]
  rcases j with _ | _ | j <;> rfl
attribute [local go_sem ↓ 100000] builtin_appendP
set_option maxHeartbeats 1600000 in
set_option maxRecDepth 100000 in
theorem getTree_any (A : Option Addr) (c n : Nat) (b : List UInt8) (w : World) (hm : MaxCell w) (hg : 1 < w.heap.size) (hn2 : b.length = n) (hn : n ≤ 1000000) (hcn : n ≤ c) (hr : Reads w w.heap.size 1 A n (u8s b)) :
    Calls Tryd.prog 11 #[.slice A n c] w fun e w' => ∃ r, e = .returned (.tuple #[r, .int .i64 (getErr (getTreeV b))]) ∧ w'.ownsRow w.heap.size 26 2 r ((getTreeV b).getD []).length (pcells ((getTreeV b).getD [])) ∧ Below w.heap.size w w' := by
  have R1 := Lib.hid (page_Get 3 (by omega) A n c hcn hn b hn2 w hr)
  have HR := Lib.hid hr
  have HM := Lib.hid hm
  have HN := Lib.hid hn2
  obtain ⟨G, hG⟩ : ∃ G, getTreeV b = G := ⟨_, rfl⟩
  rw [hG]
  cases hp : pageGet 3 b with
  | none =>
    rw [hp] at R1
    have e1 : (if (none : Option (List UInt8)).isSome = true then (0 : Int) else 9) = 9 := rfl
    rw [e1] at R1
    have e2 : getErr (none : Option (List PlaceM)) = 9 := rfl
    obtain rfl : G = none := by rw [← hG]; unfold getTreeV; rw [hp]
    dsimp only [Option.getD_none]
    rw [e2]
    clear hr hm hn2 hp e1 e2 hG
    go_enter Tryd.func11, Tryd.ntmps11
    go_wp2_with fail
    refine R1.out.mono ?_
    rintro e w1 ⟨v1, rfl, _, hb1⟩
    go_wp2
    go_ret2
    exact ⟨_, rfl, World.ownsRow_nil _ _ _ _, hb1⟩
  | some p =>
    rw [hp] at R1
    have e1 : (if (some p : Option (List UInt8)).isSome = true then (0 : Int) else 9) = 0 := rfl
    rw [e1] at R1
    dsimp only [Option.getD_some] at R1
    have HG : Hid (G = if rightTreeV (readTree p) = true ∧ pageB 3 (treeB (readTree p)) = b then some (readTree p) else none) := by rw [← hG]; unfold getTreeV; rw [hp]; exact rfl
    obtain ⟨ge, hge⟩ : ∃ ge, getErr G = ge := ⟨_, rfl⟩
    rw [hge]
    have HGE := Lib.hid hge
    clear hge
    have hpl : p.length ≤ 60000 := by
      unfold pageGet at hp
      split at hp
      · rename_i h
        injection hp with hp
        rw [← hp]; exact h.2.1
      · cases hp
    obtain ⟨pn, hpn⟩ : ∃ pn, p.length = pn := ⟨_, rfl⟩
    rw [hpn] at R1 hpl
    have HPN := Lib.hid hpn
    clear hr hm hn2 hp e1 hpn hG
    go_enter Tryd.func11, Tryd.ntmps11
    go_wp2_with fail
    refine R1.out.mono ?_
    rintro e w1 ⟨v1, rfl, ho1, hb1⟩
    obtain ⟨A1, c1, e1, hr1⟩ := own8_reads ho1
    rw [HPN.out] at e1 hr1
    subst e1
    have R2 := Lib.hid (in_new A1 pn c1 p HPN.out (by omega) w1 hr1)
    have HB1 := Lib.hid hb1
    clear ho1 hr1 hb1 R1
    go_wp2_with fail
    refine R2.out.mono ?_
    rintro e w2 ⟨i, vi, rfl, hi, hle, hb2⟩
    have hiw : w.heap.size ≤ i := Nat.le_trans HB1.out.size hle
    have R3 := Lib.hid (in_N hi (by show p.length ≤ _; have := HPN.out; omega) 1 (by omega))
    have hB2 := HB1.out.trans (hb2.mono HB1.out.size)
    have HB2 := Lib.hid hB2
    have hc256 : (inN ⟨p, false⟩ 1).1 < 256 := inN_lt _ 1
    have hrest : (inN ⟨p, false⟩ 1).2.rest.length ≤ 60000 := Nat.le_trans (inTake_rest _ _) (by show p.length ≤ _; have := HPN.out; omega)
    have HRT : Hid (readTree p = (inTreeL (inN ⟨p, false⟩ 1).1 (inN ⟨p, false⟩ 1).2).1) := rfl
    obtain ⟨cnt, hcnt⟩ : ∃ cnt, (inN ⟨p, false⟩ 1).1 = cnt := ⟨_, rfl⟩
    obtain ⟨s0, hs0⟩ : ∃ s0, (inN ⟨p, false⟩ 1).2 = s0 := ⟨_, rfl⟩
    rw [hcnt, hs0] at R3 HRT
    rw [hcnt] at hc256
    rw [hs0] at hrest
    clear hi hb2 hB2 hle R2 hcnt hs0
    go_wp2_with fail
    refine R3.out.mono ?_
    rintro e w3 ⟨rfl, ⟨v3, h3⟩, hb3⟩
    have HI3 := Lib.hid h3
    have HB3 := Lib.hid (HB2.out.trans (hb3.toBelow HB2.out.size hiw))
    clear h3 hb3 R3
    go_wp2
    go_loopw [7, 22] (fun u k wr => ∃ (j : Nat) (vL vi : Value), vL = u ∧ k = .int .i64 j ∧ j ≤ cnt ∧ Hid (wr.ownsRow w.heap.size 26 2 vL j (pcells (inTreeL j s0).1)) ∧ Hid (InAt wr i (inTreeL j s0).2 vi) ∧ Hid (Below w.heap.size w wr)) (fun _ k _ => cnt - (intOf k).toNat)
    case atStart => exact ⟨0, _, v3, rfl, rfl, by omega, World.ownsRow_nil _ _ _ _, HI3, HB3⟩
    case round =>
      obtain ⟨j, vL, vi, rfl, rfl, hj, ho, hi, hb⟩ := hrel
      have hsz := hb.out.size
      by_cases hlt : j < cnt
      · have hrl : (inTreeL j s0).2.rest.length ≤ 1000000 := Nat.le_trans (inTreeL_rest j s0) (by omega)
        have R4 := Lib.hid (in_N hi.out hrl 1 (by omega))
        have hst : inTreeL (j + 1) s0 = ((inTreeL j s0).1 ++ [(((inN (inTreeL j s0).2 1).1 : Int), (inText (inN (inTreeL j s0).2 1).2).1)], (inText (inN (inTreeL j s0).2 1).2).2) := rfl
        have hx256 : (inN (inTreeL j s0).2 1).1 < 256 := inN_lt _ 1
        have hrl2 : (inN (inTreeL j s0).2 1).2.rest.length ≤ 1000000 := Nat.le_trans (inTake_rest _ _) hrl
        obtain ⟨lj, hlj⟩ : ∃ lj, (inTreeL j s0).1 = lj := ⟨_, rfl⟩
        obtain ⟨sj, hsj⟩ : ∃ sj, (inTreeL j s0).2 = sj := ⟨_, rfl⟩
        rw [hlj] at ho
        rw [hlj] at hst
        rw [hsj] at hst R4 hi hx256 hrl2
        obtain ⟨xn, hxn⟩ : ∃ xn, (inN sj 1).1 = xn := ⟨_, rfl⟩
        obtain ⟨s1, hs1⟩ : ∃ s1, (inN sj 1).2 = s1 := ⟨_, rfl⟩
        rw [hxn, hs1] at hst R4
        rw [hxn] at hx256
        rw [hs1] at hrl2
        have HST := Lib.hid hst
        clear hst hlj hsj hxn hs1 hrl
        go_wp2_with fail
        refine R4.out.mono ?_
        rintro e w4 ⟨rfl, ⟨v4, h4⟩, hb4⟩
        have ho4 := own_keep (w' := w4) ho.out (fun g hg => hb4.block g (ho.out.lt g hg).2 (own_ne ho.out hi.out.cells (by decide) g hg))
        have R5 := Lib.hid (in_Text h4 hrl2)
        have HI4 := Lib.hid h4.cells
        have HB4 := Lib.hid (hb.out.trans (hb4.toBelow hsz hiw))
        have HO4 := Lib.hid ho4
        obtain ⟨xs, hxs⟩ : ∃ xs, (inText s1).1 = xs := ⟨_, rfl⟩
        obtain ⟨s2, hs2⟩ : ∃ s2, (inText s1).2 = s2 := ⟨_, rfl⟩
        rw [hxs, hs2] at R5 HST
        clear h4 hb4 ho4 R4 hxs hs2
        go_wp2_with fail
        refine R5.out.mono ?_
        rintro e w5 ⟨rfl, ⟨v5, h5⟩, hb5⟩
        have ho5 := own_keep (w' := w5) HO4.out (fun g hg => hb5.block g (HO4.out.lt g hg).2 (own_ne HO4.out HI4.out (by decide) g hg))
        have hB5 := HB4.out.trans (hb5.toBelow HB4.out.size hiw)
        have hbx := (Below.refl w5.heap.size w5).alloc (Nat.le_refl _) (.cells #[.int .i64 (xn : Int), .string xs] 26)
        have hxb : Blk (w5.alloc (.cells #[.int .i64 (xn : Int), .string xs] 26)) w5.heap.size 26 #[.int .i64 (xn : Int), .string xs] := Blk.new w5 _ _
        have ho6 := own_below ho5 hbx
        have hB6 := hB5.trans (hbx.mono hB5.size)
        obtain ⟨A7, c7, w7, E7, ho7, hg7⟩ := run_appendP (m := [((xn : Int), xs)]) (k := 1) (n2 := j + 1) ho6 1 rfl rfl (litP (x := ((xn : Int), xs)) hxb) (by omega) hB6.size
        have hi7 := (h5.below hbx).grownT ho6 (by decide) (by decide) hg7
        have HB7 := Lib.hid (hB6.grown hg7 hB6.size (fun k hk => (ho6.lt k hk).1))
        have HI7 : Hid (InAt w7 i (inTreeL (j + 1) s0).2 v5) := by rw [HST.out]; exact hi7
        have HO7 : Hid (w7.ownsRow w.heap.size 26 2 (.slice A7 (j + 1) c7) (j + 1) (pcells (inTreeL (j + 1) s0).1)) := by rw [HST.out]; exact ho7
        clear h5 hb5 ho5 hB5 hbx hxb ho6 hB6 ho7 hg7 hi7 R5
        go_wp2
        go_roundw
        case rel => exact ⟨j + 1, _, v5, rfl, by go_num, by omega, HO7, HI7, HB7⟩
        case measure => simp [intOf]; omega
      · obtain rfl : j = cnt := by omega
        have hol := ho.out
        rw [← HRT.out] at hol
        obtain ⟨AL, cL, rfl, hrL, hcL⟩ := own_reads hol
        have hll : (readTree p).length = j := by rw [HRT.out]; exact inTreeL_len _ _
        have hszs : ∀ q ∈ readTree p, q.2.size ≤ 9223372036854775807 := fun q hq => by
          rw [HRT.out] at hq
          have := inTreeL_sizes _ _ q hq
          omega
        have R6 := Lib.hid (putTree_any AL cL j (readTree p) wr (HM.out.below hg hb.out) (Nat.lt_of_lt_of_le hg hsz) hszs hll (by omega) hcL hrL)
        have HOL := Lib.hid hol
        have HLL := Lib.hid hll
        obtain ⟨L, hL⟩ : ∃ L, readTree p = L := ⟨_, rfl⟩
        rw [hL] at R6 HOL HLL
        have HLP := Lib.hid hL
        clear hol hrL hcL hll hszs ho hi HRT hL
        go_wp2_with fail
        refine R6.out.mono ?_
        rintro e w8 ⟨r8, rfl, ho8, hb8⟩
        obtain ⟨A8, c8, rfl, hr8⟩ := own8_reads ho8
        have hB8 := hb.out.trans (hb8.mono hsz)
        have R7 := Lib.hid (same_any A8 A (treePage L).length c8 n c (treePage L) b (treeErr L) w8 rfl HN.out hr8 ((HR.out.below hB8).more hB8.size))
        have HO8 := Lib.hid (own_below HOL.out hb8)
        have HB8 := Lib.hid hB8
        have hres : (decide (treeErr L = 0) && (treePage L == b)) = decide (rightTreeV L = true ∧ pageB 3 (treeB L) = b) := by
          unfold treeErr treePage
          cases rightTreeV L
          · simp
          · simp only [if_pos, decide_true, Bool.true_and, true_and]
            rw [Bool.eq_iff_iff]; simp
        rw [hres] at R7
        obtain ⟨q, hq⟩ : ∃ q, decide (rightTreeV L = true ∧ pageB 3 (treeB L) = b) = q := ⟨_, rfl⟩
        rw [hq] at R7
        have HQ := Lib.hid hq
        generalize (treePage L).length = tn at *
        generalize treeErr L = te at *
        clear ho8 hb8 hr8 hB8 hres hq R6
        go_wp2_with fail
        refine R7.out.mono ?_
        rintro e w9 ⟨rfl, rfl⟩
        cases q with
        | true =>
          have hqq := of_decide_eq_true HQ.out
          go_wp2
          go_ret2
          have hgg : G = some L := by rw [HG.out, HLP.out, if_pos hqq]
          have hge : ge = 0 := by rw [← HGE.out, hgg]; rfl
          rw [hge, hgg]
          exact ⟨_, rfl, by show World.ownsRow _ _ _ _ _ L.length _; rw [HLL.out]; exact HO8.out, HB8.out⟩
        | false =>
          have hqq := of_decide_eq_false HQ.out
          go_wp2
          go_ret2
          have hgg : G = none := by rw [HG.out, HLP.out, if_neg hqq]
          have hge : ge = 9 := by rw [← HGE.out, hgg]; rfl
          rw [hge, hgg]
          exact ⟨_, rfl, World.ownsRow_nil _ _ _ _, HB8.out⟩
end Go.Proofs.YtljclehhicmkhaaDoor
