/-
  Walk: a page's flags.
-/
import Derived.Test.YtljclehhicmkhaaDoorFlagsPut
import Derived.Test.YtljclehhicmkhaaDoorTreeGet
import Derived.BigRegion
import Derived.Deep.Cut
namespace Go.Proofs.YtljclehhicmkhaaDoor
open Go.RowKit
def inMarksL (k : Nat) : Nat → InM → List MarkM × InM
  | 0, s => ([], s)
  | n + 1, s => ((inMarksL k n s).1 ++ [((inN (inMarksL k n s).2 4).1, ((inN (inN (inMarksL k n s).2 4).2 k).1 : Int))], (inN (inN (inMarksL k n s).2 4).2 k).2)
theorem inMarksL_len (k : Nat) : ∀ (n : Nat) (s : InM), (inMarksL k n s).1.length = n
  | 0, _ => rfl
  | n + 1, s => by
    show (_ ++ [_]).length = _
    rw [List.length_append, inMarksL_len k n s]; rfl
theorem inMarksL_rest (k : Nat) : ∀ (n : Nat) (s : InM), (inMarksL k n s).2.rest.length ≤ s.rest.length
  | 0, _ => Nat.le_refl _
  | n + 1, s => Nat.le_trans (inTake_rest _ _) (Nat.le_trans (inTake_rest _ _) (inMarksL_rest k n s))
theorem inMarksL_uid (k : Nat) : ∀ (n : Nat) (s : InM), ∀ q ∈ (inMarksL k n s).1, q.1 < 4294967296
  | 0, _, q, h => by cases h
  | n + 1, s, q, h => by
    rcases List.mem_append.1 h with h | h
    · exact inMarksL_uid k n s q h
    · rw [List.mem_singleton] at h
      subst h
      exact inN_lt _ 4
def readFlags (p : List UInt8) : Nat × List MarkM := ((inN ⟨p, false⟩ 4).1, (inMarksL 1 (inN (inN ⟨p, false⟩ 4).2 2).1 (inN (inN ⟨p, false⟩ 4).2 2).2).1)
def getFlagsV (b : List UInt8) : Option (Nat × List MarkM) := match pageGet 2 b with
  | none => none
  | some p => if rightFlagsV (readFlags p).1 (readFlags p).2 = true ∧ pageB 2 (flagsB (readFlags p).1 (readFlags p).2) = b then some (readFlags p) else none
theorem mark_info : (Tryd.prog.info? 44).map (fun i => (i.zero, i.size, i.bytes)) = some (some (.agg #[.int .u32 0, .int .i64 0]), 2, 16) := by kernel_rfl
/-- append, shut, whatever its types: where a region's operation is not laid open yet -/
def appendH (tys : Array TypeId) (ty : TypeId) (args : Array Value) : Sem Value := Builtin.append_ tys ty args
theorem append_H (tys : Array TypeId) (ty : TypeId) (args : Array Value) : Builtin.append_ tys ty args = appendH tys ty args := rfl
theorem run_appendM {w : World} {B n : Nat} {v : Value} {l m : List MarkM} (h : w.ownsRow B 44 2 v n (mcells l)) {A : Option Addr} (c : Nat) {k n2 Bd : Nat} (hk : m.length = k) (hn2 : n + k = n2) (hr : Reads w Bd 2 A k (mcells m)) (hlen : n2 ≤ 1000000) (hB : B ≤ w.heap.size) :
    ∃ A' c' w', (appendH #[37, 37] 37 #[v, .slice A k c]).run Tryd.prog w = .ok (.slice A' n2 c') w' ∧ w'.ownsRow B 44 2 (.slice A' n2 c') n2 (mcells (l ++ m)) ∧ w.grownBy w' v.ownBlock := by
  subst hk hn2
  obtain ⟨i0, hi0, hz0, hz1, hz2⟩ := info_parts mark_info
  obtain ⟨v', w', hrun, ho, hg⟩ := run_append_any (P := Tryd.prog) w B 37 37 44 i0 _ 2 16 Tryd.underlying37 hi0 hz0 hz1 hz2 rfl (by omega) v n (mcells l) h A m.length c (mcells m) (Gives.of_reads hr (mcells_one m)) (by unfold maxLen; omega) (by omega) hB
  rw [← mcells_append] at ho
  obtain ⟨A', c', rfl, _, _⟩ := own_reads ho
  exact ⟨A', c', w', hrun, ho, hg⟩
theorem litM {w : World} {g : Nat} {t : TypeId} {x : MarkM} (h : Blk w g t #[.int .u32 (x.1 : Nat), .int .i64 x.2]) : Reads w w.heap.size 2 (some ⟨g, 0, none⟩) 1 (mcells [x]) := by
  refine ⟨rfl, fun _ => ⟨⟨g, 0, none⟩, rfl, h.lt, fun j u hu => ?_⟩⟩
  have ha : (⟨g, 0, none⟩ : Addr).add j = ⟨g, j, none⟩ := by unfold Addr.add; split <;> simp_all
  rw [ha, h.cell, ← hu]
  rcases j with _ | _ | j <;> rfl
theorem in_NZ {w : World} {i : Nat} {s : InM} {v : Value} (h : InAt w i s v) (hl : s.rest.length ≤ 1000000) (n : Nat) (z : Int) (hz : (n : Int) = z) (hn : 1 ≤ n ∧ n ≤ 7) :
    Calls Tryd.prog 26 #[.pointer (some ⟨i, 0, none⟩), .int .i64 z] w fun e w' => e = .returned (.int .i64 ((inN s n).1 : Nat)) ∧ (∃ v', InAt w' i (inN s n).2 v') ∧ IBut i w w' := by
  subst hz
  exact in_N h hl n hn
theorem InAt.setFar {w : World} {i : Nat} {s : InM} {v : Value} (h : InAt w i s v) {xb : Nat} {t : TypeId} {cs : Array Value} (hx : Blk w xb t cs) (ht : t ≠ 5) (hne : xb ≠ i) (k : Nat) (u : Value) : InAt (w.setCell ⟨xb, k, none⟩ u) i s v := by
  refine ⟨h.cells.far (p := ⟨xb, k, none⟩) (fun e => hne e.symm) u, ?_⟩
  rcases h.row with h | ⟨ad, c, e, hc, hr, hu⟩
  · exact .inl h
  · have hne2 : ad.block ≠ xb := fun e => by
      obtain ⟨cs', p, hh⟩ := hu
      unfold Blk at hx
      rw [e, hx] at hh
      injection hh with hh
      injection hh with _ hh
      exact ht hh
    have hk : (w.setCell ⟨xb, k, none⟩ u).heap[ad.block]? = w.heap[ad.block]? := Below.heap_setCell w ⟨xb, k, none⟩ u ad.block hne2
    refine .inr ⟨ad, c, e, hc, ⟨hr.1, fun hn => ?_⟩, hu.same hk⟩
    obtain ⟨ad', e', hlt, hcc⟩ := hr.2 hn
    injection e' with e'
    subst e'
    exact ⟨ad, rfl, by simpa [World.setCell] using hlt, fun j u' hu' => (World.cell?_of_block (by rw [block_of_add]; exact hk)).trans (hcc j u' hu')⟩
theorem Blk.set2 {w : World} {g : Nat} {t : TypeId} {u0 u1 a b : Value} (h : Blk w g t #[u0, u1]) : Blk ((w.setCell ⟨g, 0, none⟩ a).setCell ⟨g, 1, none⟩ b) g t #[a, b] := (h.set_ 0 a).set_ 1 b
theorem flags_round {w0 w : World} {xb i j eN xu n2 : Nat} {xn : Int} {s : InM} {v vL : Value} {l : List MarkM} (hb : Below w0.heap.size w0 w) (hxb : w0.heap.size ≤ xb) (hx : Blk w xb 39 #[.int .u32 (eN : Nat), vL])
    (ho : w.ownsRow w0.heap.size 44 2 vL j (mcells l)) (hn2 : j + 1 = n2) (hj : n2 ≤ 1000000) (hi : InAt w i s v) (hne : xb ≠ i) :
    ∃ A' c' w', (appendH #[37, 37] 37 #[vL, .slice (some ⟨w.heap.size, 0, none⟩) 1 1]).run Tryd.prog (w.alloc (.cells #[.int .u32 (xu : Nat), .int .i64 xn] 44)) = .ok (.slice A' n2 c') w' ∧
      w'.cell? ⟨xb, 1, none⟩ = some vL ∧ w'.frozen? ⟨xb, 1, none⟩ = false ∧ Hid (Blk (w'.setCell ⟨xb, 1, none⟩ (.slice A' n2 c')) xb 39 #[.int .u32 (eN : Nat), .slice A' n2 c'] ∧
      (w'.setCell ⟨xb, 1, none⟩ (.slice A' n2 c')).ownsRow w0.heap.size 44 2 (.slice A' n2 c') n2 (mcells (l ++ [(xu, xn)])) ∧ InAt (w'.setCell ⟨xb, 1, none⟩ (.slice A' n2 c')) i s v ∧ Below w0.heap.size w0 (w'.setCell ⟨xb, 1, none⟩ (.slice A' n2 c'))) := by
  have hbx := (Below.refl w.heap.size w).alloc (Nat.le_refl _) (.cells #[.int .u32 (xu : Nat), .int .i64 xn] 44)
  have hlit : Blk (w.alloc (.cells #[.int .u32 (xu : Nat), .int .i64 xn] 44)) w.heap.size 44 #[.int .u32 (xu : Nat), .int .i64 xn] := Blk.new w _ _
  have ho1 := own_below ho hbx
  have hb1 := hb.trans (hbx.mono hb.size)
  obtain ⟨A', c', w', E, ho2, hg⟩ := run_appendM (m := [(xu, xn)]) ho1 1 rfl hn2 (litM (x := (xu, xn)) hlit) hj hb1.size
  have hx2 := (hx.below hbx hx.lt).grown hg (fun e => own_ne ho1 (hx.below hbx hx.lt) (by decide) xb e.symm rfl)
  have hi2 := (hi.below hbx).grownT ho1 (by decide) (by decide) hg
  have hb2 := hb1.grown hg hb1.size (fun k hk => (ho1.lt k hk).1)
  refine ⟨A', c', w', E, by rw [hx2.cell]; rfl, hx2.frozen 1, ?_, ?_, hi2.setFar hx2 (by decide) hne 1 _, Below.setCell hb2 hxb _⟩
  · exact hx2.set_ 1 _
  · exact own_keep ho2 fun g hgg => Below.heap_setCell _ _ _ _ (own_ne ho2 hx2 (by decide) g hgg)
attribute [local go_sem ↓ 100000] append_H
def flagsOr (o : Option (Nat × List MarkM)) : Nat × List MarkM := o.getD (0, [])
set_option maxHeartbeats 1600000 in
set_option maxRecDepth 100000 in
theorem getFlags_any (A : Option Addr) (c n : Nat) (b : List UInt8) (w : World) (hn2 : b.length = n) (hn : n ≤ 1000000) (hcn : n ≤ c) (hr : Reads w w.heap.size 1 A n (u8s b)) :
    Calls Tryd.prog 16 #[.slice A n c] w fun ev w' => ∃ r, ev = .returned (.tuple #[.agg #[.int .u32 ((flagsOr (getFlagsV b)).1 : Nat), r], .int .i64 (getErr (getFlagsV b))]) ∧ w'.ownsRow w.heap.size 44 2 r (flagsOr (getFlagsV b)).2.length (mcells (flagsOr (getFlagsV b)).2) ∧ Below w.heap.size w w' := by
  have hb0 := (Below.refl w.heap.size w).alloc (Nat.le_refl _) (.cells #[.int .u32 0, .slice none 0 0] 39)
  have hk0 : Blk (w.alloc (.cells #[.int .u32 0, .slice none 0 0] 39)) w.heap.size 39 #[.int .u32 0, .slice none 0 0] := Blk.new w _ _
  have hr0 := (hr.below hb0).more hb0.size
  obtain ⟨w0, hw0⟩ : ∃ w0, w.alloc (.cells #[.int .u32 0, .slice none 0 0] 39) = w0 := ⟨_, rfl⟩
  obtain ⟨rb, hrb⟩ : ∃ rb, w.heap.size = rb := ⟨_, rfl⟩
  rw [hw0] at hb0 hk0 hr0
  rw [hrb] at hk0
  have R1 := Lib.hid (page_Get 2 (by omega) A n c hcn hn b hn2 w0 hr0)
  have HR := Lib.hid hr0
  have HK := Lib.hid hk0
  have HB0 := Lib.hid hb0
  have HN := Lib.hid hn2
  have HRB := Lib.hid hrb
  obtain ⟨G, hG⟩ : ∃ G, getFlagsV b = G := ⟨_, rfl⟩
  rw [hG]
  cases hp : pageGet 2 b with
  | none =>
    rw [hp] at R1
    have e1 : (if (none : Option (List UInt8)).isSome = true then (0 : Int) else 9) = 9 := rfl
    rw [e1] at R1
    have e2 : getErr (none : Option (Nat × List MarkM)) = 9 := rfl
    obtain rfl : G = none := by rw [← hG]; unfold getFlagsV; rw [hp]
    rw [e2]
    clear hr hr0 hk0 hb0 hn2 hp e1 e2 hG
    go_enter Tryd.func16, Tryd.ntmps16
    go_wp2_with fail
    clear hw0 hrb
    refine R1.out.mono ?_
    rintro ev w1 ⟨v1, rfl, _, hb1⟩
    have hk1 := HK.out.below hb1 HK.out.lt
    have f0 := hk1.frozen 0
    have f1 := hk1.frozen 1
    have y0 : w1.cell? ⟨rb, 0, none⟩ = some (.int .u32 0) := by rw [hk1.cell]; rfl
    have y1 : w1.cell? ⟨rb, 1, none⟩ = some (.slice none 0 0) := by rw [hk1.cell]; rfl
    have HB1 := Lib.hid (HB0.out.trans (hb1.mono HB0.out.size))
    have hk2 := (hk1.set_ 0 (.int .u32 0)).set_ 1 (.slice none 0 0)
    have q0 : ((w1.setCell ⟨rb, 0, none⟩ (.int .u32 0)).setCell ⟨rb, 1, none⟩ (.slice none 0 0)).cell? ⟨rb, 0, none⟩ = some (.int .u32 0) := by rw [hk2.cell]; rfl
    have q1 : ((w1.setCell ⟨rb, 0, none⟩ (.int .u32 0)).setCell ⟨rb, 1, none⟩ (.slice none 0 0)).cell? ⟨rb, 1, none⟩ = some (.slice none 0 0) := by rw [hk2.cell]; rfl
    have HBF : Hid (Below w.heap.size w ((w1.setCell ⟨rb, 0, none⟩ (.int .u32 0)).setCell ⟨rb, 1, none⟩ (.slice none 0 0))) := Below.setCell (Below.setCell HB1.out (by show _ ≤ rb; have := HRB.out; omega) _) (by show _ ≤ rb; have := HRB.out; omega) _
    clear hb1 hk1 hk2
    go_wp2
    obtain ⟨wf, hwf⟩ : ∃ wf, (w1.setCell ⟨rb, 0, none⟩ (.int .u32 0)).setCell ⟨rb, 1, none⟩ (.slice none 0 0) = wf := ⟨_, rfl⟩
    rw [hwf] at q0 q1 HBF ⊢
    refine bodyPost_ret (v := .tuple #[.agg #[.int .u32 0, .slice none 0 0], .int .i64 9]) (by simp [results, Tryd.results16, go_sem, q0, q1]; try rfl) rfl ?_
    exact ⟨_, rfl, World.ownsRow_nil _ _ _ _, HBF.out⟩
  | some p =>
    rw [hp] at R1
    have e1 : (if (some p : Option (List UInt8)).isSome = true then (0 : Int) else 9) = 0 := rfl
    rw [e1] at R1
    dsimp only [Option.getD_some] at R1
    have HG : Hid (G = if rightFlagsV (readFlags p).1 (readFlags p).2 = true ∧ pageB 2 (flagsB (readFlags p).1 (readFlags p).2) = b then some (readFlags p) else none) := by rw [← hG]; unfold getFlagsV; rw [hp]; exact rfl
    obtain ⟨ge, hge⟩ : ∃ ge, getErr G = ge := ⟨_, rfl⟩
    obtain ⟨gf, hgf⟩ : ∃ gf, flagsOr G = gf := ⟨_, rfl⟩
    rw [hge, hgf]
    obtain ⟨gfe, gfl⟩ := gf
    obtain ⟨gfn, hgfn⟩ : ∃ gfn, gfl.length = gfn := ⟨_, rfl⟩
    dsimp only
    rw [hgfn]
    have HGE := Lib.hid hge
    have HGF := Lib.hid hgf
    have HGN := Lib.hid hgfn
    clear hge hgf hgfn
    have hpl : p.length ≤ 60000 := by
      unfold pageGet at hp
      split at hp
      · rename_i h
        injection hp with hp
        rw [← hp]; exact h.2.1
      · cases hp
    obtain ⟨pn, hpn⟩ : ∃ pn, p.length = pn := ⟨_, rfl⟩
    rw [hpn] at R1 hpl
    have HPN := Lib.hid hpn
    clear hr hr0 hk0 hb0 hn2 hp e1 hpn hG
    go_enter Tryd.func16, Tryd.ntmps16
    go_wp2_with fail
    clear hw0 hrb
    refine R1.out.mono ?_
    rintro ev w1 ⟨v1, rfl, ho1, hb1⟩
    obtain ⟨A1, c1, e1, hr1⟩ := own8_reads ho1
    rw [HPN.out] at e1 hr1
    subst e1
    have R2 := Lib.hid (in_new A1 pn c1 p HPN.out (by omega) w1 hr1)
    have HB1 := Lib.hid hb1
    clear ho1 hr1 hb1 R1
    go_wp2_with fail
    refine R2.out.mono ?_
    rintro ev w2 ⟨i, vi, rfl, hi, hle, hb2⟩
    have hiw : w0.heap.size ≤ i := Nat.le_trans HB1.out.size hle
    have R3 := Lib.hid (in_N hi (by show p.length ≤ _; have := HPN.out; omega) 4 (by omega))
    have HB2 := Lib.hid (HB1.out.trans (hb2.mono HB1.out.size))
    have heN : (inN ⟨p, false⟩ 4).1 < 4294967296 := inN_lt _ 4
    have hrest : (inN ⟨p, false⟩ 4).2.rest.length ≤ 60000 := Nat.le_trans (inTake_rest _ _) (by show p.length ≤ _; have := HPN.out; omega)
    obtain ⟨eN, hen⟩ : ∃ eN, (inN ⟨p, false⟩ 4).1 = eN := ⟨_, rfl⟩
    obtain ⟨sa, hsa⟩ : ∃ sa, (inN ⟨p, false⟩ 4).2 = sa := ⟨_, rfl⟩
    have hrf : readFlags p = (eN, (inMarksL 1 (inN sa 2).1 (inN sa 2).2).1) := by rw [← hen, ← hsa]; rfl
    rw [hen] at heN R3
    rw [hsa] at hrest R3
    clear hi hb2 hle R2 hen hsa
    go_wp2_with fail
    refine R3.out.mono ?_
    rintro ev w3 ⟨rfl, ⟨v3, h3⟩, hb3⟩
    have hb03 := HB2.out.trans (hb3.toBelow HB2.out.size hiw)
    have hbx := (Below.refl w3.heap.size w3).alloc (Nat.le_refl _) (.cells #[.int .u32 (eN : Nat), .slice none 0 0] 39)
    have hxk : Blk (w3.alloc (.cells #[.int .u32 (eN : Nat), .slice none 0 0] 39)) w3.heap.size 39 #[.int .u32 (eN : Nat), .slice none 0 0] := Blk.new w3 _ _
    have h3x := h3.below hbx
    have hil := h3.cells.lt
    have hxi : w3.heap.size ≠ i := by omega
    have hx0 : w0.heap.size ≤ w3.heap.size := hb03.size
    have hb04 := hb03.trans (hbx.mono hb03.size)
    have R4 := Lib.hid (in_N h3x (by omega) 2 (by omega))
    have hcn : (inN sa 2).1 < 65536 := inN_lt _ 2
    have hrest2 : (inN sa 2).2.rest.length ≤ 60000 := Nat.le_trans (inTake_rest _ _) hrest
    obtain ⟨cnt, hcnt⟩ : ∃ cnt, (inN sa 2).1 = cnt := ⟨_, rfl⟩
    obtain ⟨s0, hs0⟩ : ∃ s0, (inN sa 2).2 = s0 := ⟨_, rfl⟩
    rw [hcnt, hs0] at R4 hrf
    rw [hcnt] at hcn
    rw [hs0] at hrest2
    have HRF := Lib.hid hrf
    have HX4 := Lib.hid hxk
    have HB4 := Lib.hid hb04
    clear h3 hb3 hb03 hbx hxk h3x hil hb04 R3 hcnt hs0 hrf
    go_wp2_with fail
    refine R4.out.mono ?_
    rintro ev w5 ⟨rfl, ⟨v5, h5⟩, hb5⟩
    have HX5 : Hid (Blk w5 w3.heap.size 39 #[.int .u32 (eN : Nat), .slice none 0 0]) := (hb5.block w3.heap.size HX4.out.lt hxi).trans HX4.out
    have HI5 := Lib.hid h5
    have HB5 := Lib.hid (HB4.out.trans (hb5.toBelow HB4.out.size hiw))
    clear h5 hb5 R4 HX4 HB4
    generalize w3.heap.size = xb at *
    have y51 : w5.cell? ⟨xb, 1, none⟩ = some (.slice none 0 0) := by rw [HX5.out.cell]; rfl
    go_wp2
    clear y51
    go_loopw [27] (fun k wr => ∃ (j : Nat) (vL vi : Value), k = .int .i64 j ∧ j ≤ cnt ∧ Hid (Blk wr xb 39 #[.int .u32 (eN : Nat), vL]) ∧ Hid (wr.ownsRow w0.heap.size 44 2 vL j (mcells (inMarksL 1 j s0).1)) ∧ Hid (InAt wr i (inMarksL 1 j s0).2 vi) ∧ Hid (Below w0.heap.size w0 wr)) (fun k _ => cnt - (intOf k).toNat)
    case atStart => exact ⟨0, _, v5, rfl, by omega, HX5, World.ownsRow_nil _ _ _ _, HI5, HB5⟩
    case round =>
      obtain ⟨j, vL, vi, rfl, hj, hx, ho, hi, hb⟩ := hrel
      have hsz := hb.out.size
      by_cases hlt : j < cnt
      · have hbd : Below wr.heap.size wr wr.drew := (Below.refl _ _).drew
        have hrl : (inMarksL 1 j s0).2.rest.length ≤ 1000000 := Nat.le_trans (inMarksL_rest 1 j s0) (by omega)
        have R6 := Lib.hid (in_NZ (hi.out.below hbd) hrl 4 4 rfl (by omega))
        have hst : inMarksL 1 (j + 1) s0 = ((inMarksL 1 j s0).1 ++ [((inN (inMarksL 1 j s0).2 4).1, ((inN (inN (inMarksL 1 j s0).2 4).2 1).1 : Int))], (inN (inN (inMarksL 1 j s0).2 4).2 1).2) := rfl
        have hxu : (inN (inMarksL 1 j s0).2 4).1 < 4294967296 := inN_lt _ 4
        have hxf : (inN (inN (inMarksL 1 j s0).2 4).2 1).1 < 256 := inN_lt _ 1
        have hrl2 : (inN (inMarksL 1 j s0).2 4).2.rest.length ≤ 1000000 := Nat.le_trans (inTake_rest _ _) hrl
        obtain ⟨lj, hlj⟩ : ∃ lj, (inMarksL 1 j s0).1 = lj := ⟨_, rfl⟩
        obtain ⟨sj, hsj⟩ : ∃ sj, (inMarksL 1 j s0).2 = sj := ⟨_, rfl⟩
        rw [hlj] at ho hst
        rw [hsj] at hst R6 hi hxu hxf hrl2
        obtain ⟨xu, hxue⟩ : ∃ xu, (inN sj 4).1 = xu := ⟨_, rfl⟩
        obtain ⟨s1, hs1⟩ : ∃ s1, (inN sj 4).2 = s1 := ⟨_, rfl⟩
        rw [hxue] at hst R6 hxu
        rw [hs1] at hst R6 hxf hrl2
        have R7 := Lib.hid (fun (w' : World) (v' : Value) (h' : InAt w' i s1 v') => in_NZ h' hrl2 1 1 rfl (by omega))
        obtain ⟨xf, hxfe⟩ : ∃ xf, (inN s1 1).1 = xf := ⟨_, rfl⟩
        obtain ⟨s2, hs2⟩ : ∃ s2, (inN s1 1).2 = s2 := ⟨_, rfl⟩
        rw [hxfe] at hst R7 hxf
        rw [hs2] at hst R7
        obtain ⟨j1, hj1⟩ : ∃ j1, j + 1 = j1 := ⟨_, rfl⟩
        have hj1b : j1 ≤ 1000000 := by omega
        have HJ1 := Lib.hid hj1
        rw [hj1] at hst
        have HST := Lib.hid hst
        have hwu : IntKind.u32.wrap (xu : Int) = (xu : Int) := by rw [IntKind.wrap_u32']; omega
        have c0 : wr.cell? ⟨xb, 1, none⟩ = some vL := by rw [hx.out.cell]; rfl
        have hxl := hx.out.lt
        clear hst hlj hsj hxue hs1 hxfe hs2 hrl hrl2 hj1
        go_wp2_with fail
        go_region_with (first
          | ((with_reducible refine R6.out.mono ?_); rintro ev w6 ⟨rfl, ⟨v6, h6⟩, hb6⟩; have c6 : w6.cell? ⟨xb, 1, none⟩ = some vL := (World.cell?_of_block (hb6.block xb hxl hxi)).trans c0; have h7 := R7.out w6 v6 h6; have hx6 : Hid (Blk w6 xb 39 #[.int .u32 (eN : Nat), vL]) := (hb6.block xb hxl hxi).trans hx.out; have ho6 := Lib.hid (own_keep (w' := w6) ho.out (fun g hg => hb6.block g (ho.out.lt g hg).2 (own_ne ho.out hi.out.cells (by decide) g hg))); have HI6 := Lib.hid h6.cells; have hB6 := Lib.hid (hb.out.trans ((hbd.mono hsz).trans (hb6.toBelow hsz hiw))); have R8 := Lib.hid h7; clear h6 h7)
          | ((with_reducible refine R8.out.mono ?_); rintro ev w7 ⟨rfl, ⟨v7, h7⟩, hb7⟩; have hxl6 := hx6.out.lt; have hx7 : Blk w7 xb 39 #[.int .u32 (eN : Nat), vL] := (hb7.block xb hxl6 hxi).trans hx6.out; have hxl7 : xb < w7.heap.size := hx7.lt; have c7 : w7.cell? ⟨xb, 1, none⟩ = some vL := (World.cell?_of_block (hb7.block xb hxl6 hxi)).trans c6; have ho7 := own_keep (w' := w7) ho6.out (fun g hg => hb7.block g (ho6.out.lt g hg).2 (own_ne ho6.out HI6.out (by decide) g hg)); have hB7 := hB6.out.trans (hb7.toBelow hB6.out.size hiw); have hfr := flags_round (xu := xu) (xn := (xf : Nat)) hB7 hx0 hx7 ho7 HJ1.out hj1b h7 hxi; obtain ⟨A8, c8, w8, E8, c9, f9, HF8⟩ := hfr; clear h7 hx7 ho7 hB7 hb7))
        all_goals (try go_wp2_with fail)
        all_goals go_roundw
        all_goals first
          | exact ⟨j1, _, v7, by rw [← HJ1.out]; go_num, by have := HJ1.out; omega, HF8.out.1, (by rw [HST.out]; exact HF8.out.2.1), (by rw [HST.out]; exact HF8.out.2.2.1), HF8.out.2.2.2⟩
          | (simp [intOf]; omega)
      · obtain rfl : j = cnt := by omega
        obtain ⟨L, hL⟩ : ∃ L, (inMarksL 1 j s0).1 = L := ⟨_, rfl⟩
        have hLl : L.length = j := by rw [← hL]; exact inMarksL_len _ _ _
        have hLu : ∀ q ∈ L, q.1 < 4294967296 := by rw [← hL]; exact inMarksL_uid _ _ _
        have hrf := HRF.out
        rw [hL] at hrf
        have hg2 := HG.out
        rw [hrf] at hg2
        dsimp only at hg2
        have hol := ho.out
        rw [hL] at hol
        obtain ⟨AL, cL, rfl, hrL, hcL⟩ := own_reads hol
        have R10 := Lib.hid (putFlags_any AL cL j eN L wr hLu heN hLl (by omega) hrL)
        have HOL := Lib.hid hol
        have HLL := Lib.hid hLl
        have HG2 := Lib.hid hg2
        have x0 : wr.cell? ⟨xb, 0, none⟩ = some (.int .u32 (eN : Nat)) := by rw [hx.out.cell]; rfl
        have x1 : wr.cell? ⟨xb, 1, none⟩ = some (.slice AL j cL) := by rw [hx.out.cell]; rfl
        clear hol hrL hcL hLl hLu hg2 hrf hL ho hi HRF HG
        go_wp2_with fail
        refine R10.out.mono ?_
        rintro ev w8 ⟨r8, rfl, ho8, hb8⟩
        obtain ⟨A8, c8, rfl, hr8⟩ := own8_reads ho8
        have hB8 := hb.out.trans (hb8.mono hsz)
        have R11 := Lib.hid (same_any A8 A (flagsPage eN L).length c8 n c (flagsPage eN L) b (flagsErr eN L) w8 rfl HN.out hr8 ((HR.out.below hB8).more hB8.size))
        have HO8 := Lib.hid (own_below HOL.out hb8)
        have HX8 := Lib.hid (hx.out.below hb8 hx.out.lt)
        have HK8 := Lib.hid (HK.out.below hB8 HK.out.lt)
        have HB8 := Lib.hid hB8
        have hres : (decide (flagsErr eN L = 0) && (flagsPage eN L == b)) = decide (rightFlagsV eN L = true ∧ pageB 2 (flagsB eN L) = b) := by
          unfold flagsErr flagsPage
          cases rightFlagsV eN L
          · simp
          · simp only [if_pos, decide_true, Bool.true_and, true_and]
            rw [Bool.eq_iff_iff]; simp
        rw [hres] at R11
        obtain ⟨q, hq⟩ : ∃ q, decide (rightFlagsV eN L = true ∧ pageB 2 (flagsB eN L) = b) = q := ⟨_, rfl⟩
        rw [hq] at R11
        have HQ := Lib.hid hq
        generalize (flagsPage eN L).length = tn at *
        generalize flagsErr eN L = te at *
        clear ho8 hb8 hr8 hB8 hres hq R10 x0 x1
        go_wp2_with fail
        refine R11.out.mono ?_
        rintro ev w9 ⟨rfl, rfl⟩
        have z0 : w9.cell? ⟨xb, 0, none⟩ = some (.int .u32 (eN : Nat)) := by rw [HX8.out.cell]; rfl
        have z1 : w9.cell? ⟨xb, 1, none⟩ = some (.slice AL j cL) := by rw [HX8.out.cell]; rfl
        have y0 : w9.cell? ⟨rb, 0, none⟩ = some (.int .u32 0) := by rw [HK8.out.cell]; rfl
        have y1 : w9.cell? ⟨rb, 1, none⟩ = some (.slice none 0 0) := by rw [HK8.out.cell]; rfl
        have f0 := HK8.out.frozen 0
        have f1 := HK8.out.frozen 1
        have hrw : w.heap.size ≤ rb := by have := HRB.out; omega
        have HBW := Lib.hid (HB0.out.trans (HB8.out.mono HB0.out.size))
        cases q with
        | true =>
          have hqq := of_decide_eq_true HQ.out
          have hgg : G = some (eN, L) := by rw [HG2.out, if_pos hqq]
          have hge : ge = 0 := by rw [← HGE.out, hgg]; rfl
          have hgf : (gfe, gfl) = (eN, L) := by rw [← HGF.out, hgg]; rfl
          injection hgf with hgf1 hgf2
          subst hge hgf1 hgf2
          have hgn : gfn = j := by rw [← HGN.out, HLL.out]
          subst hgn
          have hkf := HK8.out.set2 (a := .int .u32 (gfe : Nat)) (b := .slice AL gfn cL)
          have hof := own_keep (w' := (w9.setCell ⟨rb, 0, none⟩ (.int .u32 (gfe : Nat))).setCell ⟨rb, 1, none⟩ (.slice AL gfn cL)) HO8.out (fun g hg => by
            have hne := own_ne HO8.out HK8.out (by decide) g hg
            exact (Below.heap_setCell _ ⟨rb, 1, none⟩ _ g hne).trans (Below.heap_setCell _ ⟨rb, 0, none⟩ _ g hne))
          have HF : Hid ((((w9.setCell ⟨rb, 0, none⟩ (.int .u32 (gfe : Nat))).setCell ⟨rb, 1, none⟩ (.slice AL gfn cL)).cell? ⟨rb, 0, none⟩ = some (.int .u32 (gfe : Nat)) ∧ ((w9.setCell ⟨rb, 0, none⟩ (.int .u32 (gfe : Nat))).setCell ⟨rb, 1, none⟩ (.slice AL gfn cL)).cell? ⟨rb, 1, none⟩ = some (.slice AL gfn cL)) ∧
              ((w9.setCell ⟨rb, 0, none⟩ (.int .u32 (gfe : Nat))).setCell ⟨rb, 1, none⟩ (.slice AL gfn cL)).ownsRow w.heap.size 44 2 (.slice AL gfn cL) gfn (mcells gfl) ∧ Below w.heap.size w ((w9.setCell ⟨rb, 0, none⟩ (.int .u32 (gfe : Nat))).setCell ⟨rb, 1, none⟩ (.slice AL gfn cL))) :=
            ⟨⟨by rw [hkf.cell]; rfl, by rw [hkf.cell]; rfl⟩, own_mono hof HB0.out.size, Below.setCell (Below.setCell HBW.out hrw _) hrw _⟩
          clear hkf hof hgg hqq
          go_wp2
          obtain ⟨wf, hwf⟩ : ∃ wf, (w9.setCell ⟨rb, 0, none⟩ (.int .u32 (gfe : Nat))).setCell ⟨rb, 1, none⟩ (.slice AL gfn cL) = wf := ⟨_, rfl⟩
          rw [hwf] at HF ⊢
          obtain ⟨⟨q0, q1⟩, hof, hbf⟩ := HF.out
          refine bodyPost_ret (v := .tuple #[.agg #[.int .u32 (gfe : Nat), .slice AL gfn cL], .int .i64 0]) (by simp [results, Tryd.results16, go_sem, q0, q1]; try rfl) rfl ?_
          exact ⟨_, rfl, hof, hbf⟩
        | false =>
          have hqq := of_decide_eq_false HQ.out
          have hgg : G = none := by rw [HG2.out, if_neg hqq]
          have hge : ge = 9 := by rw [← HGE.out, hgg]; rfl
          have hgf : (gfe, gfl) = (0, []) := by rw [← HGF.out, hgg]; rfl
          injection hgf with hgf1 hgf2
          subst hge hgf1 hgf2
          have hgn : gfn = 0 := by rw [← HGN.out]; rfl
          subst hgn
          have hkf := HK8.out.set2 (a := .int .u32 0) (b := .slice none 0 0)
          have HF : Hid ((((w9.setCell ⟨rb, 0, none⟩ (.int .u32 0)).setCell ⟨rb, 1, none⟩ (.slice none 0 0)).cell? ⟨rb, 0, none⟩ = some (.int .u32 0) ∧ ((w9.setCell ⟨rb, 0, none⟩ (.int .u32 0)).setCell ⟨rb, 1, none⟩ (.slice none 0 0)).cell? ⟨rb, 1, none⟩ = some (.slice none 0 0)) ∧
              Below w.heap.size w ((w9.setCell ⟨rb, 0, none⟩ (.int .u32 0)).setCell ⟨rb, 1, none⟩ (.slice none 0 0))) :=
            ⟨⟨by rw [hkf.cell]; rfl, by rw [hkf.cell]; rfl⟩, Below.setCell (Below.setCell HBW.out hrw _) hrw _⟩
          clear hkf hgg hqq
          go_wp2
          obtain ⟨wf, hwf⟩ : ∃ wf, (w9.setCell ⟨rb, 0, none⟩ (.int .u32 0)).setCell ⟨rb, 1, none⟩ (.slice none 0 0) = wf := ⟨_, rfl⟩
          rw [hwf] at HF ⊢
          obtain ⟨⟨q0, q1⟩, hbf⟩ := HF.out
          refine bodyPost_ret (v := .tuple #[.agg #[.int .u32 0, .slice none 0 0], .int .i64 9]) (by simp [results, Tryd.results16, go_sem, q0, q1]; try rfl) rfl ?_
          exact ⟨_, rfl, World.ownsRow_nil _ _ _ _, hbf⟩
end Go.Proofs.YtljclehhicmkhaaDoor
