/-
  Walks: the rest of what is read back; what stays as it is beside it.
-/
import Derived.Test.YtkljkbeahdipfaaGreatDoorLayb
import Derived.Laws.BitsAllLaws
import Derived.IntWalk
namespace Go.Proofs.YtkljkbeahdipfaaGreatDoor
open Go.RowKit
set_option linter.unusedSimpArgs false
set_option linter.unusedVariables false
theorem Blk.ibut {w w' : World} {g i : Nat} {t : TypeId} {cs : Array Value} (h : Blk w g t cs) (hb : IBut i w w') (hne : g ≠ i) : Blk w' g t cs := (hb.block g h.lt hne).trans h
theorem InAt.only {w w' : World} {g i : Nat} {s : InM} {v : Value} {t : TypeId} {cs : Array Value} (h : InAt w i s v) (hs : Only g w w') (hne : i ≠ g) (K : Blk w g t cs) (ht : t ≠ 5) : InAt w' i s v := by
 refine ⟨(hs.block i hne).trans h.cells, ?_⟩
 rcases h.row with h | ⟨ad, c, e, hc, hr, hu⟩
 ·exact .inl h
 ·have ha : ad.block ≠ g := by
   rintro rfl
   obtain ⟨cs', p, hg⟩ := hu
   unfold Blk at K
   rw [K] at hg
   injection hg with hg
   injection hg with _ h2
   exact ht h2
  refine .inr ⟨ad, c, e, hc, ⟨hr.1, fun hn => ?_⟩, hu.same (hs.block _ ha)⟩
  obtain ⟨ad', e', hlt, hcc⟩ := hr.2 hn
  have ea : ad = ad' := Option.some.inj e'
  subst ea
  exact ⟨ad, rfl, by rw [hs.size]; exact hlt, fun j u hu => (World.cell?_of_block (by rw [block_of_add]; exact hs.block _ ha)).trans (hcc j u hu)⟩
theorem inTake_le (s : InM) (n : Int) : (inTake s n).1.length ≤ s.rest.length := by
 unfold inTake
 split
 ·exact Nat.zero_le _
 ·split
  ·exact Nat.zero_le _
  ·show (List.take _ _).length ≤ _
   rw [List.length_take]
   exact Nat.min_le_right _ _
theorem in_Raw {w : World} {i : Nat} {s : InM} {v : Value} (h : InAt w i s v) (hl : s.rest.length ≤ 1000000) (n : Int) :
 Calls Tryz.prog 113 #[.pointer (some ⟨i, 0, none⟩), .int .i64 n] w fun e w' => ∃ r, e = .returned r ∧ Own8 w.heap.size w' r (inTake s n).1 ∧ (∃ v', InAt w' i (inTake s n).2 v') ∧ IBut i w w' := by
 have hn := inTake_le s n
 refine calls_at 9 Tryz.func113 rfl rfl (Nat.le_of_ble_eq_true rfl) ?_
 intro a hA; replace hA := hA.norm
 refine wS (wR ?_)
 revert a; refine wo rfl rfl (by decide) (fun ev e h => by simp [go_sem, h] <;> rfl) ?_; intro a hA
 replace hA := hA.keepN [0, 1]
 refine wN (nT (wS (wR ?_)))
 revert a; (iterate 2 refine wo rfl rfl (by decide) (fun ev e h => by simp [go_sem, h] <;> rfl) ?_); intro a hA
 refine wl_call hA rfl rfl (by decide) (fun ev h => exec_call Tryz.func172 (by kernel_rfl) rfl (h.f _) (by first | (simp only [mL, h.get 5 rfl, h.get 6 rfl, h.c] <;> rfl) | (simp [mL, h.get 5 rfl, h.get 6 rfl, h.c] <;> rfl))) (in_take h hl n) ?_
 rintro e w1 ⟨r, rfl, ⟨A, c, rfl, hr⟩, ⟨v1, h1⟩, hib⟩
 refine ⟨_, rfl, fun a hA => ?_⟩
 refine wl_call hA rfl rfl (by decide) (fun ev h => exec_call Tryz.func55 (by kernel_rfl) rfl (h.f _) (by first | (simp only [mL, h.get 7 rfl, h.c] <;> rfl) | (simp [mL, h.get 7 rfl, h.c] <;> rfl))) (clone_any A _ c _ _ rfl (by omega) hr) ?_
 rintro e w2 ⟨v2, rfl, ho, hb⟩
 refine ⟨_, rfl, fun a hA => ?_⟩
 revert a; refine wo rfl rfl (by decide) (fun ev e h => by simp [go_sem, h] <;> rfl) ?_; intro a hA
 replace hA := hA.keepN [4]
 refine wN (nT (wp_ret ?_))
 refine ret_1 hA 4 rfl rfl ?_
 exact ⟨_, rfl, (Own8.of ho).mono hib.size, ⟨v1, h1.below hb⟩, hib.below hb⟩
theorem in_Left {w : World} {i : Nat} {s : InM} {v : Value} (h : InAt w i s v) :
 Calls Tryz.prog 114 #[.pointer (some ⟨i, 0, none⟩)] w fun e w' => e = .returned (.int .i64 (s.rest.length : Nat)) ∧ Below w.heap.size w w' := by
 obtain ⟨A, c, hv⟩ : ∃ A c, v = .slice A s.rest.length c := by
  rcases h.row with ⟨rfl, e⟩ | ⟨ad, c, e, _⟩
  ·exact ⟨none, 0, by rw [e]; rfl⟩
  ·exact ⟨_, _, e⟩
 subst hv
 have K := h.cells
 have HB := Below.refl w.heap.size w
 refine calls_at 10 Tryz.func114 rfl rfl (Nat.le_of_ble_eq_true rfl) ?_
 intro a hA; replace hA := hA.norm
 refine wS (wR ?_)
 revert a; refine wo rfl rfl (by decide) (fun ev e h => by simp [go_sem, h] <;> rfl) ?_; intro a hA
 replace hA := hA.keepN [0]
 refine wN (nT (wS (wS (wR ?_))))
 revert a; (iterate 2 refine wo rfl rfl (by decide) (fun ev e h => by simp [go_sem, h] <;> rfl) ?_); intro a hA
 replace hA := hA.keepN [0, 4]
 refine wN (nT ?_)
 refine wp_if hA 4 _ rfl (fun hq => ?yA) (fun hq => ?nA)
 case yA => cases hq
 case nA =>
  refine wp_skip (nT (wS (wR ?_)))
  revert a; (iterate 6 refine wo rfl rfl (by decide) (fun ev e h => by simp [go_sem, h, K.cell] <;> rfl) ?_); intro a hA
  replace hA := hA.keepN [2]
  refine wN (nT (wp_ret ?_))
  refine ret_1 hA 2 rfl rfl ?_
  exact ⟨rfl, HB⟩
theorem in_Bad {w : World} {i : Nat} {s : InM} {v : Value} (h : InAt w i s v) :
 Calls Tryz.prog 115 #[.pointer (some ⟨i, 0, none⟩)] w fun e w' => e = .returned (.bool s.bad) ∧ Below w.heap.size w w' := by
 have K := h.cells
 have HB := Below.refl w.heap.size w
 refine calls_at 11 Tryz.func115 rfl rfl (Nat.le_of_ble_eq_true rfl) ?_
 intro a hA; replace hA := hA.norm
 refine wS (wR ?_)
 revert a; refine wo rfl rfl (by decide) (fun ev e h => by simp [go_sem, h, K.cell] <;> rfl) ?_; intro a hA
 replace hA := hA.keepN [0]
 refine wN (nT (wS (wR ?_)))
 revert a; (iterate 3 refine wo rfl rfl (by decide) (fun ev e h => by simp [go_sem, h, K.cell] <;> rfl) ?_); (iterate 4 refine wg _ rfl rfl rfl rfl (by decide) (fun hq ev e h => by simp [go_sem, h, ↓gw_t (beq_t hq), K.cell] <;> rfl) ?_); refine wka rfl rfl (by decide) rfl rfl rfl ?_; refine wo rfl rfl (by decide) (fun ev e h => by simp [go_sem, h, K.cell] <;> rfl) ?_; intro a hA
 replace hA := hA.keepN [2]
 refine wN (nT (wp_ret ?_))
 refine ret_1 hA 2 rfl rfl ?_
 exact ⟨rfl, HB⟩
end Go.Proofs.YtkljkbeahdipfaaGreatDoor
/-
  Walk: the note of a payload.
-/
namespace Go.Proofs.YtkljkbeahdipfaaGreatDoor
open Go.RowKit
set_option linter.unusedSimpArgs false
set_option linter.unusedVariables false
/-- what is read, part by part -/
def rd1 (p : List UInt8) : Nat × InM := inN ⟨p, false⟩ 4
def rd2 (k : Int) (p : List UInt8) : Nat × InM := bif k == 1 then (0, (rd1 p).2) else inN (rd1 p).2 4
def rd3 (k : Int) (p : List UInt8) : (Nat × Nat) × InM := bif k == 2 then (((inN (rd2 k p).2 6).1, (inN (inN (rd2 k p).2 6).2 1).1), (inN (inN (rd2 k p).2 6).2 1).2) else ((0, 0), (rd2 k p).2)
def rd4 (k : Int) (p : List UInt8) : ByteArray × InM := bif k == 3 then (⟨#[]⟩, (rd3 k p).2) else inText (rd3 k p).2
def rd5 (k : Int) (p : List UInt8) : List UInt8 × InM := inTake (rd4 k p).2 ((rd4 k p).2.rest.length : Nat)
/-- what is read: a message -/
def rdM (k : Int) (p : List UInt8) (a : Option Addr) (c : Nat) : MsgV := ⟨(rd2 k p).1, ((rd3 k p).1.1 : Nat), ((rd3 k p).1.2 : Nat), a, c, (rd5 k p).1⟩
/-- is it a note's? -/
def decOk (k : Int) (p : List UInt8) : Bool := !(rd5 k p).2.bad && (formedV k (rd1 p).1 (rd4 k p).1 (rdM k p none 0) && (encV k (rd1 p).1 (rd4 k p).1 (rdM k p none 0) == p))
theorem formed_ac (k : Int) (e : Nat) (nm : ByteArray) (p : List UInt8) (a : Option Addr) (c : Nat) : formedV k e nm (rdM k p a c) = formedV k e nm (rdM k p none 0) := rfl
theorem enc_ac (k : Int) (e : Nat) (nm : ByteArray) (p : List UInt8) (a : Option Addr) (c : Nat) : encV k e nm (rdM k p a c) = encV k e nm (rdM k p none 0) := rfl
theorem inN_rest (s : InM) (n : Nat) : (inN s n).2.rest.length ≤ s.rest.length := inTake_rest s n
theorem rd2_rest (k : Int) (p : List UInt8) : (rd2 k p).2.rest.length ≤ p.length := by
 have h1 : (rd1 p).2.rest.length ≤ p.length := inN_rest _ _
 unfold rd2
 cases k == 1
 ·exact Nat.le_trans (inN_rest _ _) h1
 ·exact h1
theorem rd3_rest (k : Int) (p : List UInt8) : (rd3 k p).2.rest.length ≤ p.length := by
 have h2 := rd2_rest k p
 unfold rd3
 cases k == 2
 ·exact h2
 ·exact Nat.le_trans (inN_rest _ _) (Nat.le_trans (inN_rest _ _) h2)
theorem rd4_rest (k : Int) (p : List UInt8) : (rd4 k p).2.rest.length ≤ p.length := by
 have h3 := rd3_rest k p
 unfold rd4
 cases k == 3
 ·exact Nat.le_trans (inText_rest _) h3
 ·exact h3
theorem rd2_lt (k : Int) (p : List UInt8) : (rd2 k p).1 < 4294967296 := by
 unfold rd2
 cases k == 1
 ·exact inN_lt _ 4
 ·show (0 : Nat) < _
  decide
theorem rd3_lt (k : Int) (p : List UInt8) : (rd3 k p).1.1 < 281474976710656 ∧ (rd3 k p).1.2 < 256 := by
 unfold rd3
 cases k == 2
 ·exact ⟨show (0 : Nat) < _ by decide, show (0 : Nat) < _ by decide⟩
 ·exact ⟨inN_lt _ 6, inN_lt _ 1⟩
theorem text_small (s : InM) : (inText s).1.size < 65536 := by
 have h1 := inN_lt s 2
 have h2 := inTake_len (inN s 2).2 (inN s 2).1
 have h3 : (inText s).1.size = (inTake (inN s 2).2 (inN s 2).1).1.length := by
  show (List.toArray _).size = _
  rw [List.size_toArray]
 rw [h3]
 exact Nat.lt_of_le_of_lt h2 h1
theorem rd4_size (k : Int) (p : List UInt8) : (rd4 k p).1.size < 65536 := by
 unfold rd4
 cases k == 3
 ·exact text_small _
 ·show (0 : Nat) < _
  decide
theorem own8_at {B n c : Nat} {w : World} {A : Option Addr} {l : List UInt8} (h : Own8 B w (.slice A n c) l) : Reads w w.heap.size 1 A l.length (u8s l) := by
 obtain ⟨A', c', e, hr⟩ := h.took
 injection e with e1
 subst e1
 exact hr
def noteZ : Array Value := #[.int .i64 0, .int .u32 0, .string ⟨#[]⟩, .int .u32 0, .int .i64 0, .int .i64 0, .slice none 0 0]
set_option maxRecDepth 100000 in
set_option maxHeartbeats 4000000 in
theorem decode_new (k : Int) (A : Option Addr) (n c : Nat) (p : List UInt8) (hl : p.length = n) (hn : n ≤ 1000000) (w : World) (hm : MaxCell w) (hg : 0 < w.heap.size) (htab : Lib.TabIs Tryz.prog w "internal/strconv.uint64pow10" .u64 Lib.pow10Tab) (hr : Reads w w.heap.size 1 A n (u8s p)) :
 Calls Tryz.prog 57 #[.int .i64 k, .slice A n c] w fun ev w' => ∃ a c', ev = .returned (.tuple #[.agg (bif decOk k p then noteC k (rd1 p).1 (rd4 k p).1 (rdM k p a c') else noteZ), .int .i64 (bif decOk k p then 0 else 2)]) ∧ (decOk k p = true → Reads w' w'.heap.size 1 a (rd5 k p).1.length (u8s (rd5 k p).1) ∧ ∀ ad, a = some ad → w.heap.size ≤ ad.block) ∧ Below w.heap.size w w' := by
 have Ht := Lib.tabBelow_of_tabIs htab
 have q1 : (rd1 p).1 < 4294967296 := inN_lt _ 4
 have q1r : (rd1 p).2.rest.length ≤ p.length := inN_rest _ _
 have q2 := rd2_lt k p
 have q2r := rd2_rest k p
 obtain ⟨q3a, q3b⟩ := rd3_lt k p
 have q3r := rd3_rest k p
 have q4 := rd4_size k p
 have q4r := rd4_rest k p
 obtain ⟨Z, hZ⟩ : ∃ Z : Array Value, Z = noteZ := ⟨_, rfl⟩
 have HB0 := Below.refl w.heap.size w
 refine calls_at 68 Tryz.func57 rfl rfl (Nat.le_of_ble_eq_true rfl) ?_
 intro a hA; replace hA := hA.norm
 refine wS (wR ?_)
 refine wl_new hA rfl rfl (by decide) (fun ev h => by simp [go_sem]; try first | exact ⟨rfl, rfl⟩ | rfl) fun w1 a (K4 : Blk _ _ _ _) hz1 hb0 hA => ?_
 obtain ⟨g4, hg4⟩ : ∃ g4, w.heap.size = g4 := ⟨_, rfl⟩
 rw [hg4] at K4 hA
 have h4 : g4 < w1.heap.size := by omega
 have HB : Below w.heap.size w w1 := hb0
 revert a; refine wo rfl rfl (by decide) (fun ev e h => by simp [go_sem, h] <;> rfl) ?_; intro a hA
 replace hA := hA.keepN [0, 1, 4]
 refine wN (nT (wS (wR ?_)))
 revert a; refine wo rfl rfl (by decide) (fun ev e h => by simp [go_sem, h] <;> rfl) ?_; intro a hA
 refine wl_call hA rfl rfl (by decide) (fun ev h => exec_call Tryz.func110 (by kernel_rfl) rfl (h.f _) (by first | (simp only [mL, h.get 10 rfl, h.c] <;> rfl) | (simp [mL, h.get 10 rfl, h.c] <;> rfl))) (in_new A n c p hl hn _ ((hr.below hb0).more hb0.size)) ?_
 rintro e w2 ⟨i, v1, rfl, hI, hi, hb⟩
 refine ⟨_, rfl, fun a hA => ?_⟩
 replace K4 := K4.below hb K4.lt
 replace HB := HB.trans (hb.mono HB.size)
 have h4i : g4 ≠ i := by omega
 revert a; refine wo rfl rfl (by decide) (fun ev e h => by simp [go_sem, h] <;> rfl) ?_; intro a hA
 replace hA := hA.keepN [0, 1, 4, 6]
 refine wN (nT (wS (wR ?_)))
 revert a; (iterate 2 refine wo rfl rfl (by decide) (fun ev e h => by simp [go_sem, h] <;> rfl) ?_); intro a hA
 refine wl_call hA rfl rfl (by decide) (fun ev h => exec_call Tryz.func111 (by kernel_rfl) rfl (h.f _) (by first | (simp only [mL, h.get 13 rfl, h.c] <;> rfl) | (simp [mL, h.get 13 rfl, h.c] <;> rfl))) (in_N hI (by show p.length ≤ _; omega) 4 (by omega)) ?_
 rintro e w3 ⟨rfl, ⟨v2, hI⟩, hib⟩
 refine ⟨_, rfl, fun a hA => ?_⟩
 replace K4 := K4.ibut hib h4i
 replace HB := HB.trans (hib.toBelow HB.size (by omega))
 rw [show (inN ⟨p, false⟩ 4) = rd1 p from rfl] at hI hA
 have hw1 : IntKind.u32.wrap ((rd1 p).1 : Int) = ((rd1 p).1 : Int) := IntWalk.u32_in _ (by omega)
 refine wl_op hA rfl rfl (by decide) (fun ev h => by simp [go_sem, h.get 14 rfl, hw1]; try first | exact ⟨rfl, rfl⟩ | rfl) fun a hA => ?_
 revert a; refine wo rfl rfl (by decide) (fun ev e h => by simp [go_sem, h, hw1] <;> rfl) ?_; intro a hA
 have hi3 := hI.cells.lt
 refine wl_local [.int .i64 k, .int .u32 ((rd1 p).1 : Nat), .string ⟨#[]⟩, .int .u32 0, .int .i64 0, .int .i64 0, .slice none 0 0] hA rfl rfl (by decide) (fun ev h => by simp [go_sem, hw1]; try first | exact ⟨rfl, rfl⟩ | rfl) rfl rfl (by rfl) (fun w1 g ev hb h => by simp [go_sem, h.get 7 rfl, h.get 16 rfl, hw1, setAll, hb.cell, hb.frozen]) fun w4 a (K7 : Blk _ _ _ _) hz4 hb4 hA => ?_
 replace K4 := K4.below hb4 K4.lt
 replace HB := HB.trans (hb4.mono HB.size)
 replace hI := hI.below hb4
 obtain ⟨g7, hg7⟩ : ∃ g7, w3.heap.size = g7 := ⟨_, rfl⟩
 have h3w := HB.size
 rw [hg7] at K7 hA hi3
 have h47 : g4 ≠ g7 := by have := K4.lt; omega
 have hi7 : i ≠ g7 := by omega
 have hw7 : w.heap.size ≤ g7 := by omega
 have hw4 : w.heap.size ≤ i := by omega
 replace hA := hA.keepN [0, 1, 4, 6, 7]
 refine wN (nT (wS (wS (wR ?_))))
 revert a; (iterate 2 refine wo rfl rfl (by decide) (fun ev e h => by simp [go_sem, h, hw1] <;> rfl) ?_); intro a hA
 replace hA := hA.keepN [0, 1, 4, 6, 7, 18]
 refine wN (nT ?_)
 refine wp_join (fun a wx => ∃ v, At 68 [(0, .int .i64 k), (1, .slice A n c), (4, .pointer (some ⟨g4, 0, none⟩)), (6, .pointer (some ⟨i, 0, none⟩)), (7, .pointer (some ⟨g7, 0, none⟩))] a ∧ InAt wx i (rd2 k p).2 v ∧ Blk wx g4 109 noteZ ∧ Blk wx g7 109 #[.int .i64 k, .int .u32 ((rd1 p).1 : Nat), .string ⟨#[]⟩, .int .u32 ((rd2 k p).1 : Nat), .int .i64 0, .int .i64 0, .slice none 0 0] ∧ Below w.heap.size w wx) ?jfJ ?jrJ
 case jfJ =>
  refine wp_if hA 18 _ rfl (fun hq => ?yD) (fun hq => ?nD)
  case yD =>
   have hq : (k == 1) = false := by simpa using hq
   have e2 : rd2 k p = inN (rd1 p).2 4 := by unfold rd2; rw [hq, cond_false]
   refine wR ?_
   revert a; refine wo rfl rfl (by decide) (fun ev e h => by simp [go_sem, h, hw1] <;> rfl) ?_; intro a hA
   refine wl_call hA rfl rfl (by decide) (fun ev h => exec_call Tryz.func111 (by kernel_rfl) rfl (h.f _) (by first | (simp only [mL, h.get 19 rfl, h.c] <;> rfl) | (simp [mL, h.get 19 rfl, h.c, hw1] <;> rfl))) (in_N hI (by omega) 4 (by omega)) ?_
   rintro e w5 ⟨rfl, ⟨v5, hI⟩, hib⟩
   refine ⟨_, rfl, fun a hA => ?_⟩
   rw [← e2] at hI hA
   replace K4 := K4.ibut hib h4i
   replace K7 := K7.ibut hib hi7.symm
   replace HB := HB.trans (hib.toBelow HB.size hw4)
   have hw2 : IntKind.u32.wrap ((rd2 k p).1 : Int) = ((rd2 k p).1 : Int) := IntWalk.u32_in _ (by omega)
   refine wl_op hA rfl rfl (by decide) (fun ev h => by simp [go_sem, h.get 20 rfl, hw2]; try first | exact ⟨rfl, rfl⟩ | rfl) fun a hA => ?_
   revert a; (iterate 2 refine wo rfl rfl (by decide) (fun ev e h => by simp [go_sem, h, hw2] <;> rfl) ?_); intro a hA
   have K7b := K7
   refine wl_setf ([.int .i64 k, .int .u32 ((rd1 p).1 : Nat), .string ⟨#[]⟩, .int .u32 ((rd2 k p).1 : Nat), .int .i64 0, .int .i64 0, .slice none 0 0]) _ hA rfl rfl K7 (j := 3) (by rfl) (fun ev h => by simp [go_sem, h.get 23 rfl, h.get 21 rfl, hw2, K7.cell, K7.frozen]; try first | exact ⟨rfl, rfl⟩ | rfl) fun w6 (K7 : Blk _ _ _ _) hs => ?_
   replace hA := hA.keepN [0, 1, 4, 6, 7]
   refine wN (nT ?_)
   exact ⟨_, hA, hI.only hs hi7 K7b (by decide), hs.blk K4 h47, K7, hs.below HB hw7⟩
  case nD =>
   have hq : (k == 1) = true := by simpa using hq
   have e2 : rd2 k p = (0, (rd1 p).2) := by unfold rd2; rw [hq, cond_true]
   replace hA := hA.keepN [0, 1, 4, 6, 7]
   refine wp_skip (nT ?_)
   rw [e2]
   exact ⟨_, hA, hI, K4, K7, HB⟩
 clear hI K4 K7 HB
 rintro a wx ⟨v7, hA, hI, K4, K7, HB⟩
 refine wS (wS (wR ?_))
 revert a; (iterate 2 refine wo rfl rfl (by decide) (fun ev e h => by simp [go_sem, h, hw1] <;> rfl) ?_); intro a hA
 replace hA := hA.keepN [0, 1, 4, 6, 7, 25]
 refine wN (nT ?_)
 refine wp_join (fun a wx => ∃ v, At 68 [(0, .int .i64 k), (1, .slice A n c), (4, .pointer (some ⟨g4, 0, none⟩)), (6, .pointer (some ⟨i, 0, none⟩)), (7, .pointer (some ⟨g7, 0, none⟩))] a ∧ InAt wx i (rd3 k p).2 v ∧ Blk wx g4 109 noteZ ∧ Blk wx g7 109 #[.int .i64 k, .int .u32 ((rd1 p).1 : Nat), .string ⟨#[]⟩, .int .u32 ((rd2 k p).1 : Nat), .int .i64 ((rd3 k p).1.1 : Nat), .int .i64 ((rd3 k p).1.2 : Nat), .slice none 0 0] ∧ Below w.heap.size w wx) ?jfL ?jrL
 case jfL =>
  refine wp_if hA 25 _ rfl (fun hq => ?yD2) (fun hq => ?nD2)
  case yD2 =>
   have e3 : rd3 k p = (((inN (rd2 k p).2 6).1, (inN (inN (rd2 k p).2 6).2 1).1), (inN (inN (rd2 k p).2 6).2 1).2) := by unfold rd3; rw [hq, cond_true]
   rw [e3]
   have q6 := inN_rest (rd2 k p).2 6
   refine wR ?_
   revert a; refine wo rfl rfl (by decide) (fun ev e h => by simp [go_sem, h, hw1] <;> rfl) ?_; intro a hA
   refine wl_call hA rfl rfl (by decide) (fun ev h => exec_call Tryz.func111 (by kernel_rfl) rfl (h.f _) (by first | (simp only [mL, h.get 26 rfl, h.c] <;> rfl) | (simp [mL, h.get 26 rfl, h.c, hw1] <;> rfl))) (in_N hI (by omega) 6 (by omega)) ?_
   rintro e w8 ⟨rfl, ⟨v8, hI⟩, hib⟩
   refine ⟨_, rfl, fun a hA => ?_⟩
   replace K4 := K4.ibut hib h4i
   replace K7 := K7.ibut hib hi7.symm
   replace HB := HB.trans (hib.toBelow HB.size hw4)
   revert a; refine wo rfl rfl (by decide) (fun ev e h => by simp [go_sem, h, hw1] <;> rfl) ?_; intro a hA
   refine wl_call hA rfl rfl (by decide) (fun ev h => exec_call Tryz.func111 (by kernel_rfl) rfl (h.f _) (by first | (simp only [mL, h.get 28 rfl, h.c] <;> rfl) | (simp [mL, h.get 28 rfl, h.c, hw1] <;> rfl))) (in_N hI (by omega) 1 (by omega)) ?_
   rintro e w9 ⟨rfl, ⟨v9, hI⟩, hib⟩
   refine ⟨_, rfl, fun a hA => ?_⟩
   replace K4 := K4.ibut hib h4i
   replace K7 := K7.ibut hib hi7.symm
   replace HB := HB.trans (hib.toBelow HB.size hw4)
   revert a; (iterate 2 refine wo rfl rfl (by decide) (fun ev e h => by simp [go_sem, h, hw1] <;> rfl) ?_); intro a hA
   have K7b := K7
   refine wl_setf ([.int .i64 k, .int .u32 ((rd1 p).1 : Nat), .string ⟨#[]⟩, .int .u32 ((rd2 k p).1 : Nat), .int .i64 ((inN (rd2 k p).2 6).1 : Nat), .int .i64 0, .slice none 0 0]) _ hA rfl rfl K7 (j := 4) (by rfl) (fun ev h => by simp [go_sem, h.get 31 rfl, h.get 27 rfl, hw1, K7.cell, K7.frozen]; try first | exact ⟨rfl, rfl⟩ | rfl) fun w10 (K7 : Blk _ _ _ _) hs => ?_
   replace hI := hI.only hs hi7 K7b (by decide)
   replace K4 := hs.blk K4 h47
   replace HB := hs.below HB hw7
   revert a; (iterate 2 refine wo rfl rfl (by decide) (fun ev e h => by simp [go_sem, h, hw1] <;> rfl) ?_); intro a hA
   have K7b := K7
   refine wl_setf ([.int .i64 k, .int .u32 ((rd1 p).1 : Nat), .string ⟨#[]⟩, .int .u32 ((rd2 k p).1 : Nat), .int .i64 ((inN (rd2 k p).2 6).1 : Nat), .int .i64 ((inN (inN (rd2 k p).2 6).2 1).1 : Nat), .slice none 0 0]) _ hA rfl rfl K7 (j := 5) (by rfl) (fun ev h => by simp [go_sem, h.get 33 rfl, h.get 29 rfl, hw1, K7.cell, K7.frozen]; try first | exact ⟨rfl, rfl⟩ | rfl) fun w11 (K7 : Blk _ _ _ _) hs => ?_
   replace hA := hA.keepN [0, 1, 4, 6, 7]
   refine wN (nT ?_)
   exact ⟨_, hA, hI.only hs hi7 K7b (by decide), hs.blk K4 h47, K7, hs.below HB hw7⟩
  case nD2 =>
   have e3 : rd3 k p = ((0, 0), (rd2 k p).2) := by unfold rd3; rw [hq, cond_false]
   replace hA := hA.keepN [0, 1, 4, 6, 7]
   refine wp_skip (nT ?_)
   rw [e3]
   exact ⟨_, hA, hI, K4, K7, HB⟩
 clear hI K4 K7 HB
 rintro a wx ⟨v12, hA, hI, K4, K7, HB⟩
 refine wS (wS (wR ?_))
 revert a; (iterate 2 refine wo rfl rfl (by decide) (fun ev e h => by simp [go_sem, h, hw1] <;> rfl) ?_); intro a hA
 replace hA := hA.keepN [1, 4, 6, 7, 35]
 refine wN (nT ?_)
 refine wp_join (fun a wx => ∃ v, At 68 [(1, .slice A n c), (4, .pointer (some ⟨g4, 0, none⟩)), (6, .pointer (some ⟨i, 0, none⟩)), (7, .pointer (some ⟨g7, 0, none⟩))] a ∧ InAt wx i (rd4 k p).2 v ∧ Blk wx g4 109 noteZ ∧ Blk wx g7 109 #[.int .i64 k, .int .u32 ((rd1 p).1 : Nat), .string (rd4 k p).1, .int .u32 ((rd2 k p).1 : Nat), .int .i64 ((rd3 k p).1.1 : Nat), .int .i64 ((rd3 k p).1.2 : Nat), .slice none 0 0] ∧ Below w.heap.size w wx) ?jfM ?jrM
 case jfM =>
  refine wp_if hA 35 _ rfl (fun hq => ?yD3) (fun hq => ?nD3)
  case yD3 =>
   have hq : (k == 3) = false := by simpa using hq
   have e4 : rd4 k p = inText (rd3 k p).2 := by unfold rd4; rw [hq, cond_false]
   rw [e4]
   refine wR ?_
   revert a; refine wo rfl rfl (by decide) (fun ev e h => by simp [go_sem, h, hw1] <;> rfl) ?_; intro a hA
   refine wl_call hA rfl rfl (by decide) (fun ev h => exec_call Tryz.func112 (by kernel_rfl) rfl (h.f _) (by first | (simp only [mL, h.get 36 rfl, h.c] <;> rfl) | (simp [mL, h.get 36 rfl, h.c, hw1] <;> rfl))) (in_Text hI (by omega)) ?_
   rintro e w13 ⟨rfl, ⟨v13, hI⟩, hib⟩
   refine ⟨_, rfl, fun a hA => ?_⟩
   replace K4 := K4.ibut hib h4i
   replace K7 := K7.ibut hib hi7.symm
   replace HB := HB.trans (hib.toBelow HB.size hw4)
   revert a; refine wo rfl rfl (by decide) (fun ev e h => by simp [go_sem, h, hw1] <;> rfl) ?_; intro a hA
   have K7b := K7
   refine wl_setf ([.int .i64 k, .int .u32 ((rd1 p).1 : Nat), .string (inText (rd3 k p).2).1, .int .u32 ((rd2 k p).1 : Nat), .int .i64 ((rd3 k p).1.1 : Nat), .int .i64 ((rd3 k p).1.2 : Nat), .slice none 0 0]) _ hA rfl rfl K7 (j := 2) (by rfl) (fun ev h => by simp [go_sem, h.get 38 rfl, h.get 37 rfl, hw1, K7.cell, K7.frozen]; try first | exact ⟨rfl, rfl⟩ | rfl) fun w14 (K7 : Blk _ _ _ _) hs => ?_
   replace hA := hA.keepN [1, 4, 6, 7]
   refine wN (nT ?_)
   exact ⟨_, hA, hI.only hs hi7 K7b (by decide), hs.blk K4 h47, K7, hs.below HB hw7⟩
  case nD3 =>
   have hq : (k == 3) = true := by simpa using hq
   have e4 : rd4 k p = (⟨#[]⟩, (rd3 k p).2) := by unfold rd4; rw [hq, cond_true]
   replace hA := hA.keepN [1, 4, 6, 7]
   refine wp_skip (nT ?_)
   rw [e4]
   exact ⟨_, hA, hI, K4, K7, HB⟩
 clear hI K4 K7 HB
 rintro a wx ⟨v15, hA, hI, K4, K7, HB⟩
 unfold noteZ at K4
 refine wS (wR ?_)
 revert a; (iterate 2 refine wo rfl rfl (by decide) (fun ev e h => by simp [go_sem, h, hw1] <;> rfl) ?_); intro a hA
 refine wl_call hA rfl rfl (by decide) (fun ev h => exec_call Tryz.func114 (by kernel_rfl) rfl (h.f _) (by first | (simp only [mL, h.get 40 rfl, h.c] <;> rfl) | (simp [mL, h.get 40 rfl, h.c, hw1] <;> rfl))) (in_Left hI) ?_
 rintro e w16 ⟨rfl, hb⟩
 refine ⟨_, rfl, fun a hA => ?_⟩
 replace K4 := K4.below hb K4.lt
 replace K7 := K7.below hb K7.lt
 replace HB := HB.trans (hb.mono HB.size)
 replace hI := hI.below hb
 refine wl_call hA rfl rfl (by decide) (fun ev h => exec_call Tryz.func113 (by kernel_rfl) rfl (h.f _) (by first | (simp only [mL, h.get 39 rfl, h.get 41 rfl, h.c] <;> rfl) | (simp [mL, h.get 39 rfl, h.get 41 rfl, h.c, hw1] <;> rfl))) (in_Raw hI (by omega) ((rd4 k p).2.rest.length : Nat)) ?_
 rintro e w17 ⟨vr, rfl, hor, ⟨v17, hI⟩, hib⟩
 refine ⟨_, rfl, fun a hA => ?_⟩
 rw [show (inTake (rd4 k p).2 ((rd4 k p).2.rest.length : Nat)) = rd5 k p from rfl] at hor hI
 have h716 := K7.lt
 replace K4 := K4.ibut hib h4i
 replace K7 := K7.ibut hib hi7.symm
 replace HB := HB.trans (hib.toBelow HB.size hw4)
 obtain ⟨Ao, co, rfl, hro⟩ := hor.took
 clear hro
 revert a; (iterate 2 refine wo rfl rfl (by decide) (fun ev e h => by simp [go_sem, h, hw1] <;> rfl) ?_); intro a hA
 have K7b := K7
 refine wl_setf ([.int .i64 k, .int .u32 ((rd1 p).1 : Nat), .string (rd4 k p).1, .int .u32 ((rd2 k p).1 : Nat), .int .i64 ((rd3 k p).1.1 : Nat), .int .i64 ((rd3 k p).1.2 : Nat), .slice Ao (rd5 k p).1.length co]) _ hA rfl rfl K7 (j := 6) (by rfl) (fun ev h => by simp [go_sem, h.get 44 rfl, h.get 42 rfl, hw1, K7.cell, K7.frozen]; try first | exact ⟨rfl, rfl⟩ | rfl) fun w18 (K7 : Blk _ _ _ _) hs => ?_
 replace hI := hI.only hs hi7 K7b (by decide)
 replace K4 := hs.blk K4 h47
 replace HB := hs.below HB hw7
 replace hor := hor.keep fun g hg => hs.block g (by have := (World.ownsRow.lt hor g hg).1; omega)
 replace hA := hA.keepN [1, 4, 6, 7]
 refine wN (nT (wS (wS (wR ?_))))
 revert a; refine wo rfl rfl (by decide) (fun ev e h => by simp [go_sem, h, hw1] <;> rfl) ?_; intro a hA
 refine wl_call hA rfl rfl (by decide) (fun ev h => exec_call Tryz.func115 (by kernel_rfl) rfl (h.f _) (by first | (simp only [mL, h.get 45 rfl, h.c] <;> rfl) | (simp [mL, h.get 45 rfl, h.c, hw1] <;> rfl))) (in_Bad hI) ?_
 rintro e w19 ⟨rfl, hb⟩
 refine ⟨_, rfl, fun a hA => ?_⟩
 replace K4 := K4.below hb K4.lt
 replace K7 := K7.below hb K7.lt
 replace HB := HB.trans (hb.mono HB.size)
 replace hI := hI.below hb
 replace hor := hor.below hb
 revert a; refine wo rfl rfl (by decide) (fun ev e h => by simp [go_sem, h, K7.cell] <;> rfl) ?_; refine wg _ rfl rfl rfl rfl (by decide) (fun hq ev e h => by simp [go_sem, h, ↓gw_t (beq_t hq), K7.cell] <;> rfl) ?_; intro a hA
 refine wl_gcallv _ hA rfl rfl rfl rfl (by decide) (fun hq ev h => exec_call Tryz.func116 (by kernel_rfl) rfl (h.f _) (by first | (simp only [mL, ((h.get 48 rfl).trans (gw_t (beq_t hq))), h.c] <;> rfl) | (simp [mL, ((h.get 48 rfl).trans (gw_t (beq_t hq))), h.c, K7.cell] <;> rfl))) (fun hq => formed_any k (rd1 p).1 (rd4 k p).1 (rdM k p Ao co) _ (hm.below hg HB) (Nat.lt_of_lt_of_le hg HB.size) (htab := Ht _ HB) (by omega)) fun a w20 hb hA => ?_
 replace K4 := K4.below hb K4.lt
 replace K7 := K7.below hb K7.lt
 replace HB := HB.trans (hb.mono HB.size)
 replace hor := hor.below hb
 revert a; refine wg _ rfl rfl rfl rfl (by decide) (fun hq ev e h => by simp [go_sem, h, ↓gw_t (beq_t hq), K7.cell] <;> rfl) ?_; refine wko rfl rfl (by decide) rfl rfl rfl ?_; intro a hA
 replace hA := hA.keepN [1, 4, 7, 51]
 refine wN (nT ?_)
 refine wp_if hA 51 _ rfl (fun hq => ?yE) (fun hq => ?nE)
 case yE =>
  have hno : decOk k p = false := by
   rw [formed_ac] at hq
   unfold decOk
   cases hb : (rd5 k p).2.bad with
   | true => rfl
   | false =>
     rw [hb, Bool.false_or] at hq
     have hf : formedV k (rd1 p).1 (rd4 k p).1 (rdM k p none 0) = false := by simpa using hq
     rw [hf]
     rfl
  refine wS (wR ?_)
  revert a; refine wo rfl rfl (by decide) (fun ev e h => by simp [go_sem, h, K7.cell] <;> rfl) ?_; intro a hA
  refine wl_set [.int .i64 0, .int .u32 0, .string ⟨#[]⟩, .int .u32 0, .int .i64 0, .int .i64 0, .slice none 0 0] hA rfl rfl K4 (by rfl) (fun ev h => by simp [go_sem, h.get 4 rfl, h.get 52 rfl, K7.cell, setAll, K4.cell, K4.frozen]) fun w21 (K4 : Blk _ _ _ _) hs => ?_
  revert a; refine wo rfl rfl (by decide) (fun ev e h => by simp [go_sem, h, K4.cell] <;> rfl) ?_; intro a hA
  replace hA := hA.keepN [4, 5]
  refine wN (nT (wp_ret (rT ?_)))
  refine bodyPost_ret (by simp [results, Tryz.results57, go_sem, hA.env 4 _ rfl, hA.env 5 _ rfl, K4.cell]; try first | exact ⟨rfl, rfl⟩ | rfl) hA.defers ?_
  exact ⟨none, 0, by rw [hno]; rfl, fun h => (by rw [hno] at h; cases h), hs.below HB (by omega)⟩
 case nE =>
  rw [Bool.or_eq_false_iff] at hq
  obtain ⟨hbd, hq⟩ := hq
  have hf : formedV k (rd1 p).1 (rd4 k p).1 (rdM k p Ao co) = true := by simpa using hq
  refine wp_skip (nT (wS (wS (wR ?_))))
  revert a; refine wo rfl rfl (by decide) (fun ev e h => by simp [go_sem, h, K7.cell] <;> rfl) ?_; intro a hA
  refine wl_call hA rfl rfl (by decide) (fun ev h => exec_call Tryz.func117 (by kernel_rfl) rfl (h.f _) (by first | (simp only [mL, h.get 54 rfl, h.c] <;> rfl) | (simp [mL, h.get 54 rfl, h.c, K7.cell] <;> rfl))) (encode_any k (rd1 p).1 (rd4 k p).1 (rdM k p Ao co) _ (hm.below hg HB) (Nat.lt_of_lt_of_le hg HB.size) (htab := Ht _ HB) (by omega) q1 q2 (own8_at hor)) ?_
  rintro e w22 ⟨r, rfl, hoe, hb⟩
  refine ⟨_, rfl, fun a hA => ?_⟩
  replace K4 := K4.below hb K4.lt
  replace K7 := K7.below hb K7.lt
  replace HB := HB.trans (hb.mono HB.size)
  replace hor := hor.below hb
  rw [hf, cond_true] at hoe hA
  obtain ⟨Ar, cr, rfl, hrr⟩ := hoe.took
  revert a; (iterate 5 refine wo rfl rfl (by decide) (fun ev e h => by simp [go_sem, h, K7.cell] <;> rfl) ?_); intro a hA
  replace hA := hA.keepN [1, 4, 7, 8, 9]
  refine wN (nT (wS (wR ?_)))
  revert a; (iterate 3 refine wo rfl rfl (by decide) (fun ev e h => by simp [go_sem, h, K7.cell] <;> rfl) ?_); (iterate 2 refine wg _ rfl rfl rfl rfl (by decide) (fun hq ev e h => by simp [go_sem, h, ↓gw_t (beq_t hq), K7.cell] <;> rfl) ?_); intro a hA
  have hrp := (hr.below HB).more HB.size
  refine wl_gcallv _ hA rfl rfl rfl rfl (by decide) (fun hq ev h => exec_call Tryz.func68 (by kernel_rfl) rfl (h.f _) (by first | (simp only [mL, ((h.get 61 rfl).trans (gw_t (beq_t hq))), ((h.get 62 rfl).trans (gw_t (beq_t hq))), h.c] <;> rfl) | (simp [mL, ((h.get 61 rfl).trans (gw_t (beq_t hq))), ((h.get 62 rfl).trans (gw_t (beq_t hq))), h.c, K7.cell] <;> rfl))) (fun hq => (equal_any Ar A _ cr n c _ p _ rfl hl hrr hrp).mono fun e' w' h => ⟨h.1, h.2 ▸ Below.refl _ _⟩) fun a w23 hb hA => ?_
  replace K4 := K4.below hb K4.lt
  replace K7 := K7.below hb K7.lt
  replace HB := HB.trans (hb.mono HB.size)
  replace hor := hor.below hb
  revert a; refine wg _ rfl rfl rfl rfl (by decide) (fun hq ev e h => by simp [go_sem, h, ↓gw_t (beq_t hq), K7.cell] <;> rfl) ?_; refine wko rfl rfl (by decide) rfl rfl rfl ?_; intro a hA
  replace hA := hA.keepN [4, 7, 65]
  refine wN (nT ?_)
  refine wp_if hA 65 _ rfl (fun hq2 => ?yF) (fun hq2 => ?nF)
  case yF =>
   have hno : decOk k p = false := by
    have he : (encV k (rd1 p).1 (rd4 k p).1 (rdM k p Ao co) == p) = false := by simpa using hq2
    rw [enc_ac] at he
    unfold decOk
    rw [he, Bool.and_false, Bool.and_false]
   refine wS (wR ?_)
   revert a; refine wo rfl rfl (by decide) (fun ev e h => by simp [go_sem, h, K7.cell] <;> rfl) ?_; intro a hA
   refine wl_set [.int .i64 0, .int .u32 0, .string ⟨#[]⟩, .int .u32 0, .int .i64 0, .int .i64 0, .slice none 0 0] hA rfl rfl K4 (by rfl) (fun ev h => by simp [go_sem, h.get 4 rfl, h.get 66 rfl, K7.cell, setAll, K4.cell, K4.frozen]) fun w24 (K4 : Blk _ _ _ _) hs => ?_
   revert a; refine wo rfl rfl (by decide) (fun ev e h => by simp [go_sem, h, K4.cell] <;> rfl) ?_; intro a hA
   replace hA := hA.keepN [4, 5]
   refine wN (nT (wp_ret (rT ?_)))
   refine bodyPost_ret (by simp [results, Tryz.results57, go_sem, hA.env 4 _ rfl, hA.env 5 _ rfl, K4.cell]; try first | exact ⟨rfl, rfl⟩ | rfl) hA.defers ?_
   exact ⟨none, 0, by rw [hno]; rfl, fun h => (by rw [hno] at h; cases h), hs.below HB (by omega)⟩
  case nF =>
   have hyes : decOk k p = true := by
    have he : (encV k (rd1 p).1 (rd4 k p).1 (rdM k p Ao co) == p) = true := by simpa using hq2
    rw [enc_ac] at he
    rw [formed_ac] at hf
    unfold decOk
    rw [he, hf, hbd]
    rfl
   refine wp_skip (nT (wS (wR ?_)))
   revert a; refine wo rfl rfl (by decide) (fun ev e h => by simp [go_sem, h, K7.cell] <;> rfl) ?_; intro a hA
   refine wl_set [.int .i64 k, .int .u32 ((rd1 p).1 : Nat), .string (rd4 k p).1, .int .u32 ((rd2 k p).1 : Nat), .int .i64 ((rd3 k p).1.1 : Nat), .int .i64 ((rd3 k p).1.2 : Nat), .slice Ao (rd5 k p).1.length co] hA rfl rfl K4 (by rfl) (fun ev h => by simp [go_sem, h.get 4 rfl, h.get 67 rfl, K7.cell, setAll, K4.cell, K4.frozen]) fun w25 (K4 : Blk _ _ _ _) hs => ?_
   replace hor := hor.keep fun g hg => hs.block g (by have := (World.ownsRow.lt hor g hg).1; omega)
   revert a; refine wo rfl rfl (by decide) (fun ev e h => by simp [go_sem, h, K4.cell] <;> rfl) ?_; intro a hA
   replace hA := hA.keepN [4, 5]
   refine wN (nT (wp_ret ?_))
   refine bodyPost_ret (by simp [results, Tryz.results57, go_sem, hA.env 4 _ rfl, hA.env 5 _ rfl, K4.cell]; try first | exact ⟨rfl, rfl⟩ | rfl) hA.defers ?_
   exact ⟨Ao, co, by rw [hyes]; rfl, fun _ => ⟨own8_at hor, fun ad ha => by have := (World.ownsRow.lt hor ad.block (by rw [ha]; rfl)).1; omega⟩, hs.below HB (by omega)⟩
end Go.Proofs.YtkljkbeahdipfaaGreatDoor
/-
  Plainly: a formed note's payload is read back as that note.
-/
namespace Go.Proofs.YtkljkbeahdipfaaGreatDoor
open Go.RowKit
theorem bare_zero {d f : Int} {n : Nat} (h : bareV d f n = true) : d = 0 ∧ f = 0 := by
 unfold bareV at h
 simp only [Bool.and_eq_true, beq_iff_eq] at h
 exact ⟨h.1.1, h.1.2⟩
theorem empty_name {nm : ByteArray} (h : nm.toList.isEmpty = true) : nm = ⟨#[]⟩ := by
 rw [ByteArray.toList_eq] at h
 have h4 := List.isEmpty_iff.1 h
 obtain ⟨⟨l⟩⟩ := nm
 have : l = [] := h4
 rw [this]
/-- what a formed note's kind leaves out -/
theorem formed_rest {k : Int} {e : Nat} {nm : ByteArray} {m : MsgV} (h : formedV k e nm m = true) : ((k == 1) = true → m.uid = 0) ∧ ((k == 2) = false → m.date = 0 ∧ m.flags = 0) ∧ ((k == 3) = true → nm = ⟨#[]⟩) ∧ 0 ≤ m.date ∧ m.date ≤ 253402300799 ∧ 0 ≤ m.flags ∧ m.flags ≤ 31 := by
 unfold formedV at h
 rw [Bool.and_eq_true] at h
 obtain ⟨_, h⟩ := h
 cases h1 : k == 1 with
 | true =>
   rw [h1, cond_true, Bool.and_eq_true, Bool.and_eq_true, beq_iff_eq] at h
   obtain ⟨hd, hf⟩ := bare_zero h.1.2
   have e1 : k = 1 := by simpa using h1
   exact ⟨fun _ => h.2, fun _ => ⟨hd, hf⟩, fun h3 => (by rw [e1] at h3; cases h3), by omega, by omega, by omega, by omega⟩
 | false =>
   rw [h1, cond_false] at h
   cases h2 : k == 2 with
   | true =>
     rw [h2, cond_true, Bool.and_eq_true] at h
     obtain ⟨_, _, p⟩ := full_parts h.2
     have e2 : k = 2 := by simpa using h2
     exact ⟨fun e => (by cases e), fun e => (by cases e), fun h3 => (by rw [e2] at h3; cases h3), p⟩
   | false =>
     rw [h2, cond_false, Bool.and_eq_true, Bool.and_eq_true, Bool.and_eq_true] at h
     obtain ⟨hd, hf⟩ := bare_zero h.1.2
     exact ⟨fun e => (by cases e), fun _ => ⟨hd, hf⟩, fun _ => empty_name h.1.1.2, by omega, by omega, by omega, by omega⟩
section
variable {k : Int} {e : Nat} {nm : ByteArray} {m : MsgV}
theorem rd1_enc (he : e < 4294967296) : rd1 (encV k e nm m) = (e, ⟨enc1 k m ++ (enc2 k m ++ (enc3 k nm ++ m.b)), false⟩) := by
 unfold rd1 encV
 rw [List.append_assoc, List.append_assoc, List.append_assoc]
 exact inN_be 4 e _ he
theorem rd2_enc (h : formedV k e nm m = true) (he : e < 4294967296) (hu : m.uid < 4294967296) : rd2 k (encV k e nm m) = (m.uid, ⟨enc2 k m ++ (enc3 k nm ++ m.b), false⟩) := by
 obtain ⟨h1, _⟩ := formed_rest h
 unfold rd2
 rw [rd1_enc he]
 unfold enc1
 cases hk : k == 1 with
 | true => rw [h1 hk, cond_true, cond_true]; rfl
 | false => rw [cond_false, cond_false]; exact inN_be 4 m.uid _ hu
theorem rd3_enc (h : formedV k e nm m = true) (he : e < 4294967296) (hu : m.uid < 4294967296) : rd3 k (encV k e nm m) = ((m.date.toNat, m.flags.toNat), ⟨enc3 k nm ++ m.b, false⟩) := by
 obtain ⟨_, h2, _, d0, d1, f0, f1⟩ := formed_rest h
 unfold rd3
 rw [rd2_enc h he hu]
 unfold enc2
 cases hk : k == 2 with
 | true =>
   rw [cond_true, cond_true, List.append_assoc]
   rw [inN_be 6 m.date.toNat _ (show m.date.toNat < 256 ^ 6 by omega)]
   rw [inN_be 1 m.flags.toNat _ (show m.flags.toNat < 256 ^ 1 by omega)]
 | false =>
   obtain ⟨e1, e2⟩ := h2 hk
   rw [cond_false, cond_false, e1, e2]
   rfl
theorem rd4_enc (h : formedV k e nm m = true) (he : e < 4294967296) (hu : m.uid < 4294967296) : rd4 k (encV k e nm m) = (nm, ⟨m.b, false⟩) := by
 obtain ⟨_, _, h3, _⟩ := formed_rest h
 obtain ⟨_, hs, _⟩ := formed_parts h
 unfold rd4
 rw [rd3_enc h he hu]
 unfold enc3
 cases hk : k == 3 with
 | true => rw [cond_true, cond_true, h3 hk]; rfl
 | false => rw [cond_false, cond_false]; exact inText_textB nm _ (by omega)
theorem rd5_enc (h : formedV k e nm m = true) (he : e < 4294967296) (hu : m.uid < 4294967296) : rd5 k (encV k e nm m) = (m.b, ⟨[], false⟩) := by
 unfold rd5
 rw [rd4_enc h he hu]
 have := inTake_append m.b [] m.b.length rfl
 rw [List.append_nil] at this
 exact this
/-- what is read back is the note -/
theorem rdM_enc (h : formedV k e nm m = true) (he : e < 4294967296) (hu : m.uid < 4294967296) (a : Option Addr) (c : Nat) : rdM k (encV k e nm m) a c = ⟨m.uid, m.date, m.flags, a, c, m.b⟩ := by
 obtain ⟨_, _, _, d0, d1, f0, f1⟩ := formed_rest h
 unfold rdM
 rw [rd2_enc h he hu, rd3_enc h he hu, rd5_enc h he hu]
 show MsgV.mk m.uid ((m.date.toNat : Nat) : Int) ((m.flags.toNat : Nat) : Int) a c m.b = _
 rw [Int.toNat_of_nonneg d0, Int.toNat_of_nonneg f0]
theorem decOk_enc (h : formedV k e nm m = true) (he : e < 4294967296) (hu : m.uid < 4294967296) : decOk k (encV k e nm m) = true := by
 unfold decOk
 rw [rd5_enc h he hu, rd1_enc he, rd4_enc h he hu, rdM_enc h he hu]
 have e1 : formedV k e nm ⟨m.uid, m.date, m.flags, none, 0, m.b⟩ = formedV k e nm m := rfl
 have e2 : encV k e nm ⟨m.uid, m.date, m.flags, none, 0, m.b⟩ = encV k e nm m := rfl
 show (!false && (formedV k e nm ⟨m.uid, m.date, m.flags, none, 0, m.b⟩ && (encV k e nm ⟨m.uid, m.date, m.flags, none, 0, m.b⟩ == encV k e nm m))) = true
 rw [e1, e2, h]
 simp
end
end Go.Proofs.YtkljkbeahdipfaaGreatDoor
/-
  Logs, plainly: what notes, one behind the other, say; told at once and note by note.
-/
namespace Go.Proofs.YtkljkbeahdipfaaGreatDoor
open Go.RowKit
/-- a note, without addresses, and where its record stands -/
structure NoteB where
 k : Int
 ep : Nat
 nm : ByteArray
 u : Nat
 d : Int
 f : Int
 o : List UInt8
 at_ : Nat
def behindN (u : Nat) : Nat := if u = 4294967295 then u else u + 1
/-- what a log says -/
structure LogS where
 nm : ByteArray
 ep : Nat
 nx : Nat
 live : List NoteB
def log0 : LogS := ⟨⟨#[]⟩, 0, 1, []⟩
def goneB (n x : NoteB) : Bool := x.ep == n.ep && x.u == n.u
def epN (s : LogS) (n : NoteB) : Nat := if s.ep < n.ep then n.ep else s.ep
def nxN (s : LogS) (n : NoteB) : Nat := if (epN s n == n.ep && !(n.k == 1)) = true then max (if s.ep < n.ep then 1 else s.nx) (behindN n.u) else if s.ep < n.ep then 1 else s.nx
def liveN (l : List NoteB) (n : NoteB) : List NoteB := bif n.k == 2 then l ++ [n] else bif n.k == 3 then l.filter (fun x => !goneB n x) else l
def takeN (s : LogS) (n : NoteB) : LogS := ⟨bif n.k == 3 then s.nm else n.nm, epN s n, nxN s n, liveN s.live n⟩
def takeAll (l : List NoteB) : LogS := l.foldl takeN log0
-- at once
/-- are live messages of one epoch, and do they rise? -/
def riseN (E : Nat) : Nat → List NoteB → Bool
 | _, [] => true
 | last, n :: r => n.ep == E && decide (last < n.u) && !(n.u == 4294967295) && riseN E n.u r
def cleanS (s : LogS) : Bool := riseN s.ep 0 s.live
def bare4 (n : NoteB) : Nat × Int × Int × List UInt8 := (n.u, n.d, n.f, n.o)
def renum : Nat → List NoteB → List (Nat × Int × Int × List UInt8)
 | _, [] => []
 | i, n :: r => ((i + 1) % 4294967296, n.d, n.f, n.o) :: renum (i + 1) r
/-- a mailbox, without addresses -/
structure BoxB where
 nm : ByteArray
 ep : Nat
 nx : Nat
 msgs : List (Nat × Int × Int × List UInt8)
def boxS (s : LogS) : BoxB := bif cleanS s then ⟨s.nm, s.ep, s.nx, s.live.map bare4⟩ else ⟨s.nm, behindN s.ep, (s.live.length + 1) % 4294967296, renum 0 s.live⟩
end Go.Proofs.YtkljkbeahdipfaaGreatDoor
/-
  A region that draws its order, whose last operations wait, each, for all that stand ahead: these come in the text's order.
-/
namespace Go.Proofs.YtkljkbeahdipfaaGreatDoor
open Go Go.RowKit
/-- an operation waits for j, or for one of the tail behind j, or for one that waits for j -/
def waitsB (L : List Oper) (m : Nat) (o : Oper) (i j : Nat) : Bool := onB o j || ((List.range i).any fun k => Nat.ble m k && Nat.blt j k && onB o k) || o.after.any fun e => Region.binds .any e && blk L j L.length e.on
/-- from place k on each operation waits for all ahead -/
def seqFrom (L : List Oper) (m : Nat) : Nat → List Oper → Bool
 | _, [] => true
 | k, o :: r => (List.range k).all (fun j => waitsB L m o k j) && seqFrom L m (k + 1) r
theorem seqFrom_at {L : List Oper} {m : Nat} : ∀ {r : List Oper} {k : Nat}, seqFrom L m k r = true → ∀ i o, r[i]? = some o → ∀ j, j < k + i → onB o j = true ∨ (∃ k', m ≤ k' ∧ j < k' ∧ onB o k' = true) ∨ ∃ e ∈ o.after, Region.binds .any e = true ∧ blk L j L.length e.on = true := by
 intro r
 induction r with
 | nil => intro k _ i o ho; simp at ho
 | cons x r ih =>
   intro k h i o ho j hj
   unfold seqFrom at h
   rw [Bool.and_eq_true] at h
   cases i with
   | zero =>
     have e : x = o := by simpa using ho
     subst e
     have h2 := List.all_eq_true.1 h.1 j (List.mem_range.2 hj)
     unfold waitsB at h2
     rw [Bool.or_eq_true, Bool.or_eq_true] at h2
     rcases h2 with (h2 | h2) | h2
     ·exact .inl h2
     ·obtain ⟨k', _, hk⟩ := List.any_eq_true.1 h2
      simp only [Bool.and_eq_true] at hk
      exact .inr (.inl ⟨k', Nat.le_of_ble_eq_true hk.1.1, by simpa [Nat.blt_eq] using hk.1.2, hk.2⟩)
     ·obtain ⟨e, he, hb⟩ := Array.any_eq_true'.1 h2
      simp only [Bool.and_eq_true] at hb
      exact .inr (.inr ⟨e, he, hb.1, hb.2⟩)
   | succ i => exact ih h.2 i o (by simpa using ho) j (by omega)
/-- each operation waits for those ahead alone -/
def backFrom : Nat → List Oper → Bool
 | _, [] => true
 | k, o :: r => (o.after.all fun e => !Region.binds .any e || decide (e.on < k)) && backFrom (k + 1) r
theorem backFrom_at : ∀ {r : List Oper} {k : Nat}, backFrom k r = true → ∀ i o, r[i]? = some o → ∀ e ∈ o.after, Region.binds .any e = true → e.on < k + i := by
 intro r
 induction r with
 | nil => intro k _ i o ho; simp at ho
 | cons x r ih =>
   intro k h i o ho e he hb
   unfold backFrom at h
   rw [Bool.and_eq_true] at h
   cases i with
   | zero =>
     have e2 : x = o := by simpa using ho
     subst e2
     have := Array.all_eq_true'.1 h.1 e he
     rw [hb] at this
     simpa using this
   | succ i =>
     have := ih h.2 i o (by simpa using ho) e he hb
     omega
section
variable {P : Program} {Q : Exit → Act → World → Prop} {l1 l2 : List Oper}
theorem wpOp_get {ops : Array Oper} {K : Act → World → Prop} {i : Nat} {o : Oper} {a : Act} {w : World} (h : ops[i]? = some o) : wpOp P ops Q i K a w = (if Region.wanted o (yielded ops a.tmps) then o.wp P a w K Q ∨ (o.asks P a w ∧ LetsOut Q) else K (a.put o.dst undef) w) := by
 unfold wpOp; rw [h]
/-- the tail -/
theorem wpAny_tail (hseq : seqFrom (l1 ++ l2) l1.length l1.length l2 = true) (hback : backFrom l1.length l2 = true) (hback1 : backFrom 0 l1 = true) : ∀ (r : List Oper) (k : Nat) (fuel : Nat) (listed : Array Bool) (a : Act) (w : World), l2.drop k = r → k ≤ l2.length → r.length ≤ fuel → listed.size = (l1 ++ l2).length →
 (∀ i, i < l1.length + k → listed.getD i false = true) → (∀ i, l1.length + k ≤ i → listed.getD i false = false) → wpList P (l1 ++ l2).toArray Q r a w → wpAny P .any (l1 ++ l2).toArray Q fuel listed a w := by
 intro r
 induction r with
 | nil =>
   intro k fuel listed a w hr hk hf hs h1 h2 hwp
   have hkl : l2.length ≤ k := List.drop_eq_nil_iff.1 hr
   have hready : Region.ready .any (l1 ++ l2).toArray listed = [] := by
    rw [List.eq_nil_iff_forall_not_mem]
    intro i hi
    obtain ⟨hun, o, ho, _⟩ := mem_ready.1 hi
    rw [List.getElem?_toArray] at ho
    have hlt := (List.getElem?_eq_some_iff.1 ho).1
    rw [List.length_append] at hlt
    have := h1 i (by omega)
    rw [getD_two hun] at this
    cases this
   cases fuel with
   | zero => exact ⟨hready, hwp⟩
   | succ f => exact ⟨fun _ => hwp, fun i hi => by rw [hready] at hi; cases hi⟩
 | cons o r ih =>
   intro k fuel listed a w hr hk hf hs h1 h2 hwp
   cases fuel with
   | zero => simp at hf
   | succ f =>
     have hkl : k < l2.length := by
      rcases Nat.lt_or_ge k l2.length with h | h
      ·exact h
      ·rw [List.drop_eq_nil_of_le h] at hr; cases hr
     have ho2 : l2[k]? = some o := by
      have := congrArg List.head? hr
      rwa [List.head?_drop] at this
     have hr2 : l2.drop (k + 1) = r := by
      rw [← List.tail_drop, hr]; rfl
     have hget : (l1 ++ l2).toArray[l1.length + k]? = some o := by
      rw [List.getElem?_toArray, List.getElem?_append_right (by omega), Nat.add_sub_cancel_left, ho2]
     have hmem : l1.length + k ∈ Region.ready .any (l1 ++ l2).toArray listed := by
      refine mem_ready.2 ⟨getD_inn (by rw [hs, List.length_append]; omega) (h2 _ (Nat.le_refl _)), o, hget, fun e he hb => h1 _ ?_⟩
      exact backFrom_at hback k o ho2 e he hb
     refine ⟨fun hn => ?_, fun i hi => ?_⟩
     ·rw [hn] at hmem; cases hmem
     ·obtain ⟨hun, oi, hoi, hall⟩ := mem_ready.1 hi
      have hgi : l1.length + k ≤ i := by
       rcases Nat.lt_or_ge i (l1.length + k) with h | h
       ·have := h1 i h
        rw [getD_two hun] at this
        cases this
       ·exact h
      have hik : i = l1.length + k := by
       rcases Nat.eq_or_lt_of_le hgi with h | h
       ·exact h.symm
       ·exfalso
        rw [List.getElem?_toArray, List.getElem?_append_right (by omega)] at hoi
        rcases seqFrom_at hseq (i - l1.length) oi hoi (l1.length + k) (by omega) with hon | ⟨k', _, hk', hon⟩ | ⟨e, he, hb, hbl⟩
        ·obtain ⟨e, he, hb, heq⟩ := onB_spec hon
         have := hall e he hb
         rw [heq, h2 _ (Nat.le_refl _)] at this
         cases this
        ·obtain ⟨e, he, hb, heq⟩ := onB_spec hon
         have := hall e he hb
         rw [heq, h2 _ (by omega)] at this
         cases this
        ·have hcl : ∀ j oj, (l1 ++ l2)[j]? = some oj → listed.getD j false = true → ∀ e ∈ oj.after, Region.binds .any e = true → listed.getD e.on false = true := fun j oj hj hlj e he hb => by
          have hjk : j < l1.length + k := by
           rcases Nat.lt_or_ge j (l1.length + k) with h | h
           ·exact h
           ·rw [h2 j h] at hlj; cases hlj
          refine h1 _ ?_
          rcases Nat.lt_or_ge j l1.length with h | h
          ·rw [List.getElem?_append_left h] at hj
           have := backFrom_at hback1 j oj hj e he hb
           omega
          ·rw [List.getElem?_append_right h] at hj
           have := backFrom_at hback (j - l1.length) oj hj e he hb
           omega
         have := blk_listed hcl (l1.length + k) _ e.on hbl (hall e he hb)
         rw [h2 _ (Nat.le_refl _)] at this
         cases this
      subst hik
      rw [hget] at hoi
      injection hoi with hoi
      subst hoi
      rw [wpOp_get hget]
      have hset : ∀ i, i < l1.length + (k + 1) → (listed.setIfInBounds (l1.length + k) true).getD i false = true := fun i hi => by
       by_cases e : l1.length + k = i
       ·subst e
        have : l1.length + k < listed.size := by rw [hs, List.length_append]; omega
        simp [this]
       ·rw [getD_set_ne false e]; exact h1 i (by omega)
      have hset2 : ∀ i, l1.length + (k + 1) ≤ i → (listed.setIfInBounds (l1.length + k) true).getD i false = false := fun i hi => by
       rw [getD_set_ne false (by omega)]; exact h2 i (by omega)
      unfold wpList at hwp
      have next : ∀ a w, wpList P (l1 ++ l2).toArray Q r a w → wpAny P .any (l1 ++ l2).toArray Q f (listed.setIfInBounds (l1.length + k) true) a w := fun a w h =>
       ih (k + 1) f _ a w hr2 (by omega) (by simp at hf; omega) (by simpa using hs) hset hset2 h
      by_cases hw : Region.wanted o (yielded (l1 ++ l2).toArray a.tmps) = true
      ·rw [if_pos hw] at hwp ⊢
       exact hwp.imp (Oper.wp_mono next) id
      ·rw [if_neg hw] at hwp ⊢
       exact next _ _ hwp
theorem then_wp {next : Act → World → Prop} {o : Oper} {a : Act} {w : World} {K : Act → World → Prop} (h : o.wp P a w K (Exit.then next Q)) : o.wp P a w K Q := by
 unfold Oper.wp at *
 generalize (execOp a.eval o).run P w = r at *
 cases r with
 | ok n w' => cases n <;> exact h
 | halt x w' => cases x <;> exact h
theorem then_lets {next : Act → World → Prop} (h : LetsOut (Exit.then next Q)) : LetsOut Q := h
/-- the part ahead -/
theorem wpAny_split (hseq : seqFrom (l1 ++ l2) l1.length l1.length l2 = true) (hback : backFrom l1.length l2 = true) (hback1 : backFrom 0 l1 = true) (hg : (l1.all fun o => match o.guard with | some (g, _) => decide (g < l1.length) | none => true) = true) :
 ∀ (fuel1 fuel : Nat) (listed1 listed : Array Bool) (a : Act) (w : World), fuel1 + l2.length ≤ fuel → listed1.size = l1.length → listed.size = (l1 ++ l2).length → (∀ i, i < l1.length → listed.getD i false = listed1.getD i false) → (∀ i, l1.length ≤ i → listed.getD i false = false) → (∀ j oj, l1[j]? = some oj → listed1.getD j false = true → ∀ e ∈ oj.after, Region.binds .any e = true → listed1.getD e.on false = true) →
   wpAny P .any l1.toArray (Exit.then (wpList P (l1 ++ l2).toArray Q l2) Q) fuel1 listed1 a w → wpAny P .any (l1 ++ l2).toArray Q fuel listed a w := by
 have allOf : ∀ (listed1 : Array Bool), listed1.size = l1.length → Region.ready .any l1.toArray listed1 = [] → ∀ j, j < l1.length → listed1.getD j false = true := by
  intro listed1 hs hr j
  induction j using Nat.strongRecOn with
  | _ j jh =>
    intro hj
    cases hl : listed1.getD j false with
    | true => rfl
    | false =>
      exfalso
      have hnr : j ∉ Region.ready .any l1.toArray listed1 := by rw [hr]; simp
      refine hnr (mem_ready.2 ⟨getD_inn (by rw [hs]; exact hj) hl, l1[j], by rw [List.getElem?_toArray, List.getElem?_eq_getElem hj], fun e he hb => ?_⟩)
      have hlt := backFrom_at hback1 j l1[j] (List.getElem?_eq_getElem hj) e he hb
      exact jh e.on (by omega) (by omega)
 have fin : ∀ (fuel : Nat) (listed1 listed : Array Bool) (a : Act) (w : World), l2.length ≤ fuel → listed1.size = l1.length → listed.size = (l1 ++ l2).length → (∀ i, i < l1.length → listed.getD i false = listed1.getD i false) → (∀ i, l1.length ≤ i → listed.getD i false = false) →
  Region.ready .any l1.toArray listed1 = [] → wpList P (l1 ++ l2).toArray Q l2 a w → wpAny P .any (l1 ++ l2).toArray Q fuel listed a w := fun fuel listed1 listed a w hf h1 h2 h3 h4 hr hwp =>
  wpAny_tail hseq hback hback1 l2 0 fuel listed a w rfl (Nat.zero_le _) hf h2 (fun i hi => by rw [h3 i hi]; exact allOf listed1 h1 hr i hi) h4 hwp
 intro fuel1
 induction fuel1 with
 | zero =>
   intro fuel listed1 listed a w hf h1 h2 h3 h4 _ hwp
   exact fin fuel listed1 listed a w (by omega) h1 h2 h3 h4 hwp.1 hwp.2
 | succ fuel1 ih =>
   intro fuel listed1 listed a w hf h1 h2 h3 h4 hcl hwp
   by_cases hr : Region.ready .any l1.toArray listed1 = []
   ·exact fin fuel listed1 listed a w (by omega) h1 h2 h3 h4 hr (hwp.1 hr)
   ·obtain ⟨fuel, rfl⟩ : ∃ f, fuel = f + 1 := ⟨fuel - 1, by omega⟩
    have hto : ∀ i, i ∈ Region.ready .any l1.toArray listed1 → i ∈ Region.ready .any (l1 ++ l2).toArray listed := fun i hi => by
     obtain ⟨hun, o, ho, hall⟩ := mem_ready.1 hi
     rw [List.getElem?_toArray] at ho
     have hlt := (List.getElem?_eq_some_iff.1 ho).1
     refine mem_ready.2 ⟨getD_inn (by rw [h2, List.length_append]; omega) (by rw [h3 i hlt]; exact getD_two hun), o, by rw [List.getElem?_toArray, List.getElem?_append_left hlt]; exact ho, fun e he hb => ?_⟩
     have hlt2 := backFrom_at hback1 i o ho e he hb
     rw [h3 _ (by omega)]
     exact hall e he hb
    refine ⟨fun hn => ?_, fun i hi => ?_⟩
    ·obtain ⟨i, hi⟩ := List.exists_mem_of_ne_nil _ hr
     have := hto i hi
     rw [hn] at this
     cases this
    ·obtain ⟨hun, o, ho, hall⟩ := mem_ready.1 hi
     have hget := ho
     rw [List.getElem?_toArray] at ho
     have hlt : i < l1.length := by
      rcases Nat.lt_or_ge i l1.length with h | h
      ·exact h
      ·exfalso
       rw [List.getElem?_append_right h] at ho
       obtain ⟨j, hj⟩ := List.exists_mem_of_ne_nil _ hr
       obtain ⟨hun2, oj, hoj, _⟩ := mem_ready.1 hj
       rw [List.getElem?_toArray] at hoj
       have hjl := (List.getElem?_eq_some_iff.1 hoj).1
       rcases seqFrom_at hseq (i - l1.length) o ho j (by omega) with hon | ⟨k', hk', _, hon⟩ | ⟨e, he, hb, hbl⟩
       ·obtain ⟨e, he, hb, heq⟩ := onB_spec hon
        have := hall e he hb
        rw [heq, h3 j hjl, getD_two hun2] at this
        cases this
       ·obtain ⟨e, he, hb, heq⟩ := onB_spec hon
        have := hall e he hb
        rw [heq, h4 _ hk'] at this
        cases this
       ·have hcl2 : ∀ j oj, (l1 ++ l2)[j]? = some oj → listed.getD j false = true → ∀ e ∈ oj.after, Region.binds .any e = true → listed.getD e.on false = true := fun j oj hj hlj e he hb => by
         rcases Nat.lt_or_ge j l1.length with h | h
         ·rw [List.getElem?_append_left h] at hj
          have hlt := backFrom_at hback1 j oj hj e he hb
          rw [h3 _ (by omega)]
          exact hcl j oj hj (by rw [← h3 j h]; exact hlj) e he hb
         ·rw [h4 j h] at hlj; cases hlj
        have := blk_listed hcl2 j _ e.on hbl (hall e he hb)
        rw [h3 j hjl, getD_two hun2] at this
        cases this
     rw [List.getElem?_append_left hlt] at ho
     have hi1 : i ∈ Region.ready .any l1.toArray listed1 := by
      refine mem_ready.2 ⟨getD_inn (by rw [h1]; exact hlt) (by rw [← h3 i hlt]; exact getD_two hun), o, by rw [List.getElem?_toArray]; exact ho, fun e he hb => ?_⟩
      have hlt2 := backFrom_at hback1 i o ho e he hb
      rw [← h3 _ (by omega)]
      exact hall e he hb
     have hst := hwp.2 i hi1
     have hget1 : l1.toArray[i]? = some o := by rw [List.getElem?_toArray]; exact ho
     rw [wpOp_get hget1] at hst
     rw [wpOp_get hget]
     have next : ∀ a w, wpAny P .any l1.toArray (Exit.then (wpList P (l1 ++ l2).toArray Q l2) Q) fuel1 (listed1.setIfInBounds i true) a w → wpAny P .any (l1 ++ l2).toArray Q fuel (listed.setIfInBounds i true) a w := fun a w h => by
      refine ih fuel _ _ a w (by omega) (by simpa using h1) (by simpa using h2) (fun j hj => ?_) (fun j hj => ?_) ?_ h
      ·by_cases e : i = j
       ·subst e
        have q1 : i < listed.size := by rw [h2, List.length_append]; omega
        have q2 : i < listed1.size := by omega
        simp [q1, q2]
       ·rw [getD_set_ne false e, getD_set_ne false e]; exact h3 j hj
      ·rw [getD_set_ne false (by omega)]; exact h4 j hj
      ·intro j oj hj hlj e he hb
       by_cases hij : i = j
       ·subst hij
        have : oj = o := Option.some.inj (hj.symm.trans ho)
        subst this
        have hlt2 := backFrom_at hback1 i oj ho e he hb
        have h5 := hall e he hb
        rw [h3 _ (by omega)] at h5
        exact getD_set_true h5
       ·rw [getD_set_ne false hij] at hlj
        exact getD_set_true (hcl j oj hj hlj e he hb)
     have hwt : Region.wanted o (yielded (l1 ++ l2).toArray a.tmps) = Region.wanted o (yielded l1.toArray a.tmps) := by
      rw [wanted_eq, wanted_eq]
      unfold wantedBy
      have hgo := List.all_eq_true.1 hg o (List.mem_of_getElem? ho)
      cases hgd : o.guard with
      | none => rfl
      | some gb =>
        obtain ⟨g, b⟩ := gb
        rw [hgd] at hgo
        simp only [decide_eq_true_eq] at hgo
        simp only [List.getElem?_append_left hgo]
     rw [hwt]
     by_cases hw : Region.wanted o (yielded l1.toArray a.tmps) = true
     ·rw [if_pos hw] at hst ⊢
      exact hst.imp (fun h => Oper.wp_mono next (then_wp h)) fun h => ⟨h.1, then_lets h.2⟩
     ·rw [if_neg hw] at hst ⊢
      exact next _ _ hst
theorem wp_region_split {id : Nat} {d : Bool} {l : List Oper} {a : Act} {w : World} (m : Nat) (h : (Code.region id (l.take m ++ l.drop m).toArray d).wp P Q a w) : (Code.region id l.toArray d).wp P Q a w := by
 rwa [List.take_append_drop] at h
theorem wp_any_split_at {id : Nat} {d : Bool} {a : Act} {w : World} {n : Nat} {Γ : Env} (hA : At n Γ a) (F : List Fact) (Ph : List Phase) (C : World → Prop) (T : Nat → World → World → Prop) (hm : P.follows .mixedOrders = true) (hdr : d = true) (hB : checkB l1 n = true) (hdB : dstsB l1 n = true) (hFl : F.length = l1.length)
 (hseq : seqFrom (l1 ++ l2) l1.length l1.length l2 = true) (hback : backFrom l1.length l2 = true) (hback1 : backFrom 0 l1 = true) (hg : (l1.all fun o => match o.guard with | some (g, _) => decide (g < l1.length) | none => true) = true) (hC : C { w with drawn := w.drawn + 1 })
 (hstab : ∀ i j x w w', needB l1 F i j = true → i ≠ j → C w → (F.getD j (.det undef)).says x w → T i w w' → (F.getD j (.det undef)).says x w')
 (hph0 : ∀ ph ∈ Ph, ph.start = none → ph.p (sig a.eval) { w with drawn := w.drawn + 1 })
 (hph : ∀ i (ph : Phase) σ w w', ph ∈ Ph → ph.start ≠ some i → ph.upto ≠ some i → liveB l1 i ph.start ph.upto = true → C w → ph.p σ w → T i w w' → ph.p σ w')
 (hpl : ∀ ph ∈ Ph, ∀ a, ph.start = some a → a < l1.length)
 (hob : ObAll P l1 F Ph C T a.tmps 0 l1)
 (hlk : lkB l1 (Ph.map fun ph => (ph.start, ph.looks)) = true)
 (hfin : ∀ σ w', C w' → (∀ ph ∈ Ph, ph.upto = none → ph.p σ w') → FinE σ (fun Γ => ∀ a', At n Γ a' → wpList P (l1 ++ l2).toArray Q l2 a' w') w' (l1.zip F) Γ) : (Code.region id (l1 ++ l2).toArray d).wp P Q a w := by
 subst hdr
 have h1 := wpAny_facts (P := P) (l := l1) (Q := Exit.then (wpList P (l1 ++ l2).toArray Q l2) Q) (a := a) (w := w) n F Ph C T hA.size hB hFl hC hstab hph0 hph hpl (ob_all hob) hlk fun σ w' hC' hp' => by
  refine fin_env (Q := Exit.then (wpList P (l1 ++ l2).toArray Q l2) Q) hA.defers _ _ Γ (fun p hp t ht => ?_) hA (hfin σ w' hC' hp')
  have hpl := (List.of_mem_zip (a := p.1) (b := p.2) hp).1
  unfold dstsB at hdB
  have := List.all_eq_true.1 hdB p.1 hpl
  rw [ht] at this
  simpa using this
 refine wp_region_any hm (wpAny_split hseq hback hback1 hg _ _ _ _ a _ ?_ ?_ ?_ (fun i hi => ?_) (fun i hi => ?_) (fun j oj _ hl => ?_) h1)
 ·simp
 ·simp
 ·simp
 ·rw [Array.getD_eq_getD_getElem?, Array.getD_eq_getD_getElem?, Array.getElem?_replicate, Array.getElem?_replicate]
  split <;> split <;> rfl
 ·rw [Array.getD_eq_getD_getElem?, Array.getElem?_replicate]
  split <;> rfl
 ·exfalso
  rw [Array.getD_eq_getD_getElem?, Array.getElem?_replicate] at hl
  split at hl <;> cases hl
end
end Go.Proofs.YtkljkbeahdipfaaGreatDoor
/-
  Walks: a note is taken into a log ((*log.Log).take).
-/
namespace Go.Proofs.YtkljkbeahdipfaaGreatDoor
open Go.RowKit
set_option linter.unusedSimpArgs false
set_option linter.unusedVariables false
def liveL (x : LiveV) : Nat × Nat × Int × Int × List UInt8 × Nat := (x.ep, x.m.uid, x.m.date, x.m.flags, x.m.b, x.at_)
def noteL (n : NoteB) : Nat × Nat × Int × Int × List UInt8 × Nat := (n.ep, n.u, n.d, n.f, n.o, n.at_)
theorem behind_any (u : Nat) (hu : u < 4294967296) (w : World) : Calls Tryz.prog 124 #[.int .u32 (u : Nat)] w fun ev w' => ev = .returned (.int .u32 (behindN u : Nat)) ∧ w' = w := by
 refine calls_at 8 Tryz.func124 rfl rfl (Nat.le_of_ble_eq_true rfl) ?_
 intro a hA; replace hA := hA.norm
 refine wS (wR ?_)
 revert a; refine wo rfl rfl (by decide) (fun ev e h => by simp [go_sem, h] <;> rfl) ?_; intro a hA
 replace hA := hA.keepN [0]
 refine wN (nT (wS (wS (wR ?_))))
 revert a; (iterate 2 refine wo rfl rfl (by decide) (fun ev e h => by simp [go_sem, h] <;> rfl) ?_); intro a hA
 replace hA := hA.keepN [0, 4]
 refine wN (nT ?_)
 refine wp_if hA 4 _ rfl (fun hq => ?yA) (fun hq => ?nA)
 case yA =>
  have hq : u = 4294967295 := by simp at hq; omega
  refine wS (wR ?_)
  revert a; (iterate 2 refine wo rfl rfl (by decide) (fun ev e h => by simp [go_sem, h] <;> rfl) ?_); intro a hA
  replace hA := hA.keepN [2]
  refine wN (nT (wp_ret (rT ?_)))
  refine ret_1 hA 2 rfl rfl ?_
  exact ⟨by unfold behindN; rw [if_pos hq, hq], rfl⟩
 case nA =>
  have hq : ¬ u = 4294967295 := by simp at hq; omega
  have hw : IntKind.u32.wrap ((u : Int) + 1) = (u : Int) + 1 := IntWalk.u32_in _ (by omega)
  refine wp_skip (nT (wS (wR ?_)))
  revert a; (iterate 3 refine wo rfl rfl (by decide) (fun ev e h => by simp [go_sem, h, hw] <;> rfl) ?_); intro a hA
  replace hA := hA.keepN [2]
  refine wN (nT (wp_ret ?_))
  refine ret_1 hA 2 rfl rfl ?_
  exact ⟨by unfold behindN; rw [if_neg hq]; rfl, rfl⟩
set_option maxRecDepth 100000 in
set_option maxHeartbeats 2000000 in
theorem take_any (pl B : Nat) (k : Int) (e : Nat) (nm : ByteArray) (m : MsgV) (at_ : Nat) (s : LogS) (z : Int) (cl : Bool) (v : Value) (L : List LiveV) (w : World)
 (hk : k = 1 ∨ k = 2 ∨ k = 3) (hpl : pl < B) (hBw : B ≤ w.heap.size) (KL : Blk w pl 118 #[.string s.nm, .int .u32 (s.ep : Nat), .int .u32 (s.nx : Nat), v, .int .i64 z, .bool cl]) (ho : OwnR liveSh B w v L) (hL : L.length ≤ 16000000)
 (hlv : L.map liveL = s.live.map noteL) (hm : ReadsP w (m.a, m.b)) (hoff : ∀ g, v.ownBlock = some g → OffP g (m.a, m.b)) (hu : m.uid < 4294967296) (n : NoteB) (hn : n = ⟨k, e, nm, m.uid, m.date, m.flags, m.b, at_⟩) :
 Calls Tryz.prog 119 #[.pointer (some ⟨pl, 0, none⟩), .agg #[.int .i64 k, .int .u32 (e : Nat), .string nm, .int .u32 (m.uid : Nat), .int .i64 m.date, .int .i64 m.flags, .slice m.a m.b.length m.c], .int .i64 (at_ : Nat)] w
  fun ev w' => ev = .returned (.tuple #[]) ∧ ∃ v' L', Blk w' pl 118 #[.string (takeN s n).nm, .int .u32 ((takeN s n).ep : Nat), .int .u32 ((takeN s n).nx : Nat), v', .int .i64 z, .bool cl] ∧ OwnR liveSh B w' v' L' ∧ L'.map liveL = (takeN s n).live.map noteL ∧ Below pl w w' := by
 obtain ⟨A0, c0, hv, _⟩ := ho.reads
 subst hv
 refine calls_at 83 Tryz.func119 rfl rfl (Nat.le_of_ble_eq_true rfl) ?_
 intro a hA; replace hA := hA.norm
 refine wS (wR ?_)
 refine wl_new hA rfl rfl (by decide) (fun ev h => by simp [go_sem, h.get 1 rfl]; try first | exact ⟨rfl, rfl⟩ | rfl) fun w1 a (Kn : Blk _ _ _ _) hz1 hb1 hA => ?_
 replace KL := KL.below hb1 KL.lt
 replace ho := ho.below hb1
 have hpw : pl < w.heap.size := by omega
 have HB : Below pl w w1 := hb1.mono (by omega)
 have hm1 := hm.below hb1
 obtain ⟨pn, hpn⟩ : ∃ x, w.heap.size = x := ⟨_, rfl⟩
 rw [hpn] at Kn hA
 have hplB : pl < pn := by omega
 have hBn : B ≤ pn := by omega
 have hz : pn < w1.heap.size := Kn.lt
 replace hA := hA.keepN [0, 2, 4]
 have pA := fun (wo : World) (hC : (fun wy => Below w1.heap.size w1 wy) wo) => have Kx := KL.below hC KL.lt; have Ky := Kn.below hC Kn.lt; And.intro (Kx.cell) (Ky.cell)
 refine wN (nT (wS (wS ?_)))
 refine wp_any_at hA [(.det ?dA0), (.det ?dA1), (.det ?dA2), (.det ?dA3), (.det ?dA4), (.det ?dA5), (.det ?dA6)] [] (fun wy => Below w1.heap.size w1 wy) (TSp [] Grows) (by kernel_rfl) rfl (by kernel_rfl) (by kernel_rfl) rfl ((Below.refl _ _).drew) (stab_sp [] [true, true, true, true, true, true, true] [true, true, true, true, true, true, true] [] rfl rfl rfl (by kernel_rfl) ⟨trivial, trivial, trivial, trivial, trivial, trivial, trivial, trivial⟩ trivial) (fun _ h => by cases h) (fun _ _ _ _ _ h => by cases h) (fun _ h => by cases h) ⟨?oA0, ?oA1, ?oA2, ?oA3, ?oA4, ?oA5, ?oA6, trivial⟩ (by kernel_rfl) ?fA
 case oA0 => intro ev wo hev hC hs hph; have x0 := se hA hs 4; exact od rfl rfl (by kernel_rfl) hC (TSp.of rfl (Grows.refl _)) (by simp [go_sem, x0] <;> rfl)
 case oA1 => intro ev wo hev hC hs hph; have x0 := sd hs 6 0; exact od rfl rfl (by kernel_rfl) hC (TSp.of rfl (Grows.refl _)) (by simp [go_sem, x0, pA _ hC] <;> rfl)
 case oA2 => intro ev wo hev hC hs hph; have x0 := se hA hs 0; exact od rfl rfl (by kernel_rfl) hC (TSp.of rfl (Grows.refl _)) (by simp [go_sem, x0] <;> rfl)
 case oA3 => intro ev wo hev hC hs hph; have x0 := sd hs 8 2; exact od rfl rfl (by kernel_rfl) hC (TSp.of rfl (Grows.refl _)) (by simp [go_sem, x0] <;> rfl)
 case oA4 => intro ev wo hev hC hs hph; have x0 := sd hs 9 3; exact od rfl rfl (by kernel_rfl) hC (TSp.of rfl (Grows.refl _)) (by simp [go_sem, x0] <;> rfl)
 case oA5 => intro ev wo hev hC hs hph; have x0 := sd hs 10 4; exact od rfl rfl (by kernel_rfl) hC (TSp.of rfl (Grows.refl _)) (by simp [go_sem, x0, pA _ hC] <;> rfl)
 case oA6 => intro ev wo hev hC hs hph; have x0 := sd hs 7 1; have x1 := sd hs 11 5; exact od rfl rfl (by kernel_rfl) hC (TSp.of rfl (Grows.refl _)) (by simp [go_sem, x0, x1] <;> rfl)
 intro sg wf hC hph
 intro a hA
 replace hA := hA.keepN [0, 2, 4, 12]
 refine nT ?_
 replace KL := KL.below hC KL.lt
 replace Kn := Kn.below hC Kn.lt
 replace ho := ho.below hC
 replace hm1 := hm1.below hC
 replace HB := HB.trans (hC.mono (by omega))
 clear hC hb1 hz1
 have hne : n.ep = e := by rw [hn]
 have hnk : n.k = k := by rw [hn]
 have hnu : n.u = m.uid := by rw [hn]
 have hnm : n.nm = nm := by rw [hn]
 refine wp_join (fun a wx => At 83 [(0, .pointer (some ⟨pl, 0, none⟩)), (2, .int .i64 (at_ : Nat)), (4, .pointer (some ⟨pn, 0, none⟩))] a ∧ Blk wx pl 118 #[.string s.nm, .int .u32 (epN s n : Nat), .int .u32 ((if s.ep < n.ep then 1 else s.nx : Nat) : Int), .slice A0 L.length c0, .int .i64 z, .bool cl] ∧ Blk wx pn 109 (noteC k e nm m) ∧ OwnR liveSh B wx (.slice A0 L.length c0) L ∧ ReadsP wx (m.a, m.b) ∧ Below pl w wx) ?jfJ ?jrJ
 case jfJ =>
  refine wp_if hA 12 _ rfl (fun hq => ?yA1) (fun hq => ?nA1)
  case nA1 =>
   have hq : ¬ s.ep < e := by simpa using hq
   replace hA := hA.keepN [0, 2, 4]
   refine wp_skip (nT ?_)
   refine ⟨hA, ?_, Kn, ho, hm1, HB⟩
   unfold epN
   rw [hne, if_neg hq, if_neg hq]
   exact KL
  case yA1 =>
   have hq : s.ep < e := by simpa using hq
   refine wR ?_
   revert a; (iterate 6 refine wo rfl rfl (by decide) (fun ev e h => by simp [go_sem, h, Kn.cell] <;> rfl) ?_); intro a hA
   have KL0 := KL
   refine wl_setf ([.string s.nm, .int .u32 (e : Nat), .int .u32 (s.nx : Nat), .slice A0 L.length c0, .int .i64 z, .bool cl]) _ hA rfl rfl KL (j := 1) (by rfl) (fun ev h => by simp [go_sem, h.get 18 rfl, h.get 16 rfl, Kn.cell, KL.cell, KL.frozen]; try first | exact ⟨rfl, rfl⟩ | rfl) fun w2 (KL : Blk _ _ _ _) hs2 => ?_
   revert a; (iterate 2 refine wo rfl rfl (by decide) (fun ev e h => by simp [go_sem, h, Kn.cell] <;> rfl) ?_); intro a hA
   refine wl_setf ([.string s.nm, .int .u32 (e : Nat), .int .u32 1, .slice A0 L.length c0, .int .i64 z, .bool cl]) _ hA rfl rfl KL (j := 2) (by rfl) (fun ev h => by simp [go_sem, h.c, h.get 20 rfl, Kn.cell, KL.cell, KL.frozen]; try first | exact ⟨rfl, rfl⟩ | rfl) fun w3 (KL : Blk _ _ _ _) hs3 => ?_
   have hs := hs2.trans hs3
   replace hA := hA.keepN [0, 2, 4]
   refine wN (nT ?_)
   refine ⟨hA, ?_, hs.blk Kn (by omega), ho.onlyK hs KL0 (by decide) rfl, reads_only hm1 hs KL0 rfl, hs.below HB (Nat.le_refl _)⟩
   unfold epN
   rw [hne, if_pos hq, if_pos hq]
   exact KL
 clear KL Kn ho hm1 HB
 rintro a wx ⟨hA, KL, Kn, ho, hm1, HB⟩
 obtain ⟨E, hE⟩ : ∃ E, epN s n = E := ⟨_, rfl⟩
 obtain ⟨X, hX⟩ : ∃ X, (if s.ep < n.ep then 1 else s.nx) = X := ⟨_, rfl⟩
 rw [hE, hX] at KL
 unfold noteC at Kn
 have pB := fun (wo : World) (hC : (fun wy => Below wx.heap.size wx wy) wo) => have Kx := KL.below hC KL.lt; have Ky := Kn.below hC Kn.lt; And.intro (Kx.cell) (Ky.cell)
 refine wS (wS ?_)
 refine wp_any_at hA [(.det ?dB0), (.det ?dB1), (.det ?dB2), (.det ?dB3), (.det ?dB4), (.det ?dB5), (.det ?dB6), (.det ?dB7), (.det ?dB8), (.det ?dB9), (.det ?dB10), (.det ?dB11)] [] (fun wy => Below wx.heap.size wx wy) (TSp [] Grows) (by kernel_rfl) rfl (by kernel_rfl) (by kernel_rfl) rfl ((Below.refl _ _).drew) (stab_sp [] [true, true, true, true, true, true, true, true, true, true, true, true] [true, true, true, true, true, true, true, true, true, true, true, true] [] rfl rfl rfl (by kernel_rfl) ⟨trivial, trivial, trivial, trivial, trivial, trivial, trivial, trivial, trivial, trivial, trivial, trivial, trivial⟩ trivial) (fun _ h => by cases h) (fun _ _ _ _ _ h => by cases h) (fun _ h => by cases h) ⟨?oB0, ?oB1, ?oB2, ?oB3, ?oB4, ?oB5, ?oB6, ?oB7, ?oB8, ?oB9, ?oB10, ?oB11, trivial⟩ (by kernel_rfl) ?fB
 case oB0 => intro ev wo hev hC hs hph; have x0 := se hA hs 4; exact od rfl rfl (by kernel_rfl) hC (TSp.of rfl (Grows.refl _)) (by simp [go_sem, x0] <;> rfl)
 case oB1 => intro ev wo hev hC hs hph; have x0 := sd hs 21 0; exact od rfl rfl (by kernel_rfl) hC (TSp.of rfl (Grows.refl _)) (by simp [go_sem, x0, pB _ hC] <;> rfl)
 case oB2 => intro ev wo hev hC hs hph; have x0 := se hA hs 0; exact od rfl rfl (by kernel_rfl) hC (TSp.of rfl (Grows.refl _)) (by simp [go_sem, x0] <;> rfl)
 case oB3 => intro ev wo hev hC hs hph; have x0 := sd hs 23 2; exact od rfl rfl (by kernel_rfl) hC (TSp.of rfl (Grows.refl _)) (by simp [go_sem, x0] <;> rfl)
 case oB4 => intro ev wo hev hC hs hph; have x0 := sd hs 24 3; exact od rfl rfl (by kernel_rfl) hC (TSp.of rfl (Grows.refl _)) (by simp [go_sem, x0] <;> rfl)
 case oB5 => intro ev wo hev hC hs hph; have x0 := sd hs 25 4; exact od rfl rfl (by kernel_rfl) hC (TSp.of rfl (Grows.refl _)) (by simp [go_sem, x0, pB _ hC] <;> rfl)
 case oB6 => intro ev wo hev hC hs hph; have x0 := sd hs 22 1; have x1 := sd hs 26 5; exact od rfl rfl (by kernel_rfl) hC (TSp.of rfl (Grows.refl _)) (by simp [go_sem, x0, x1] <;> rfl)
 case oB7 => intro ev wo hev hC hs hph; have x0 := sd hs 27 6; exact od rfl rfl (by kernel_rfl) hC (TSp.of rfl (Grows.refl _)) (by simp [go_sem, x0] <;> rfl)
 case oB8 => intro ev wo hev hC hs hph; have x0 := se hA hs 4; have y := sd hs 28 7; exact ob_gv _ rfl rfl y rfl (by kernel_rfl) hC (TSp.of rfl (Grows.refl _)) (fun hq => by simp [go_sem, x0] <;> rfl) (by rfl)
 case oB9 => intro ev wo hev hC hs hph; have x0 := sd hs 29 8; have y := sd hs 28 7; exact ob_gv _ rfl rfl y rfl (by kernel_rfl) hC (TSp.of rfl (Grows.refl _)) (fun hq => by simp [go_sem, (x0.trans (gw_t (beq_t hq))), pB _ hC] <;> rfl) (by rfl)
 case oB10 => intro ev wo hev hC hs hph; have x0 := sd hs 30 9; have y := sd hs 28 7; exact ob_gv _ rfl rfl y rfl (by kernel_rfl) hC (TSp.of rfl (Grows.refl _)) (fun hq => by simp [go_sem, (x0.trans (gw_t (beq_t hq))), hev.const] <;> rfl) (by rfl)
 case oB11 => intro ev wo hev hC hs hph; have x0 := sd hs 28 7; have x1 := sd hs 31 10; exact od rfl rfl (by kernel_rfl) hC (TSp.of rfl (Grows.refl _)) (by rw [pick_and rfl x0 x1 (hev.const _)] <;> rfl)
 intro sg wf hC hph
 intro a hA
 replace hA := hA.keepN [0, 2, 4, 32]
 refine nT ?_
 replace KL := KL.below hC KL.lt
 replace Kn := Kn.below hC Kn.lt
 replace ho := ho.below hC
 replace hm1 := hm1.below hC
 replace HB := HB.trans (hC.mono (by have := KL.lt; have := HB.size; omega))
 clear hC
 have hnxe : nxN s n = if (E == e && !(k == 1)) = true then max X (behindN m.uid) else X := by
  unfold nxN
  rw [hE, hX, hne, hnk, hnu]
 refine wp_join (fun a wx => At 83 [(0, .pointer (some ⟨pl, 0, none⟩)), (2, .int .i64 (at_ : Nat)), (4, .pointer (some ⟨pn, 0, none⟩))] a ∧ Blk wx pl 118 #[.string s.nm, .int .u32 (E : Nat), .int .u32 (nxN s n : Nat), .slice A0 L.length c0, .int .i64 z, .bool cl] ∧ Blk wx pn 109 (noteC k e nm m) ∧ OwnR liveSh B wx (.slice A0 L.length c0) L ∧ ReadsP wx (m.a, m.b) ∧ Below pl w wx) ?jfJ2 ?jrJ2
 case jfJ2 =>
  refine wp_if hA 32 _ rfl (fun hq => ?yB1) (fun hq => ?nB1)
  case nB1 =>
   have hqn : ¬ (E == e && !(k == 1)) = true := by
    rw [nat_eq] at hq
    rw [show (E == e) = (e == E) by rw [Bool.eq_iff_iff, beq_iff_eq, beq_iff_eq]; exact eq_comm]
    show ¬ (e == E && k != 1) = true
    rw [hq]
    decide
   rw [if_neg hqn] at hnxe
   replace hA := hA.keepN [0, 2, 4]
   refine wp_skip (nT ?_)
   refine ⟨hA, ?_, Kn, ho, hm1, HB⟩
   rw [hnxe]
   exact KL
  case yB1 =>
   have hqy : (E == e && !(k == 1)) = true := by
    rw [nat_eq] at hq
    rw [show (E == e) = (e == E) by rw [Bool.eq_iff_iff, beq_iff_eq, beq_iff_eq]; exact eq_comm]
    exact hq
   rw [if_pos hqy] at hnxe
   have pC4 := fun (wo : World) (hC : (fun wy => Below wf.heap.size wf wy) wo) => have Kx := KL.below hC KL.lt; have Ky := Kn.below hC Kn.lt; And.intro (Kx.cell) (Ky.cell)
   refine wp_region_split 10 ?_
   simp only [List.take_succ_cons, List.take_zero, List.drop_succ_cons, List.drop_zero]
   refine wp_any_split_at hA [(.det ?dC40), (.det ?dC41), (.det ?dC42), (.det ?dC43), (.det ?dC44), (.det ?dC45), (.det ?dC46), (.det ?dC47), (.det ?dC48), (.det ?dC49)] [] (fun wy => Below wf.heap.size wf wy) (TSp [] Grows) (by kernel_rfl) rfl (by kernel_rfl) (by kernel_rfl) rfl (by kernel_rfl) (by kernel_rfl) (by kernel_rfl) (by kernel_rfl) ((Below.refl _ _).drew) (stab_sp [] [true, true, true, true, true, true, true, true, true, true] [true, true, true, true, true, true, true, true, true, true] [] rfl rfl rfl (by kernel_rfl) ⟨trivial, trivial, trivial, trivial, trivial, trivial, trivial, trivial, trivial, trivial, trivial⟩ trivial) (fun _ h => by cases h) (fun _ _ _ _ _ h => by cases h) (fun _ h => by cases h) ⟨?oC40, ?oC41, ?oC42, ?oC43, ?oC44, ?oC45, ?oC46, ?oC47, ?oC48, ?oC49, trivial⟩ (by kernel_rfl) ?fC4
   case oC40 => intro ev wo hev hC hs hph; have x0 := se hA hs 0; exact od rfl rfl (by kernel_rfl) hC (TSp.of rfl (Grows.refl _)) (by simp [go_sem, x0] <;> rfl)
   case oC41 => intro ev wo hev hC hs hph; have x0 := se hA hs 0; exact od rfl rfl (by kernel_rfl) hC (TSp.of rfl (Grows.refl _)) (by simp [go_sem, x0] <;> rfl)
   case oC42 => intro ev wo hev hC hs hph; have x0 := sd hs 34 1; exact od rfl rfl (by kernel_rfl) hC (TSp.of rfl (Grows.refl _)) (by simp [go_sem, x0] <;> rfl)
   case oC43 => intro ev wo hev hC hs hph; have x0 := sd hs 35 2; exact od rfl rfl (by kernel_rfl) hC (TSp.of rfl (Grows.refl _)) (by simp [go_sem, x0] <;> rfl)
   case oC44 => intro ev wo hev hC hs hph; have x0 := sd hs 36 3; exact od rfl rfl (by kernel_rfl) hC (TSp.of rfl (Grows.refl _)) (by simp [go_sem, x0, pC4 _ hC] <;> rfl)
   case oC45 => intro ev wo hev hC hs hph; have x0 := se hA hs 4; exact od rfl rfl (by kernel_rfl) hC (TSp.of rfl (Grows.refl _)) (by simp [go_sem, x0] <;> rfl)
   case oC46 => intro ev wo hev hC hs hph; have x0 := sd hs 38 5; exact od rfl rfl (by kernel_rfl) hC (TSp.of rfl (Grows.refl _)) (by simp [go_sem, x0] <;> rfl)
   case oC47 => intro ev wo hev hC hs hph; have x0 := sd hs 39 6; exact od rfl rfl (by kernel_rfl) hC (TSp.of rfl (Grows.refl _)) (by simp [go_sem, x0, pC4 _ hC] <;> rfl)
   case oC48 =>
    intro ev wo hev hC hs hph
    have e40 := sd hs 40 7
    have Kx := KL.below hC KL.lt
    have Ky := Kn.below hC Kn.lt
    exact ob_dcall (wanted_none rfl) rfl (by kernel_rfl) ((behind_any m.uid hu wo).mono fun e' w' h => ⟨h.1, h.2 ▸ Below.refl _ _⟩) (exec_call Tryz.func124 (by kernel_rfl) rfl (hev.func _) (by first | (simp only [mL, e40, hev.const] <;> rfl) | (simp [mL, e40, hev.const] <;> rfl))) (by rfl) (fun w3 hb3 => ⟨hC.trans (hb3.mono hC.size), TSp.of rfl hb3⟩)
   case oC49 => intro ev wo hev hC hs hph; have x0 := sd hs 37 4; have x1 := sd hs 41 8; exact od rfl rfl (by kernel_rfl) hC (TSp.of rfl (Grows.refl _)) (by simp [go_sem, x0, x1] <;> rfl)
   intro sg wf hC hph
   intro a hA
   replace hA := hA.keepN [0, 2, 4, 33, 42]
   replace KL := KL.below hC KL.lt
   replace Kn := Kn.below hC Kn.lt
   replace ho := ho.below hC
   replace hm1 := hm1.below hC
   replace HB := HB.trans (hC.mono (by have := KL.lt; have := HB.size; omega))
   clear hC
   have KL0 := KL
   revert a; (iterate 2 refine wo rfl rfl (by decide) (fun ev e h => by simp [go_sem, h] <;> rfl) ?_); intro a hA
   refine wl_setf ([.string s.nm, .int .u32 (E : Nat), .int .u32 (max (X : Int) (behindN m.uid : Int)), .slice A0 L.length c0, .int .i64 z, .bool cl]) _ hA rfl rfl KL (j := 2) (by rfl) (fun ev h => by simp [go_sem, h.get 44 rfl, h.get 42 rfl, KL.cell, KL.frozen]; try first | exact ⟨rfl, rfl⟩ | rfl) fun w5 (KL : Blk _ _ _ _) hs5 => ?_
   replace hA := hA.keepN [0, 2, 4]
   refine wN (nT ?_)
   refine ⟨hA, ?_, hs5.blk Kn (by omega), ho.onlyK hs5 KL0 (by decide) rfl, reads_only hm1 hs5 KL0 rfl, hs5.below HB (Nat.le_refl _)⟩
   rw [hnxe, show ((max X (behindN m.uid) : Nat) : Int) = max (X : Int) (behindN m.uid : Int) by omega]
   exact KL
 clear KL Kn ho hm1 HB
 rintro a wx ⟨hA, KL, Kn, ho, hm1, HB⟩
 obtain ⟨N, hN⟩ : ∃ N, nxN s n = N := ⟨_, rfl⟩
 rw [hN] at KL
 unfold noteC at Kn
 refine wS (wS (wR ?_))
 revert a; (iterate 3 refine wo rfl rfl (by decide) (fun ev e h => by simp [go_sem, h, KL.cell, Kn.cell] <;> rfl) ?_); intro a hA
 replace hA := hA.keepN [0, 2, 4, 47]
 refine wN (nT ?_)
 refine wp_join (fun a wx => At 83 [(0, .pointer (some ⟨pl, 0, none⟩)), (2, .int .i64 (at_ : Nat)), (4, .pointer (some ⟨pn, 0, none⟩))] a ∧ Blk wx pl 118 #[.string (takeN s n).nm, .int .u32 (E : Nat), .int .u32 (N : Nat), .slice A0 L.length c0, .int .i64 z, .bool cl] ∧ Blk wx pn 109 (noteC k e nm m) ∧ OwnR liveSh B wx (.slice A0 L.length c0) L ∧ ReadsP wx (m.a, m.b) ∧ Below pl w wx) ?jfJ3 ?jrJ3
 case jfJ3 =>
  have htn : (takeN s n).nm = bif k == 3 then s.nm else nm := by
   unfold takeN
   rw [hnk, hnm]
  refine wp_if hA 47 _ rfl (fun hq => ?yC1) (fun hq => ?nC1)
  case nC1 =>
   have hq : (k == 3) = true := by simpa using hq
   replace hA := hA.keepN [0, 2, 4]
   refine wp_skip (nT ?_)
   refine ⟨hA, ?_, Kn, ho, hm1, HB⟩
   rw [htn, hq]
   exact KL
  case yC1 =>
   have hq : (k == 3) = false := by simpa using hq
   have KL0 := KL
   refine wR ?_
   revert a; (iterate 5 refine wo rfl rfl (by decide) (fun ev e h => by simp [go_sem, h, Kn.cell] <;> rfl) ?_); intro a hA
   refine wl_setf ([.string nm, .int .u32 (E : Nat), .int .u32 (N : Nat), .slice A0 L.length c0, .int .i64 z, .bool cl]) _ hA rfl rfl KL (j := 0) (by rfl) (fun ev h => by simp [go_sem, h.get 52 rfl, h.get 50 rfl, Kn.cell, KL.cell, KL.frozen]; try first | exact ⟨rfl, rfl⟩ | rfl) fun w6 (KL : Blk _ _ _ _) hs6 => ?_
   replace hA := hA.keepN [0, 2, 4]
   refine wN (nT ?_)
   refine ⟨hA, ?_, hs6.blk Kn (by omega), ho.onlyK hs6 KL0 (by decide) rfl, reads_only hm1 hs6 KL0 rfl, hs6.below HB (Nat.le_refl _)⟩
   rw [htn, hq]
   exact KL
 clear KL Kn ho hm1 HB
 rintro a wx ⟨hA, KL, Kn, ho, hm1, HB⟩
 have hlvt : (takeN s n).live = liveN s.live n := rfl
 have hept : (takeN s n).ep = E := hE
 have hnxt : (takeN s n).nx = N := hN
 rw [hept, hnxt, hlvt]
 unfold noteC at Kn
 refine wS (wR ?_)
 revert a; (iterate 2 refine wo rfl rfl (by decide) (fun ev e h => by simp [go_sem, h, KL.cell, Kn.cell] <;> rfl) ?_); intro a hA
 replace hA := hA.keepN [0, 2, 4, 54]
 refine wN (nT (wB (wS (wR ?_))))
 revert a; (iterate 2 refine wo rfl rfl (by decide) (fun ev e h => by simp [go_sem, h, KL.cell, Kn.cell] <;> rfl) ?_); intro a hA
 replace hA := hA.keepN [0, 2, 4, 54, 55]
 refine wN (nT ?_)
 have hBx : B ≤ wx.heap.size := by have := Kn.lt; omega
 have hln : noteL n = (e, m.uid, m.date, m.flags, m.b, at_) := by rw [hn]; rfl
 refine wp_if hA 55 _ rfl (fun hq => ?yD) (fun hq => ?nD)
 case yD =>
  have hq : (k == 2) = true := hq
  have hnew : liveN s.live n = s.live ++ [n] := by
   unfold liveN
   rw [hnk, hq]
   rfl
  obtain ⟨x, hx⟩ : ∃ x, x = (⟨m, e, at_⟩ : LiveV) := ⟨_, rfl⟩
  have hxL : (L ++ [x]).map liveL = (liveN s.live n).map noteL := by
   rw [hnew, List.map_append, List.map_append, hlv, List.map_cons, List.map_cons, hln, hx]
   rfl
  have hoffx : ∀ g, (Value.slice A0 L.length c0).ownBlock = some g → ∀ y ∈ [x], ∀ p ∈ liveSh.parts y, OffP g p := fun g hg y hy p hp => by
   rw [List.mem_singleton.1 hy, hx] at hp
   rw [List.mem_singleton.1 hp]
   exact hoff g hg
  have pF := fun (wo : World) (hC : (fun wy => (fun wy => Below B wx wy) wy ∧ Blk wy (pn) (109) (#[.int .i64 k, .int .u32 (e : Nat), .string nm, .int .u32 (m.uid : Nat), .int .i64 m.date, .int .i64 m.flags, .slice m.a m.b.length m.c])) wo) => have Kx := KL.below hC.1 hpl; And.intro (Kx.cell) (hC.2.cell)
  refine wp_region_split 13 ?_
  simp only [List.take_succ_cons, List.take_zero, List.drop_succ_cons, List.drop_zero]
  refine wp_any_split_at hA [(.det ?dF0), (.det ?dF1), (.det ?dF2), (.det ?dF3), (.det ?dF4), (.det ?dF5), (.det ?dF6), (.det ?dF7), (.det ?dF8), (.det ?dF9), (.det ?dF10), (.used (fun val wy => ∃ g, val = .slice (some ⟨g, 0, none⟩) 1 1 ∧ RowR liveSh wy (some ⟨g, 0, none⟩) [x])), (.held (fun val wy => OwnR liveSh B wy val (L ++ [x])))] [⟨none, (some 12), [], fun _ => (fun wy => OwnR liveSh B wy (.slice A0 L.length c0) L ∧ ReadsP wy (m.a, m.b)), fun _ _ _ _ h => h⟩] (fun wy => (fun wy => Below B wx wy) wy ∧ Blk wy (pn) (109) (#[.int .i64 k, .int .u32 (e : Nat), .string nm, .int .u32 (m.uid : Nat), .int .i64 m.date, .int .i64 m.flags, .slice m.a m.b.length m.c])) (TSp [(12, fun _ _ => True)] Grows) (by kernel_rfl) rfl (by kernel_rfl) (by kernel_rfl) rfl (by kernel_rfl) (by kernel_rfl) (by kernel_rfl) (by kernel_rfl) (⟨(Below.refl _ _).drew, (Kn).drew⟩) (stab_sp [(12, fun _ _ => True)] [true, true, true, true, true, true, true, true, true, true, true, false, false] [true, true, true, true, true, true, true, true, true, true, true, false, true] [] rfl rfl rfl (by kernel_rfl) ⟨trivial, trivial, trivial, trivial, trivial, trivial, trivial, trivial, trivial, trivial, trivial, (fun _ _ _ _ hp hb => by obtain ⟨g, h1, h2⟩ := hp; exact ⟨g, h1, h2.below hb⟩), (fun _ _ _ _ hp hb => hp.below hb), trivial⟩ trivial) (List.forall_mem_cons.2 ⟨(fun hn => ⟨ho.below (Below.refl _ _).drew, hm1.below (Below.refl _ _).drew⟩), (fun _ h => by cases h)⟩) (phase_sp [(12, fun _ _ => True)] [(none, (some 12))] [] rfl (by kernel_rfl) (List.forall_mem_cons.2 ⟨fun _ => fun _ _ _ hp hb => ⟨hp.1.below hb, hp.2.below hb⟩, (fun _ h => by cases h)⟩) trivial) (List.forall_mem_cons.2 ⟨(fun a h => by first | (exact (no_1 h).elim) | (injection h with h; subst h; exact Nat.le_of_ble_eq_true rfl)), (fun _ h => by cases h)⟩) ⟨?oF0, ?oF1, ?oF2, ?oF3, ?oF4, ?oF5, ?oF6, ?oF7, ?oF8, ?oF9, ?oF10, ?oF11, ?oF12, trivial⟩ (by kernel_rfl) ?fF
  case oF0 => intro ev wo hev hC hs hph; have x0 := se hA hs 0; exact od rfl rfl (by kernel_rfl) hC (TSp.of rfl (Grows.refl _)) (by simp [go_sem, x0] <;> rfl)
  case oF1 => intro ev wo hev hC hs hph; have x0 := se hA hs 0; exact od rfl rfl (by kernel_rfl) hC (TSp.of rfl (Grows.refl _)) (by simp [go_sem, x0] <;> rfl)
  case oF2 => intro ev wo hev hC hs hph; have x0 := sd hs 58 1; exact od rfl rfl (by kernel_rfl) hC (TSp.of rfl (Grows.refl _)) (by simp [go_sem, x0] <;> rfl)
  case oF3 => intro ev wo hev hC hs hph; have x0 := sd hs 59 2; exact od rfl rfl (by kernel_rfl) hC (TSp.of rfl (Grows.refl _)) (by simp [go_sem, x0] <;> rfl)
  case oF4 => intro ev wo hev hC hs hph; have x0 := sd hs 60 3; exact od rfl rfl (by kernel_rfl) hC (TSp.of rfl (Grows.refl _)) (by simp [go_sem, x0, pF _ hC, KL.cell, Kn.cell] <;> rfl)
  case oF5 => intro ev wo hev hC hs hph; have x0 := se hA hs 4; exact od rfl rfl (by kernel_rfl) hC (TSp.of rfl (Grows.refl _)) (by simp [go_sem, x0] <;> rfl)
  case oF6 => intro ev wo hev hC hs hph; have x0 := sd hs 62 5; exact od rfl rfl (by kernel_rfl) hC (TSp.of rfl (Grows.refl _)) (by simp [go_sem, x0, pF _ hC, KL.cell, Kn.cell] <;> rfl)
  case oF7 => intro ev wo hev hC hs hph; have x0 := se hA hs 4; exact od rfl rfl (by kernel_rfl) hC (TSp.of rfl (Grows.refl _)) (by simp [go_sem, x0] <;> rfl)
  case oF8 => intro ev wo hev hC hs hph; have x0 := sd hs 64 7; exact od rfl rfl (by kernel_rfl) hC (TSp.of rfl (Grows.refl _)) (by simp [go_sem, x0, pF _ hC, KL.cell, Kn.cell] <;> rfl)
  case oF9 => intro ev wo hev hC hs hph; have x0 := se hA hs 2; exact od rfl rfl (by kernel_rfl) hC (TSp.of rfl (Grows.refl _)) (by simp [go_sem, x0] <;> rfl)
  case oF10 => intro ev wo hev hC hs hph; have x0 := sd hs 63 6; have x1 := sd hs 65 8; have x2 := sd hs 66 9; exact od rfl rfl (by kernel_rfl) hC (TSp.of rfl (Grows.refl _)) (by simp [go_sem, x0, x1, x2] <;> rfl)
  case oF11 =>
   intro ev wo hev hC hs hph
   have e67 := sd hs 67 10
   have Kx := KL.below hC.1 hpl
   obtain ⟨hp1, hp2⟩ := (hph _ List.mem_cons_self (by kernel_rfl))
   have hbn := (Below.refl wo.heap.size wo).alloc (Nat.le_refl _) (.cells (liveC x).toArray 201)
   have hBo : B ≤ wo.heap.size := Nat.le_trans hBx hC.1.size
   exact ob_yes (wanted_none rfl) (does_value (v := .slice (some ⟨wo.heap.size, 0, none⟩) 1 1) (w' := wo.alloc (.cells (liveC x).toArray 201)) (by simp [go_sem, e67, hx, liveC]) ⟨⟨hC.1.trans (hbn.mono hBo), hC.2.below hbn hC.2.lt⟩, TSp.of rfl hbn, ⟨_, rfl, rowR_blk (s := liveSh) (x := x) (Blk.new wo _ _) (fun p hp => by
    rw [hx] at hp
    rw [List.mem_singleton.1 hp]
    exact hp2.below hbn)⟩, no_start (by kernel_rfl)⟩)
  case oF12 =>
   intro ev wo hev hC hs hph
   have e61 := sd hs 61 4
   have u68 := su hs 68 11
   have Kx := KL.below hC.1 hpl
   obtain ⟨hp1, hp2⟩ := (hph _ List.mem_cons_self (by kernel_rfl))
   obtain ⟨g, h1, h2⟩ := u68
   have hBo : B ≤ wo.heap.size := Nat.le_trans hBx hC.1.size
   obtain ⟨r, w3, hr, ho3, hgr, _⟩ := run_appR (c := 1) hp1 h2 hoffx (by simp; omega) hBo
   exact ob_yes (wanted_none rfl) (does_value (exec_append rfl e61 h1 hr) ⟨⟨below_appR hC.1 hp1 hgr (Nat.le_refl _) hBo, hC.2.grown hgr (fun e => own_ne hp1.row hC.2 (by decide) _ e.symm rfl)⟩, TSp.sp rfl trivial, ho3, no_start (by kernel_rfl)⟩)
  intro sg wf hC hph
  intro x68 hx68
  intro x69 hx69 h69
  intro a hA
  replace hA := hA.keepN [57, 69]
  replace KL := KL.below hC.1 hpl
  have HB := HB.trans (hC.1.mono (Nat.le_of_lt hpl))
  have KL0 := KL
  obtain ⟨A9, c9, e9, _⟩ := h69.reads
  subst e9
  clear hx69
  revert a; (iterate 2 refine wo rfl rfl (by decide) (fun ev e h => by simp [go_sem, h, KL.cell, Kn.cell] <;> rfl) ?_); intro a hA
  refine wl_setf ([.string (takeN s n).nm, .int .u32 (E : Nat), .int .u32 (N : Nat), .slice A9 (L ++ [x]).length c9, .int .i64 z, .bool cl]) _ hA rfl rfl KL (j := 3) (by rfl) (fun ev h => by simp [go_sem, h.get 71 rfl, h.get 69 rfl, KL.cell, Kn.cell, KL.cell, KL.frozen]; try first | exact ⟨rfl, rfl⟩ | rfl) fun w7 (KL : Blk _ _ _ _) hs7 => ?_
  refine wN (nB ?_)
  exact end_0 hA rfl ⟨rfl, _, _, KL, h69.onlyK hs7 KL0 (by decide) rfl, hxL, hs7.below HB (Nat.le_refl _)⟩
 case nD =>
  have hq : (k == 2) = false := hq
  refine wS (wR ?_)
  revert a; (iterate 2 refine wo rfl rfl (by decide) (fun ev e h => by simp [go_sem, h, KL.cell, Kn.cell] <;> rfl) ?_); intro a hA
  replace hA := hA.keepN [0, 4, 72]
  refine wN (nT ?_)
  refine wp_if hA 72 _ rfl (fun hq2 => ?yG) (fun hq2 => ?nG)
  case nG =>
   have hq2 : (k == 3) = false := hq2
   have hsame : liveN s.live n = s.live := by
    unfold liveN
    rw [hnk, hq, hq2]
    rfl
   rw [hsame]
   refine wp_skip (nB ?_)
   exact end_0 hA rfl ⟨rfl, _, _, KL, ho, hlv, HB⟩
  case yG =>
   have hq2 : (k == 3) = true := hq2
   have hgone : liveN s.live n = s.live.filter (fun x => !goneB n x) := by
    unfold liveN
    rw [hnk, hq, hq2]
    rfl
   have hleft : (leftV e m.uid L).map liveL = (liveN s.live n).map noteL := by
    rw [hgone]
    unfold leftV
    have e1 : L.filter (fun x => !goesL e m.uid x) = L.filter ((fun q => !(q.1 == e && q.2.1 == m.uid)) ∘ liveL) := rfl
    have e2 : s.live.filter (fun x => !goneB n x) = s.live.filter ((fun q : Nat × Nat × Int × Int × List UInt8 × Nat => !(q.1 == e && q.2.1 == m.uid)) ∘ noteL) := by
     congr 1
     funext y
     show (!goneB n y) = !(y.ep == e && y.u == m.uid)
     unfold goneB
     rw [hne, hnu]
    rw [e1, e2, ← List.filter_map, ← List.filter_map, hlv]
   refine wR ?_
   revert a; (iterate 6 refine wo rfl rfl (by decide) (fun ev e h => by simp [go_sem, h, KL.cell] <;> rfl) ?_); intro a hA
   refine wl_call hA rfl rfl (by decide) (fun ev h => exec_call Tryz.func180 (by kernel_rfl) rfl (h.f _) (by first | (simp only [mL, h.get 78 rfl, h.get 79 rfl, h.c] <;> rfl) | (simp [mL, h.get 78 rfl, h.get 79 rfl, h.c, KL.cell] <;> rfl))) (deleteL_any pn B k e nm m A0 c0 L.length L _ Kn hBx (by omega) rfl ho) ?_
   rintro e w8 ⟨v8, rfl, ho8, hap⟩
   refine ⟨_, rfl, fun a hA => ?_⟩
   have KL8 := hap.blk KL (fun h => by have := World.ownsRow.lt ho.row _ h; omega)
   have HB8 : Below pl w w8 := HB.trans (hap.toBelow (fun i h => by have := World.ownsRow.lt ho.row _ h; omega) (by omega))
   have KL0 := KL8
   obtain ⟨A9, c9, e9, _⟩ := ho8.reads
   subst e9
   revert a; (iterate 2 refine wo rfl rfl (by decide) (fun ev e h => by simp [go_sem, h, KL.cell] <;> rfl) ?_); intro a hA
   refine wl_setf ([.string (takeN s n).nm, .int .u32 (E : Nat), .int .u32 (N : Nat), .slice A9 (leftV e m.uid L).length c9, .int .i64 z, .bool cl]) _ hA rfl rfl KL8 (j := 3) (by rfl) (fun ev h => by simp [go_sem, h.get 82 rfl, h.get 80 rfl, KL.cell, KL8.cell, KL8.frozen]; try first | exact ⟨rfl, rfl⟩ | rfl) fun w9 (KL8 : Blk _ _ _ _) hs9 => ?_
   refine wN (nB ?_)
   exact end_0 hA rfl ⟨rfl, _, _, KL8, ho8.onlyK hs9 KL0 (by decide) rfl, hleft, hs9.below HB8 (Nat.le_refl _)⟩
end Go.Proofs.YtkljkbeahdipfaaGreatDoor
/-
  Walk: is a log clean ((*log.Log).clean)?
-/
namespace Go.Proofs.YtkljkbeahdipfaaGreatDoor
open Go.RowKit
set_option linter.unusedSimpArgs false
set_option linter.unusedVariables false
/-- the same, of epochs and UIDs alone -/
def riseP (E : Nat) : Nat → List (Nat × Nat) → Bool
 | _, [] => true
 | last, q :: r => q.1 == E && decide (last < q.2) && !(q.2 == 4294967295) && riseP E q.2 r
theorem riseP_N (E : Nat) : ∀ (last : Nat) (l : List NoteB), riseN E last l = riseP E last (l.map fun n => (n.ep, n.u))
 | _, [] => rfl
 | last, n :: r => by
   rw [List.map_cons]
   unfold riseN riseP
   rw [riseP_N E n.u r]
def euV (x : LiveV) : Nat × Nat := (x.ep, x.m.uid)
theorem euV_of {L : List LiveV} {l : List NoteB} (h : L.map liveL = l.map noteL) : L.map euV = l.map fun n => (n.ep, n.u) := by
 have := congrArg (List.map fun q : Nat × Nat × Int × Int × List UInt8 × Nat => (q.1, q.2.1)) h
 rw [List.map_map, List.map_map] at this
 exact this
def lastV (L : List LiveV) (j : Nat) : Nat := if j = 0 then 0 else ((L[j - 1]?).map (·.m.uid)).getD 0
set_option maxRecDepth 100000 in
set_option maxHeartbeats 2000000 in
theorem clean_any (pl : Nat) (s : LogS) (z : Int) (cl : Bool) (A : Option Addr) (n c : Nat) (L : List LiveV) (w : World) (KL : Blk w pl 118 #[.string s.nm, .int .u32 (s.ep : Nat), .int .u32 (s.nx : Nat), .slice A n c, .int .i64 z, .bool cl])
 (hr : RowR liveSh w A L) (hl : L.length = n) (hn : n ≤ 16000000) (hlv : L.map liveL = s.live.map noteL) (h1 : ∀ x ∈ L, 1 ≤ x.m.uid) :
 Calls Tryz.prog 120 #[.pointer (some ⟨pl, 0, none⟩)] w fun ev w' => ev = .returned (.bool (cleanS s)) ∧ Below w.heap.size w w' := by
 have hcs : cleanS s = riseP s.ep 0 (L.map euV) := by
  unfold cleanS
  rw [riseP_N, euV_of hlv]
 rw [hcs]
 have HB := Below.refl w.heap.size w
 refine calls_at 49 Tryz.func120 rfl rfl (Nat.le_of_ble_eq_true rfl) ?_
 intro a hA; replace hA := hA.norm
 refine wS (wR ?_)
 revert a; refine wo rfl rfl (by decide) (fun ev e h => by simp [go_sem, h, KL.cell] <;> rfl) ?_; intro a hA
 replace hA := hA.keepN [0]
 refine wN (nT (wS (wS (wR ?_))))
 revert a; (iterate 6 refine wo rfl rfl (by decide) (fun ev e h => by simp [go_sem, h, KL.cell] <;> rfl) ?_); intro a hA
 replace hA := hA.keepN [0, 8, 9, 10]
 refine wN (nT (wB ?_))
 refine wp_loop_at (fun kk a wx => ∃ (j : Nat), j + kk = n ∧ At 49 [(0, .pointer (some ⟨pl, 0, none⟩)), (8, .slice A n c), (9, .int .i64 (n : Nat)), (10, .int .i64 (j : Nat))] a ∧ riseP s.ep 0 (L.map euV) = riseP s.ep (lastV L j) ((L.drop j).map euV) ∧ Below w.heap.size w wx) (n) ?_ ?_
 ·exact ⟨0, by omega, hA, rfl, HB⟩
 clear HB
 rintro kk a wx ⟨j, hjk, hA, hri, HB⟩
 refine wS (wR ?_)
 revert a; refine wo rfl rfl (by decide) (fun ev e h => by simp [go_sem, h] <;> rfl) ?_; intro a hA
 replace hA := hA.keepN [0, 8, 9, 10, 11]
 refine wN (nT (wS ?_))
 refine wp_if hA 11 _ rfl (fun hq => ?yI) (fun hq => ?nI)
 case nI =>
  have hjn : j = n := by simp at hq; omega
  rw [hjn, ← hl, List.drop_length] at hri
  replace hA := hA.keepN []
  refine wp_exit (xT (xT (xB (nT (wS (wR ?_))))))
  revert a; refine wo rfl rfl (by decide) (fun ev e h => by simp [go_sem, h] <;> rfl) ?_; intro a hA
  replace hA := hA.keepN [2]
  refine wN (nT (wp_ret ?_))
  refine ret_1 hA 2 rfl rfl ?_
  exact ⟨by rw [hri]; rfl, HB⟩
 case yI =>
  have hlt : j < n := by simp at hq; omega
  obtain ⟨x, hx⟩ : ∃ x, L[j]? = some x := ⟨_, List.getElem?_eq_getElem (by omega)⟩
  have hdr : L.drop j = x :: L.drop (j + 1) := by
   rw [List.drop_eq_getElem_cons (by omega)]
   congr 1
   exact (List.getElem?_eq_some_iff.1 hx).2
  have hlu : lastV L (j + 1) = x.m.uid := by
   unfold lastV
   rw [if_neg (by omega), Nat.add_sub_cancel, hx]
   rfl
  rw [hdr, List.map_cons] at hri
  obtain ⟨ad, rfl, hadl, kz, kk'⟩ := hr.cell hx
  have z0 := (HB.cell (by rw [block_of_add]; exact hadl)).trans (kz _ rfl)
  have z1 := (HB.cell (p := ⟨(ad.add (j * 6)).block, (ad.add (j * 6)).off + 1, none⟩) (by show (ad.add _).block < _; rw [block_of_add]; exact hadl)).trans (kk' 1 _ (by decide) rfl)
  have z2 := (HB.cell (p := ⟨(ad.add (j * 6)).block, (ad.add (j * 6)).off + 2, none⟩) (by show (ad.add _).block < _; rw [block_of_add]; exact hadl)).trans (kk' 2 _ (by decide) rfl)
  have z3 := (HB.cell (p := ⟨(ad.add (j * 6)).block, (ad.add (j * 6)).off + 3, none⟩) (by show (ad.add _).block < _; rw [block_of_add]; exact hadl)).trans (kk' 3 _ (by decide) rfl)
  have z4 := (HB.cell (p := ⟨(ad.add (j * 6)).block, (ad.add (j * 6)).off + 4, none⟩) (by show (ad.add _).block < _; rw [block_of_add]; exact hadl)).trans (kk' 4 _ (by decide) rfl)
  have z5 := (HB.cell (p := ⟨(ad.add (j * 6)).block, (ad.add (j * 6)).off + 5, none⟩) (by show (ad.add _).block < _; rw [block_of_add]; exact hadl)).trans (kk' 5 _ (by decide) rfl)
  have z0 : wx.cell? (ad.add (j * 6)) = some (.int .u32 (x.m.uid : Nat)) := z0
  have jj0 : (0 : Int) ≤ (j : Int) := by omega
  have jj1 : (j : Int) < (n : Int) := by omega
  have hwj : IntKind.i64.wrap ((j : Int) + 1) = (j : Int) + 1 := IntWalk.i64_in _ (by omega)
  have hwm : IntKind.i64.wrap ((j : Int) - 1) = (j : Int) - 1 := IntWalk.i64_in _ (by omega)
  refine wp_skip (nT (wS (wB (wS (wR ?_)))))
  revert a; (iterate 3 refine wo rfl rfl (by decide) (fun ev e h => by simp [go_sem, h, z0, z1, z2, z3, z4, z5, jj0, jj1, hwj] <;> rfl) ?_); intro a hA
  refine wl_new hA rfl rfl (by decide) (fun ev h => by simp [go_sem, z0, z1, z2, z3, z4, z5, jj0, jj1, hwj]; try first | exact ⟨rfl, rfl⟩ | rfl) fun w4 a (K : Blk _ _ _ _) hz4 hb4 hA => ?_
  revert a; refine wo rfl rfl (by decide) (fun ev e h => by simp [go_sem, h, z0, z1, z2, z3, z4, z5, jj0, jj1, hwj] <;> rfl) ?_; intro a hA
  refine wl_set [.int .u32 (x.m.uid : Nat), .int .i64 x.m.date, .int .i64 x.m.flags, .slice x.m.a x.m.b.length x.m.c, .int .u32 (x.ep : Nat), .int .i64 (x.at_ : Nat)] hA rfl rfl K (by rfl) (fun ev h => by simp [go_sem, h.get 4 rfl, h.get 14 rfl, z0, z1, z2, z3, z4, z5, jj0, jj1, hwj, setAll, K.cell, K.frozen]) fun w5 (K : Blk _ _ _ _) hs5 => ?_
  have hb5 := hs5.below hb4 (Nat.le_refl _)
  replace HB := HB.trans (hb5.mono HB.size)
  clear z0 z1 z2 z3 z4 z5 hb5 hb4 hs5
  have KL5 := KL.below HB KL.lt
  replace hA := hA.keepN [0, 3, 4, 8, 9, 10]
  refine wN (nT (wS ?_))
  have hmx := List.mem_of_getElem? hx
  have hx1 := h1 x hmx
  have kp : decide (0 < j) = true → w5.cell? (ad.add ((j - 1) * 6)) = some (.int .u32 (lastV L j : Nat)) := fun h => by
   have hj : 0 < j := by simpa using h
   obtain ⟨y, hy⟩ : ∃ y, L[j - 1]? = some y := ⟨_, List.getElem?_eq_getElem (by omega)⟩
   obtain ⟨ad', e', _, ky, _⟩ := hr.cell hy
   injection e' with e'
   subst e'
   have hlv : lastV L j = y.m.uid := by
    unfold lastV
    rw [if_neg (by omega), hy]
    rfl
   rw [hlv]
   exact (HB.cell (by rw [block_of_add]; exact hadl)).trans (ky _ rfl)
  have jm : decide (0 < j) = true → (1 : Int) ≤ (j : Int) := fun h => by simp at h; omega
  have jn : (j : Int) - 1 < (n : Int) := by omega
  have jt : ((j : Int) - 1).toNat = j - 1 := by omega
  have pC := fun (wo : World) (hC : (fun wy => Below w5.heap.size w5 wy) wo) => have Kx := KL5.below hC KL5.lt; have Ky := K.below hC K.lt; have Kp := fun h => (hC.cell (p := ad.add ((j - 1) * 6)) (by rw [block_of_add]; exact Nat.lt_of_lt_of_le hadl HB.size)).trans (kp h); And.intro (Kx.cell) (Ky.cell)
  refine wp_any_at hA ((.det ?dC0) :: (.det ?dC1) :: (.det ?dC2) :: (.det ?dC3) :: (.det ?dC4) :: (.det ?dC5) :: (.det ?dC6) :: (.det ?dC7) :: (.det ?dC8) :: (.det ?dC9) :: (.det ?dC10) :: (.det ?dC11) :: (.det ?dC12) :: (.det ?dC13) :: (.det ?dC14) :: (.det ?dC15) :: (.det ?dC16) :: (.det ?dC17) :: (.det ?dC18) :: (.det ?dC19) :: (.det ?dC20) :: (.det ?dC21) :: (.det ?dC22) :: (.det ?dC23) :: (.det ?dC24) :: (.det ?dC25) :: (.det ?dC26) :: (.det ?dC27) :: (.det ?dC28) :: (.det ?dC29) :: (.det ?dC30) :: (.det ?dC31) :: (.det ?dC32) :: []) [] (fun wy => Below w5.heap.size w5 wy) (TSp [] Grows) (by kernel_rfl) rfl (by kernel_rfl) (by kernel_rfl) rfl ((Below.refl _ _).drew) (stab_sp [] (true :: true :: true :: true :: true :: true :: true :: true :: true :: true :: true :: true :: true :: true :: true :: true :: true :: true :: true :: true :: true :: true :: true :: true :: true :: true :: true :: true :: true :: true :: true :: true :: true :: []) (true :: true :: true :: true :: true :: true :: true :: true :: true :: true :: true :: true :: true :: true :: true :: true :: true :: true :: true :: true :: true :: true :: true :: true :: true :: true :: true :: true :: true :: true :: true :: true :: true :: []) [] rfl rfl rfl (by kernel_rfl) ⟨trivial, trivial, trivial, trivial, trivial, trivial, trivial, trivial, trivial, trivial, trivial, trivial, trivial, trivial, trivial, trivial, trivial, trivial, trivial, trivial, trivial, trivial, trivial, trivial, trivial, trivial, trivial, trivial, trivial, trivial, trivial, trivial, trivial, trivial⟩ trivial) (fun _ h => by cases h) (fun _ _ _ _ _ h => by cases h) (fun _ h => by cases h) ⟨?oC0, ?oC1, ?oC2, ?oC3, ?oC4, ?oC5, ?oC6, ?oC7, ?oC8, ?oC9, ?oC10, ?oC11, ?oC12, ?oC13, ?oC14, ?oC15, ?oC16, ?oC17, ?oC18, ?oC19, ?oC20, ?oC21, ?oC22, ?oC23, ?oC24, ?oC25, ?oC26, ?oC27, ?oC28, ?oC29, ?oC30, ?oC31, ?oC32, trivial⟩ (by kernel_rfl) ?fC
  case oC0 => intro ev wo hev hC hs hph; have x0 := se hA hs 4; exact od rfl rfl (by kernel_rfl) hC (TSp.of rfl (Grows.refl _)) (by simp [go_sem, x0, hwm, jn, jt] <;> rfl)
  case oC1 => intro ev wo hev hC hs hph; have x0 := sd hs 15 0; exact od rfl rfl (by kernel_rfl) hC (TSp.of rfl (Grows.refl _)) (by simp [go_sem, x0, pC _ hC, hwm, jn, jt] <;> rfl)
  case oC2 => intro ev wo hev hC hs hph; have x0 := se hA hs 0; exact od rfl rfl (by kernel_rfl) hC (TSp.of rfl (Grows.refl _)) (by simp [go_sem, x0, hwm, jn, jt] <;> rfl)
  case oC3 => intro ev wo hev hC hs hph; have x0 := sd hs 17 2; exact od rfl rfl (by kernel_rfl) hC (TSp.of rfl (Grows.refl _)) (by simp [go_sem, x0, hwm, jn, jt] <;> rfl)
  case oC4 => intro ev wo hev hC hs hph; have x0 := sd hs 18 3; exact od rfl rfl (by kernel_rfl) hC (TSp.of rfl (Grows.refl _)) (by simp [go_sem, x0, hwm, jn, jt] <;> rfl)
  case oC5 => intro ev wo hev hC hs hph; have x0 := sd hs 19 4; exact od rfl rfl (by kernel_rfl) hC (TSp.of rfl (Grows.refl _)) (by simp [go_sem, x0, pC _ hC, hwm, jn, jt] <;> rfl)
  case oC6 => intro ev wo hev hC hs hph; have x0 := sd hs 16 1; have x1 := sd hs 20 5; exact od rfl rfl (by kernel_rfl) hC (TSp.of rfl (Grows.refl _)) (by simp [go_sem, x0, x1, hwm, jn, jt] <;> rfl)
  case oC7 => intro ev wo hev hC hs hph; have x0 := sd hs 21 6; exact od rfl rfl (by kernel_rfl) hC (TSp.of rfl (Grows.refl _)) (by simp [go_sem, x0, hwm, jn, jt] <;> rfl)
  case oC8 => intro ev wo hev hC hs hph; have x0 := se hA hs 4; have y := sd hs 22 7; exact ob_gv _ rfl rfl y rfl (by kernel_rfl) hC (TSp.of rfl (Grows.refl _)) (fun hq => by simp [go_sem, x0, hwm, jn, jt] <;> rfl) (by rfl)
  case oC9 => intro ev wo hev hC hs hph; have x0 := sd hs 23 8; have y := sd hs 22 7; exact ob_gv _ rfl rfl y rfl (by kernel_rfl) hC (TSp.of rfl (Grows.refl _)) (fun hq => by simp [go_sem, (x0.trans (gw_t (beq_t hq))), hwm, jn, jt] <;> rfl) (by rfl)
  case oC10 => intro ev wo hev hC hs hph; have x0 := sd hs 24 9; have y := sd hs 22 7; exact ob_gv _ rfl rfl y rfl (by kernel_rfl) hC (TSp.of rfl (Grows.refl _)) (fun hq => by simp [go_sem, (x0.trans (gw_t (beq_t hq))), pC _ hC, hwm, jn, jt] <;> rfl) (by rfl)
  case oC11 => intro ev wo hev hC hs hph; have x0 := sd hs 25 10; have y := sd hs 22 7; exact ob_gv _ rfl rfl y rfl (by kernel_rfl) hC (TSp.of rfl (Grows.refl _)) (fun hq => by simp [go_sem, (x0.trans (gw_t (beq_t hq))), hev.const, hwm, jn, jt] <;> rfl) (by rfl)
  case oC12 => intro ev wo hev hC hs hph; have x0 := sd hs 22 7; have x1 := sd hs 26 11; exact od rfl rfl (by kernel_rfl) hC (TSp.of rfl (Grows.refl _)) (by rw [pick_or rfl x0 (hev.const _) x1] <;> rfl)
  case oC13 => intro ev wo hev hC hs hph; have x0 := sd hs 27 12; exact od rfl rfl (by kernel_rfl) hC (TSp.of rfl (Grows.refl _)) (by simp [go_sem, x0, hwm, jn, jt] <;> rfl)
  case oC14 => intro ev wo hev hC hs hph; have x0 := se hA hs 3; have y := sd hs 28 13; exact ob_gv _ rfl rfl y rfl (by kernel_rfl) hC (TSp.of rfl (Grows.refl _)) (fun hq => by simp [go_sem, x0, hwm, jn, jt] <;> rfl) (by rfl)
  case oC15 => intro ev wo hev hC hs hph; have x0 := sd hs 29 14; have y := sd hs 28 13; exact ob_gv _ rfl rfl y rfl (by kernel_rfl) hC (TSp.of rfl (Grows.refl _)) (fun hq => by simp [go_sem, (x0.trans (gw_t (beq_t hq))), hev.const, hwm, jn, jt] <;> rfl) (by rfl)
  case oC16 => intro ev wo hev hC hs hph; have x0 := sd hs 30 15; have y := sd hs 28 13; exact ob_gv _ rfl rfl y rfl (by kernel_rfl) hC (TSp.of rfl (Grows.refl _)) (fun hq => by simp [go_sem, (x0.trans (gw_t (beq_t hq))), hwm, jn, jt] <;> rfl) (by rfl)
  case oC17 => intro ev wo hev hC hs hph; have x0 := se hA hs 0; have y := sd hs 31 16; exact ob_gw _ _ rfl rfl y rfl (by kernel_rfl) hC (TSp.of rfl (Grows.refl _)) (fun hq hr => by simp [go_sem, x0, hwm, jn, jt] <;> rfl) (by rfl)
  case oC18 => intro ev wo hev hC hs hph; have x0 := sd hs 32 17; have y := sd hs 31 16; exact ob_gw _ _ rfl rfl y rfl (by kernel_rfl) hC (TSp.of rfl (Grows.refl _)) (fun hq hr => by simp [go_sem, (x0.trans (gw_t (and_beq hq hr))), hwm, jn, jt] <;> rfl) (by rfl)
  case oC19 => intro ev wo hev hC hs hph; have x0 := sd hs 33 18; have y := sd hs 31 16; exact ob_gw _ _ rfl rfl y rfl (by kernel_rfl) hC (TSp.of rfl (Grows.refl _)) (fun hq hr => by simp [go_sem, (x0.trans (gw_t (and_beq hq hr))), hwm, jn, jt] <;> rfl) (by rfl)
  case oC20 => intro ev wo hev hC hs hph; have x0 := sd hs 34 19; have y := sd hs 31 16; exact ob_gw _ _ rfl rfl y rfl (by kernel_rfl) hC (TSp.of rfl (Grows.refl _)) (fun hq hr => by simp [go_sem, (x0.trans (gw_t (and_beq hq hr))), pC _ hC, hwm, jn, jt] <;> rfl) (by rfl)
  case oC21 => intro ev wo hev hC hs hph; have x0 := se hA hs 3; have y := sd hs 31 16; exact ob_gw _ _ rfl rfl y rfl (by kernel_rfl) hC (TSp.of rfl (Grows.refl _)) (fun hq hr => by simp [go_sem, x0, hwm, jn, jt] <;> rfl) (by rfl)
  case oC22 => intro ev wo hev hC hs hph; have x0 := sd hs 36 21; have y := sd hs 31 16; exact ob_gw _ _ rfl rfl y rfl (by kernel_rfl) hC (TSp.of rfl (Grows.refl _)) (fun hq hr => by simp [go_sem, (x0.trans (gw_t (and_beq hq hr))), hev.const, hwm, jn, jt] <;> rfl) (by rfl)
  case oC23 =>
   intro ev wo hev hC hs hph
   have e35 := sd hs 35 20
   have e37 := sd hs 37 22
   have e31 := sd hs 31 16
   have Kx := KL5.below hC KL5.lt
   have Ky := K.below hC K.lt
   have Kp := fun h => (hC.cell (p := ad.add ((j - 1) * 6)) (by rw [block_of_add]; exact Nat.lt_of_lt_of_le hadl HB.size)).trans (kp h)
   exact ob_gw _ _ rfl rfl e31 rfl (by kernel_rfl) hC (TSp.of rfl (Grows.refl _)) (fun hq hr => by simp [go_sem, (e35.trans (gw_t (and_beq hq hr))), (e37.trans (gw_t (and_beq hq hr))), e31, jm hr, hwm, jn, jt]; try first | exact ⟨rfl, rfl⟩ | rfl) (by rfl)
  case oC24 => intro ev wo hev hC hs hph; have x0 := sd hs 38 23; have y := sd hs 31 16; exact ob_gw _ _ rfl rfl y rfl (by kernel_rfl) hC (TSp.of rfl (Grows.refl _)) (fun hq hr => by simp [go_sem, (x0.trans (gw_t (and_beq hq hr))), hwm, jn, jt] <;> rfl) (by rfl)
  case oC25 => intro ev wo hev hC hs hph; have x0 := sd hs 39 24; have y := sd hs 31 16; exact ob_gw _ _ rfl rfl y rfl (by kernel_rfl) hC (TSp.of rfl (Grows.refl _)) (fun hq hr => by simp [go_sem, (x0.trans (gw_t (and_beq hq hr))), hwm, jn, jt] <;> rfl) (by rfl)
  case oC26 =>
   intro ev wo hev hC hs hph
   have e40 := sd hs 40 25
   have e31 := sd hs 31 16
   have Kx := KL5.below hC KL5.lt
   have Ky := K.below hC K.lt
   have Kp := fun h => (hC.cell (p := ad.add ((j - 1) * 6)) (by rw [block_of_add]; exact Nat.lt_of_lt_of_le hadl HB.size)).trans (kp h)
   exact ob_gw _ _ rfl rfl e31 rfl (by kernel_rfl) hC (TSp.of rfl (Grows.refl _)) (fun hq hr => by simp [go_sem, (e40.trans (gw_t (and_beq hq hr))), e31, Kx.cell, Ky.cell, Kp hr, hwm, jn, jt]; try first | exact ⟨rfl, rfl⟩ | rfl) (by rfl)
  case oC27 => intro ev wo hev hC hs hph; have x0 := se hA hs 4; have y := sd hs 31 16; exact ob_gw _ _ rfl rfl y rfl (by kernel_rfl) hC (TSp.of rfl (Grows.refl _)) (fun hq hr => by simp [go_sem, x0, hwm, jn, jt] <;> rfl) (by rfl)
  case oC28 => intro ev wo hev hC hs hph; have x0 := sd hs 42 27; have y := sd hs 31 16; exact ob_gw _ _ rfl rfl y rfl (by kernel_rfl) hC (TSp.of rfl (Grows.refl _)) (fun hq hr => by simp [go_sem, (x0.trans (gw_t (and_beq hq hr))), hwm, jn, jt] <;> rfl) (by rfl)
  case oC29 => intro ev wo hev hC hs hph; have x0 := sd hs 43 28; have y := sd hs 31 16; exact ob_gw _ _ rfl rfl y rfl (by kernel_rfl) hC (TSp.of rfl (Grows.refl _)) (fun hq hr => by simp [go_sem, (x0.trans (gw_t (and_beq hq hr))), pC _ hC, hwm, jn, jt] <;> rfl) (by rfl)
  case oC30 => intro ev wo hev hC hs hph; have x0 := sd hs 41 26; have x1 := sd hs 44 29; have y := sd hs 31 16; exact ob_gw _ _ rfl rfl y rfl (by kernel_rfl) hC (TSp.of rfl (Grows.refl _)) (fun hq hr => by simp [go_sem, (x0.trans (gw_t (and_beq hq hr))), (x1.trans (gw_t (and_beq hq hr))), hwm, jn, jt] <;> rfl) (by rfl)
  case oC31 => intro ev wo hev hC hs hph; have x0 := sd hs 31 16; have x1 := sd hs 45 30; have y := sd hs 28 13; exact ob_gv _ rfl rfl y rfl (by kernel_rfl) hC (TSp.of rfl (Grows.refl _)) (fun hq => by rw [pick_and rfl (x0.trans (gw_t (beq_t hq))) (x1.trans (gw_a (beq_t hq))) (hev.const _)] <;> rfl) (by rfl)
  case oC32 => intro ev wo hev hC hs hph; have x0 := sd hs 28 13; have x1 := sd hs 46 31; exact od rfl rfl (by kernel_rfl) hC (TSp.of rfl (Grows.refl _)) (by rw [pick_or rfl x0 (hev.const _) x1] <;> rfl)
  intro sg wf hC hph
  intro a hA
  replace hA := hA.keepN [0, 8, 9, 10, 47]
  refine nT ?_
  clear kp jm jn jt hwm
  replace HB := HB.trans (hC.mono HB.size)
  have hq0 : (x.ep == s.ep && decide (lastV L j < x.m.uid) && !(x.m.uid == 4294967295)) = !((x.ep : Int) != (s.ep : Int) || (x.m.uid : Int) == 4294967295 || decide (0 < j) && decide (x.m.uid ≤ lastV L j)) := by
   have e1 : ((x.ep : Int) != (s.ep : Int)) = !(x.ep == s.ep) := by unfold bne; rw [nat_eq]
   have e2 : ((x.m.uid : Int) == 4294967295) = (x.m.uid == 4294967295) := nat_eq _ 4294967295
   have e3 : (decide (0 < j) && decide (x.m.uid ≤ lastV L j)) = !decide (lastV L j < x.m.uid) := by
    rcases Nat.eq_zero_or_pos j with h | h
    ·subst h
     have h0 : lastV L 0 = 0 := rfl
     rw [h0, decide_eq_true (show 0 < x.m.uid by omega)]
     rfl
    ·rw [decide_eq_true h, Bool.true_and, Bool.eq_iff_iff]
     simp
   rw [e1, e2, e3]
   cases x.ep == s.ep <;> cases x.m.uid == 4294967295 <;> cases decide (lastV L j < x.m.uid) <;> rfl
  have hri2 : riseP s.ep 0 (L.map euV) = ((x.ep == s.ep && decide (lastV L j < x.m.uid) && !(x.m.uid == 4294967295)) && riseP s.ep x.m.uid ((L.drop (j + 1)).map euV)) := by rw [hri]; rfl
  refine wp_if hA 47 _ rfl (fun hq3 => ?yR) (fun hq3 => ?nR)
  case yR =>
   rw [hq0, hq3] at hri2
   refine wS (wR ?_)
   revert a; refine wo rfl rfl (by decide) (fun ev e h => by simp [go_sem, h] <;> rfl) ?_; intro a hA
   replace hA := hA.keepN [2]
   refine wN (nT (wp_ret (rB (rT (rT (rB (rT ?_)))))))
   refine ret_1 hA 2 rfl rfl ?_
   exact ⟨by rw [hri2]; rfl, HB⟩
  case nR =>
   rw [hq0, hq3] at hri2
   refine wp_skip (nB (nT (wR ?_)))
   revert a; (iterate 2 refine wo rfl rfl (by decide) (fun ev e h => by simp [go_sem, h, hwj] <;> rfl) ?_); intro a hA
   replace hA := hA.keepN [0, 8, 9, 10]
   refine wN (nT ?_)
   rw [show ((j : Int) + 1) = ((j + 1 : Nat) : Int) by omega] at hA
   exact ⟨kk - 1, by omega, j + 1, by omega, hA, by rw [hlu, hri2]; rfl, HB⟩
end Go.Proofs.YtkljkbeahdipfaaGreatDoor
/-
  Words of 32 and of 64 bits, as a walk writes them.
-/
namespace Go.Proofs.YtkljkbeahdipfaaGreatDoor
open Go.RowKit
def ad (a b : Nat) : Nat := (a + b) % 4294967296
def xo (a b : Nat) : Nat := a ^^^ b
def an (a b : Nat) : Nat := a &&& b
def no32 (a : Nat) : Nat := 4294967295 - a
def sr (a n : Nat) : Nat := a >>> n
theorem xo_lt {a b : Nat} (ha : a < 4294967296) (hb : b < 4294967296) : xo a b < 4294967296 := Nat.xor_lt_two_pow (n := 32) ha hb
theorem an_lt {a b : Nat} (ha : a < 4294967296) : an a b < 4294967296 := Nat.lt_of_le_of_lt Nat.and_le_left ha
theorem no32_lt (a : Nat) : no32 a < 4294967296 := by unfold no32; omega
theorem sr_lt {a n : Nat} (ha : a < 4294967296) : sr a n < 4294967296 := by
 unfold sr
 rw [Nat.shiftRight_eq_div_pow]
 exact Nat.lt_of_le_of_lt (Nat.div_le_self _ _) ha
theorem w_ad (a b : Nat) : IntKind.u32.wrap ((a : Int) + (b : Int)) = ((ad a b : Nat) : Int) := by
 rw [IntKind.wrap_u32']; unfold ad; omega
theorem w_xo {a b : Nat} (ha : a < 4294967296) (hb : b < 4294967296) : bits .xor .u32 (a : Int) (b : Int) = ((xo a b : Nat) : Int) := u32_xor_nat a b ha hb
theorem w_an {a b : Nat} (ha : a < 4294967296) (hb : b < 4294967296) : bits .and .u32 (a : Int) (b : Int) = ((an a b : Nat) : Int) := u32_and_nat a b ha hb
end Go.Proofs.YtkljkbeahdipfaaGreatDoor
/-
  Walks by facts on slots: a whole array, or struct, is loaded, stored, answered, whatever its cells.
-/
namespace Go.Proofs.YtkljkbeahdipfaaGreatDoor
open Go Go.RowKit
def isRowD (d : TypeDesc) : Bool := match d with | .struct _ | .array _ _ => true | _ => false
section
variable {P : Program} {Q : Exit → Act → World → Prop} {a : Act} {w w' : World} {n : Nat} {Γ : Env} {l rest : List Oper} {o : Oper} {t : Nat} {v : Value} {ev : Operand → Value} {g k : Nat} {T T' : TypeId} {cs : List Value} {d : TypeDesc}
theorem blk_load (K : Blk w g T cs.toArray) (hu : P.underlying T' = some d) (hd : isRowD d = true) (hi : (P.info? T').map (·.size) = some k) (hk : cs.length = k) : (loadVar T' ⟨g, 0, none⟩).run P w = .ok (.agg cs.toArray) w :=
 run_loadVar_row w g T T' cs.toArray (0, 0) d K hu (by cases d <;> first | rfl | (cases hd)) (by rw [hi, List.size_toArray, hk])
theorem exec_loadA {x : Operand} (K : Blk w g T cs.toArray) (hu : P.underlying T' = some d) (hd : isRowD d = true) (hi : (P.info? T').map (·.size) = some k) (hk : cs.length = k) (ho : o.op = .load T' x) (hx : ev x = .pointer (some ⟨g, 0, none⟩)) : (execOp ev o).run P w = .ok (.value (.agg cs.toArray)) w := by
 have h := blk_load K hu hd hi hk
 unfold execOp
 simp only [ho]
 simp [Instr.loadAt, Instr.sureAddr, hx, h, Result.andThen]
theorem Only.setRow {cs : Array Value} : Only g w (w.setRow g cs) := ⟨rfl, rfl, rfl, by unfold World.setRow; simp, fun i hi => by
 unfold World.setRow
 simp only [Array.getElem?_modify]
 rw [if_neg (fun e => hi e.symm)]⟩
/-- a whole variable is set -/
theorem wl_setw {x y : Operand} {z : List Value} (cs : List Value) (hA : At n Γ a) (hg : o.guard = none) (hd : o.dst = none) (K : Blk w g T z.toArray) (hz : z.length = k) (hk : cs.length = k) (hi : (P.info? T').map (·.size) = some k) (h1 : cs.all (·.oneCell') = true) (ho : o.op = .store T' x y)
 (hx : ∀ ev, EvIn Γ ev → ev x = .pointer (some ⟨g, 0, none⟩) ∧ ev y = .agg cs.toArray)
 (hk' : ∀ w1, Blk w1 g T cs.toArray → Only g w w1 → wpList P l.toArray Q rest a w1) : wpList P l.toArray Q (o :: rest) a w := by
 refine wl_skip hA hg hd (fun ev h => ?_) (hk' (w.setRow g cs.toArray) (setRow_heap w g _ _ T _ K) Only.setRow)
 obtain ⟨hx1, hx2⟩ := hx ev h
 have hs := run_storeVar_row (P := P) w g T T' z.toArray cs.toArray K (by rw [hi, List.size_toArray, hk]) (by simp; omega) (by simpa using h1)
 unfold execOp
 simp only [ho]
 simp [Instr.storeAt, Instr.sureAddr, hx1, hx2, hs, Result.andThen]
theorem results_cell {fn : Func} {t : Nat} {arr : Array Value} (hr : fn.results = #[.cell t T']) (ht : arr.getD t undef = .pointer (some ⟨g, 0, none⟩)) (K : Blk w g T cs.toArray) (hu : P.underlying T' = some d) (hd : isRowD d = true) (hi : (P.info? T').map (·.size) = some k) (hk : cs.length = k) : (results fn arr).run P w = .ok (.agg cs.toArray) w := by
 have h := blk_load K hu hd hi hk
 simp only [Array.getD_eq_getD_getElem?] at ht
 simp [results, hr, ht, asAddr, h]
theorem ret_cell {fn : Func} {R : Ending → World → Prop} (hA : At n Γ a) (t : Nat) (hr : fn.results = #[.cell t T']) (hl : look Γ t = some (.pointer (some ⟨g, 0, none⟩))) (K : Blk w g T cs.toArray) (hu : P.underlying T' = some d) (hd : isRowD d = true) (hi : (P.info? T').map (·.size) = some k) (hk : cs.length = k) (hR : R (.returned (.agg cs.toArray)) w) : bodyPost P fn R .ret a w :=
 ⟨hA.defers, _, results_cell hr (hA.getD t hl) K hu hd hi hk, hR⟩
def constOf : Operand → Value
 | .const v => v
 | _ => undef
def isConst : Operand → Bool
 | .const _ => true
 | _ => false
/-- an array of constants -/
theorem exec_buildC {Γ : Env} {parts : Array (Nat × Operand)} {v : Value} (hev : EvIn Γ ev) (ho : o.op = .build T parts) (hc : parts.all (fun p => isConst p.2) = true) (hr : (Instr.build T (parts.map fun p => (p.1, constOf p.2))).run P w = .ok v w) : (execOp ev o).run P w = .ok (.value v) w := by
 have e : (parts.map fun p => (p.1, ev p.2)) = parts.map fun p => (p.1, constOf p.2) := by
  apply Array.map_congr_left
  intro p hp
  have h1 := (Array.all_eq_true_iff_forall_mem.1 hc) p hp
  obtain ⟨i, x⟩ := p
  cases x with
  | const u => exact congrArg _ (hev.c u)
  | _ => cases h1
 unfold execOp
 simp only [ho]
 have e2 : (parts.map fun (x : Nat × Operand) => match x with | (i, p) => (i, ev p)) = parts.map fun p => (p.1, constOf p.2) := e
 simp [e2, hr]
end
end Go.Proofs.YtkljkbeahdipfaaGreatDoor
/-
  Walk: a block's words (sum.schedule), the numbers that the steps add (sum.steps).
-/
namespace Go.Proofs.YtkljkbeahdipfaaGreatDoor
open Go.RowKit
set_option linter.unusedSimpArgs false
set_option linter.unusedVariables false
def u32v (x : Nat) : Value := .int .u32 (x : Nat)
theorem bits_31 {n : Nat} (h1 : 1 ≤ n) (h2 : n ≤ 31) : bits .and .u64 (IntKind.u64.wrap (-(n : Int))) 31 = ((32 - n : Nat) : Int) := by
 have hb : ∀ m : Fin 32, 1 ≤ m.1 → bits .and .u64 (IntKind.u64.wrap (-(m.1 : Int))) 31 = ((32 - m.1 : Nat) : Int) := by decide +kernel
 exact hb ⟨n, by omega⟩ h1
theorem shl_u32 (x n : Nat) (h : n ≤ 32) : IntKind.u32.wrap ((x : Int) * 2 ^ n) = ((x <<< n % 4294967296 : Nat) : Int) := by
 rw [IntKind.wrap_u32', Nat.shiftLeft_eq, Int.natCast_emod, Int.natCast_mul, Int.natCast_pow]; rfl
theorem shr_u32 (x n : Nat) : (x : Int) / 2 ^ n = ((x >>> n : Nat) : Int) := by
 rw [Nat.shiftRight_eq_div_pow, Int.natCast_ediv, Int.natCast_pow]; rfl
theorem rot_any (x n : Nat) (m : Int) (hm : m = -(n : Int)) (hx : x < 4294967296) (h1 : 1 ≤ n) (h2 : n ≤ 31) (w : World) :
 Calls Tryz.prog 247 #[.int .u32 (x : Nat), .int .i64 m] w fun ev w' => ev = .returned (.int .u32 (rotr x n : Nat)) ∧ w' = w := by
 obtain ⟨q, hq⟩ : ∃ q, 32 - n = q := ⟨_, rfl⟩
 have hb := bits_31 h1 h2
 rw [hq, ← hm] at hb
 have hw : IntKind.u64.wrap (32 - (q : Int)) = (n : Int) := by rw [IntWalk.u64_in _ (by omega)]; omega
 have s1 : Op.shift .shl .u32 (x : Int) .u64 (q : Int) = pure (.int .u32 ((x <<< q % 4294967296 : Nat) : Int)) := by
  rw [shift_shl_any _ _ _ _ (by omega), show min (q : Int).toNat IntKind.u32.bits = q by show min (q : Int).toNat 32 = q; omega, shl_u32 _ _ (by omega)]
 have s2 : Op.shift .shr .u32 (x : Int) .u64 (n : Int) = pure (.int .u32 ((x >>> n : Nat) : Int)) := by
  rw [shift_shr_any _ _ _ _ (by omega), show min (n : Int).toNat IntKind.u32.bits = n by show min (n : Int).toNat 32 = n; omega, shr_u32]
 have s4 := shr_u32 x n
 obtain ⟨y, hy⟩ : ∃ y, x <<< q % 4294967296 = y := ⟨_, rfl⟩
 obtain ⟨z, hz⟩ : ∃ z, x >>> n = z := ⟨_, rfl⟩
 have ly : y < 4294967296 := by rw [← hy]; exact Nat.mod_lt _ (by decide)
 have lz : z < 4294967296 := by rw [← hz, Nat.shiftRight_eq_div_pow]; exact Nat.lt_of_le_of_lt (Nat.div_le_self _ _) hx
 have hr := rotr_u32 (n := n) hx
 rw [hq, hy, hz] at hr
 rw [hy] at s1
 rw [hz] at s2 s4
 have s3 := u32_or_nat y z ly lz
 rw [hr] at s3
 clear hy hz hr hq hm
 refine calls_at 17 Tryz.func247 rfl rfl (Nat.le_of_ble_eq_true rfl) ?_
 intro a hA; replace hA := hA.norm
 refine wS (wR ?_)
 revert a; refine wo rfl rfl (by decide) (fun ev e h => by simp [go_sem, h, hb, hw, s1, s2, s3, s4] <;> rfl) ?_; intro a hA
 replace hA := hA.keepN [0, 1]
 refine wN (nT (wS (wR ?_)))
 revert a; refine wo rfl rfl (by decide) (fun ev e h => by simp [go_sem, h, hb, hw, s1, s2, s3, s4] <;> rfl) ?_; intro a hA
 refine wl_op hA rfl rfl (by decide) (fun ev h => by simp [go_sem, h.get 6 rfl, hb, hw, s1, s2, s3, s4]; try first | exact ⟨rfl, rfl⟩ | rfl) fun a hA => ?_
 revert a; (iterate 2 refine wo rfl rfl (by decide) (fun ev e h => by simp [go_sem, h, hb, hw, s1, s2, s3, s4] <;> rfl) ?_); intro a hA
 replace hA := hA.keepN [0, 5]
 refine wN (nT (wS (wR ?_)))
 revert a; (iterate 9 refine wo rfl rfl (by decide) (fun ev e h => by simp [go_sem, h, hb, hw, s1, s2, s3, s4] <;> rfl) ?_); intro a hA
 replace hA := hA.keepN [4]
 refine wN (nT (wp_ret ?_))
 refine ret_1 hA 4 rfl rfl ?_
 exact ⟨rfl, rfl⟩
/-- words, and noughts behind them -/
def shaCells (l : List Nat) : List Value := (l ++ List.replicate (64 - l.length) 0).map u32v
theorem shaCells_len {l : List Nat} (h : l.length ≤ 64) : (shaCells l).length = 64 := by unfold shaCells; simp; omega
theorem shaCells_set {l : List Nat} (h : l.length < 64) (x : Nat) : (shaCells l).set l.length (u32v x) = shaCells (l ++ [x]) := by
 unfold shaCells
 have e : List.replicate (64 - l.length) 0 = 0 :: List.replicate (64 - (l ++ [x]).length) 0 := by
  rw [List.length_append, show 64 - l.length = (64 - (l.length + [x].length)) + 1 by simp; omega, List.replicate_succ]
 rw [e, List.map_append, List.map_cons, List.set_append_right _ _ (by simp), List.length_map, Nat.sub_self, List.set_cons_zero, List.append_assoc, List.map_append]
 simp
theorem shaCells_at {l : List Nat} {j : Nat} (h : j < l.length) : (shaCells l)[j]? = some (u32v (l.getD j 0)) := by
 unfold shaCells
 rw [List.getElem?_map, List.getElem?_append_left h, List.getD_eq_getElem?_getD, List.getElem?_eq_getElem h]
 rfl
theorem shaCells_one (l : List Nat) : (shaCells l).all (·.oneCell') = true := by
 unfold shaCells
 rw [List.all_map, List.all_eq_true]
 intro x _
 rfl
theorem shaCells_zero {l : List Nat} {j : Nat} (h : l.length ≤ j) (h2 : j < 64) : (shaCells l)[j]? = some (.int .u32 0) := by
 unfold shaCells
 rw [List.getElem?_map, List.getElem?_append_right h, List.getElem?_replicate, if_pos (by omega)]
 rfl
def shaNext4 (a b c d : Nat) : Nat := (a + smallS b + c + smallT d) % 4294967296
theorem shaCells_full {l : List Nat} (h : l.length = 64) : shaCells l = l.map u32v := by unfold shaCells; rw [h]; simp
theorem u8_ats {w : World} {B n : Nat} {A : Option Addr} {l : List UInt8} (h : Reads w B 1 A n (u8s l)) (hl : l.length = n) (hn : 0 < n) : ∃ ad, A = some ad ∧ ad.block < B ∧ ∀ j, j < n → w.cell? (ad.add j) = some (.int .u8 (((l.getD j 0).toNat : Nat) : Int)) := by
 obtain ⟨ad, e, hb, hc⟩ := h.2 hn
 exact ⟨ad, e, hb, fun j hj => hc j _ (by rw [u8s_get, List.getD_eq_getElem?_getD, List.getElem?_eq_getElem (by omega)]; rfl)⟩
theorem word_or (a b c d : UInt8) : (a.toNat * 16777216 ||| b.toNat * 65536) ||| c.toNat * 256 ||| d.toNat = beVal [a, b, c, d] := by
 have h1 : a.toNat * 16777216 ||| b.toNat * 65536 = a.toNat * 16777216 + b.toNat * 65536 := by
  rw [show a.toNat * 16777216 = (a.toNat) * 2 ^ 24 by omega, ← Nat.shiftLeft_eq, ← Nat.shiftLeft_add_eq_or_of_lt (by have := b.toNat_lt; omega)]
 have h2 : (a.toNat * 16777216 + b.toNat * 65536) ||| c.toNat * 256 = a.toNat * 16777216 + b.toNat * 65536 + c.toNat * 256 := by
  rw [show a.toNat * 16777216 + b.toNat * 65536 = (a.toNat * 256 + b.toNat) * 2 ^ 16 by omega, ← Nat.shiftLeft_eq, ← Nat.shiftLeft_add_eq_or_of_lt (by have := c.toNat_lt; omega)]
 have h3 : (a.toNat * 16777216 + b.toNat * 65536 + c.toNat * 256) ||| d.toNat = a.toNat * 16777216 + b.toNat * 65536 + c.toNat * 256 + d.toNat := by
  rw [show a.toNat * 16777216 + b.toNat * 65536 + c.toNat * 256 = (a.toNat * 65536 + b.toNat * 256 + c.toNat) * 2 ^ 8 by omega, ← Nat.shiftLeft_eq, ← Nat.shiftLeft_add_eq_or_of_lt (by have := d.toNat_lt; omega)]
 rw [h1, h2, h3]
 unfold beVal
 simp
 omega
theorem shaW_lt (b : List UInt8) : ∀ n, ∀ x ∈ shaW b n, x < 4294967296
 | 0, x, h => by cases h
 | n + 1, x, h => by
   unfold shaW at h
   rcases List.mem_append.1 h with h | h
   ·exact shaW_lt b n x h
   ·rw [List.mem_singleton.1 h]
    split
    ·have h1 := beVal_lt ((b.drop (4 * n)).take 4)
     have h2 : ((b.drop (4 * n)).take 4).length ≤ 4 := by rw [List.length_take]; omega
     exact Nat.lt_of_lt_of_le h1 (Nat.le_trans (Nat.pow_le_pow_right (by omega) h2) (by decide))
    ·exact Nat.mod_lt _ (by decide)
theorem shaW_getD_lt (b : List UInt8) (n j : Nat) : (shaW b n).getD j 0 < 4294967296 := by
 rw [List.getD_eq_getElem?_getD]
 cases h : (shaW b n)[j]? with
 | none => decide
 | some x => exact shaW_lt b n x (List.mem_of_getElem? h)
theorem word_at {b : List UInt8} {i : Nat} (h : 4 * i + 3 < b.length) : shaWord b i = beVal [b.getD (4 * i) 0, b.getD (4 * i + 1) 0, b.getD (4 * i + 2) 0, b.getD (4 * i + 3) 0] := by
 unfold shaWord
 congr 1
 simp only [List.getD_eq_getElem?_getD]
 rw [List.getElem?_eq_getElem (show 4 * i < b.length by omega), List.getElem?_eq_getElem (show 4 * i + 1 < b.length by omega), List.getElem?_eq_getElem (show 4 * i + 2 < b.length by omega), List.getElem?_eq_getElem h]
 rw [List.drop_eq_getElem_cons (show 4 * i < b.length by omega), List.take_succ_cons, List.drop_eq_getElem_cons (show 4 * i + 1 < b.length by omega), List.take_succ_cons, List.drop_eq_getElem_cons (show 4 * i + 1 + 1 < b.length by omega), List.take_succ_cons, List.drop_eq_getElem_cons (show 4 * i + 1 + 1 + 1 < b.length by omega), List.take_succ_cons, List.take_zero]
 rfl
set_option maxRecDepth 100000 in
set_option maxHeartbeats 1000000 in
theorem schedule_any (A : Option Addr) (c : Nat) (b : List UInt8) (hl : b.length = 64) (w : World) (hr : Reads w w.heap.size 1 A 64 (u8s b)) :
 Calls Tryz.prog 245 #[.slice A 64 c] w fun ev w' => ev = .returned (.agg ((shaW b 64).map u32v).toArray) ∧ Below w.heap.size w w' := by
 refine calls_at 93 Tryz.func245 rfl rfl (Nat.le_of_ble_eq_true rfl) ?_
 intro a hA; replace hA := hA.norm
 refine wS (wR ?_)
 refine wl_new hA rfl rfl (by decide) (fun ev h => by simp [go_sem]; try first | exact ⟨rfl, rfl⟩ | rfl) fun w1 a (K2 : Blk _ _ _ _) hz1 hb1 hA => ?_
 obtain ⟨g2, hg2⟩ : ∃ g, w.heap.size = g := ⟨_, rfl⟩
 rw [hg2] at K2 hA
 replace K2 : Blk w1 g2 311 (shaCells []).toArray := K2
 have HB : Below w.heap.size w w1 := hb1
 replace hA := hA.keepN [0, 2]
 refine wN (nT (wS (wR ?_)))
 refine wl_new hA rfl rfl (by decide) (fun ev h => by simp [go_sem]; try first | exact ⟨rfl, rfl⟩ | rfl) fun w2 a (K3 : Blk _ _ _ _) hz2 hb2 hA => ?_
 replace HB := HB.trans (hb2.mono HB.size)
 replace K2 := K2.below hb2 K2.lt
 obtain ⟨g3, hg3⟩ : ∃ g, w1.heap.size = g := ⟨_, rfl⟩
 rw [hg3] at K3 hA
 replace K3 : Blk w2 g3 311 (shaCells (shaW b 0)).toArray := K3
 have h23 : g2 ≠ g3 := by omega
 have h3 : w.heap.size ≤ g3 := by omega
 replace hA := hA.keepN [0, 2, 3]
 refine wN (nT (wS (wS (wR ?_))))
 revert a; refine wo rfl rfl (by decide) (fun ev e h => by simp [go_sem, h] <;> rfl) ?_; intro a hA
 replace hA := hA.keepN [0, 2, 3, 10]
 refine wN (nT (wB ?_))
 refine wp_loop_at (fun k a wx => ∃ (i : Nat), i + k = 16 ∧ At 93 [(0, .slice A 64 c), (2, .pointer (some ⟨g2, 0, none⟩)), (3, .pointer (some ⟨g3, 0, none⟩)), (10, .int .i64 (i : Nat))] a ∧ Blk wx g2 311 (shaCells []).toArray ∧ Blk wx g3 311 (shaCells (shaW b i)).toArray ∧ Below w.heap.size w wx) (16) ?_ ?_
 ·exact ⟨0, by omega, hA, K2, K3, HB⟩
 clear K2 K3 HB
 rintro k a wx ⟨i, hik, hA, K2, K3, HB⟩
 refine wS (wR ?_)
 revert a; refine wo rfl rfl (by decide) (fun ev e h => by simp [go_sem, h] <;> rfl) ?_; intro a hA
 replace hA := hA.keepN [0, 2, 3, 10, 11]
 refine wN (nT (wS ?_))
 refine wp_if hA 11 _ rfl (fun hq => ?yL) (fun hq => ?nL)
 case yL =>
  have hi : i < 16 := by simp at hq; omega
  refine wp_skip (nT (wS (wB (wS (wR ?_)))))
  revert a; (iterate 2 refine wo rfl rfl (by decide) (fun ev e h => by simp [go_sem, h] <;> rfl) ?_); intro a hA
  replace hA := hA.keepN [0, 2, 3, 4, 10]
  refine wN (nT ?_)
  obtain ⟨ad, rfl, had, hc⟩ := u8_ats ((hr.below HB).more HB.size) hl (by omega)
  obtain ⟨j0, hj0⟩ : ∃ j, 4 * i = j := ⟨_, rfl⟩
  obtain ⟨j1, hj1⟩ : ∃ j, 4 * i + 1 = j := ⟨_, rfl⟩
  obtain ⟨j2, hj2⟩ : ∃ j, 4 * i + 2 = j := ⟨_, rfl⟩
  obtain ⟨j3, hj3⟩ : ∃ j, 4 * i + 3 = j := ⟨_, rfl⟩
  have w0 : IntKind.i64.wrap (4 * (i : Int)) = (j0 : Int) := by rw [IntWalk.i64_in _ (by omega)]; omega
  have w1 : IntKind.i64.wrap ((j0 : Int) + 1) = (j1 : Int) := by rw [IntWalk.i64_in _ (by omega)]; omega
  have w2 : IntKind.i64.wrap ((j0 : Int) + 2) = (j2 : Int) := by rw [IntWalk.i64_in _ (by omega)]; omega
  have w3 : IntKind.i64.wrap ((j0 : Int) + 3) = (j3 : Int) := by rw [IntWalk.i64_in _ (by omega)]; omega
  have hwd : (b.getD j0 0).toNat * 16777216 ||| (b.getD j1 0).toNat * 65536 ||| (b.getD j2 0).toNat * 256 ||| (b.getD j3 0).toNat = shaWord b i := by rw [word_or, word_at (by omega), hj3, hj2, hj1, hj0]
  have c0 := hc j0 (by omega)
  have c1 := hc j1 (by omega)
  have c2 := hc j2 (by omega)
  have c3 := hc j3 (by omega)
  have l0 := (b.getD j0 0).toNat_lt
  have l1 := (b.getD j1 0).toNat_lt
  have l2 := (b.getD j2 0).toNat_lt
  have l3 := (b.getD j3 0).toNat_lt
  generalize (b.getD j0 0).toNat = x0 at *
  generalize (b.getD j1 0).toNat = x1 at *
  generalize (b.getD j2 0).toNat = x2 at *
  generalize (b.getD j3 0).toNat = x3 at *
  obtain ⟨V, hV⟩ : ∃ V, shaWord b i = V := ⟨_, rfl⟩
  rw [hV] at hwd
  have u0 : ∀ x : Nat, x < 256 → IntKind.u32.wrap (x : Int) = (x : Int) := fun x h => IntWalk.u32_in _ (by omega)
  have s24 : IntKind.u32.wrap ((x0 : Int) * 16777216) = ((x0 * 16777216 : Nat) : Int) := by rw [IntWalk.u32_in _ (by omega)]; omega
  have s16 : IntKind.u32.wrap ((x1 : Int) * 65536) = ((x1 * 65536 : Nat) : Int) := by rw [IntWalk.u32_in _ (by omega)]; omega
  have s8 : IntKind.u32.wrap ((x2 : Int) * 256) = ((x2 * 256 : Nat) : Int) := by rw [IntWalk.u32_in _ (by omega)]; omega
  obtain ⟨y0, hy0⟩ : ∃ y, x0 * 16777216 = y := ⟨_, rfl⟩
  obtain ⟨y1, hy1⟩ : ∃ y, x1 * 65536 = y := ⟨_, rfl⟩
  obtain ⟨y2, hy2⟩ : ∃ y, x2 * 256 = y := ⟨_, rfl⟩
  rw [hy0] at s24
  rw [hy1] at s16
  rw [hy2] at s8
  have o1 := u32_or_nat y0 y1 (by omega) (by omega)
  have lo1 : y0 ||| y1 < 4294967296 := Nat.or_lt_two_pow (n := 32) (by omega) (by omega)
  have o2 := u32_or_nat (y0 ||| y1) y2 lo1 (by omega)
  have lo2 : y0 ||| y1 ||| y2 < 4294967296 := Nat.or_lt_two_pow (n := 32) lo1 (by omega)
  have o3 := u32_or_nat (y0 ||| y1 ||| y2) x3 lo2 (by omega)
  rw [hy0, hy1, hy2] at hwd
  rw [hwd] at o3
  have jj : ∀ j : Nat, (0 : Int) ≤ (j : Int) := fun j => by omega
  have k0 : (j0 : Int) < 64 := by omega
  have k1 : (j1 : Int) < 64 := by omega
  have k2 : (j2 : Int) < 64 := by omega
  have k3 : (j3 : Int) < 64 := by omega
  have pD := fun (wo : World) (hC : (fun wy => Below wx.heap.size wx wy) wo) => have q0 := (hC.cell (p := ad.add j0) (by rw [block_of_add]; exact had)).trans c0; have q1 := (hC.cell (p := ad.add j1) (by rw [block_of_add]; exact had)).trans c1; have q2 := (hC.cell (p := ad.add j2) (by rw [block_of_add]; exact had)).trans c2; have q3 := (hC.cell (p := ad.add j3) (by rw [block_of_add]; exact had)).trans c3; And.intro (q0) (And.intro (q1) (And.intro (q2) (q3)))
  refine wp_region_split 34 ?_
  simp only [List.take_succ_cons, List.take_zero, List.drop_succ_cons, List.drop_zero]
  refine wp_any_split_at hA ((.det ?dD0) :: (.det ?dD1) :: (.det ?dD2) :: (.det ?dD3) :: (.det ?dD4) :: (.det ?dD5) :: (.det ?dD6) :: (.det ?dD7) :: (.det ?dD8) :: (.det ?dD9) :: (.det ?dD10) :: (.det ?dD11) :: (.det ?dD12) :: (.det ?dD13) :: (.det ?dD14) :: (.det ?dD15) :: (.det ?dD16) :: (.det ?dD17) :: (.det ?dD18) :: (.det ?dD19) :: (.det ?dD20) :: (.det ?dD21) :: (.det ?dD22) :: (.det ?dD23) :: (.det ?dD24) :: (.det ?dD25) :: (.det ?dD26) :: (.det ?dD27) :: (.det ?dD28) :: (.det ?dD29) :: (.det ?dD30) :: (.det ?dD31) :: (.det ?dD32) :: (.det ?dD33) :: []) [] (fun wy => Below wx.heap.size wx wy) (TSp [] Grows) (by kernel_rfl) rfl (by kernel_rfl) (by kernel_rfl) rfl (by kernel_rfl) (by kernel_rfl) (by kernel_rfl) (by kernel_rfl) ((Below.refl _ _).drew) (stab_sp [] (true :: true :: true :: true :: true :: true :: true :: true :: true :: true :: true :: true :: true :: true :: true :: true :: true :: true :: true :: true :: true :: true :: true :: true :: true :: true :: true :: true :: true :: true :: true :: true :: true :: true :: []) (true :: true :: true :: true :: true :: true :: true :: true :: true :: true :: true :: true :: true :: true :: true :: true :: true :: true :: true :: true :: true :: true :: true :: true :: true :: true :: true :: true :: true :: true :: true :: true :: true :: true :: []) [] rfl rfl rfl (by kernel_rfl) ⟨trivial, trivial, trivial, trivial, trivial, trivial, trivial, trivial, trivial, trivial, trivial, trivial, trivial, trivial, trivial, trivial, trivial, trivial, trivial, trivial, trivial, trivial, trivial, trivial, trivial, trivial, trivial, trivial, trivial, trivial, trivial, trivial, trivial, trivial, trivial⟩ trivial) (fun _ h => by cases h) (fun _ _ _ _ _ h => by cases h) (fun _ h => by cases h) ⟨?oD0, ?oD1, ?oD2, ?oD3, ?oD4, ?oD5, ?oD6, ?oD7, ?oD8, ?oD9, ?oD10, ?oD11, ?oD12, ?oD13, ?oD14, ?oD15, ?oD16, ?oD17, ?oD18, ?oD19, ?oD20, ?oD21, ?oD22, ?oD23, ?oD24, ?oD25, ?oD26, ?oD27, ?oD28, ?oD29, ?oD30, ?oD31, ?oD32, ?oD33, trivial⟩ (by kernel_rfl) ?fD
  case oD0 => intro ev wo hev hC hs hph; have x0 := se hA hs 4; exact od rfl rfl (by kernel_rfl) hC (TSp.of rfl (Grows.refl _)) (by simp [go_sem, x0, w0, w1, w2, w3, jj, k0, k1, k2, k3, u0 _ l0, u0 _ l1, u0 _ l2, u0 _ l3, s24, s16, s8, o1, o2, o3] <;> rfl)
  case oD1 => intro ev wo hev hC hs hph; have x0 := se hA hs 0; exact od rfl rfl (by kernel_rfl) hC (TSp.of rfl (Grows.refl _)) (by simp [go_sem, x0, w0, w1, w2, w3, jj, k0, k1, k2, k3, u0 _ l0, u0 _ l1, u0 _ l2, u0 _ l3, s24, s16, s8, o1, o2, o3] <;> rfl)
  case oD2 => intro ev wo hev hC hs hph; have x0 := se hA hs 4; exact od rfl rfl (by kernel_rfl) hC (TSp.of rfl (Grows.refl _)) (by simp [go_sem, x0, w0, w1, w2, w3, jj, k0, k1, k2, k3, u0 _ l0, u0 _ l1, u0 _ l2, u0 _ l3, s24, s16, s8, o1, o2, o3] <;> rfl)
  case oD3 => intro ev wo hev hC hs hph; have x0 := sd hs 15 2; exact od rfl rfl (by kernel_rfl) hC (TSp.of rfl (Grows.refl _)) (by simp [go_sem, x0, hev.const, w0, w1, w2, w3, jj, k0, k1, k2, k3, u0 _ l0, u0 _ l1, u0 _ l2, u0 _ l3, s24, s16, s8, o1, o2, o3] <;> rfl)
  case oD4 => intro ev wo hev hC hs hph; have x0 := sd hs 14 1; have x1 := sd hs 16 3; exact od rfl rfl (by kernel_rfl) hC (TSp.of rfl (Grows.refl _)) (by simp [go_sem, x0, x1, w0, w1, w2, w3, jj, k0, k1, k2, k3, u0 _ l0, u0 _ l1, u0 _ l2, u0 _ l3, s24, s16, s8, o1, o2, o3] <;> rfl)
  case oD5 => intro ev wo hev hC hs hph; have x0 := sd hs 17 4; exact od rfl rfl (by kernel_rfl) hC (TSp.of rfl (Grows.refl _)) (by simp [go_sem, x0, pD _ hC, w0, w1, w2, w3, jj, k0, k1, k2, k3, u0 _ l0, u0 _ l1, u0 _ l2, u0 _ l3, s24, s16, s8, o1, o2, o3] <;> rfl)
  case oD6 => intro ev wo hev hC hs hph; have x0 := sd hs 18 5; exact od rfl rfl (by kernel_rfl) hC (TSp.of rfl (Grows.refl _)) (by simp [go_sem, x0, w0, w1, w2, w3, jj, k0, k1, k2, k3, u0 _ l0, u0 _ l1, u0 _ l2, u0 _ l3, s24, s16, s8, o1, o2, o3] <;> rfl)
  case oD7 => intro ev wo hev hC hs hph; have x0 := sd hs 19 6; exact od rfl rfl (by kernel_rfl) hC (TSp.of rfl (Grows.refl _)) (by simp [go_sem, x0, hev.const, w0, w1, w2, w3, jj, k0, k1, k2, k3, u0 _ l0, u0 _ l1, u0 _ l2, u0 _ l3, s24, s16, s8, o1, o2, o3] <;> rfl)
  case oD8 => intro ev wo hev hC hs hph; have x0 := se hA hs 0; exact od rfl rfl (by kernel_rfl) hC (TSp.of rfl (Grows.refl _)) (by simp [go_sem, x0, w0, w1, w2, w3, jj, k0, k1, k2, k3, u0 _ l0, u0 _ l1, u0 _ l2, u0 _ l3, s24, s16, s8, o1, o2, o3] <;> rfl)
  case oD9 => intro ev wo hev hC hs hph; have x0 := se hA hs 4; exact od rfl rfl (by kernel_rfl) hC (TSp.of rfl (Grows.refl _)) (by simp [go_sem, x0, w0, w1, w2, w3, jj, k0, k1, k2, k3, u0 _ l0, u0 _ l1, u0 _ l2, u0 _ l3, s24, s16, s8, o1, o2, o3] <;> rfl)
  case oD10 => intro ev wo hev hC hs hph; have x0 := sd hs 22 9; exact od rfl rfl (by kernel_rfl) hC (TSp.of rfl (Grows.refl _)) (by simp [go_sem, x0, hev.const, w0, w1, w2, w3, jj, k0, k1, k2, k3, u0 _ l0, u0 _ l1, u0 _ l2, u0 _ l3, s24, s16, s8, o1, o2, o3] <;> rfl)
  case oD11 => intro ev wo hev hC hs hph; have x0 := sd hs 23 10; exact od rfl rfl (by kernel_rfl) hC (TSp.of rfl (Grows.refl _)) (by simp [go_sem, x0, hev.const, w0, w1, w2, w3, jj, k0, k1, k2, k3, u0 _ l0, u0 _ l1, u0 _ l2, u0 _ l3, s24, s16, s8, o1, o2, o3] <;> rfl)
  case oD12 => intro ev wo hev hC hs hph; have x0 := sd hs 21 8; have x1 := sd hs 24 11; exact od rfl rfl (by kernel_rfl) hC (TSp.of rfl (Grows.refl _)) (by simp [go_sem, x0, x1, w0, w1, w2, w3, jj, k0, k1, k2, k3, u0 _ l0, u0 _ l1, u0 _ l2, u0 _ l3, s24, s16, s8, o1, o2, o3] <;> rfl)
  case oD13 => intro ev wo hev hC hs hph; have x0 := sd hs 25 12; exact od rfl rfl (by kernel_rfl) hC (TSp.of rfl (Grows.refl _)) (by simp [go_sem, x0, pD _ hC, w0, w1, w2, w3, jj, k0, k1, k2, k3, u0 _ l0, u0 _ l1, u0 _ l2, u0 _ l3, s24, s16, s8, o1, o2, o3] <;> rfl)
  case oD14 => intro ev wo hev hC hs hph; have x0 := sd hs 26 13; exact od rfl rfl (by kernel_rfl) hC (TSp.of rfl (Grows.refl _)) (by simp [go_sem, x0, w0, w1, w2, w3, jj, k0, k1, k2, k3, u0 _ l0, u0 _ l1, u0 _ l2, u0 _ l3, s24, s16, s8, o1, o2, o3] <;> rfl)
  case oD15 => intro ev wo hev hC hs hph; have x0 := sd hs 27 14; exact od rfl rfl (by kernel_rfl) hC (TSp.of rfl (Grows.refl _)) (by simp [go_sem, x0, hev.const, w0, w1, w2, w3, jj, k0, k1, k2, k3, u0 _ l0, u0 _ l1, u0 _ l2, u0 _ l3, s24, s16, s8, o1, o2, o3] <;> rfl)
  case oD16 => intro ev wo hev hC hs hph; have x0 := sd hs 20 7; have x1 := sd hs 28 15; exact od rfl rfl (by kernel_rfl) hC (TSp.of rfl (Grows.refl _)) (by simp [go_sem, x0, x1, w0, w1, w2, w3, jj, k0, k1, k2, k3, u0 _ l0, u0 _ l1, u0 _ l2, u0 _ l3, s24, s16, s8, o1, o2, o3] <;> rfl)
  case oD17 => intro ev wo hev hC hs hph; have x0 := se hA hs 0; exact od rfl rfl (by kernel_rfl) hC (TSp.of rfl (Grows.refl _)) (by simp [go_sem, x0, w0, w1, w2, w3, jj, k0, k1, k2, k3, u0 _ l0, u0 _ l1, u0 _ l2, u0 _ l3, s24, s16, s8, o1, o2, o3] <;> rfl)
  case oD18 => intro ev wo hev hC hs hph; have x0 := se hA hs 4; exact od rfl rfl (by kernel_rfl) hC (TSp.of rfl (Grows.refl _)) (by simp [go_sem, x0, w0, w1, w2, w3, jj, k0, k1, k2, k3, u0 _ l0, u0 _ l1, u0 _ l2, u0 _ l3, s24, s16, s8, o1, o2, o3] <;> rfl)
  case oD19 => intro ev wo hev hC hs hph; have x0 := sd hs 31 18; exact od rfl rfl (by kernel_rfl) hC (TSp.of rfl (Grows.refl _)) (by simp [go_sem, x0, hev.const, w0, w1, w2, w3, jj, k0, k1, k2, k3, u0 _ l0, u0 _ l1, u0 _ l2, u0 _ l3, s24, s16, s8, o1, o2, o3] <;> rfl)
  case oD20 => intro ev wo hev hC hs hph; have x0 := sd hs 32 19; exact od rfl rfl (by kernel_rfl) hC (TSp.of rfl (Grows.refl _)) (by simp [go_sem, x0, hev.const, w0, w1, w2, w3, jj, k0, k1, k2, k3, u0 _ l0, u0 _ l1, u0 _ l2, u0 _ l3, s24, s16, s8, o1, o2, o3] <;> rfl)
  case oD21 => intro ev wo hev hC hs hph; have x0 := sd hs 30 17; have x1 := sd hs 33 20; exact od rfl rfl (by kernel_rfl) hC (TSp.of rfl (Grows.refl _)) (by simp [go_sem, x0, x1, w0, w1, w2, w3, jj, k0, k1, k2, k3, u0 _ l0, u0 _ l1, u0 _ l2, u0 _ l3, s24, s16, s8, o1, o2, o3] <;> rfl)
  case oD22 => intro ev wo hev hC hs hph; have x0 := sd hs 34 21; exact od rfl rfl (by kernel_rfl) hC (TSp.of rfl (Grows.refl _)) (by simp [go_sem, x0, pD _ hC, w0, w1, w2, w3, jj, k0, k1, k2, k3, u0 _ l0, u0 _ l1, u0 _ l2, u0 _ l3, s24, s16, s8, o1, o2, o3] <;> rfl)
  case oD23 => intro ev wo hev hC hs hph; have x0 := sd hs 35 22; exact od rfl rfl (by kernel_rfl) hC (TSp.of rfl (Grows.refl _)) (by simp [go_sem, x0, w0, w1, w2, w3, jj, k0, k1, k2, k3, u0 _ l0, u0 _ l1, u0 _ l2, u0 _ l3, s24, s16, s8, o1, o2, o3] <;> rfl)
  case oD24 => intro ev wo hev hC hs hph; have x0 := sd hs 36 23; exact od rfl rfl (by kernel_rfl) hC (TSp.of rfl (Grows.refl _)) (by simp [go_sem, x0, hev.const, w0, w1, w2, w3, jj, k0, k1, k2, k3, u0 _ l0, u0 _ l1, u0 _ l2, u0 _ l3, s24, s16, s8, o1, o2, o3] <;> rfl)
  case oD25 => intro ev wo hev hC hs hph; have x0 := sd hs 29 16; have x1 := sd hs 37 24; exact od rfl rfl (by kernel_rfl) hC (TSp.of rfl (Grows.refl _)) (by simp [go_sem, x0, x1, w0, w1, w2, w3, jj, k0, k1, k2, k3, u0 _ l0, u0 _ l1, u0 _ l2, u0 _ l3, s24, s16, s8, o1, o2, o3] <;> rfl)
  case oD26 => intro ev wo hev hC hs hph; have x0 := se hA hs 0; exact od rfl rfl (by kernel_rfl) hC (TSp.of rfl (Grows.refl _)) (by simp [go_sem, x0, w0, w1, w2, w3, jj, k0, k1, k2, k3, u0 _ l0, u0 _ l1, u0 _ l2, u0 _ l3, s24, s16, s8, o1, o2, o3] <;> rfl)
  case oD27 => intro ev wo hev hC hs hph; have x0 := se hA hs 4; exact od rfl rfl (by kernel_rfl) hC (TSp.of rfl (Grows.refl _)) (by simp [go_sem, x0, w0, w1, w2, w3, jj, k0, k1, k2, k3, u0 _ l0, u0 _ l1, u0 _ l2, u0 _ l3, s24, s16, s8, o1, o2, o3] <;> rfl)
  case oD28 => intro ev wo hev hC hs hph; have x0 := sd hs 40 27; exact od rfl rfl (by kernel_rfl) hC (TSp.of rfl (Grows.refl _)) (by simp [go_sem, x0, hev.const, w0, w1, w2, w3, jj, k0, k1, k2, k3, u0 _ l0, u0 _ l1, u0 _ l2, u0 _ l3, s24, s16, s8, o1, o2, o3] <;> rfl)
  case oD29 => intro ev wo hev hC hs hph; have x0 := sd hs 41 28; exact od rfl rfl (by kernel_rfl) hC (TSp.of rfl (Grows.refl _)) (by simp [go_sem, x0, hev.const, w0, w1, w2, w3, jj, k0, k1, k2, k3, u0 _ l0, u0 _ l1, u0 _ l2, u0 _ l3, s24, s16, s8, o1, o2, o3] <;> rfl)
  case oD30 => intro ev wo hev hC hs hph; have x0 := sd hs 39 26; have x1 := sd hs 42 29; exact od rfl rfl (by kernel_rfl) hC (TSp.of rfl (Grows.refl _)) (by simp [go_sem, x0, x1, w0, w1, w2, w3, jj, k0, k1, k2, k3, u0 _ l0, u0 _ l1, u0 _ l2, u0 _ l3, s24, s16, s8, o1, o2, o3] <;> rfl)
  case oD31 => intro ev wo hev hC hs hph; have x0 := sd hs 43 30; exact od rfl rfl (by kernel_rfl) hC (TSp.of rfl (Grows.refl _)) (by simp [go_sem, x0, pD _ hC, w0, w1, w2, w3, jj, k0, k1, k2, k3, u0 _ l0, u0 _ l1, u0 _ l2, u0 _ l3, s24, s16, s8, o1, o2, o3] <;> rfl)
  case oD32 => intro ev wo hev hC hs hph; have x0 := sd hs 44 31; exact od rfl rfl (by kernel_rfl) hC (TSp.of rfl (Grows.refl _)) (by simp [go_sem, x0, w0, w1, w2, w3, jj, k0, k1, k2, k3, u0 _ l0, u0 _ l1, u0 _ l2, u0 _ l3, s24, s16, s8, o1, o2, o3] <;> rfl)
  case oD33 => intro ev wo hev hC hs hph; have x0 := sd hs 38 25; have x1 := sd hs 45 32; exact od rfl rfl (by kernel_rfl) hC (TSp.of rfl (Grows.refl _)) (by simp [go_sem, x0, x1, w0, w1, w2, w3, jj, k0, k1, k2, k3, u0 _ l0, u0 _ l1, u0 _ l2, u0 _ l3, s24, s16, s8, o1, o2, o3] <;> rfl)
  intro sg wf hC hph
  intro a hA
  replace hA := hA.keepN [0, 2, 3, 10, 13, 46]
  have K2f := K2.below hC K2.lt
  have K3f := K3.below hC K3.lt
  have HBf := HB.trans (hC.mono HB.size)
  have hlen : (shaW b i).length = i := shaW_length b i
  have hci := shaCells_zero (l := shaW b i) (j := i) (by omega) (by omega)
  have ki : (i : Int) < 64 := by omega
  revert a; refine wo rfl rfl (by decide) (fun ev e h => by simp [go_sem, h, jj, ki, add0, hci] <;> rfl) ?_; intro a hA
  refine wl_setf ((shaCells (shaW b i)).set i (.int .u32 (V : Nat))) _ hA rfl rfl K3f (j := i) (by rfl) (fun ev h => by simp [go_sem, h.get 47 rfl, h.get 46 rfl, jj, ki, add0, hci, K3f.cell, K3f.frozen]; try first | exact ⟨rfl, rfl⟩ | rfl) fun w5 (K3f : Blk _ _ _ _) hs => ?_
  have hwi : IntKind.i64.wrap ((i : Int) + 1) = ((i + 1 : Nat) : Int) := by rw [IntWalk.i64_in _ (by omega)]; omega
  replace hA := hA.keepN [0, 2, 3, 10]
  refine wN (nB (nT (wR ?_)))
  revert a; (iterate 2 refine wo rfl rfl (by decide) (fun ev e h => by simp [go_sem, h, hwi] <;> rfl) ?_); intro a hA
  replace hA := hA.keepN [0, 2, 3, 10]
  refine wN (nT ?_)
  refine ⟨k - 1, by omega, i + 1, by omega, hA, hs.blk K2f h23, ?_, hs.below HBf h3⟩
  have e := shaCells_set (l := shaW b i) (by omega) V
  rw [hlen] at e
  rw [show shaW b (i + 1) = shaW b i ++ [V] by rw [← hV]; show shaW b i ++ _ = _; rw [if_pos hi], ← e]
  exact K3f
 case nL =>
  have hi : i = 16 := by simp at hq; omega
  subst hi
  clear hr hik hq
  replace hA := hA.keepN [2, 3]
  refine wp_exit (xT (xT (xB (nT (wS (wS (wR ?_)))))))
  revert a; refine wo rfl rfl (by decide) (fun ev e h => by simp [go_sem, h] <;> rfl) ?_; intro a hA
  replace hA := hA.keepN [2, 3, 5]
  refine wN (nT (wB ?_))
  refine wp_loop_at (fun k a wx => ∃ (i : Nat), i + k = 64 ∧ 16 ≤ i ∧ At 93 [(2, .pointer (some ⟨g2, 0, none⟩)), (3, .pointer (some ⟨g3, 0, none⟩)), (5, .int .i64 (i : Nat))] a ∧ Blk wx g2 311 (shaCells []).toArray ∧ Blk wx g3 311 (shaCells (shaW b i)).toArray ∧ Below w.heap.size w wx) (48) ?_ ?_
  ·exact ⟨16, by omega, by omega, hA, K2, K3, HB⟩
  clear K2 K3 HB
  rintro k a wx ⟨i, hik, hi16, hA, K2, K3, HB⟩
  refine wS (wS (wR ?_))
  revert a; (iterate 2 refine wo rfl rfl (by decide) (fun ev e h => by simp [go_sem, h] <;> rfl) ?_); intro a hA
  replace hA := hA.keepN [2, 3, 5, 50]
  refine wN (nT ?_)
  refine wp_if hA 50 _ rfl (fun hq => ?yM) (fun hq => ?nM)
  case yM =>
   have hi : i < 64 := by simp at hq; omega
   refine wp_skip (nT (wS (wB (wS ?_))))
   obtain ⟨j15, hj15⟩ : ∃ j, i - 15 = j := ⟨_, rfl⟩
   obtain ⟨j16, hj16⟩ : ∃ j, i - 16 = j := ⟨_, rfl⟩
   obtain ⟨j7, hj7⟩ : ∃ j, i - 7 = j := ⟨_, rfl⟩
   obtain ⟨j2, hj2⟩ : ∃ j, i - 2 = j := ⟨_, rfl⟩
   have w15 : IntKind.i64.wrap ((i : Int) - 15) = (j15 : Int) := by rw [IntWalk.i64_in _ (by omega)]; omega
   have w16 : IntKind.i64.wrap ((i : Int) - 16) = (j16 : Int) := by rw [IntWalk.i64_in _ (by omega)]; omega
   have w7 : IntKind.i64.wrap ((i : Int) - 7) = (j7 : Int) := by rw [IntWalk.i64_in _ (by omega)]; omega
   have w2 : IntKind.i64.wrap ((i : Int) - 2) = (j2 : Int) := by rw [IntWalk.i64_in _ (by omega)]; omega
   have hlen : (shaW b i).length = i := shaW_length b i
   have c15 := shaCells_at (l := shaW b i) (j := j15) (by omega)
   have c16 := shaCells_at (l := shaW b i) (j := j16) (by omega)
   have c7 := shaCells_at (l := shaW b i) (j := j7) (by omega)
   have c2 := shaCells_at (l := shaW b i) (j := j2) (by omega)
   have hnx : shaNext (shaW b i) i = shaNext4 ((shaW b i).getD j16 0) ((shaW b i).getD j15 0) ((shaW b i).getD j7 0) ((shaW b i).getD j2 0) := by unfold shaNext shaNext4; rw [hj15, hj16, hj7, hj2]
   have l15 := shaW_getD_lt b i j15
   have l16 := shaW_getD_lt b i j16
   have l7 := shaW_getD_lt b i j7
   have l2 := shaW_getD_lt b i j2
   obtain ⟨x15, hx15⟩ : ∃ x, (shaW b i).getD j15 0 = x := ⟨_, rfl⟩
   obtain ⟨x16, hx16⟩ : ∃ x, (shaW b i).getD j16 0 = x := ⟨_, rfl⟩
   obtain ⟨x7, hx7⟩ : ∃ x, (shaW b i).getD j7 0 = x := ⟨_, rfl⟩
   obtain ⟨x2, hx2⟩ : ∃ x, (shaW b i).getD j2 0 = x := ⟨_, rfl⟩
   rw [hx15, hx16, hx7, hx2] at hnx
   rw [hx15] at c15 l15
   rw [hx16] at c16 l16
   rw [hx7] at c7 l7
   rw [hx2] at c2 l2
   clear hx15 hx16 hx7 hx2
   unfold u32v at c15 c16 c7 c2
   have jj : ∀ j : Nat, (0 : Int) ≤ (j : Int) := fun j => by omega
   have k15 : (j15 : Int) < 64 := by omega
   have k16 : (j16 : Int) < 64 := by omega
   have k7 : (j7 : Int) < 64 := by omega
   have k2 : (j2 : Int) < 64 := by omega
   have pE := fun (wo : World) (hC : (fun wy => Below wx.heap.size wx wy) wo) => have Kx := K3.below hC K3.lt; And.intro (Kx.cell) (And.intro (c15) (c2))
   refine wp_any_at hA [(.det ?dE0), (.det ?dE1), (.det ?dE2), (.det ?dE3), (.det ?dE4), (.det ?dE5), (.det ?dE6), (.det ?dE7), (.det ?dE8), (.det ?dE9)] [] (fun wy => Below wx.heap.size wx wy) (TSp [] Grows) (by kernel_rfl) rfl (by kernel_rfl) (by kernel_rfl) rfl ((Below.refl _ _).drew) (stab_sp [] [true, true, true, true, true, true, true, true, true, true] [true, true, true, true, true, true, true, true, true, true] [] rfl rfl rfl (by kernel_rfl) ⟨trivial, trivial, trivial, trivial, trivial, trivial, trivial, trivial, trivial, trivial, trivial⟩ trivial) (fun _ h => by cases h) (fun _ _ _ _ _ h => by cases h) (fun _ h => by cases h) ⟨?oE0, ?oE1, ?oE2, ?oE3, ?oE4, ?oE5, ?oE6, ?oE7, ?oE8, ?oE9, trivial⟩ (by kernel_rfl) ?fE
   case oE0 => intro ev wo hev hC hs hph; have x0 := se hA hs 5; exact od rfl rfl (by kernel_rfl) hC (TSp.of rfl (Grows.refl _)) (by simp [go_sem, x0, w15, w2, jj, k15, k2, add0] <;> rfl)
   case oE1 => intro ev wo hev hC hs hph; have x0 := sd hs 53 0; exact od rfl rfl (by kernel_rfl) hC (TSp.of rfl (Grows.refl _)) (by simp [go_sem, x0, hev.const, w15, w2, jj, k15, k2, add0] <;> rfl)
   case oE2 => intro ev wo hev hC hs hph; have x0 := se hA hs 3; have x1 := sd hs 54 1; exact od rfl rfl (by kernel_rfl) hC (TSp.of rfl (Grows.refl _)) (by simp [go_sem, x0, x1, w15, w2, jj, k15, k2, add0] <;> rfl)
   case oE3 => intro ev wo hev hC hs hph; have x0 := sd hs 55 2; exact od rfl rfl (by kernel_rfl) hC (TSp.of rfl (Grows.refl _)) (by simp [go_sem, x0, pE _ hC, w15, w2, jj, k15, k2, add0] <;> rfl)
   case oE4 => intro ev wo hev hC hs hph; have x0 := se hA hs 5; exact od rfl rfl (by kernel_rfl) hC (TSp.of rfl (Grows.refl _)) (by simp [go_sem, x0, w15, w2, jj, k15, k2, add0] <;> rfl)
   case oE5 => intro ev wo hev hC hs hph; have x0 := sd hs 57 4; exact od rfl rfl (by kernel_rfl) hC (TSp.of rfl (Grows.refl _)) (by simp [go_sem, x0, hev.const, w15, w2, jj, k15, k2, add0] <;> rfl)
   case oE6 => intro ev wo hev hC hs hph; have x0 := se hA hs 3; have x1 := sd hs 58 5; exact od rfl rfl (by kernel_rfl) hC (TSp.of rfl (Grows.refl _)) (by simp [go_sem, x0, x1, w15, w2, jj, k15, k2, add0] <;> rfl)
   case oE7 => intro ev wo hev hC hs hph; have x0 := sd hs 59 6; exact od rfl rfl (by kernel_rfl) hC (TSp.of rfl (Grows.refl _)) (by simp [go_sem, x0, pE _ hC, w15, w2, jj, k15, k2, add0] <;> rfl)
   case oE8 => intro ev wo hev hC hs hph; have x0 := sd hs 56 3; exact od rfl rfl (by kernel_rfl) hC (TSp.of rfl (Grows.refl _)) (by simp [go_sem, x0, w15, w2, jj, k15, k2, add0] <;> rfl)
   case oE9 => intro ev wo hev hC hs hph; have x0 := sd hs 60 7; exact od rfl rfl (by kernel_rfl) hC (TSp.of rfl (Grows.refl _)) (by simp [go_sem, x0, w15, w2, jj, k15, k2, add0] <;> rfl)
   intro sg wf hC hph
   intro a hA
   replace hA := hA.keepN [2, 3, 5, 6, 7]
   refine nT ?_
   have K2f := K2.below hC K2.lt
   have K3f := K3.below hC K3.lt
   have HBf := HB.trans (hC.mono HB.size)
   have r7 := rotr_lt x15 7
   have r18 := rotr_lt x15 18
   have r17 := rotr_lt x2 17
   have r19 := rotr_lt x2 19
   have s3 : (x15 : Int) / 8 = ((sr x15 3 : Nat) : Int) := shr_u32 x15 3
   have s10 : (x2 : Int) / 1024 = ((sr x2 10 : Nat) : Int) := shr_u32 x2 10
   have e1 := w_xo r7 r18
   have e2 := w_xo (xo_lt r7 r18) (sr_lt (n := 3) l15)
   have e3 := w_xo r17 r19
   have e4 := w_xo (xo_lt r17 r19) (sr_lt (n := 10) l2)
   refine wS (wR ?_)
   revert a; refine wo rfl rfl (by decide) (fun ev e h => by simp [go_sem, h, s3, e1, e2, s10, e3, e4] <;> rfl) ?_; intro a hA
   refine wl_call hA rfl rfl (by decide) (fun ev h => exec_call Tryz.func247 (by kernel_rfl) rfl (h.f _) (by first | (simp only [mL, h.get 61 rfl, h.c] <;> rfl) | (simp [mL, h.get 61 rfl, h.c, s3, e1, e2, s10, e3, e4] <;> rfl))) (rot_any x15 7 (-7) rfl l15 (by decide) (by decide) _) ?_
   rintro e wa ⟨rfl, rfl⟩
   refine ⟨_, rfl, fun a hA => ?_⟩
   revert a; refine wo rfl rfl (by decide) (fun ev e h => by simp [go_sem, h, s3, e1, e2, s10, e3, e4] <;> rfl) ?_; intro a hA
   refine wl_call hA rfl rfl (by decide) (fun ev h => exec_call Tryz.func247 (by kernel_rfl) rfl (h.f _) (by first | (simp only [mL, h.get 63 rfl, h.c] <;> rfl) | (simp [mL, h.get 63 rfl, h.c, s3, e1, e2, s10, e3, e4] <;> rfl))) (rot_any x15 18 (-18) rfl l15 (by decide) (by decide) _) ?_
   rintro e wa ⟨rfl, rfl⟩
   refine ⟨_, rfl, fun a hA => ?_⟩
   revert a; (iterate 5 refine wo rfl rfl (by decide) (fun ev e h => by simp [go_sem, h, s3, e1, e2, s10, e3, e4] <;> rfl) ?_); intro a hA
   replace hA := hA.keepN [2, 3, 5, 7, 8]
   refine wN (nT (wS (wR ?_)))
   revert a; refine wo rfl rfl (by decide) (fun ev e h => by simp [go_sem, h, s3, e1, e2, s10, e3, e4] <;> rfl) ?_; intro a hA
   refine wl_call hA rfl rfl (by decide) (fun ev h => exec_call Tryz.func247 (by kernel_rfl) rfl (h.f _) (by first | (simp only [mL, h.get 69 rfl, h.c] <;> rfl) | (simp [mL, h.get 69 rfl, h.c, s3, e1, e2, s10, e3, e4] <;> rfl))) (rot_any x2 17 (-17) rfl l2 (by decide) (by decide) _) ?_
   rintro e wa ⟨rfl, rfl⟩
   refine ⟨_, rfl, fun a hA => ?_⟩
   revert a; refine wo rfl rfl (by decide) (fun ev e h => by simp [go_sem, h, s3, e1, e2, s10, e3, e4] <;> rfl) ?_; intro a hA
   refine wl_call hA rfl rfl (by decide) (fun ev h => exec_call Tryz.func247 (by kernel_rfl) rfl (h.f _) (by first | (simp only [mL, h.get 71 rfl, h.c] <;> rfl) | (simp [mL, h.get 71 rfl, h.c, s3, e1, e2, s10, e3, e4] <;> rfl))) (rot_any x2 19 (-19) rfl l2 (by decide) (by decide) _) ?_
   rintro e wa ⟨rfl, rfl⟩
   refine ⟨_, rfl, fun a hA => ?_⟩
   revert a; (iterate 5 refine wo rfl rfl (by decide) (fun ev e h => by simp [go_sem, h, s3, e1, e2, s10, e3, e4] <;> rfl) ?_); intro a hA
   replace hA := hA.keepN [2, 3, 5, 8, 9]
   have pF := fun (wo : World) (hC : (fun wy => Below wa.heap.size wa wy) wo) => have Kx := K3f.below hC K3f.lt; And.intro (Kx.cell) (And.intro (c16) (c7))
   refine wN (nT ?_)
   refine wp_region_split 14 ?_
   simp only [List.take_succ_cons, List.take_zero, List.drop_succ_cons, List.drop_zero]
   refine wp_any_split_at hA [(.det ?dF0), (.det ?dF1), (.det ?dF2), (.det ?dF3), (.det ?dF4), (.det ?dF5), (.det ?dF6), (.det ?dF7), (.det ?dF8), (.det ?dF9), (.det ?dF10), (.det ?dF11), (.det ?dF12), (.det ?dF13)] [] (fun wy => Below wa.heap.size wa wy) (TSp [] Grows) (by kernel_rfl) rfl (by kernel_rfl) (by kernel_rfl) rfl (by kernel_rfl) (by kernel_rfl) (by kernel_rfl) (by kernel_rfl) ((Below.refl _ _).drew) (stab_sp [] [true, true, true, true, true, true, true, true, true, true, true, true, true, true] [true, true, true, true, true, true, true, true, true, true, true, true, true, true] [] rfl rfl rfl (by kernel_rfl) ⟨trivial, trivial, trivial, trivial, trivial, trivial, trivial, trivial, trivial, trivial, trivial, trivial, trivial, trivial, trivial⟩ trivial) (fun _ h => by cases h) (fun _ _ _ _ _ h => by cases h) (fun _ h => by cases h) ⟨?oF0, ?oF1, ?oF2, ?oF3, ?oF4, ?oF5, ?oF6, ?oF7, ?oF8, ?oF9, ?oF10, ?oF11, ?oF12, ?oF13, trivial⟩ (by kernel_rfl) ?fF
   case oF0 => intro ev wo hev hC hs hph; have x0 := se hA hs 5; exact od rfl rfl (by kernel_rfl) hC (TSp.of rfl (Grows.refl _)) (by simp [go_sem, x0, w16, w7, jj, k16, k7, add0, w_ad] <;> rfl)
   case oF1 => intro ev wo hev hC hs hph; have x0 := se hA hs 5; exact od rfl rfl (by kernel_rfl) hC (TSp.of rfl (Grows.refl _)) (by simp [go_sem, x0, w16, w7, jj, k16, k7, add0, w_ad] <;> rfl)
   case oF2 => intro ev wo hev hC hs hph; have x0 := sd hs 78 1; exact od rfl rfl (by kernel_rfl) hC (TSp.of rfl (Grows.refl _)) (by simp [go_sem, x0, hev.const, w16, w7, jj, k16, k7, add0, w_ad] <;> rfl)
   case oF3 => intro ev wo hev hC hs hph; have x0 := se hA hs 3; have x1 := sd hs 79 2; exact od rfl rfl (by kernel_rfl) hC (TSp.of rfl (Grows.refl _)) (by simp [go_sem, x0, x1, w16, w7, jj, k16, k7, add0, w_ad] <;> rfl)
   case oF4 => intro ev wo hev hC hs hph; have x0 := sd hs 80 3; exact od rfl rfl (by kernel_rfl) hC (TSp.of rfl (Grows.refl _)) (by simp [go_sem, x0, pF _ hC, s3, e1, e2, s10, e3, e4, w16, w7, jj, k16, k7, add0, w_ad] <;> rfl)
   case oF5 => intro ev wo hev hC hs hph; have x0 := se hA hs 8; exact od rfl rfl (by kernel_rfl) hC (TSp.of rfl (Grows.refl _)) (by simp [go_sem, x0, w16, w7, jj, k16, k7, add0, w_ad] <;> rfl)
   case oF6 => intro ev wo hev hC hs hph; have x0 := sd hs 81 4; have x1 := sd hs 82 5; exact od rfl rfl (by kernel_rfl) hC (TSp.of rfl (Grows.refl _)) (by simp [go_sem, x0, x1, w16, w7, jj, k16, k7, add0, w_ad] <;> rfl)
   case oF7 => intro ev wo hev hC hs hph; have x0 := se hA hs 5; exact od rfl rfl (by kernel_rfl) hC (TSp.of rfl (Grows.refl _)) (by simp [go_sem, x0, w16, w7, jj, k16, k7, add0, w_ad] <;> rfl)
   case oF8 => intro ev wo hev hC hs hph; have x0 := sd hs 84 7; exact od rfl rfl (by kernel_rfl) hC (TSp.of rfl (Grows.refl _)) (by simp [go_sem, x0, hev.const, w16, w7, jj, k16, k7, add0, w_ad] <;> rfl)
   case oF9 => intro ev wo hev hC hs hph; have x0 := se hA hs 3; have x1 := sd hs 85 8; exact od rfl rfl (by kernel_rfl) hC (TSp.of rfl (Grows.refl _)) (by simp [go_sem, x0, x1, w16, w7, jj, k16, k7, add0, w_ad] <;> rfl)
   case oF10 => intro ev wo hev hC hs hph; have x0 := sd hs 86 9; exact od rfl rfl (by kernel_rfl) hC (TSp.of rfl (Grows.refl _)) (by simp [go_sem, x0, pF _ hC, s3, e1, e2, s10, e3, e4, w16, w7, jj, k16, k7, add0, w_ad] <;> rfl)
   case oF11 => intro ev wo hev hC hs hph; have x0 := sd hs 83 6; have x1 := sd hs 87 10; exact od rfl rfl (by kernel_rfl) hC (TSp.of rfl (Grows.refl _)) (by simp [go_sem, x0, x1, w16, w7, jj, k16, k7, add0, w_ad] <;> rfl)
   case oF12 => intro ev wo hev hC hs hph; have x0 := se hA hs 9; exact od rfl rfl (by kernel_rfl) hC (TSp.of rfl (Grows.refl _)) (by simp [go_sem, x0, w16, w7, jj, k16, k7, add0, w_ad] <;> rfl)
   case oF13 => intro ev wo hev hC hs hph; have x0 := sd hs 88 11; have x1 := sd hs 89 12; exact od rfl rfl (by kernel_rfl) hC (TSp.of rfl (Grows.refl _)) (by simp [go_sem, x0, x1, w16, w7, jj, k16, k7, add0, w_ad] <;> rfl)
   intro sg wf hC hph
   intro a hA
   replace hA := hA.keepN [2, 3, 5, 77, 90]
   have K2g := K2f.below hC K2f.lt
   have K3g := K3f.below hC K3f.lt
   have HBg := HBf.trans (hC.mono HBf.size)
   have hci := shaCells_zero (l := shaW b i) (j := i) (by omega) (by omega)
   have ki : (i : Int) < 64 := by omega
   obtain ⟨V, hV⟩ : ∃ V, shaNext (shaW b i) i = V := ⟨_, rfl⟩
   have hVe : ad (ad (ad x16 (xo (xo (rotr x15 7) (rotr x15 18)) (sr x15 3))) x7) (xo (xo (rotr x2 17) (rotr x2 19)) (sr x2 10)) = V := by
    rw [← hV, hnx]
    unfold shaNext4 smallS smallT ad xo sr
    omega
   rw [hVe] at hA
   revert a; refine wo rfl rfl (by decide) (fun ev e h => by simp [go_sem, h, jj, ki, add0, hci] <;> rfl) ?_; intro a hA
   refine wl_setf ((shaCells (shaW b i)).set i (.int .u32 (V : Nat))) _ hA rfl rfl K3g (j := i) (by rfl) (fun ev h => by simp [go_sem, h.get 91 rfl, h.get 90 rfl, jj, ki, add0, hci, K3g.cell, K3g.frozen]; try first | exact ⟨rfl, rfl⟩ | rfl) fun w5 (K3g : Blk _ _ _ _) hs => ?_
   have hwi : IntKind.i64.wrap ((i : Int) + 1) = ((i + 1 : Nat) : Int) := by rw [IntWalk.i64_in _ (by omega)]; omega
   replace hA := hA.keepN [2, 3, 5]
   refine wN (nB (nT (wR ?_)))
   revert a; (iterate 3 refine wo rfl rfl (by decide) (fun ev e h => by simp [go_sem, h, hwi] <;> rfl) ?_); intro a hA
   replace hA := hA.keepN [2, 3, 5]
   refine wN (nT ?_)
   refine ⟨k - 1, by omega, i + 1, by omega, by omega, hA, hs.blk K2g h23, ?_, hs.below HBg h3⟩
   have e := shaCells_set (l := shaW b i) (by omega) V
   rw [hlen] at e
   rw [show shaW b (i + 1) = shaW b i ++ [V] by rw [← hV]; show shaW b i ++ _ = _; rw [if_neg (by omega)], ← e]
   exact K3g
  case nM =>
   have hi : i = 64 := by simp at hq; omega
   subst hi
   replace hA := hA.keepN [2, 3]
   refine wp_exit (xT (xT (xB (nT (wS (wR ?_))))))
   have h64 : (shaCells (shaW b 64)).length = 64 := shaCells_len (Nat.le_of_eq (shaW_length b 64))
   refine wl_op hA rfl rfl (by decide) (fun ev h => exec_loadA K3 Tryz.underlying311 rfl (by kernel_rfl) h64 rfl (h.get 3 rfl)) fun a hA => ?_
   refine wl_setw (shaCells (shaW b 64)) hA rfl rfl K2 (shaCells_len (l := []) (by decide)) h64 (by kernel_rfl) (shaCells_one _) rfl (fun ev h => ⟨h.get 2 rfl, h.get 92 rfl⟩) fun w6 (K2 : Blk _ _ _ _) hs => ?_
   replace hA := hA.keepN [2]
   refine wN (nT (wp_ret ?_))
   refine ret_cell hA 2 rfl rfl K2 Tryz.underlying311 rfl (by kernel_rfl) h64 ?_
   exact ⟨by rw [shaCells_full (shaW_length b 64)], hs.below HB (by omega)⟩
end Go.Proofs.YtkljkbeahdipfaaGreatDoor
/-
  Walk: a state turned by a block (sum.mix).
-/
namespace Go.Proofs.YtkljkbeahdipfaaGreatDoor
open Go.RowKit
set_option linter.unusedSimpArgs false
set_option linter.unusedVariables false
structure ShaS.Ok (s : ShaS) : Prop where
 a : s.a < 4294967296
 b : s.b < 4294967296
 c : s.c < 4294967296
 d : s.d < 4294967296
 e : s.e < 4294967296
 f : s.f < 4294967296
 g : s.g < 4294967296
 h : s.h < 4294967296
theorem shaStep_ok {s : ShaS} (k w : Nat) (h : s.Ok) : (shaStep k w s).Ok := ⟨Nat.mod_lt _ (by decide), h.a, h.b, h.c, Nat.mod_lt _ (by decide), h.e, h.f, h.g⟩
theorem shaSteps_ok {s : ShaS} (w : List Nat) (h : s.Ok) : ∀ i, (shaSteps w s i).Ok
 | 0 => h
 | i + 1 => shaStep_ok _ _ (shaSteps_ok w h i)
theorem shaAdd_ok (s t : ShaS) : (shaAdd s t).Ok := ⟨Nat.mod_lt _ (by decide), Nat.mod_lt _ (by decide), Nat.mod_lt _ (by decide), Nat.mod_lt _ (by decide), Nat.mod_lt _ (by decide), Nat.mod_lt _ (by decide), Nat.mod_lt _ (by decide), Nat.mod_lt _ (by decide)⟩
def mixN (t s : ShaS) (i : Nat) : List Nat := (List.range 8).map fun j => if j < i then ad (t.l.getD j 0) (s.l.getD j 0) else t.l.getD j 0
theorem mixN_get {t s : ShaS} {i : Nat} (h : i < 8) : ((mixN t s i).map u32v)[i]? = some (.int .u32 ((t.l.getD i 0 : Nat) : Int)) := by
 unfold mixN
 rw [List.getElem?_map, List.getElem?_map, List.getElem?_range h]
 simp [u32v]
theorem l_get {s : ShaS} {i : Nat} (h : i < 8) : (s.l.map u32v)[i]? = some (.int .u32 ((s.l.getD i 0 : Nat) : Int)) := by
 rw [List.getElem?_map, List.getD_eq_getElem?_getD, List.getElem?_eq_getElem (show i < s.l.length from h)]
 rfl
theorem mixN_set {t s : ShaS} {i : Nat} (h : i < 8) : ((mixN t s i).map u32v).set i (.int .u32 ((ad (t.l.getD i 0) (s.l.getD i 0) : Nat) : Int)) = (mixN t s (i + 1)).map u32v := by
 have hc : i = 0 ∨ i = 1 ∨ i = 2 ∨ i = 3 ∨ i = 4 ∨ i = 5 ∨ i = 6 ∨ i = 7 := by omega
 rcases hc with rfl | rfl | rfl | rfl | rfl | rfl | rfl | rfl <;> rfl
theorem mixN_len (t s : ShaS) (i : Nat) : ((mixN t s i).map u32v).length = 8 := by unfold mixN; simp
theorem l_len (s : ShaS) : (s.l.map u32v).length = 8 := rfl
theorem shaK_lt : ∀ x ∈ shaK, x < 4294967296 := by decide
theorem shaK_at {i : Nat} (h : i < 64) : (shaK.map u32v)[i]? = some (.int .u32 ((shaK.getD i 0 : Nat) : Int)) := by
 rw [List.getElem?_map, List.getD_eq_getElem?_getD, List.getElem?_eq_getElem (show i < shaK.length from h)]
 rfl
theorem map_one (l : List Nat) : (l.map u32v).all (·.oneCell') = true := by
 rw [List.all_map, List.all_eq_true]
 intro x _
 rfl
theorem w_not {a : Nat} (ha : a < 4294967296) : bits .xor .u32 (if IntKind.u32.signed = true then -1 else IntKind.u32.max) (a : Int) = ((no32 a : Nat) : Int) := by
 have e : 4294967295 ^^^ a = no32 a := by
  apply Nat.eq_of_testBit_eq
  intro i
  have h1 : (4294967295 : Nat).testBit i = decide (i < 32) := by
   have := Nat.testBit_two_pow_sub_one 32 i
   simpa using this
  unfold no32
  rw [Nat.testBit_xor, h1, compl_bit ha]
  by_cases hi : i < 32
  ·simp [hi]
  ·have : a.testBit i = false := Nat.testBit_lt_two_pow (Nat.lt_of_lt_of_le (show a < 2 ^ 32 from ha) (Nat.pow_le_pow_right (by omega) (by omega)))
   simp [hi, this]
 have := u32_xor_nat 4294967295 a (by decide) ha
 rw [e] at this
 exact this
theorem shaStep_cells {va vb vc vd ve vf vg vh kk ww V1 V2 : Nat} (hV1 : ad (ad (ad (ad vh (xo (xo (rotr ve 6) (rotr ve 11)) (rotr ve 25))) (xo (an ve vf) (an (no32 ve) vg))) kk) ww = V1) (hV2 : ad (xo (xo (rotr va 2) (rotr va 13)) (rotr va 22)) (xo (xo (an va vb) (an va vc)) (an vb vc)) = V2) :
 (shaStep kk ww ⟨va, vb, vc, vd, ve, vf, vg, vh⟩).l.map u32v = [.int .u32 (ad V1 V2 : Nat), .int .u32 (va : Nat), .int .u32 (vb : Nat), .int .u32 (vc : Nat), .int .u32 (ad vd V1 : Nat), .int .u32 (ve : Nat), .int .u32 (vf : Nat), .int .u32 (vg : Nat)] := by
 have ea : (vh + bigS ve + choose ve vf vg + kk + ww + bigT va + most va vb vc) % 4294967296 = ad V1 V2 := by
  rw [← hV1, ← hV2]
  unfold bigS choose bigT most ad xo an no32
  omega
 have eb : (vd + (vh + bigS ve + choose ve vf vg + kk + ww)) % 4294967296 = ad vd V1 := by
  rw [← hV1]
  unfold bigS choose ad xo an no32
  omega
 unfold shaStep ShaS.l
 simp only [List.map_cons, List.map_nil]
 rw [ea, eb]
 rfl
theorem mix0 (t s : ShaS) : (mixN t s 0).map u32v = t.l.map u32v := rfl
theorem mix8 (t s : ShaS) : (mixN t s 8).map u32v = (shaAdd t s).l.map u32v := by
 congr 1
theorem rot_below (x n : Nat) (m : Int) (hm : m = -(n : Int)) (hx : x < 4294967296) (h1 : 1 ≤ n) (h2 : n ≤ 31) (w : World) :
 Calls Tryz.prog 247 #[.int .u32 (x : Nat), .int .i64 m] w fun ev w' => ev = .returned (.int .u32 (rotr x n : Nat)) ∧ Below w.heap.size w w' :=
 (rot_any x n m hm hx h1 h2 w).mono fun _ _ h => ⟨h.1, h.2 ▸ Below.refl _ _⟩
set_option maxRecDepth 100000 in
theorem steps_any (w : World) : Calls Tryz.prog 246 #[] w fun ev w' => ev = .returned (.agg (shaK.map u32v).toArray) ∧ Below w.heap.size w w' := by
 refine calls_at 2 Tryz.func246 rfl rfl (Nat.le_of_ble_eq_true rfl) ?_
 intro a hA; replace hA := hA.norm
 refine wS (wR ?_)
 refine wl_new hA rfl rfl (by decide) (fun ev h => by simp [go_sem]; try first | exact ⟨rfl, rfl⟩ | rfl) fun w1 a (K0 : Blk _ _ _ _) hz0 hb0 hA => ?_
 replace K0 : Blk w1 w.heap.size 311 (shaCells []).toArray := K0
 replace hA := hA.keepN [0]
 refine wN (nT (wS (wR ?_)))
 refine wl_op hA rfl rfl (by decide) (fun ev h => exec_buildC (v := .agg (shaK.map u32v).toArray) h rfl (by kernel_rfl) (by kernel_rfl)) fun a hA => ?_
 refine wl_setw (shaK.map u32v) hA rfl rfl K0 (shaCells_len (l := []) (by decide)) (rfl : (shaK.map u32v).length = 64) (by kernel_rfl) (map_one _) rfl (fun ev h => ⟨h.get 0 rfl, h.get 1 rfl⟩) fun w2 (K0 : Blk _ _ _ _) hs => ?_
 replace hA := hA.keepN [0]
 refine wN (nT (wp_ret ?_))
 refine ret_cell hA 0 rfl rfl K0 Tryz.underlying311 rfl (by kernel_rfl) (rfl : (shaK.map u32v).length = 64) ?_
 exact ⟨rfl, hs.below hb0 (Nat.le_refl _)⟩
set_option maxRecDepth 100000 in
set_option maxHeartbeats 1000000 in
theorem mix_any (s : ShaS) (hs0 : s.Ok) (A : Option Addr) (c : Nat) (b : List UInt8) (hl : b.length = 64) (w : World) (hr : Reads w w.heap.size 1 A 64 (u8s b)) :
 Calls Tryz.prog 199 #[.agg (s.l.map u32v).toArray, .slice A 64 c] w fun ev w' => ev = .returned (.agg ((shaMix s b).l.map u32v).toArray) ∧ Below w.heap.size w w' := by
 refine calls_at 111 Tryz.func199 rfl rfl (Nat.le_of_ble_eq_true rfl) ?_
 intro a hA; replace hA := hA.norm
 refine wS (wR ?_)
 refine wl_new hA rfl rfl (by decide) (fun ev h => by simp [go_sem, h.get 0 rfl]; try first | exact ⟨rfl, rfl⟩ | rfl) fun w1 a (K2 : Blk _ _ _ _) hz1 hb1 hA => ?_
 obtain ⟨g2, hg2⟩ : ∃ g, w.heap.size = g := ⟨_, rfl⟩
 rw [hg2] at K2 hA
 replace K2 : Blk w1 g2 273 (s.l.map u32v).toArray := K2
 have HB : Below w.heap.size w w1 := hb1
 refine wl_new hA rfl rfl (by decide) (fun ev h => by simp [go_sem]; try first | exact ⟨rfl, rfl⟩ | rfl) fun w2 a (K4 : Blk _ _ _ _) hz2 hb2 hA => ?_
 replace HB := HB.trans (hb2.mono HB.size)
 replace K2 := K2.below hb2 K2.lt
 obtain ⟨g4, hg4⟩ : ∃ g, w1.heap.size = g := ⟨_, rfl⟩
 rw [hg4] at K4 hA
 have h24 : g2 ≠ g4 := by omega
 have h4 : w.heap.size ≤ g4 := by omega
 replace hA := hA.keepN [1, 2, 4]
 refine wN (nT (wS (wR ?_)))
 revert a; refine wo rfl rfl (by decide) (fun ev e h => by simp [go_sem, h] <;> rfl) ?_; intro a hA
 refine wl_call hA rfl rfl (by decide) (fun ev h => exec_call Tryz.func245 (by kernel_rfl) rfl (h.f _) (by first | (simp only [mL, h.get 14 rfl, h.c] <;> rfl) | (simp [mL, h.get 14 rfl, h.c] <;> rfl))) (schedule_any A c b hl _ ((hr.below HB).more HB.size)) ?_
 rintro e w3 ⟨rfl, hb3⟩
 refine ⟨_, rfl, fun a hA => ?_⟩
 replace HB := HB.trans (hb3.mono HB.size)
 replace K2 := K2.below hb3 K2.lt
 replace K4 := K4.below hb3 K4.lt
 refine wl_call hA rfl rfl (by decide) (fun ev h => exec_call Tryz.func246 (by kernel_rfl) rfl (h.f _) (by first | (simp only [mL, h.c] <;> rfl) | (simp [mL, h.c] <;> rfl))) (steps_any _) ?_
 rintro e w4 ⟨rfl, hb4⟩
 refine ⟨_, rfl, fun a hA => ?_⟩
 replace HB := HB.trans (hb4.mono HB.size)
 replace K2 := K2.below hb4 K2.lt
 replace K4 := K4.below hb4 K4.lt
 have HBw := HB
 have h3g : w.heap.size ≤ w4.heap.size := HB.size
 have l2 := K2.lt
 have l4 := K4.lt
 refine wl_new hA rfl rfl (by decide) (fun ev h => by simp [go_sem]; try first | exact ⟨rfl, rfl⟩ | rfl) fun w5 a (K5 : Blk _ _ _ _) hz5 hb5 hA => ?_
 replace HB := HB.trans (hb5.mono HB.size)
 replace K2 := K2.below hb5 K2.lt
 replace K4 := K4.below hb5 K4.lt
 obtain ⟨g5, hg5⟩ : ∃ g, w4.heap.size = g := ⟨_, rfl⟩
 rw [hg5] at K5 hA
 replace K5 : Blk w5 g5 311 (shaCells []).toArray := K5
 have h25 : g2 < g5 := by omega
 have h45 : g4 < g5 := by omega
 refine wl_new hA rfl rfl (by decide) (fun ev h => by simp [go_sem]; try first | exact ⟨rfl, rfl⟩ | rfl) fun w6 a (K6 : Blk _ _ _ _) hz6 hb6 hA => ?_
 replace HB := HB.trans (hb6.mono HB.size)
 replace K2 := K2.below hb6 K2.lt
 replace K4 := K4.below hb6 K4.lt
 replace K5 := K5.below hb6 K5.lt
 obtain ⟨g6, hg6⟩ : ∃ g, w5.heap.size = g := ⟨_, rfl⟩
 rw [hg6] at K6 hA
 replace K6 : Blk w6 g6 311 (shaCells []).toArray := K6
 have h56 : g5 < g6 := by omega
 have hB5 : w.heap.size ≤ g5 := by omega
 have hW : ((shaW b 64).map u32v).length = 64 := by rw [List.length_map, shaW_length]
 refine wl_setw ((shaW b 64).map u32v) hA rfl rfl K5 (shaCells_len (l := []) (by decide)) hW (by kernel_rfl) (map_one _) rfl (fun ev h => ⟨h.get 5 rfl, h.get 15 rfl⟩) fun w7 (K5 : Blk _ _ _ _) hs5 => ?_
 replace K6 := hs5.blk K6 (by omega)
 replace K2 := hs5.blk K2 (by omega)
 replace K4 := hs5.blk K4 (by omega)
 replace HB := hs5.below HB hB5
 refine wl_setw (shaK.map u32v) hA rfl rfl K6 (shaCells_len (l := []) (by decide)) (rfl : (shaK.map u32v).length = 64) (by kernel_rfl) (map_one _) rfl (fun ev h => ⟨h.get 6 rfl, h.get 16 rfl⟩) fun w8 (K6 : Blk _ _ _ _) hs6 => ?_
 replace K5 := hs6.blk K5 (by omega)
 replace K2 := hs6.blk K2 (by omega)
 replace K4 := hs6.blk K4 (by omega)
 replace HB := hs6.below HB (by omega)
 replace hA := hA.keepN [2, 4, 5, 6]
 refine wN (nT (wS (wR ?_)))
 refine wl_op hA rfl rfl (by decide) (fun ev h => exec_loadA K2 Tryz.underlying273 rfl (by kernel_rfl) (l_len s) rfl (h.get 2 rfl)) fun a hA => ?_
 have l6 := K6.lt
 refine wl_new hA rfl rfl (by decide) (fun ev h => by simp [go_sem]; try first | exact ⟨rfl, rfl⟩ | rfl) fun w9 a (K7 : Blk _ _ _ _) hz9 hb9 hA => ?_
 replace HB := HB.trans (hb9.mono HB.size)
 replace K2 := K2.below hb9 K2.lt
 replace K4 := K4.below hb9 K4.lt
 replace K5 := K5.below hb9 K5.lt
 replace K6 := K6.below hb9 K6.lt
 obtain ⟨g7, hg7⟩ : ∃ g, w8.heap.size = g := ⟨_, rfl⟩
 rw [hg7] at K7 hA
 have h67 : g6 < g7 := by omega
 refine wl_setw (s.l.map u32v) hA rfl rfl K7 (by rfl) (l_len s) (by kernel_rfl) (map_one _) rfl (fun ev h => ⟨h.get 7 rfl, h.get 17 rfl⟩) fun w10 (K7 : Blk _ _ _ _) hs7 => ?_
 replace K5 := hs7.blk K5 (by omega)
 replace K6 := hs7.blk K6 (by omega)
 replace K2 := hs7.blk K2 (by omega)
 replace K4 := hs7.blk K4 (by omega)
 replace HB := hs7.below HB (by omega)
 obtain ⟨W, hWe⟩ : ∃ W, shaW b 64 = W := ⟨_, rfl⟩
 have hlW : W.length = 64 := by rw [← hWe, shaW_length]
 have hWlt : ∀ j, W.getD j 0 < 4294967296 := fun j => by rw [← hWe]; exact shaW_getD_lt b 64 j
 have hcW : ∀ j, j < 64 → (W.map u32v)[j]? = some (.int .u32 ((W.getD j 0 : Nat) : Int)) := fun j hj => by
  rw [List.getElem?_map, List.getD_eq_getElem?_getD, List.getElem?_eq_getElem (by omega)]
  rfl
 have hfin : shaMix s b = shaAdd (shaSteps W s 64) s := by unfold shaMix; rw [hWe]
 rw [hWe] at K5
 clear hs5 hs6 hs7 hb9 hb6 hb5 hb1 hb2 hb3 hb4 hWe hr
 replace hA := hA.keepN [2, 4, 5, 6, 7]
 refine wN (nT (wS (wS (wR ?_))))
 revert a; refine wo rfl rfl (by decide) (fun ev e h => by simp [go_sem, h] <;> rfl) ?_; intro a hA
 replace hA := hA.keepN [2, 4, 5, 6, 7, 18]
 refine wN (nT (wB ?_))
 refine wp_loop_at (fun k a wx => ∃ (i : Nat), i + k = 64 ∧ At 111 [(2, .pointer (some ⟨g2, 0, none⟩)), (4, .pointer (some ⟨g4, 0, none⟩)), (5, .pointer (some ⟨g5, 0, none⟩)), (6, .pointer (some ⟨g6, 0, none⟩)), (7, .pointer (some ⟨g7, 0, none⟩)), (18, .int .i64 (i : Nat))] a ∧ Blk wx g2 273 (s.l.map u32v).toArray ∧ Blk wx g4 273 #[.int .u32 0, .int .u32 0, .int .u32 0, .int .u32 0, .int .u32 0, .int .u32 0, .int .u32 0, .int .u32 0] ∧ Blk wx g5 311 (W.map u32v).toArray ∧ Blk wx g6 311 (shaK.map u32v).toArray ∧ Blk wx g7 273 ((shaSteps W s i).l.map u32v).toArray ∧ Below w.heap.size w wx) (64) ?_ ?_
 ·exact ⟨0, by omega, hA, K2, K4, K5, K6, K7, HB⟩
 clear K2 K4 K5 K6 K7 HB
 rintro k a wx ⟨i, hik, hA, K2, K4, K5, K6, K7, HB⟩
 refine wS (wR ?_)
 revert a; refine wo rfl rfl (by decide) (fun ev e h => by simp [go_sem, h] <;> rfl) ?_; intro a hA
 replace hA := hA.keepN [2, 4, 5, 6, 7, 18, 19]
 refine wN (nT (wS ?_))
 refine wp_if hA 19 _ rfl (fun hq => ?yL) (fun hq => ?nL)
 case yL =>
  have hi : i < 64 := by simp at hq; omega
  have hok := shaSteps_ok W hs0 i
  have hnext : shaSteps W s (i + 1) = shaStep (shaK.getD i 0) (W.getD i 0) (shaSteps W s i) := rfl
  have ck := shaK_at hi
  have cw := hcW i hi
  have lk : shaK.getD i 0 < 4294967296 := by
   rw [List.getD_eq_getElem?_getD, List.getElem?_eq_getElem (show i < shaK.length from hi)]
   exact shaK_lt _ (List.getElem_mem _)
  have lw := hWlt i
  obtain ⟨kk, hkk⟩ : ∃ x, shaK.getD i 0 = x := ⟨_, rfl⟩
  obtain ⟨ww, hww⟩ : ∃ x, W.getD i 0 = x := ⟨_, rfl⟩
  rw [hkk] at ck lk hnext
  rw [hww] at cw lw hnext
  generalize shaSteps W s i = st at *
  obtain ⟨va, vb, vc, vd, ve, vf, vg, vh⟩ := st
  obtain ⟨la, lb, lc, ld, le, lf, lg, lh⟩ := hok
  simp only at la lb lc ld le lf lg lh
  have K7c : Blk wx g7 273 #[.int .u32 (va : Nat), .int .u32 (vb : Nat), .int .u32 (vc : Nat), .int .u32 (vd : Nat), .int .u32 (ve : Nat), .int .u32 (vf : Nat), .int .u32 (vg : Nat), .int .u32 (vh : Nat)] := K7
  clear K7
  refine wp_skip (nT (wS (wB (wS (wR ?_)))))
  revert a; (iterate 2 refine wo rfl rfl (by decide) (fun ev e h => by simp [go_sem, h] <;> rfl) ?_); intro a hA
  replace hA := hA.keepN [2, 4, 5, 6, 7, 8, 18]
  have pD := fun (wo : World) (hC : (fun wy => Below wx.heap.size wx wy) wo) => have Kx := K7c.below hC K7c.lt; (Kx.cell)
  refine wN (nT (wS ?_))
  refine wp_any_at hA [(.det ?dD0), (.det ?dD1), (.det ?dD2), (.det ?dD3), (.det ?dD4), (.det ?dD5)] [] (fun wy => Below wx.heap.size wx wy) (TSp [] Grows) (by kernel_rfl) rfl (by kernel_rfl) (by kernel_rfl) rfl ((Below.refl _ _).drew) (stab_sp [] [true, true, true, true, true, true] [true, true, true, true, true, true] [] rfl rfl rfl (by kernel_rfl) ⟨trivial, trivial, trivial, trivial, trivial, trivial, trivial⟩ trivial) (fun _ h => by cases h) (fun _ _ _ _ _ h => by cases h) (fun _ h => by cases h) ⟨?oD0, ?oD1, ?oD2, ?oD3, ?oD4, ?oD5, trivial⟩ (by kernel_rfl) ?fD
  case oD0 => intro ev wo hev hC hs hph; have x0 := se hA hs 7; exact od rfl rfl (by kernel_rfl) hC (TSp.of rfl (Grows.refl _)) (by simp [go_sem, x0, hev.const] <;> rfl)
  case oD1 => intro ev wo hev hC hs hph; have x0 := sd hs 21 0; exact od rfl rfl (by kernel_rfl) hC (TSp.of rfl (Grows.refl _)) (by simp [go_sem, x0, pD _ hC] <;> rfl)
  case oD2 => intro ev wo hev hC hs hph; have x0 := se hA hs 7; exact od rfl rfl (by kernel_rfl) hC (TSp.of rfl (Grows.refl _)) (by simp [go_sem, x0, hev.const] <;> rfl)
  case oD3 => intro ev wo hev hC hs hph; have x0 := sd hs 23 2; exact od rfl rfl (by kernel_rfl) hC (TSp.of rfl (Grows.refl _)) (by simp [go_sem, x0, pD _ hC] <;> rfl)
  case oD4 => intro ev wo hev hC hs hph; have x0 := sd hs 22 1; exact od rfl rfl (by kernel_rfl) hC (TSp.of rfl (Grows.refl _)) (by simp [go_sem, x0] <;> rfl)
  case oD5 => intro ev wo hev hC hs hph; have x0 := sd hs 24 3; exact od rfl rfl (by kernel_rfl) hC (TSp.of rfl (Grows.refl _)) (by simp [go_sem, x0] <;> rfl)
  intro sg wf hC hph
  intro a hA
  replace hA := hA.keepN [2, 4, 5, 6, 7, 8, 9, 10, 18]
  refine nT ?_
  replace HB := HB.trans (hC.mono HB.size)
  replace K2 := K2.below hC K2.lt
  replace K4 := K4.below hC K4.lt
  replace K5 := K5.below hC K5.lt
  replace K6 := K6.below hC K6.lt
  replace K7c := K7c.below hC K7c.lt
  clear hC hph
  have r6 := rotr_lt ve 6
  have r11 := rotr_lt ve 11
  have r25 := rotr_lt ve 25
  have r2 := rotr_lt va 2
  have r13 := rotr_lt va 13
  have r22 := rotr_lt va 22
  have x1 := w_xo r6 r11
  have x2 := w_xo (xo_lt r6 r11) r25
  have a1 := w_an le lf
  have a2 := w_an (no32_lt ve) lg
  have x3 := w_xo (an_lt (b := vf) le) (an_lt (b := vg) (no32_lt ve))
  have n1 := w_not le
  have jj : (0 : Int) ≤ (i : Int) := by omega
  have ji : (i : Int) < 64 := by omega
  have pE := fun (wo : World) (hC : (fun wy => Below wf.heap.size wf wy) wo) => have Kx := K7c.below hC K7c.lt; have Ky := K6.below hC K6.lt; have Kz := K5.below hC K5.lt; And.intro (Kx.cell) (And.intro (Ky.cell) (And.intro (Kz.cell) (And.intro (ck) (cw))))
  refine wS ?_
  refine wp_any_at hA ((.det ?dE0) :: (.det ?dE1) :: (.det ?dE2) :: (.det ?dE3) :: (.det ?dE4) :: (.det ?dE5) :: (.det ?dE6) :: (.det ?dE7) :: (.det ?dE8) :: (.det ?dE9) :: (.det ?dE10) :: (.det ?dE11) :: (.det ?dE12) :: (.det ?dE13) :: (.det ?dE14) :: (.det ?dE15) :: (.det ?dE16) :: (.det ?dE17) :: (.det ?dE18) :: (.det ?dE19) :: (.det ?dE20) :: (.det ?dE21) :: (.det ?dE22) :: (.det ?dE23) :: (.det ?dE24) :: (.det ?dE25) :: (.det ?dE26) :: (.det ?dE27) :: (.det ?dE28) :: (.det ?dE29) :: (.det ?dE30) :: []) [] (fun wy => Below wf.heap.size wf wy) (TSp [] Grows) (by kernel_rfl) rfl (by kernel_rfl) (by kernel_rfl) rfl ((Below.refl _ _).drew) (stab_sp [] (true :: true :: true :: true :: true :: true :: true :: true :: true :: true :: true :: true :: true :: true :: true :: true :: true :: true :: true :: true :: true :: true :: true :: true :: true :: true :: true :: true :: true :: true :: true :: []) (true :: true :: true :: true :: true :: true :: true :: true :: true :: true :: true :: true :: true :: true :: true :: true :: true :: true :: true :: true :: true :: true :: true :: true :: true :: true :: true :: true :: true :: true :: true :: []) [] rfl rfl rfl (by kernel_rfl) ⟨trivial, trivial, trivial, trivial, trivial, trivial, trivial, trivial, trivial, trivial, trivial, trivial, trivial, trivial, trivial, trivial, trivial, trivial, trivial, trivial, trivial, trivial, trivial, trivial, trivial, trivial, trivial, trivial, trivial, trivial, trivial, trivial⟩ trivial) (fun _ h => by cases h) (fun _ _ _ _ _ h => by cases h) (fun _ h => by cases h) ⟨?oE0, ?oE1, ?oE2, ?oE3, ?oE4, ?oE5, ?oE6, ?oE7, ?oE8, ?oE9, ?oE10, ?oE11, ?oE12, ?oE13, ?oE14, ?oE15, ?oE16, ?oE17, ?oE18, ?oE19, ?oE20, ?oE21, ?oE22, ?oE23, ?oE24, ?oE25, ?oE26, ?oE27, ?oE28, ?oE29, ?oE30, trivial⟩ (by kernel_rfl) ?fE
  case oE0 => intro ev wo hev hC hs hph; have x0 := se hA hs 7; exact od rfl rfl (by kernel_rfl) hC (TSp.of rfl (Grows.refl _)) (by simp [go_sem, x0, hev.const, w_ad, x1, x2, a1, a2, x3, n1, jj, ji, add0] <;> rfl)
  case oE1 => intro ev wo hev hC hs hph; have x0 := sd hs 25 0; exact od rfl rfl (by kernel_rfl) hC (TSp.of rfl (Grows.refl _)) (by simp [go_sem, x0, pE _ hC, w_ad, x1, x2, a1, a2, x3, n1, jj, ji, add0] <;> rfl)
  case oE2 => intro ev wo hev hC hs hph; have x0 := se hA hs 9; exact od rfl rfl (by kernel_rfl) hC (TSp.of rfl (Grows.refl _)) (by simp [go_sem, x0, w_ad, x1, x2, a1, a2, x3, n1, jj, ji, add0] <;> rfl)
  case oE3 =>
   intro ev wo hev hC hs hph
   have e27 := sd hs 27 2
   have Kx := K7c.below hC K7c.lt
   have Ky := K6.below hC K6.lt
   have Kz := K5.below hC K5.lt
   exact ob_dcall (wanted_none rfl) rfl (by kernel_rfl) (rot_below ve 6 (-6) rfl le (by decide) (by decide) wo) (exec_call Tryz.func247 (by kernel_rfl) rfl (hev.func _) (by first | (simp only [mL, e27, hev.const] <;> rfl) | (simp [mL, e27, hev.const] <;> rfl))) (by rfl) (fun w3 hb3 => ⟨hC.trans (hb3.mono hC.size), TSp.of rfl hb3⟩)
  case oE4 => intro ev wo hev hC hs hph; have x0 := se hA hs 9; exact od rfl rfl (by kernel_rfl) hC (TSp.of rfl (Grows.refl _)) (by simp [go_sem, x0, w_ad, x1, x2, a1, a2, x3, n1, jj, ji, add0] <;> rfl)
  case oE5 =>
   intro ev wo hev hC hs hph
   have e29 := sd hs 29 4
   have Kx := K7c.below hC K7c.lt
   have Ky := K6.below hC K6.lt
   have Kz := K5.below hC K5.lt
   exact ob_dcall (wanted_none rfl) rfl (by kernel_rfl) (rot_below ve 11 (-11) rfl le (by decide) (by decide) wo) (exec_call Tryz.func247 (by kernel_rfl) rfl (hev.func _) (by first | (simp only [mL, e29, hev.const] <;> rfl) | (simp [mL, e29, hev.const] <;> rfl))) (by rfl) (fun w3 hb3 => ⟨hC.trans (hb3.mono hC.size), TSp.of rfl hb3⟩)
  case oE6 => intro ev wo hev hC hs hph; have x0 := sd hs 28 3; have x1 := sd hs 30 5; exact od rfl rfl (by kernel_rfl) hC (TSp.of rfl (Grows.refl _)) (by simp [go_sem, x0, x1, w_ad, x1, x2, a1, a2, x3, n1, jj, ji, add0] <;> rfl)
  case oE7 => intro ev wo hev hC hs hph; have x0 := se hA hs 9; exact od rfl rfl (by kernel_rfl) hC (TSp.of rfl (Grows.refl _)) (by simp [go_sem, x0, w_ad, x1, x2, a1, a2, x3, n1, jj, ji, add0] <;> rfl)
  case oE8 =>
   intro ev wo hev hC hs hph
   have e32 := sd hs 32 7
   have Kx := K7c.below hC K7c.lt
   have Ky := K6.below hC K6.lt
   have Kz := K5.below hC K5.lt
   exact ob_dcall (wanted_none rfl) rfl (by kernel_rfl) (rot_below ve 25 (-25) rfl le (by decide) (by decide) wo) (exec_call Tryz.func247 (by kernel_rfl) rfl (hev.func _) (by first | (simp only [mL, e32, hev.const] <;> rfl) | (simp [mL, e32, hev.const] <;> rfl))) (by rfl) (fun w3 hb3 => ⟨hC.trans (hb3.mono hC.size), TSp.of rfl hb3⟩)
  case oE9 => intro ev wo hev hC hs hph; have x0 := sd hs 31 6; have x1 := sd hs 33 8; exact od rfl rfl (by kernel_rfl) hC (TSp.of rfl (Grows.refl _)) (by simp [go_sem, x0, x1, w_ad, x1, x2, a1, a2, x3, n1, jj, ji, add0] <;> rfl)
  case oE10 => intro ev wo hev hC hs hph; have x0 := sd hs 26 1; have x1 := sd hs 34 9; exact od rfl rfl (by kernel_rfl) hC (TSp.of rfl (Grows.refl _)) (by simp [go_sem, x0, x1, w_ad, x1, x2, a1, a2, x3, n1, jj, ji, add0] <;> rfl)
  case oE11 => intro ev wo hev hC hs hph; have x0 := se hA hs 9; exact od rfl rfl (by kernel_rfl) hC (TSp.of rfl (Grows.refl _)) (by simp [go_sem, x0, w_ad, x1, x2, a1, a2, x3, n1, jj, ji, add0] <;> rfl)
  case oE12 => intro ev wo hev hC hs hph; have x0 := se hA hs 7; exact od rfl rfl (by kernel_rfl) hC (TSp.of rfl (Grows.refl _)) (by simp [go_sem, x0, hev.const, w_ad, x1, x2, a1, a2, x3, n1, jj, ji, add0] <;> rfl)
  case oE13 => intro ev wo hev hC hs hph; have x0 := sd hs 37 12; exact od rfl rfl (by kernel_rfl) hC (TSp.of rfl (Grows.refl _)) (by simp [go_sem, x0, pE _ hC, w_ad, x1, x2, a1, a2, x3, n1, jj, ji, add0] <;> rfl)
  case oE14 => intro ev wo hev hC hs hph; have x0 := sd hs 36 11; have x1 := sd hs 38 13; exact od rfl rfl (by kernel_rfl) hC (TSp.of rfl (Grows.refl _)) (by simp [go_sem, x0, x1, w_ad, x1, x2, a1, a2, x3, n1, jj, ji, add0] <;> rfl)
  case oE15 => intro ev wo hev hC hs hph; have x0 := se hA hs 9; exact od rfl rfl (by kernel_rfl) hC (TSp.of rfl (Grows.refl _)) (by simp [go_sem, x0, w_ad, x1, x2, a1, a2, x3, n1, jj, ji, add0] <;> rfl)
  case oE16 => intro ev wo hev hC hs hph; have x0 := sd hs 40 15; exact od rfl rfl (by kernel_rfl) hC (TSp.of rfl (Grows.refl _)) (by simp [go_sem, x0, w_ad, x1, x2, a1, a2, x3, n1, jj, ji, add0] <;> rfl)
  case oE17 => intro ev wo hev hC hs hph; have x0 := se hA hs 7; exact od rfl rfl (by kernel_rfl) hC (TSp.of rfl (Grows.refl _)) (by simp [go_sem, x0, hev.const, w_ad, x1, x2, a1, a2, x3, n1, jj, ji, add0] <;> rfl)
  case oE18 => intro ev wo hev hC hs hph; have x0 := sd hs 42 17; exact od rfl rfl (by kernel_rfl) hC (TSp.of rfl (Grows.refl _)) (by simp [go_sem, x0, pE _ hC, w_ad, x1, x2, a1, a2, x3, n1, jj, ji, add0] <;> rfl)
  case oE19 => intro ev wo hev hC hs hph; have x0 := sd hs 41 16; have x1 := sd hs 43 18; exact od rfl rfl (by kernel_rfl) hC (TSp.of rfl (Grows.refl _)) (by simp [go_sem, x0, x1, w_ad, x1, x2, a1, a2, x3, n1, jj, ji, add0] <;> rfl)
  case oE20 => intro ev wo hev hC hs hph; have x0 := sd hs 39 14; have x1 := sd hs 44 19; exact od rfl rfl (by kernel_rfl) hC (TSp.of rfl (Grows.refl _)) (by simp [go_sem, x0, x1, w_ad, x1, x2, a1, a2, x3, n1, jj, ji, add0] <;> rfl)
  case oE21 => intro ev wo hev hC hs hph; have x0 := sd hs 35 10; have x1 := sd hs 45 20; exact od rfl rfl (by kernel_rfl) hC (TSp.of rfl (Grows.refl _)) (by simp [go_sem, x0, x1, w_ad, x1, x2, a1, a2, x3, n1, jj, ji, add0] <;> rfl)
  case oE22 => intro ev wo hev hC hs hph; have x0 := se hA hs 8; exact od rfl rfl (by kernel_rfl) hC (TSp.of rfl (Grows.refl _)) (by simp [go_sem, x0, w_ad, x1, x2, a1, a2, x3, n1, jj, ji, add0] <;> rfl)
  case oE23 => intro ev wo hev hC hs hph; have x0 := se hA hs 6; have x1 := sd hs 47 22; exact od rfl rfl (by kernel_rfl) hC (TSp.of rfl (Grows.refl _)) (by simp [go_sem, x0, x1, w_ad, x1, x2, a1, a2, x3, n1, jj, ji, add0] <;> rfl)
  case oE24 => intro ev wo hev hC hs hph; have x0 := sd hs 48 23; exact od rfl rfl (by kernel_rfl) hC (TSp.of rfl (Grows.refl _)) (by simp [go_sem, x0, pE _ hC, w_ad, x1, x2, a1, a2, x3, n1, jj, ji, add0] <;> rfl)
  case oE25 => intro ev wo hev hC hs hph; have x0 := sd hs 46 21; have x1 := sd hs 49 24; exact od rfl rfl (by kernel_rfl) hC (TSp.of rfl (Grows.refl _)) (by simp [go_sem, x0, x1, w_ad, x1, x2, a1, a2, x3, n1, jj, ji, add0] <;> rfl)
  case oE26 => intro ev wo hev hC hs hph; have x0 := se hA hs 8; exact od rfl rfl (by kernel_rfl) hC (TSp.of rfl (Grows.refl _)) (by simp [go_sem, x0, w_ad, x1, x2, a1, a2, x3, n1, jj, ji, add0] <;> rfl)
  case oE27 => intro ev wo hev hC hs hph; have x0 := se hA hs 5; have x1 := sd hs 51 26; exact od rfl rfl (by kernel_rfl) hC (TSp.of rfl (Grows.refl _)) (by simp [go_sem, x0, x1, w_ad, x1, x2, a1, a2, x3, n1, jj, ji, add0] <;> rfl)
  case oE28 => intro ev wo hev hC hs hph; have x0 := sd hs 52 27; exact od rfl rfl (by kernel_rfl) hC (TSp.of rfl (Grows.refl _)) (by simp [go_sem, x0, pE _ hC, w_ad, x1, x2, a1, a2, x3, n1, jj, ji, add0] <;> rfl)
  case oE29 => intro ev wo hev hC hs hph; have x0 := sd hs 50 25; have x1 := sd hs 53 28; exact od rfl rfl (by kernel_rfl) hC (TSp.of rfl (Grows.refl _)) (by simp [go_sem, x0, x1, w_ad, x1, x2, a1, a2, x3, n1, jj, ji, add0] <;> rfl)
  case oE30 => intro ev wo hev hC hs hph; have x0 := sd hs 54 29; exact od rfl rfl (by kernel_rfl) hC (TSp.of rfl (Grows.refl _)) (by simp [go_sem, x0, w_ad, x1, x2, a1, a2, x3, n1, jj, ji, add0] <;> rfl)
  intro sg wf hC hph
  intro a hA
  replace hA := hA.keepN [2, 4, 5, 6, 7, 9, 10, 11, 18]
  refine nT ?_
  replace HB := HB.trans (hC.mono HB.size)
  replace K2 := K2.below hC K2.lt
  replace K4 := K4.below hC K4.lt
  replace K5 := K5.below hC K5.lt
  replace K6 := K6.below hC K6.lt
  replace K7c := K7c.below hC K7c.lt
  clear hC hph x1 x2 a1 a2 x3 n1 ck cw
  obtain ⟨V1, hV1⟩ : ∃ x, ad (ad (ad (ad vh (xo (xo (rotr ve 6) (rotr ve 11)) (rotr ve 25))) (xo (an ve vf) (an (no32 ve) vg))) kk) ww = x := ⟨_, rfl⟩
  rw [hV1] at hA
  have y1 := w_xo r2 r13
  have y2 := w_xo (xo_lt r2 r13) r22
  have y3 := w_an la lb
  have y4 := w_an la lc
  have y5 := w_an lb lc
  have y6 := w_xo (an_lt (b := vb) la) (an_lt (b := vc) la)
  have y7 := w_xo (xo_lt (an_lt (b := vb) la) (an_lt (b := vc) la)) (an_lt (b := vc) lb)
  have pF := fun (wo : World) (hC : (fun wy => Below wf.heap.size wf wy) wo) => have Kx := K7c.below hC K7c.lt; (Kx.cell)
  refine wS ?_
  refine wp_any_at hA [(.det ?dF0), (.det ?dF1), (.det ?dF2), (.det ?dF3), (.det ?dF4), (.det ?dF5), (.det ?dF6), (.det ?dF7), (.det ?dF8), (.det ?dF9), (.det ?dF10), (.det ?dF11), (.det ?dF12), (.det ?dF13), (.det ?dF14), (.det ?dF15), (.det ?dF16), (.det ?dF17), (.det ?dF18), (.det ?dF19), (.det ?dF20), (.det ?dF21), (.det ?dF22), (.det ?dF23), (.det ?dF24)] [] (fun wy => Below wf.heap.size wf wy) (TSp [] Grows) (by kernel_rfl) rfl (by kernel_rfl) (by kernel_rfl) rfl ((Below.refl _ _).drew) (stab_sp [] [true, true, true, true, true, true, true, true, true, true, true, true, true, true, true, true, true, true, true, true, true, true, true, true, true] [true, true, true, true, true, true, true, true, true, true, true, true, true, true, true, true, true, true, true, true, true, true, true, true, true] [] rfl rfl rfl (by kernel_rfl) ⟨trivial, trivial, trivial, trivial, trivial, trivial, trivial, trivial, trivial, trivial, trivial, trivial, trivial, trivial, trivial, trivial, trivial, trivial, trivial, trivial, trivial, trivial, trivial, trivial, trivial, trivial⟩ trivial) (fun _ h => by cases h) (fun _ _ _ _ _ h => by cases h) (fun _ h => by cases h) ⟨?oF0, ?oF1, ?oF2, ?oF3, ?oF4, ?oF5, ?oF6, ?oF7, ?oF8, ?oF9, ?oF10, ?oF11, ?oF12, ?oF13, ?oF14, ?oF15, ?oF16, ?oF17, ?oF18, ?oF19, ?oF20, ?oF21, ?oF22, ?oF23, ?oF24, trivial⟩ (by kernel_rfl) ?fF
  case oF0 => intro ev wo hev hC hs hph; have x0 := se hA hs 10; exact od rfl rfl (by kernel_rfl) hC (TSp.of rfl (Grows.refl _)) (by simp [go_sem, x0, w_ad, y1, y2, y3, y4, y5, y6, y7] <;> rfl)
  case oF1 =>
   intro ev wo hev hC hs hph
   have e55 := sd hs 55 0
   have Kx := K7c.below hC K7c.lt
   exact ob_dcall (wanted_none rfl) rfl (by kernel_rfl) (rot_below va 2 (-2) rfl la (by decide) (by decide) wo) (exec_call Tryz.func247 (by kernel_rfl) rfl (hev.func _) (by first | (simp only [mL, e55, hev.const] <;> rfl) | (simp [mL, e55, hev.const] <;> rfl))) (by rfl) (fun w3 hb3 => ⟨hC.trans (hb3.mono hC.size), TSp.of rfl hb3⟩)
  case oF2 => intro ev wo hev hC hs hph; have x0 := se hA hs 10; exact od rfl rfl (by kernel_rfl) hC (TSp.of rfl (Grows.refl _)) (by simp [go_sem, x0, w_ad, y1, y2, y3, y4, y5, y6, y7] <;> rfl)
  case oF3 =>
   intro ev wo hev hC hs hph
   have e57 := sd hs 57 2
   have Kx := K7c.below hC K7c.lt
   exact ob_dcall (wanted_none rfl) rfl (by kernel_rfl) (rot_below va 13 (-13) rfl la (by decide) (by decide) wo) (exec_call Tryz.func247 (by kernel_rfl) rfl (hev.func _) (by first | (simp only [mL, e57, hev.const] <;> rfl) | (simp [mL, e57, hev.const] <;> rfl))) (by rfl) (fun w3 hb3 => ⟨hC.trans (hb3.mono hC.size), TSp.of rfl hb3⟩)
  case oF4 => intro ev wo hev hC hs hph; have x0 := sd hs 56 1; have x1 := sd hs 58 3; exact od rfl rfl (by kernel_rfl) hC (TSp.of rfl (Grows.refl _)) (by simp [go_sem, x0, x1, w_ad, y1, y2, y3, y4, y5, y6, y7] <;> rfl)
  case oF5 => intro ev wo hev hC hs hph; have x0 := se hA hs 10; exact od rfl rfl (by kernel_rfl) hC (TSp.of rfl (Grows.refl _)) (by simp [go_sem, x0, w_ad, y1, y2, y3, y4, y5, y6, y7] <;> rfl)
  case oF6 =>
   intro ev wo hev hC hs hph
   have e60 := sd hs 60 5
   have Kx := K7c.below hC K7c.lt
   exact ob_dcall (wanted_none rfl) rfl (by kernel_rfl) (rot_below va 22 (-22) rfl la (by decide) (by decide) wo) (exec_call Tryz.func247 (by kernel_rfl) rfl (hev.func _) (by first | (simp only [mL, e60, hev.const] <;> rfl) | (simp [mL, e60, hev.const] <;> rfl))) (by rfl) (fun w3 hb3 => ⟨hC.trans (hb3.mono hC.size), TSp.of rfl hb3⟩)
  case oF7 => intro ev wo hev hC hs hph; have x0 := sd hs 59 4; have x1 := sd hs 61 6; exact od rfl rfl (by kernel_rfl) hC (TSp.of rfl (Grows.refl _)) (by simp [go_sem, x0, x1, w_ad, y1, y2, y3, y4, y5, y6, y7] <;> rfl)
  case oF8 => intro ev wo hev hC hs hph; have x0 := se hA hs 10; exact od rfl rfl (by kernel_rfl) hC (TSp.of rfl (Grows.refl _)) (by simp [go_sem, x0, w_ad, y1, y2, y3, y4, y5, y6, y7] <;> rfl)
  case oF9 => intro ev wo hev hC hs hph; have x0 := se hA hs 7; exact od rfl rfl (by kernel_rfl) hC (TSp.of rfl (Grows.refl _)) (by simp [go_sem, x0, hev.const, w_ad, y1, y2, y3, y4, y5, y6, y7] <;> rfl)
  case oF10 => intro ev wo hev hC hs hph; have x0 := sd hs 64 9; exact od rfl rfl (by kernel_rfl) hC (TSp.of rfl (Grows.refl _)) (by simp [go_sem, x0, pF _ hC, w_ad, y1, y2, y3, y4, y5, y6, y7] <;> rfl)
  case oF11 => intro ev wo hev hC hs hph; have x0 := sd hs 63 8; have x1 := sd hs 65 10; exact od rfl rfl (by kernel_rfl) hC (TSp.of rfl (Grows.refl _)) (by simp [go_sem, x0, x1, w_ad, y1, y2, y3, y4, y5, y6, y7] <;> rfl)
  case oF12 => intro ev wo hev hC hs hph; have x0 := se hA hs 10; exact od rfl rfl (by kernel_rfl) hC (TSp.of rfl (Grows.refl _)) (by simp [go_sem, x0, w_ad, y1, y2, y3, y4, y5, y6, y7] <;> rfl)
  case oF13 => intro ev wo hev hC hs hph; have x0 := se hA hs 7; exact od rfl rfl (by kernel_rfl) hC (TSp.of rfl (Grows.refl _)) (by simp [go_sem, x0, hev.const, w_ad, y1, y2, y3, y4, y5, y6, y7] <;> rfl)
  case oF14 => intro ev wo hev hC hs hph; have x0 := sd hs 68 13; exact od rfl rfl (by kernel_rfl) hC (TSp.of rfl (Grows.refl _)) (by simp [go_sem, x0, pF _ hC, w_ad, y1, y2, y3, y4, y5, y6, y7] <;> rfl)
  case oF15 => intro ev wo hev hC hs hph; have x0 := sd hs 67 12; have x1 := sd hs 69 14; exact od rfl rfl (by kernel_rfl) hC (TSp.of rfl (Grows.refl _)) (by simp [go_sem, x0, x1, w_ad, y1, y2, y3, y4, y5, y6, y7] <;> rfl)
  case oF16 => intro ev wo hev hC hs hph; have x0 := sd hs 66 11; have x1 := sd hs 70 15; exact od rfl rfl (by kernel_rfl) hC (TSp.of rfl (Grows.refl _)) (by simp [go_sem, x0, x1, w_ad, y1, y2, y3, y4, y5, y6, y7] <;> rfl)
  case oF17 => intro ev wo hev hC hs hph; have x0 := se hA hs 7; exact od rfl rfl (by kernel_rfl) hC (TSp.of rfl (Grows.refl _)) (by simp [go_sem, x0, hev.const, w_ad, y1, y2, y3, y4, y5, y6, y7] <;> rfl)
  case oF18 => intro ev wo hev hC hs hph; have x0 := sd hs 72 17; exact od rfl rfl (by kernel_rfl) hC (TSp.of rfl (Grows.refl _)) (by simp [go_sem, x0, pF _ hC, w_ad, y1, y2, y3, y4, y5, y6, y7] <;> rfl)
  case oF19 => intro ev wo hev hC hs hph; have x0 := se hA hs 7; exact od rfl rfl (by kernel_rfl) hC (TSp.of rfl (Grows.refl _)) (by simp [go_sem, x0, hev.const, w_ad, y1, y2, y3, y4, y5, y6, y7] <;> rfl)
  case oF20 => intro ev wo hev hC hs hph; have x0 := sd hs 74 19; exact od rfl rfl (by kernel_rfl) hC (TSp.of rfl (Grows.refl _)) (by simp [go_sem, x0, pF _ hC, w_ad, y1, y2, y3, y4, y5, y6, y7] <;> rfl)
  case oF21 => intro ev wo hev hC hs hph; have x0 := sd hs 73 18; have x1 := sd hs 75 20; exact od rfl rfl (by kernel_rfl) hC (TSp.of rfl (Grows.refl _)) (by simp [go_sem, x0, x1, w_ad, y1, y2, y3, y4, y5, y6, y7] <;> rfl)
  case oF22 => intro ev wo hev hC hs hph; have x0 := sd hs 71 16; have x1 := sd hs 76 21; exact od rfl rfl (by kernel_rfl) hC (TSp.of rfl (Grows.refl _)) (by simp [go_sem, x0, x1, w_ad, y1, y2, y3, y4, y5, y6, y7] <;> rfl)
  case oF23 => intro ev wo hev hC hs hph; have x0 := sd hs 62 7; have x1 := sd hs 77 22; exact od rfl rfl (by kernel_rfl) hC (TSp.of rfl (Grows.refl _)) (by simp [go_sem, x0, x1, w_ad, y1, y2, y3, y4, y5, y6, y7] <;> rfl)
  case oF24 => intro ev wo hev hC hs hph; have x0 := sd hs 78 23; exact od rfl rfl (by kernel_rfl) hC (TSp.of rfl (Grows.refl _)) (by simp [go_sem, x0, w_ad, y1, y2, y3, y4, y5, y6, y7] <;> rfl)
  intro sg wf hC hph
  intro a hA
  replace hA := hA.keepN [2, 4, 5, 6, 7, 9, 10, 11, 12, 18]
  refine nT ?_
  replace HB := HB.trans (hC.mono HB.size)
  replace K2 := K2.below hC K2.lt
  replace K4 := K4.below hC K4.lt
  replace K5 := K5.below hC K5.lt
  replace K6 := K6.below hC K6.lt
  replace K7c := K7c.below hC K7c.lt
  clear hC hph y1 y2 y3 y4 y5 y6 y7
  obtain ⟨V2, hV2⟩ : ∃ x, ad (xo (xo (rotr va 2) (rotr va 13)) (rotr va 22)) (xo (xo (an va vb) (an va vc)) (an vb vc)) = x := ⟨_, rfl⟩
  rw [hV2] at hA
  refine wR ?_
  revert a; (iterate 10 refine wo rfl rfl (by decide) (fun ev e h => by simp [go_sem, h, K7c.cell, w_ad] <;> rfl) ?_); intro a hA
  replace hA := hA.keepN [2, 4, 5, 6, 7, 9, 11, 18, 81, 82, 84, 86, 88]
  revert a; (iterate 8 refine wo rfl rfl (by decide) (fun ev e h => by simp [go_sem, h, K7c.cell, w_ad] <;> rfl) ?_); intro a hA
  refine wl_setw ([.int .u32 (ad V1 V2 : Nat), .int .u32 (va : Nat), .int .u32 (vb : Nat), .int .u32 (vc : Nat), .int .u32 (ad vd V1 : Nat), .int .u32 (ve : Nat), .int .u32 (vf : Nat), .int .u32 (vg : Nat)]) hA rfl rfl K7c (by rfl) (by rfl) (by kernel_rfl) (by rfl) rfl (fun ev h => ⟨h.get 7 rfl, h.get 96 rfl⟩) fun w11 (K7c : Blk _ _ _ _) hs => ?_
  have hwi : IntKind.i64.wrap ((i : Int) + 1) = ((i + 1 : Nat) : Int) := by rw [IntWalk.i64_in _ (by omega)]; omega
  replace hA := hA.keepN [2, 4, 5, 6, 7, 18]
  refine wN (nB (nT (wR ?_)))
  revert a; (iterate 2 refine wo rfl rfl (by decide) (fun ev e h => by simp [go_sem, h, hwi] <;> rfl) ?_); intro a hA
  replace hA := hA.keepN [2, 4, 5, 6, 7, 18]
  refine wN (nT ?_)
  refine ⟨k - 1, by omega, i + 1, by omega, hA, hs.blk K2 (by omega), hs.blk K4 (by omega), hs.blk K5 (by omega), hs.blk K6 (by omega), ?_, hs.below HB (by omega)⟩
  have e := shaStep_cells (vd := vd) hV1 hV2
  rw [← hnext] at e
  rw [e]
  exact K7c
 case nL =>
  have hi : i = 64 := by simp at hq; omega
  subst hi
  clear hik hq
  generalize shaSteps W s 64 = t at *
  replace hA := hA.keepN [2, 4, 7]
  refine wp_exit (xT (xT (xB (nT (wS (wS (wR ?_)))))))
  revert a; refine wo rfl rfl (by decide) (fun ev e h => by simp [go_sem, h] <;> rfl) ?_; intro a hA
  replace hA := hA.keepN [2, 4, 7, 98]
  refine wN (nT (wB ?_))
  refine wp_loop_at (fun k a wx => ∃ (i : Nat), i + k = 8 ∧ At 111 [(2, .pointer (some ⟨g2, 0, none⟩)), (4, .pointer (some ⟨g4, 0, none⟩)), (7, .pointer (some ⟨g7, 0, none⟩)), (98, .int .i64 (i : Nat))] a ∧ Blk wx g2 273 (s.l.map u32v).toArray ∧ Blk wx g4 273 #[.int .u32 0, .int .u32 0, .int .u32 0, .int .u32 0, .int .u32 0, .int .u32 0, .int .u32 0, .int .u32 0] ∧ Blk wx g7 273 ((mixN t s i).map u32v).toArray ∧ Below w.heap.size w wx) (8) ?_ ?_
  ·exact ⟨0, by omega, hA, K2, K4, by rw [mix0]; exact K7, HB⟩
  clear K2 K4 K5 K6 K7 HB
  rintro k a wx ⟨i, hik, hA, K2, K4, K7, HB⟩
  refine wS (wR ?_)
  revert a; refine wo rfl rfl (by decide) (fun ev e h => by simp [go_sem, h] <;> rfl) ?_; intro a hA
  replace hA := hA.keepN [2, 4, 7, 98, 99]
  refine wN (nT (wS ?_))
  refine wp_if hA 99 _ rfl (fun hq => ?yM) (fun hq => ?nM)
  case yM =>
   have hi : i < 8 := by simp at hq; omega
   have c1 := mixN_get (t := t) (s := s) hi
   have c2 := l_get (s := s) hi
   have jj : (0 : Int) ≤ (i : Int) := by omega
   have ji : (i : Int) < 8 := by omega
   refine wp_skip (nT (wS (wB (wS (wR ?_)))))
   revert a; (iterate 2 refine wo rfl rfl (by decide) (fun ev e h => by simp [go_sem, h] <;> rfl) ?_); intro a hA
   replace hA := hA.keepN [2, 4, 7, 13, 98]
   have pG := fun (wo : World) (hC : (fun wy => Below wx.heap.size wx wy) wo) => have Kx := K7.below hC K7.lt; have Ky := K2.below hC K2.lt; And.intro (Kx.cell) (And.intro (Ky.cell) (And.intro (c1) (c2)))
   refine wN (nT ?_)
   refine wp_region_split 7 ?_
   simp only [List.take_succ_cons, List.take_zero, List.drop_succ_cons, List.drop_zero]
   refine wp_any_split_at hA [(.det ?dG0), (.det ?dG1), (.det ?dG2), (.det ?dG3), (.det ?dG4), (.det ?dG5), (.det ?dG6)] [] (fun wy => Below wx.heap.size wx wy) (TSp [] Grows) (by kernel_rfl) rfl (by kernel_rfl) (by kernel_rfl) rfl (by kernel_rfl) (by kernel_rfl) (by kernel_rfl) (by kernel_rfl) ((Below.refl _ _).drew) (stab_sp [] [true, true, true, true, true, true, true] [true, true, true, true, true, true, true] [] rfl rfl rfl (by kernel_rfl) ⟨trivial, trivial, trivial, trivial, trivial, trivial, trivial, trivial⟩ trivial) (fun _ h => by cases h) (fun _ _ _ _ _ h => by cases h) (fun _ h => by cases h) ⟨?oG0, ?oG1, ?oG2, ?oG3, ?oG4, ?oG5, ?oG6, trivial⟩ (by kernel_rfl) ?fG
   case oG0 => intro ev wo hev hC hs hph; have x0 := se hA hs 13; exact od rfl rfl (by kernel_rfl) hC (TSp.of rfl (Grows.refl _)) (by simp [go_sem, x0, w_ad, jj, ji, add0] <;> rfl)
   case oG1 => intro ev wo hev hC hs hph; have x0 := se hA hs 7; have x1 := sd hs 101 0; exact od rfl rfl (by kernel_rfl) hC (TSp.of rfl (Grows.refl _)) (by simp [go_sem, x0, x1, w_ad, jj, ji, add0] <;> rfl)
   case oG2 => intro ev wo hev hC hs hph; have x0 := sd hs 102 1; exact od rfl rfl (by kernel_rfl) hC (TSp.of rfl (Grows.refl _)) (by simp [go_sem, x0, pG _ hC, w_ad, jj, ji, add0] <;> rfl)
   case oG3 => intro ev wo hev hC hs hph; have x0 := se hA hs 13; exact od rfl rfl (by kernel_rfl) hC (TSp.of rfl (Grows.refl _)) (by simp [go_sem, x0, w_ad, jj, ji, add0] <;> rfl)
   case oG4 => intro ev wo hev hC hs hph; have x0 := se hA hs 2; have x1 := sd hs 104 3; exact od rfl rfl (by kernel_rfl) hC (TSp.of rfl (Grows.refl _)) (by simp [go_sem, x0, x1, w_ad, jj, ji, add0] <;> rfl)
   case oG5 => intro ev wo hev hC hs hph; have x0 := sd hs 105 4; exact od rfl rfl (by kernel_rfl) hC (TSp.of rfl (Grows.refl _)) (by simp [go_sem, x0, pG _ hC, w_ad, jj, ji, add0] <;> rfl)
   case oG6 => intro ev wo hev hC hs hph; have x0 := sd hs 103 2; have x1 := sd hs 106 5; exact od rfl rfl (by kernel_rfl) hC (TSp.of rfl (Grows.refl _)) (by simp [go_sem, x0, x1, w_ad, jj, ji, add0] <;> rfl)
   intro sg wf hC hph
   intro a hA
   replace hA := hA.keepN [2, 4, 7, 98, 101, 107]
   replace HB := HB.trans (hC.mono HB.size)
   replace K2 := K2.below hC K2.lt
   replace K4 := K4.below hC K4.lt
   replace K7 := K7.below hC K7.lt
   revert a; refine wo rfl rfl (by decide) (fun ev e h => by simp [go_sem, h, jj, ji, add0, c1] <;> rfl) ?_; intro a hA
   refine wl_setf (((mixN t s i).map u32v).set i (.int .u32 ((ad (t.l.getD i 0) (s.l.getD i 0) : Nat) : Int))) _ hA rfl rfl K7 (j := i) (by rfl) (fun ev h => by simp [go_sem, h.get 108 rfl, h.get 107 rfl, jj, ji, add0, c1, K7.cell, K7.frozen]; try first | exact ⟨rfl, rfl⟩ | rfl) fun w12 (K7 : Blk _ _ _ _) hs => ?_
   have hwi : IntKind.i64.wrap ((i : Int) + 1) = ((i + 1 : Nat) : Int) := by rw [IntWalk.i64_in _ (by omega)]; omega
   replace hA := hA.keepN [2, 4, 7, 98]
   refine wN (nB (nT (wR ?_)))
   revert a; (iterate 2 refine wo rfl rfl (by decide) (fun ev e h => by simp [go_sem, h, hwi] <;> rfl) ?_); intro a hA
   replace hA := hA.keepN [2, 4, 7, 98]
   refine wN (nT ?_)
   rw [mixN_set hi] at K7
   exact ⟨k - 1, by omega, i + 1, by omega, hA, hs.blk K2 (by omega), hs.blk K4 (by omega), K7, hs.below HB (by omega)⟩
  case nM =>
   have hi : i = 8 := by simp at hq; omega
   subst hi
   replace hA := hA.keepN [4, 7]
   refine wp_exit (xT (xT (xB (nT (wS (wR ?_))))))
   refine wl_op hA rfl rfl (by decide) (fun ev h => exec_loadA K7 Tryz.underlying273 rfl (by kernel_rfl) (mixN_len t s 8) rfl (h.get 7 rfl)) fun a hA => ?_
   refine wl_setw ((mixN t s 8).map u32v) hA rfl rfl K4 (by rfl) (mixN_len t s 8) (by kernel_rfl) (map_one _) rfl (fun ev h => ⟨h.get 4 rfl, h.get 110 rfl⟩) fun w13 (K4 : Blk _ _ _ _) hs => ?_
   replace hA := hA.keepN [4]
   refine wN (nT (wp_ret ?_))
   refine ret_cell hA 4 rfl rfl K4 Tryz.underlying273 rfl (by kernel_rfl) (mixN_len t s 8) ?_
   refine ⟨?_, hs.below HB h4⟩
   rw [hfin, mix8]
end Go.Proofs.YtkljkbeahdipfaaGreatDoor
/-
  Walk: bytes up to whole blocks (sum.padded).
-/
namespace Go.Proofs.YtkljkbeahdipfaaGreatDoor
open Go.RowKit
set_option linter.unusedSimpArgs false
set_option linter.unusedVariables false
theorem zeros_stop {n j : Nat} (h : j ≤ shaZeros n) : (n + 1 + j) % 64 = 56 ↔ j = shaZeros n := by
 unfold shaZeros at *
 omega
theorem padZ_succ (b : List UInt8) (j : Nat) : b ++ [128] ++ List.replicate (j + 1) 0 = b ++ [128] ++ List.replicate j 0 ++ [0] := by
 rw [List.replicate_succ', List.append_assoc, List.append_assoc, List.append_assoc]
theorem be_take (v : Nat) : ∀ (n i : Nat), i < n → (be n v).take (i + 1) = (be n v).take i ++ [UInt8.ofNat (v / 256 ^ (n - 1 - i))]
 | 0, i, h => by omega
 | n + 1, 0, _ => by simp [be]
 | n + 1, i + 1, h => by
   have ih := be_take v n i (by omega)
   have e : n + 1 - 1 - (i + 1) = n - 1 - i := by omega
   rw [e]
   simp only [be, List.take_succ_cons, List.cons_append]
   rw [ih]
theorem sha_shr (v m : Nat) : (v : Int) / 2 ^ (8 * m) = ((v / 256 ^ m : Nat) : Int) := by
 have e : (256 : Nat) ^ m = 2 ^ (8 * m) := by rw [Nat.pow_mul]
 rw [e, Int.natCast_ediv, Int.natCast_pow]; rfl
theorem sha_shift (N i : Nat) (h : i < 8) : Op.shift .shr .u64 (N : Int) .i64 (56 - 8 * (i : Int)) = pure (.int .u64 ((N / 256 ^ (7 - i) : Nat) : Int)) := by
 rw [shift_shr_any _ _ _ _ (by omega), show min (56 - 8 * (i : Int)).toNat IntKind.u64.bits = 8 * (7 - i) by show min (56 - 8 * (i : Int)).toNat 64 = _; omega, sha_shr]
/-- a new row without bytes, with room -/
theorem make8 (c : Nat) (hc : c ≤ 1000000000) (w : World) : ∃ x : Obj, (Instr.makeSlice 22 (.int .i64 0) (.int .i64 (c : Nat))).run Tryz.prog w = .ok (.slice (some ⟨w.heap.size, 0, none⟩) 0 c) (w.alloc x) ∧ Own8 w.heap.size (w.alloc x) (.slice (some ⟨w.heap.size, 0, none⟩) 0 c) [] := by
 obtain ⟨i0, hi0, hz0, hz1, hz2⟩ := info_parts u8_info
 have hmk := run_make_rowN (P := Tryz.prog) 22 5 i0 (.int .u8 0) Tryz.underlying22 hi0 hz0 .i64 .i64 0 c (Nat.zero_le _) (by rw [hz2]; omega) (by omega) w
 rw [hz1, Nat.mul_one, made8] at hmk
 exact ⟨_, hmk, World.ownsRow_made (base := w.heap.size) (e := 5) (size := 1) w (u8s (List.replicate c 0)).toArray c (Nat.le_refl _) (by unfold maxLen; omega) (by simp [u8s])⟩
set_option maxRecDepth 100000 in
theorem padded_any (A : Option Addr) (n c : Nat) (b : List UInt8) (hl : b.length = n) (hn : n ≤ 1000000) (w : World) (hr : Reads w w.heap.size 1 A n (u8s b)) :
 Calls Tryz.prog 198 #[.slice A n c] w fun ev w' => ∃ r, ev = .returned r ∧ Own8 w.heap.size w' r (shaPad b) ∧ Below w.heap.size w w' := by
 have hadd : IntKind.i64.wrap ((n : Int) + 128) = (n : Int) + 128 := IntWalk.i64_in _ (by omega)
 subst hl
 refine calls_at 37 Tryz.func198 rfl rfl (Nat.le_of_ble_eq_true rfl) ?_
 intro a hA; replace hA := hA.norm
 refine wS (wR ?_)
 revert a; refine wo rfl rfl (by decide) (fun ev e h => by simp [go_sem, h, hadd] <;> rfl) ?_; intro a hA
 replace hA := hA.keepN [0]
 refine wN (nT (wS (wR ?_)))
 revert a; (iterate 3 refine wo rfl rfl (by decide) (fun ev e h => by simp [go_sem, h, hadd] <;> rfl) ?_); intro a hA
 obtain ⟨x, hmk, ho⟩ := make8 (b.length + 128) (by omega) w
 rw [show ((b.length + 128 : Nat) : Int) = (b.length : Int) + 128 by omega] at hmk
 have hb0 := (Below.refl w.heap.size w).alloc (Nat.le_refl _) x
 refine wl_op hA rfl rfl (by decide) (fun ev h => by simp [go_sem, h.c, h.get 8 rfl, hadd, hmk]; try first | exact ⟨rfl, rfl⟩ | rfl) fun a hA => ?_
 revert a; refine wo rfl rfl (by decide) (fun ev e h => by simp [go_sem, h, hadd] <;> rfl) ?_; intro a hA
 obtain ⟨r1, w1, hr1, ho1, hg1⟩ := run_app8 ho (u := .slice A b.length c) ⟨A, c, rfl, (hr.below hb0).more hb0.size⟩ (by simp; omega) hb0.size
 have hb1 := below_app8 hb0 ho hg1 (Nat.le_refl _) hb0.size
 refine wl_op hA rfl rfl (by decide) (fun ev h => exec_append rfl (h.get 9 rfl) (h.get 10 rfl) hr1) fun a hA => ?_
 refine wl_new hA rfl rfl (by decide) (fun ev h => by simp [go_sem, h.c, hadd]; try first | exact ⟨rfl, rfl⟩ | rfl) fun w2 a (K : Blk _ _ _ _) hz hb hA => ?_
 replace hb1 := hb1.trans (hb.mono hb1.size)
 replace ho1 := ho1.below hb
 obtain ⟨r3, w3, hr3, ho3, hg3⟩ := run_app8 ho1 (took_blk (c := 128) K) (by simp; omega) hb1.size
 have hb3 := below_app8 hb1 ho1 hg3 (Nat.le_refl _) hb1.size
 refine wl_op hA rfl rfl (by decide) (fun ev h => exec_append rfl (h.get 11 rfl) (h.get 12 rfl) hr3) fun a hA => ?_
 revert a; refine wo rfl rfl (by decide) (fun ev e h => by simp [go_sem, h, hadd] <;> rfl) ?_; intro a hA
 replace hA := hA.keepN [0, 3]
 refine wN (nT (wS (wB ?_)))
 refine wp_loop_at (fun k a wx => ∃ (j : Nat) (v : Value), j + k = shaZeros b.length ∧ At 37 [(0, .slice A b.length c), (3, v)] a ∧ Own8 w.heap.size wx v (b ++ [128] ++ List.replicate j 0) ∧ Below w.heap.size w wx) (shaZeros b.length) ?_ ?_
 ·exact ⟨0, _, by omega, hA, by simpa using ho3, hb3⟩
 clear ho3 hb3
 rintro k a wx ⟨j, v, hjk, hA, ho, HB⟩
 have hz64 : shaZeros b.length < 64 := Nat.mod_lt _ (by omega)
 obtain ⟨Av, cv, rfl, hrv⟩ := ho.took
 obtain ⟨L, hL⟩ : ∃ L, (b ++ [128] ++ List.replicate j 0).length = L := ⟨_, rfl⟩
 have hL2 : L = b.length + 1 + j := by rw [← hL]; simp; omega
 rw [hL] at hA
 refine wS (wS (wR ?_))
 revert a; (iterate 4 refine wo rfl rfl (by decide) (fun ev e h => by simp [go_sem, h] <;> rfl) ?_); intro a hA
 replace hA := hA.keepN [0, 3, 17]
 refine wN (nT ?_)
 refine wp_if hA 17 _ rfl (fun hq => ?yP) (fun hq => ?nP)
 case yP =>
  have hne : j ≠ shaZeros b.length := fun e => by
   have := (zeros_stop (n := b.length) (j := j) (by omega)).2 e
   simp [Int.tmod_eq_emod_of_nonneg] at hq
   omega
  refine wp_skip (nT (wB (wR ?_)))
  revert a; refine wo rfl rfl (by decide) (fun ev e h => by simp [go_sem, h] <;> rfl) ?_; intro a hA
  refine wl_new hA rfl rfl (by decide) (fun ev h => by simp [go_sem, h.c]; try first | exact ⟨rfl, rfl⟩ | rfl) fun w4 a (K4 : Blk _ _ _ _) hz4 hb4 hA => ?_
  replace HB := HB.trans (hb4.mono HB.size)
  replace ho := ho.below hb4
  obtain ⟨r5, w5, hr5, ho5, hg5⟩ := run_app8 ho (took_blk (c := 0) K4) (by simp; omega) HB.size
  rw [← hL] at hA
  refine wl_op hA rfl rfl (by decide) (fun ev h => exec_append rfl (h.get 18 rfl) (h.get 19 rfl) hr5) fun a hA => ?_
  revert a; refine wo rfl rfl (by decide) (fun ev e h => by simp [go_sem, h] <;> rfl) ?_; intro a hA
  replace hA := hA.keepN [0, 3]
  refine wN (nB (nT ?_))
  exact ⟨k - 1, by omega, j + 1, _, by omega, hA, by rw [padZ_succ]; exact ho5, below_app8 HB ho hg5 (Nat.le_refl _) HB.size⟩
 case nP =>
  have hje : j = shaZeros b.length := by
   refine (zeros_stop (n := b.length) (j := j) (by omega)).1 ?_
   simp [Int.tmod_eq_emod_of_nonneg] at hq
   omega
  have hw8 : IntKind.u64.wrap (b.length : Int) = (b.length : Int) := IntWalk.u64_in _ (by omega)
  have hw9 : IntKind.u64.wrap ((b.length : Int) * 8) = (b.length : Int) * 8 := IntWalk.u64_in _ (by omega)
  rw [hL] at ho
  replace hA := hA.keepN [0, 3]
  refine wp_exit (xT (xT (xB (nT (wS (wR ?_))))))
  revert a; (iterate 2 refine wo rfl rfl (by decide) (fun ev e h => by simp [go_sem, h, hw8, hw9] <;> rfl) ?_); intro a hA
  refine wl_op hA rfl rfl (by decide) (fun ev h => by simp [go_sem, h.get 22 rfl, hw8, hw9]; try first | exact ⟨rfl, rfl⟩ | rfl) fun a hA => ?_
  revert a; (iterate 2 refine wo rfl rfl (by decide) (fun ev e h => by simp [go_sem, h, hw8, hw9] <;> rfl) ?_); intro a hA
  replace hA := hA.keepN [3, 4]
  refine wN (nT (wS (wS (wR ?_))))
  revert a; refine wo rfl rfl (by decide) (fun ev e h => by simp [go_sem, h, hw8, hw9] <;> rfl) ?_; intro a hA
  replace hA := hA.keepN [3, 4, 5]
  refine wN (nT (wB ?_))
  refine wp_loop_at (fun k a wx => ∃ (i : Nat) (v : Value), i + k = 8 ∧ At 37 [(3, v), (4, .int .u64 ((b.length : Int) * 8)), (5, .int .i64 (56 - 8 * (i : Int)))] a ∧ Own8 w.heap.size wx v (b ++ [128] ++ List.replicate (shaZeros b.length) 0 ++ (be 8 (b.length * 8)).take i) ∧ Below w.heap.size w wx) (8) ?_ ?_
  ·exact ⟨0, _, by omega, hA, by rw [← hje]; simpa using ho, HB⟩
  clear ho HB hrv
  rintro k a wx ⟨i, v, hik, hA, ho, HB⟩
  refine wS (wS (wR ?_))
  revert a; (iterate 2 refine wo rfl rfl (by decide) (fun ev e h => by simp [go_sem, h] <;> rfl) ?_); intro a hA
  replace hA := hA.keepN [3, 4, 5, 26]
  refine wN (nT ?_)
  refine wp_if hA 26 _ rfl (fun hq2 => ?yR) (fun hq2 => ?nR)
  case yR =>
   have hi8 : i < 8 := by simp at hq2; omega
   have hsh := sha_shift (b.length * 8) i hi8
   rw [show ((b.length * 8 : Nat) : Int) = (b.length : Int) * 8 by omega] at hsh
   have hwb : ∀ q : Nat, IntKind.u8.wrap (q : Int) = (((UInt8.ofNat q).toNat : Nat) : Int) := fun q => by rw [IntKind.wrap_u8']; simp
   have hw5 : IntKind.i64.wrap (56 - 8 * (i : Int) - 8) = 56 - 8 * ((i + 1 : Nat) : Int) := by rw [IntWalk.i64_in _ (by omega)]; omega
   refine wp_skip (nT (wS (wB (wR ?_))))
   revert a; (iterate 4 refine wo rfl rfl (by decide) (fun ev e h => by simp [go_sem, h] <;> rfl) ?_); intro a hA
   refine wl_op hA rfl rfl (by decide) (fun ev h => by simp [go_sem, h.get 32 rfl]; try first | exact ⟨rfl, rfl⟩ | rfl) fun a hA => ?_
   refine wl_new hA rfl rfl (by decide) (fun ev h => by simp [go_sem, h.get 33 rfl]; try first | exact ⟨rfl, rfl⟩ | rfl) fun w6 a (K6 : Blk _ _ _ _) hz6 hb6 hA => ?_
   replace HB := HB.trans (hb6.mono HB.size)
   replace ho := ho.below hb6
   have hby : IntKind.u8.wrap ((b.length : Int) * 8 / 2 ^ (56 - 8 * (i : Int)).toNat) = (((UInt8.ofNat (b.length * 8 / 256 ^ (7 - i))).toNat : Nat) : Int) := by
    rw [show (56 - 8 * (i : Int)).toNat = 8 * (7 - i) by omega, show (b.length : Int) * 8 = ((b.length * 8 : Nat) : Int) by omega, sha_shr, hwb]
   rw [hby] at K6
   obtain ⟨r7, w7, hr7, ho7, hg7⟩ := run_app8 ho (took_blk K6) (by simp [be_length]; omega) HB.size
   refine wl_op hA rfl rfl (by decide) (fun ev h => exec_append rfl (h.get 29 rfl) (h.get 34 rfl) hr7) fun a hA => ?_
   revert a; refine wo rfl rfl (by decide) (fun ev e h => by simp [go_sem, h, hw5] <;> rfl) ?_; intro a hA
   replace hA := hA.keepN [3, 4, 5]
   refine wN (nB (nT (wR ?_)))
   revert a; (iterate 3 refine wo rfl rfl (by decide) (fun ev e h => by simp [go_sem, h, hw5] <;> rfl) ?_); intro a hA
   replace hA := hA.keepN [3, 4, 5]
   refine wN (nT ?_)
   exact ⟨k - 1, by omega, i + 1, _, by omega, hA, by rw [be_take _ 8 i hi8, ← List.append_assoc]; exact ho7, below_app8 HB ho hg7 (Nat.le_refl _) HB.size⟩
  case nR =>
   replace hA := hA.keepN [3]
   refine wp_exit (xT (xT (xB (nT (wS (wR ?_))))))
   revert a; (iterate 2 refine wo rfl rfl (by decide) (fun ev e h => by simp [go_sem, h] <;> rfl) ?_); intro a hA
   replace hA := hA.keepN [2]
   refine wN (nT (wp_ret ?_))
   refine ret_1 hA 2 rfl rfl ?_
   have hi : i = 8 := by simp at hq2; omega
   subst hi
   exact ⟨_, rfl, by unfold shaPad; rw [List.take_of_length_le (by rw [be_length]; omega)] at ho; exact ho, HB⟩
end Go.Proofs.YtkljkbeahdipfaaGreatDoor
/-
  Walk: SHA-256 (sum.Digest).
-/
namespace Go.Proofs.YtkljkbeahdipfaaGreatDoor
open Go.RowKit
set_option linter.unusedSimpArgs false
set_option linter.unusedVariables false
theorem sha0_ok : sha0.Ok := ⟨by decide, by decide, by decide, by decide, by decide, by decide, by decide, by decide⟩
theorem shaGo_ok (l : List UInt8) : ∀ i, (shaGo l i).Ok
 | 0 => sha0_ok
 | i + 1 => shaAdd_ok _ _
def u8v (x : UInt8) : Value := .int .u8 ((x.toNat : Nat) : Int)
theorem u8s_map (l : List UInt8) : u8s l = l.map u8v := rfl
/-- bytes, and noughts behind them, 32 in all -/
def digCells (l : List UInt8) : List Value := (l ++ List.replicate (32 - l.length) 0).map u8v
theorem digCells_len {l : List UInt8} (h : l.length ≤ 32) : (digCells l).length = 32 := by unfold digCells; simp; omega
theorem digCells_set {l : List UInt8} (h : l.length < 32) (x : UInt8) : (digCells l).set l.length (u8v x) = digCells (l ++ [x]) := by
 unfold digCells
 have e : List.replicate (32 - l.length) (0 : UInt8) = 0 :: List.replicate (32 - (l ++ [x]).length) 0 := by
  rw [List.length_append, show 32 - l.length = (32 - (l.length + [x].length)) + 1 by simp; omega, List.replicate_succ]
 rw [e, List.map_append, List.map_cons, List.set_append_right _ _ (by simp), List.length_map, Nat.sub_self, List.set_cons_zero, List.append_assoc, List.map_append]
 simp
theorem digCells_zero {l : List UInt8} {j : Nat} (h : l.length ≤ j) (h2 : j < 32) : (digCells l)[j]? = some (.int .u8 0) := by
 unfold digCells
 rw [List.getElem?_map, List.getElem?_append_right h, List.getElem?_replicate, if_pos (by omega)]
 rfl
theorem digCells_full {l : List UInt8} (h : l.length = 32) : digCells l = u8s l := by unfold digCells; rw [h]; simp; rfl
theorem digCells_one (l : List UInt8) : (digCells l).all (·.oneCell') = true := by
 unfold digCells
 rw [List.all_map, List.all_eq_true]
 intro x _
 rfl
theorem flat_take (s : ShaS) {i : Nat} (h : i < 32) : (s.l.flatMap (be 4)).take (i + 1) = (s.l.flatMap (be 4)).take i ++ [UInt8.ofNat (s.l.getD (i / 4) 0 / 256 ^ (3 - i % 4))] := by
 have hl : (s.l.flatMap (be 4)).length = 32 := ShaS.l_len s
 rw [List.take_add_one, List.getElem?_eq_getElem (by omega)]
 congr 1
 have hc : ∀ k : Fin 32, (s.l.flatMap (be 4))[k.1]? = some (UInt8.ofNat (s.l.getD (k.1 / 4) 0 / 256 ^ (3 - k.1 % 4))) := by
  intro k
  obtain ⟨k, hk⟩ := k
  have hcs : k = 0 ∨ k = 1 ∨ k = 2 ∨ k = 3 ∨ k = 4 ∨ k = 5 ∨ k = 6 ∨ k = 7 ∨ k = 8 ∨ k = 9 ∨ k = 10 ∨ k = 11 ∨ k = 12 ∨ k = 13 ∨ k = 14 ∨ k = 15 ∨ k = 16 ∨ k = 17 ∨ k = 18 ∨ k = 19 ∨ k = 20 ∨ k = 21 ∨ k = 22 ∨ k = 23 ∨ k = 24 ∨ k = 25 ∨ k = 26 ∨ k = 27 ∨ k = 28 ∨ k = 29 ∨ k = 30 ∨ k = 31 := by omega
  rcases hcs with rfl | rfl | rfl | rfl | rfl | rfl | rfl | rfl | rfl | rfl | rfl | rfl | rfl | rfl | rfl | rfl | rfl | rfl | rfl | rfl | rfl | rfl | rfl | rfl | rfl | rfl | rfl | rfl | rfl | rfl | rfl | rfl <;> simp [ShaS.l, be]
 have := hc ⟨i, h⟩
 rw [List.getElem?_eq_getElem (by omega)] at this
 simpa using this
theorem l_getD_lt {s : ShaS} (h : s.Ok) (j : Nat) : s.l.getD j 0 < 4294967296 := by
 have hc : ∀ x ∈ s.l, x < 4294967296 := by
  intro x hx
  unfold ShaS.l at hx
  simp only [List.mem_cons, List.not_mem_nil, or_false] at hx
  obtain ⟨ha, hb, hc, hd, he, hf, hg, hh⟩ := h
  rcases hx with rfl | rfl | rfl | rfl | rfl | rfl | rfl | rfl <;> assumption
 rw [List.getD_eq_getElem?_getD]
 cases hj : s.l[j]? with
 | none => decide
 | some x => exact hc x (List.mem_of_getElem? hj)
theorem map_no8 (l : List Nat) : (l.map u32v).toArray.toList.all noB8 = true := by
 rw [List.all_map, List.all_eq_true]
 intro x _
 rfl
theorem reads_cut8 {w : World} {B n k cap : Nat} {A : Option Addr} {l : List UInt8} (h : Reads w B 1 A n (u8s l)) (hk : k ≤ n) (hc : n ≤ cap) (h0 : 0 < k) : Reads w B 1 (if cap = k then A else Option.map (fun x => (⟨x.block, x.off + k, none⟩ : Addr)) A) (n - k) (u8s (l.drop k)) := by
 have := h.cut hk hc
 rw [Nat.mul_one] at this
 have e : (fun x : Addr => (⟨x.block, x.off + k, none⟩ : Addr)) = fun x => x.add k := by
  funext x
  unfold Addr.add
  rw [if_neg (by omega)]
 rw [e, show u8s (l.drop k) = (u8s l).drop k by rw [u8s_map, u8s_map, List.map_drop]]
 exact this
set_option maxRecDepth 100000 in
set_option maxHeartbeats 1000000 in
theorem digest_any (A : Option Addr) (n c : Nat) (b : List UInt8) (hl : b.length = n) (hn : n ≤ 1000000) (w : World) (hr : Reads w w.heap.size 1 A n (u8s b)) :
 Calls Tryz.prog 145 #[.slice A n c] w fun ev w' => ev = .returned (.agg (u8s (digest b)).toArray) ∧ Below w.heap.size w w' := by
 refine calls_at 36 Tryz.func145 rfl rfl (Nat.le_of_ble_eq_true rfl) ?_
 intro a hA; replace hA := hA.norm
 refine wS (wR ?_)
 refine wl_new hA rfl rfl (by decide) (fun ev h => by simp [go_sem]; try first | exact ⟨rfl, rfl⟩ | rfl) fun w1 a (K2 : Blk _ _ _ _) hz1 hb1 hA => ?_
 obtain ⟨g2, hg2⟩ : ∃ g, w.heap.size = g := ⟨_, rfl⟩
 rw [hg2] at K2 hA
 replace K2 : Blk w1 g2 180 (digCells []).toArray := K2
 have HB : Below w.heap.size w w1 := hb1
 replace hA := hA.keepN [0, 2]
 refine wN (nT (wS (wR ?_)))
 refine wl_op hA rfl rfl (by decide) (fun ev h => exec_buildC (v := .agg (sha0.l.map u32v).toArray) h rfl (by kernel_rfl) (by kernel_rfl)) fun a hA => ?_
 refine wl_new hA rfl rfl (by decide) (fun ev h => by simp [go_sem]; try first | exact ⟨rfl, rfl⟩ | rfl) fun w2 a (K3 : Blk _ _ _ _) hz2 hb2 hA => ?_
 replace HB := HB.trans (hb2.mono HB.size)
 replace K2 := K2.below hb2 K2.lt
 obtain ⟨g3, hg3⟩ : ∃ g, w1.heap.size = g := ⟨_, rfl⟩
 rw [hg3] at K3 hA
 have h23 : g2 < g3 := by omega
 have hB2 : w.heap.size ≤ g2 := by omega
 refine wl_setw (sha0.l.map u32v) hA rfl rfl K3 (by rfl) (l_len sha0) (by kernel_rfl) (map_one _) rfl (fun ev h => ⟨h.get 3 rfl, h.get 7 rfl⟩) fun w3 (K3 : Blk _ _ _ _) hs3 => ?_
 replace K2 := hs3.blk K2 (by omega)
 replace HB := hs3.below HB (by omega)
 replace hA := hA.keepN [0, 2, 3]
 refine wN (nT (wS (wS (wR ?_))))
 revert a; refine wo rfl rfl (by decide) (fun ev e h => by simp [go_sem, h] <;> rfl) ?_; intro a hA
 refine wl_call hA rfl rfl (by decide) (fun ev h => exec_call Tryz.func198 (by kernel_rfl) rfl (h.f _) (by first | (simp only [mL, h.get 8 rfl, h.c] <;> rfl) | (simp [mL, h.get 8 rfl, h.c] <;> rfl))) (padded_any A n c b hl hn _ ((hr.below HB).more HB.size)) ?_
 rintro e w4 ⟨r, rfl, ho, hb4⟩
 refine ⟨_, rfl, fun a hA => ?_⟩
 replace HB := HB.trans (hb4.mono HB.size)
 replace K2 := K2.below hb4 K2.lt
 replace K3 := K3.below hb4 K3.lt
 obtain ⟨L, hL⟩ : ∃ L, shaPad b = L := ⟨_, rfl⟩
 have hL64 := shaPad_length b
 have hLen : L.length ≤ 2000000 := by rw [← hL]; unfold shaPad; simp [be_length, shaZeros]; omega
 rw [hL] at ho hL64
 obtain ⟨M, hM⟩ : ∃ M, L.length = 64 * M := ⟨L.length / 64, by omega⟩
 have hfin : digest b = (shaGo L M).l.flatMap (be 4) := by unfold digest; rw [hL, hM, Nat.mul_div_cancel_left _ (by decide)]
 obtain ⟨Ar, cr, e0, hrr, hcr⟩ := own_reads ho
 subst e0
 revert a; refine wo rfl rfl (by decide) (fun ev e h => by simp [go_sem, h] <;> rfl) ?_; intro a hA
 replace hA := hA.keepN [2, 3, 4]
 refine wN (nT (wB ?_))
 refine wp_loop_at (fun k a wx => ∃ (i : Nat) (A1 : Option Addr) (n1 c1 : Nat), i + k = M ∧ n1 = 64 * k ∧ n1 ≤ c1 ∧ At 36 [(2, .pointer (some ⟨g2, 0, none⟩)), (3, .pointer (some ⟨g3, 0, none⟩)), (4, .slice A1 n1 c1)] a ∧ Reads wx wx.heap.size 1 A1 n1 (u8s (L.drop (64 * i))) ∧ Blk wx g2 180 (digCells []).toArray ∧ Blk wx g3 273 ((shaGo L i).l.map u32v).toArray ∧ Below w.heap.size w wx) (M) ?_ ?_
 ·exact ⟨0, Ar, L.length, cr, by omega, hM, hcr, hA, hrr, K2, K3, HB⟩
 clear K2 K3 HB hrr ho hr
 rintro k a wx ⟨i, A1, n1, c1, hik, hn1, hc1, hA, hR, K2, K3, HB⟩
 refine wS (wS (wR ?_))
 revert a; (iterate 3 refine wo rfl rfl (by decide) (fun ev e h => by simp [go_sem, h] <;> rfl) ?_); intro a hA
 replace hA := hA.keepN [2, 3, 4, 12]
 refine wN (nT ?_)
 refine wp_if hA 12 _ rfl (fun hq => ?yP) (fun hq => ?nP)
 case yP =>
  have hk : 0 < k := by simp at hq; omega
  refine wp_skip (nT (wS (wB ?_)))
  have z1 : (64 : Int) ≤ (c1 : Int) := by omega
  have z2 : (64 : Int) ≤ (n1 : Int) := by omega
  refine wp_region_split 3 ?_
  simp only [List.take_succ_cons, List.take_zero, List.drop_succ_cons, List.drop_zero]
  refine wp_any_split_at hA [(.det (.agg ((shaGo L i).l.map u32v).toArray)), (.det ?dD1), (.det ?dD2)] [] (fun wy => Below wx.heap.size wx wy) (TSp [] Grows) (by kernel_rfl) rfl (by kernel_rfl) (by kernel_rfl) rfl (by kernel_rfl) (by kernel_rfl) (by kernel_rfl) (by kernel_rfl) ((Below.refl _ _).drew) (stab_sp [] [true, true, true] [true, true, true] [] rfl rfl rfl (by kernel_rfl) ⟨trivial, trivial, trivial, trivial⟩ trivial) (fun _ h => by cases h) (fun _ _ _ _ _ h => by cases h) (fun _ h => by cases h) ⟨?oD0, ?oD1, ?oD2, trivial⟩ (by kernel_rfl) ?fD
  case oD0 =>
   intro ev wo hev hC hs hph
   have e3 := se hA hs 3
   have Kx := K3.below hC K3.lt
   exact ob_det (wanted_none rfl) rfl (by kernel_rfl) hC (TSp.of rfl (Grows.refl _)) (exec_loadA Kx Tryz.underlying273 rfl (by kernel_rfl) (l_len _) rfl e3)
  case oD1 => intro ev wo hev hC hs hph; have x0 := se hA hs 4; exact od rfl rfl (by kernel_rfl) hC (TSp.of rfl (Grows.refl _)) (by simp [go_sem, x0, z1, z2] <;> rfl)
  case oD2 => intro ev wo hev hC hs hph; have x0 := sd hs 16 1; exact od rfl rfl (by kernel_rfl) hC (TSp.of rfl (Grows.refl _)) (by simp [go_sem, x0, hev.const, z1, z2] <;> rfl)
  intro sg wf hC hph
  intro a hA
  replace hA := hA.keepN [2, 3, 4, 15, 17]
  replace HB := HB.trans (hC.mono HB.size)
  replace K2 := K2.below hC K2.lt
  replace K3 := K3.below hC K3.lt
  replace hR := (hR.below hC).more hC.size
  refine wl_call hA rfl rfl (by decide) (fun ev h => exec_call Tryz.func199 (by kernel_rfl) rfl (h.f _) (by first | (simp only [mL, h.get 15 rfl, h.get 17 rfl, h.c] <;> rfl) | (simp [mL, h.get 15 rfl, h.get 17 rfl, h.c] <;> rfl))) (mix_any (shaGo L i) (shaGo_ok L i) A1 c1 ((L.drop (64 * i)).take 64) (by rw [List.length_take, List.length_drop]; omega) _ (hR.take8 (by omega))) ?_
  rintro e w5 ⟨rfl, hb5⟩
  refine ⟨_, rfl, fun a hA => ?_⟩
  replace HB := HB.trans (hb5.mono HB.size)
  replace K2 := K2.below hb5 K2.lt
  replace K3 := K3.below hb5 K3.lt
  replace hR := (hR.below hb5).more hb5.size
  have K3b := K3
  refine wl_setw ((shaMix (shaGo L i) ((L.drop (64 * i)).take 64)).l.map u32v) hA rfl rfl K3 (l_len _) (l_len _) (by kernel_rfl) (map_one _) rfl (fun ev h => ⟨h.get 3 rfl, h.get 18 rfl⟩) fun w6 (K3 : Blk _ _ _ _) hs => ?_
  replace hA := hA.keepN [2, 3, 4]
  refine wN (nB (nT (wR ?_)))
  revert a; (iterate 3 refine wo rfl rfl (by decide) (fun ev e h => by simp [go_sem, h, z1, z2] <;> rfl) ?_); intro a hA
  replace hA := hA.keepN [2, 3, 4]
  refine wN (nT ?_)
  refine ⟨k - 1, by omega, i + 1, _, n1 - 64, c1 - 64, by omega, by omega, by omega, hA, ?_, hs.blk K2 (by omega), K3, hs.below HB (by omega)⟩
  have hR2 := reads_cut8 hR (k := 64) (by omega) hc1 (by omega)
  rw [List.drop_drop, show 64 * i + 64 = 64 * (i + 1) by omega] at hR2
  exact reads_only hR2 hs K3b (map_no8 _)
 case nP =>
  have hk : k = 0 := by simp at hq; omega
  have hi : i = M := by omega
  subst hi
  have hok := shaGo_ok L i
  generalize shaGo L i = s at *
  clear hR
  replace hA := hA.keepN [2, 3]
  refine wp_exit (xT (xT (xB (nT (wS (wR ?_))))))
  have l2 := K2.lt
  have l3 := K3.lt
  refine wl_new hA rfl rfl (by decide) (fun ev h => by simp [go_sem]; try first | exact ⟨rfl, rfl⟩ | rfl) fun w7 a (K5 : Blk _ _ _ _) hz5 hb5 hA => ?_
  replace HB := HB.trans (hb5.mono HB.size)
  replace K2 := K2.below hb5 K2.lt
  replace K3 := K3.below hb5 K3.lt
  obtain ⟨g5, hg5⟩ : ∃ g, wx.heap.size = g := ⟨_, rfl⟩
  rw [hg5] at K5 hA l2 l3
  have hB5 : w.heap.size ≤ g5 := by omega
  obtain ⟨D, hD⟩ : ∃ D, s.l.flatMap (be 4) = D := ⟨_, rfl⟩
  have hDl : D.length = 32 := by rw [← hD]; exact ShaS.l_len s
  replace K5 : Blk w7 g5 180 (digCells (D.take 0)).toArray := K5
  replace hA := hA.keepN [2, 3, 5]
  refine wN (nT (wS (wS (wR ?_))))
  revert a; refine wo rfl rfl (by decide) (fun ev e h => by simp [go_sem, h] <;> rfl) ?_; intro a hA
  replace hA := hA.keepN [2, 3, 5, 19]
  refine wN (nT (wB ?_))
  refine wp_loop_at (fun k a wy => ∃ (i : Nat), i + k = 32 ∧ At 36 [(2, .pointer (some ⟨g2, 0, none⟩)), (3, .pointer (some ⟨g3, 0, none⟩)), (5, .pointer (some ⟨g5, 0, none⟩)), (19, .int .i64 (i : Nat))] a ∧ Blk wy g2 180 (digCells []).toArray ∧ Blk wy g3 273 (s.l.map u32v).toArray ∧ Blk wy g5 180 (digCells (D.take i)).toArray ∧ Below w.heap.size w wy) (32) ?_ ?_
  ·exact ⟨0, by omega, hA, K2, K3, K5, HB⟩
  clear K2 K3 K5 HB
  rintro k a wy ⟨i, hik2, hA, K2, K3, K5, HB⟩
  refine wS (wR ?_)
  revert a; refine wo rfl rfl (by decide) (fun ev e h => by simp [go_sem, h] <;> rfl) ?_; intro a hA
  replace hA := hA.keepN [2, 3, 5, 19, 20]
  refine wN (nT (wS ?_))
  refine wp_if hA 20 _ rfl (fun hq2 => ?yR) (fun hq2 => ?nR)
  case yR =>
   have hi : i < 32 := by simp at hq2; omega
   have jj : (0 : Int) ≤ (i : Int) := by omega
   have ji : (i : Int) < 32 := by omega
   obtain ⟨q, hqe⟩ : ∃ q, i / 4 = q := ⟨_, rfl⟩
   obtain ⟨m, hme⟩ : ∃ m, i % 4 = m := ⟨_, rfl⟩
   have d1 : IntKind.i64.wrap (q : Int) = (q : Int) := IntWalk.i64_in _ (by omega)
   have d1' : (i : Int).tdiv 4 = (q : Int) := by rw [← hqe]; exact (Int.ofNat_tdiv i 4).symm
   have hm4 : m < 4 := by omega
   have d2 : (i : Int).tmod 4 = (m : Int) := by rw [← hme]; exact (Int.ofNat_tmod i 4).symm
   have d3 : IntKind.i64.wrap (8 * (m : Int)) = 8 * (m : Int) := IntWalk.i64_in _ (by omega)
   have d4 : IntKind.i64.wrap (24 - 8 * (m : Int)) = 24 - 8 * (m : Int) := IntWalk.i64_in _ (by omega)
   have cq := l_get (s := s) (i := q) (by omega)
   have jq : (0 : Int) ≤ (q : Int) := by omega
   have jq8 : (q : Int) < 8 := by omega
   have lv := l_getD_lt hok q
   obtain ⟨v, hv⟩ : ∃ v, s.l.getD q 0 = v := ⟨_, rfl⟩
   rw [hv] at cq lv
   obtain ⟨x, hx⟩ : ∃ x : UInt8, UInt8.ofNat (v / 256 ^ (3 - m)) = x := ⟨_, rfl⟩
   have hby : IntKind.u8.wrap ((v : Int) / 2 ^ (24 - 8 * (m : Int)).toNat) = ((x.toNat : Nat) : Int) := by
    rw [show (24 - 8 * (m : Int)).toNat = 8 * (3 - m) by omega, sha_shr, ← hx, IntKind.wrap_u8']; simp
   have hci := digCells_zero (l := D.take i) (j := i) (by rw [List.length_take]; omega) hi
   refine wp_skip (nT (wS (wB (wS (wR ?_)))))
   revert a; (iterate 2 refine wo rfl rfl (by decide) (fun ev e h => by simp [go_sem, h, d1, d1', d2, d3, d4, jq, jq8, K3.cell, cq, hby, jj, ji, add0, hci] <;> rfl) ?_); intro a hA
   replace hA := hA.keepN [2, 3, 5, 6, 19]
   refine wN (nT (wR ?_))
   revert a; (iterate 10 refine wo rfl rfl (by decide) (fun ev e h => by simp [go_sem, h, d1, d1', d2, d3, d4, jq, jq8, K3.cell, cq, hby, jj, ji, add0, hci] <;> rfl) ?_); intro a hA
   replace hA := hA.keepN [2, 3, 5, 19, 22, 31]
   refine wl_op hA rfl rfl (by decide) (fun ev h => by simp [go_sem, h.get 31 rfl, d1, d1', d2, d3, d4, jq, jq8, K3.cell, cq, hby, jj, ji, add0, hci]; try first | exact ⟨rfl, rfl⟩ | rfl) fun a hA => ?_
   revert a; refine wo rfl rfl (by decide) (fun ev e h => by simp [go_sem, h, d1, d1', d2, d3, d4, jq, jq8, K3.cell, cq, hby, jj, ji, add0, hci] <;> rfl) ?_; intro a hA
   refine wl_setf ((digCells (D.take i)).set i (.int .u8 ((x.toNat : Nat) : Int))) _ hA rfl rfl K5 (j := i) (by rfl) (fun ev h => by simp [go_sem, h.get 33 rfl, h.get 32 rfl, d1, d1', d2, d3, d4, jq, jq8, K3.cell, cq, hby, jj, ji, add0, hci, K5.cell, K5.frozen]; try first | exact ⟨rfl, rfl⟩ | rfl) fun w8 (K5 : Blk _ _ _ _) hs => ?_
   have hwi : IntKind.i64.wrap ((i : Int) + 1) = ((i + 1 : Nat) : Int) := by rw [IntWalk.i64_in _ (by omega)]; omega
   replace hA := hA.keepN [2, 3, 5, 19]
   refine wN (nB (nT (wR ?_)))
   revert a; (iterate 2 refine wo rfl rfl (by decide) (fun ev e h => by simp [go_sem, h, hwi] <;> rfl) ?_); intro a hA
   replace hA := hA.keepN [2, 3, 5, 19]
   refine wN (nT ?_)
   refine ⟨k - 1, by omega, i + 1, by omega, hA, hs.blk K2 (by omega), hs.blk K3 (by omega), ?_, hs.below HB hB5⟩
   have e := digCells_set (l := D.take i) (by rw [List.length_take]; omega) x
   rw [show (D.take i).length = i by rw [List.length_take]; omega] at e
   have e2 := flat_take s hi
   rw [hD, hqe, hme, hv, hx] at e2
   rw [e2, ← e]
   exact K5
  case nR =>
   have hi : i = 32 := by simp at hq2; omega
   subst hi
   rw [List.take_of_length_le (by omega)] at K5
   have h32 : (digCells D).length = 32 := digCells_len (by omega)
   replace hA := hA.keepN [2, 5]
   refine wp_exit (xT (xT (xB (nT (wS (wR ?_))))))
   refine wl_op hA rfl rfl (by decide) (fun ev h => exec_loadA K5 Tryz.underlying180 rfl (by kernel_rfl) h32 rfl (h.get 5 rfl)) fun a hA => ?_
   refine wl_setw (digCells D) hA rfl rfl K2 (digCells_len (l := []) (by decide)) h32 (by kernel_rfl) (digCells_one _) rfl (fun ev h => ⟨h.get 2 rfl, h.get 35 rfl⟩) fun w9 (K2 : Blk _ _ _ _) hs => ?_
   replace hA := hA.keepN [2]
   refine wN (nT (wp_ret ?_))
   refine ret_cell hA 2 rfl rfl K2 Tryz.underlying180 rfl (by kernel_rfl) h32 ?_
   exact ⟨by rw [hfin, hD, digCells_full hDl], hs.below HB hB2⟩
end Go.Proofs.YtkljkbeahdipfaaGreatDoor
/-
  Walk: SHA-256 by the document (cubbyref01.Digest).
-/
namespace Go.Proofs.YtkljkbeahdipfaaGreatDoor
open Go.RowKit
set_option linter.unusedSimpArgs false
set_option linter.unusedVariables false
theorem reads_sub8 {w : World} {B n lo hi cap : Nat} {A : Option Addr} {l : List UInt8} (h : Reads w B 1 A n (u8s l)) (h1 : lo ≤ hi) (h2 : hi ≤ n) (hc : n ≤ cap) : Reads w B 1 (if cap = lo then A else Option.map (fun x => x.add lo) A) (hi - lo) (u8s ((l.drop lo).take (hi - lo))) := by
 have := h.cut (k := lo) (by omega) hc
 rw [Nat.mul_one, show (u8s l).drop lo = u8s (l.drop lo) by rw [u8s_map, u8s_map, List.map_drop]] at this
 exact Reads.take8 this (by omega)
end Go.Proofs.YtkljkbeahdipfaaGreatDoor
/-
  Walks of the sum of 32 bits: the program's, and the document's.
-/
namespace Go.Proofs.YtkljkbeahdipfaaGreatDoor
open Go.RowKit
theorem crcGo_step {l : List UInt8} {j : Nat} {x : UInt8} (c : Nat) (hx : l[j]? = some x) : crcGo c (l.take (j + 1)) = crcByte (crcGo c (l.take j)) x := by
 rw [List.take_add_one, hx, ← crcGo_snoc]; rfl
theorem and_one (c : Nat) : c &&& 1 = c % 2 := by rw [Nat.and_one_is_mod]
set_option maxRecDepth 100000 in
theorem crc_any (A : Option Addr) (n c : Nat) (l : List UInt8) (w : World) (hn : l.length = n) (hn2 : n ≤ 1000000000000) (hr : Reads w w.heap.size 1 A n (u8s l)) :
 Calls Tryz.prog 226 #[.slice A n c] w fun e w' => e = .returned (.int .u32 (crc l : Nat)) ∧ w' = w := by
 have HR := Lib.hid hr
 clear hr
 go_enter Tryz.func226, Tryz.ntmps226
 go_wp2
 go_loopw [3, 9] (fun v i wr => ∃ (j cc : Nat), i = .int .i64 j ∧ j ≤ n ∧ v = .int .u32 cc ∧ Hid (cc = crcGo 4294967295 (l.take j)) ∧ wr = w) (fun _ i _ => n - (intOf i).toNat)
 case atStart => exact ⟨0, 4294967295, rfl, by omega, rfl, rfl, rfl⟩
 case round =>
  obtain ⟨j, cc, rfl, hj, rfl, hcc, rfl⟩ := hrel
  have hl : cc < 4294967296 := by rw [hcc.out]; exact crcGo_lt _ (by decide)
  by_cases hlt : j < n
  ·obtain ⟨x, hx⟩ : ∃ x, l[j]? = some x := ⟨_, List.getElem?_eq_getElem (by omega)⟩
   obtain ⟨ad, rfl, _, hc⟩ := HR.out.2 (by omega)
   have hcx := hc j (.int .u8 (x.toNat : Int)) (by rw [u8s_get, hx]; rfl)
   have hst := crcGo_step 4294967295 hx
   rw [← hcc.out] at hst
   have HST := Lib.hid hst
   obtain ⟨xn, hxn⟩ : ∃ xn, x.toNat = xn := ⟨_, rfl⟩
   have hx8 : xn < 256 := by rw [← hxn]; exact x.toNat_lt
   obtain ⟨c1, hc1⟩ : ∃ c1, cc ^^^ xn = c1 := ⟨_, rfl⟩
   have hl1 : c1 < 4294967296 := by rw [← hc1]; exact Nat.xor_lt_two_pow (n := 32) hl (by omega)
   have hb1 : bits .xor .u32 (cc : Int) ((xn : Int) % 4294967296) = (c1 : Int) := by
    rw [show (xn : Int) % 4294967296 = (xn : Int) by omega, u32_xor_nat _ _ hl (by omega), hc1]
   have hb2 : bits .xor .u32 (cc : Int) (xn : Int) = (c1 : Int) := by rw [u32_xor_nat _ _ hl (by omega), hc1]
   have HC1 : Hid (crcByte cc x = crcBits 8 c1) := by unfold crcByte; rw [hxn, hc1]; exact rfl
   rw [hxn] at hcx
   clear hst hx hc hc1 hxn
   go_wp2
   go_loopw [3, 17] (fun v i wr2 => ∃ (k cn : Nat), i = .int .i64 k ∧ k ≤ 8 ∧ v = .int .u32 cn ∧ Hid (cn = crcBits k c1) ∧ wr2 = wr) (fun _ i _ => 8 - (intOf i).toNat)
   case atStart => exact ⟨0, c1, rfl, by omega, rfl, rfl, rfl⟩
   case round =>
    obtain ⟨k, cn, rfl, hk, rfl, hcn, rfl⟩ := hrel
    have hln : cn < 4294967296 := by rw [hcn.out]; exact crcBits_lt _ hl1
    by_cases hk8 : k < 8
    ·have hst : crcBits (k + 1) c1 = crcBit cn := by rw [crcBits_succ, hcn.out]
     have ha : bits .and .u32 (cn : Int) 1 = ((cn % 2 : Nat) : Int) := by
      have := u32_and_nat cn 1 hln (by decide)
      rw [and_one] at this
      exact this
     have HS2 := Lib.hid hst
     clear hst
     by_cases hb : cn % 2 = 1
     ·have hv : crcBit cn = (cn / 2) ^^^ 3988292384 := by unfold crcBit; rw [if_pos hb]
      rw [hb] at ha
      have hx2 : bits .xor .u32 ((cn : Int) / 2) 3988292384 = (((cn / 2) ^^^ 3988292384 : Nat) : Int) := by
       have := u32_xor_nat (cn / 2) 3988292384 (by omega) (by decide)
       rw [← this]; rfl
      have HV := Lib.hid hv
      clear hv hb
      go_wp2
      go_roundw
      case rel => exact ⟨k + 1, _, by go_num, by omega, rfl, by rw [HS2.out, HV.out]; exact rfl, by first | rfl | trivial⟩
      case measure => simp [intOf]; omega
     ·have hv : crcBit cn = cn / 2 := by unfold crcBit; rw [if_neg hb]
      have hb0 : cn % 2 = 0 := by omega
      rw [hb0] at ha
      have HV := Lib.hid hv
      clear hv hb hb0
      go_wp2
      go_roundw
      case rel => exact ⟨k + 1, cn / 2, by go_num, by omega, by rw [Int.natCast_ediv]; rfl, by rw [HS2.out, HV.out]; exact rfl, by first | rfl | trivial⟩
      case measure => simp [intOf]; omega
    ·obtain rfl : k = 8 := by omega
     go_wp2
     go_roundw
     case rel => exact ⟨j + 1, cn, by go_num, by omega, rfl, by rw [HST.out, HC1.out]; exact hcn, by first | rfl | trivial⟩
     case measure => simp [intOf]; omega
  ·obtain rfl : j = n := by omega
   have hx2 : bits .xor .u32 (cc : Int) 4294967295 = ((cc ^^^ 4294967295 : Nat) : Int) := by
    have := u32_xor_nat cc 4294967295 hl (by decide)
    rw [← this]; rfl
   go_wp2
   go_ret
   refine ⟨?_, rfl⟩
   unfold crc
   rw [hcc.out, List.take_of_length_le (by omega)]
   rfl
end Go.Proofs.YtkljkbeahdipfaaGreatDoor
