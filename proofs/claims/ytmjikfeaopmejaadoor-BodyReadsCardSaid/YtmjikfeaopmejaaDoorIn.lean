/-
  What is read back: the program's codec.In.
-/
import Derived.Test.YtmjikfeaopmejaaDoorRefText
namespace Go.Proofs.YtmjikfeaopmejaaDoor
open Go.RowKit
/-- but for one block nothing has turned -/
structure IBut (i : Nat) (w w' : World) : Prop where
  os : w'.os = w.os
  tape : w'.tape = w.tape
  output : w'.output = w.output
  size : w.heap.size ≤ w'.heap.size
  block : ∀ j, j < w.heap.size → j ≠ i → w'.heap[j]? = w.heap[j]?
section
variable {i : Nat} {w w' w'' : World}
theorem IBut.refl (i : Nat) (w : World) : IBut i w w := ⟨rfl, rfl, rfl, Nat.le_refl _, fun _ _ _ => rfl⟩
theorem IBut.trans (h : IBut i w w') (k : IBut i w' w'') : IBut i w w'' :=
  ⟨k.os.trans h.os, k.tape.trans h.tape, k.output.trans h.output, Nat.le_trans h.size k.size, fun j hj h1 => (k.block j (Nat.lt_of_lt_of_le hj h.size) h1).trans (h.block j hj h1)⟩
theorem IBut.of_below (k : Below w.heap.size w w') : IBut i w w' := ⟨k.os, k.tape, k.output, k.size, fun j hj _ => k.block j hj⟩
theorem IBut.below (h : IBut i w w') (k : Below w'.heap.size w' w'') : IBut i w w'' := h.trans (.of_below k)
theorem IBut.set_ (h : IBut i w w') (j : Nat) (u : Value) : IBut i w (w'.setCell ⟨i, j, none⟩ u) :=
  h.trans ⟨rfl, rfl, rfl, by simp [World.setCell], fun k _ h1 => Below.heap_setCell _ _ _ _ h1⟩
theorem IBut.toBelow (h : IBut i w w') {C : Nat} (hC : C ≤ w.heap.size) (hi : C ≤ i) : Below C w w' :=
  ⟨h.os, h.tape, h.output, h.size, fun j hj => h.block j (by omega) (by omega)⟩
theorem Reads.ibut {B n : Nat} {A : Option Addr} {l : List UInt8} (h : Reads w B 1 A n (u8s l)) (hB : B ≤ w.heap.size) {t : TypeId} {cs : Array Value} (hi : Blk w i t cs) (hcs : ∀ (k : Int) (j : Nat), cs[j]? ≠ some (.int .u8 k)) (hb : IBut i w w') : Reads w' w'.heap.size 1 A n (u8s l) := by
  refine ⟨h.1, fun hn => ?_⟩
  obtain ⟨ad, e, hlt, hc⟩ := h.2 hn
  have hl : 0 < l.length := by have := h.1; rw [u8s_length] at this; omega
  have h0 := hc 0 _ (by rw [u8s_get, List.getElem?_eq_getElem hl]; rfl)
  have a2 : ad.block ≠ i := by
    intro e
    have hcell := h0
    unfold World.cell? at hcell
    rw [block_of_add, e] at hcell
    unfold Blk at hi
    rw [hi] at hcell
    simp only at hcell
    split at hcell
    · cases hcell
    · exact hcs _ _ hcell
  refine ⟨ad, e, Nat.lt_of_lt_of_le hlt (Nat.le_trans hB hb.size), fun j u hu => ?_⟩
  have hk := hb.block ad.block (by omega) a2
  exact (World.cell?_of_block (by rw [block_of_add]; exact hk)).trans (hc j u hu)
end
structure InAt (w : World) (i : Nat) (s : InM) (v : Value) : Prop where
  cells : Blk w i 59 #[v, .bool s.bad]
  row : (v = .slice none 0 0 ∧ s.rest = []) ∨ ∃ ad c, v = .slice (some ad) s.rest.length c ∧ s.rest.length ≤ c ∧ Reads w w.heap.size 1 (some ad) s.rest.length (u8s s.rest) ∧ U8Row w ad.block
section
variable {w w' : World} {i : Nat} {s : InM} {v : Value}
theorem InAt.below (h : InAt w i s v) (hb : Below w.heap.size w w') : InAt w' i s v := by
  refine ⟨h.cells.below hb h.cells.lt, ?_⟩
  rcases h.row with h | ⟨ad, c, e, hc, hr, hu⟩
  · exact .inl h
  · exact .inr ⟨ad, c, e, hc, (hr.below hb).more hb.size, hu.same (hb.block _ hu.lt)⟩
theorem InAt.c0 (h : InAt w i s v) : w.cell? ⟨i, 0, none⟩ = some v := by rw [h.cells.cell]; rfl
theorem InAt.c1 (h : InAt w i s v) : w.cell? ⟨i, 1, none⟩ = some (.bool s.bad) := by rw [h.cells.cell]; rfl
theorem in_no8 {A : Option Addr} {n c : Nat} {b : Bool} : ∀ (k : Int) (j : Nat), (#[.slice A n c, .bool b] : Array Value)[j]? ≠ some (.int .u8 k) := by
  intro k j h
  rcases j with _ | _ | j <;> simp at h
set_option maxRecDepth 100000 in
theorem in_take (h : InAt w i s v) (hl : s.rest.length ≤ 1000000) (n : Int) :
    Calls Tryd.prog 26 #[.pointer (some ⟨i, 0, none⟩), .int .i64 n] w fun e w' => ∃ r, e = .returned r ∧ Took w' r (inTake s n).1 ∧ (∃ v', InAt w' i (inTake s n).2 v') ∧ IBut i w w' := by
  obtain ⟨rest, bad⟩ := s
  have c0 := h.c0
  have c1 := h.c1
  have f0 := h.cells.frozen 0
  have f1 := h.cells.frozen 1
  have H := Lib.hid h
  cases bad with
  | true =>
    have e : inTake ⟨rest, true⟩ n = ([], ⟨rest, true⟩) := by unfold inTake; rw [if_pos rfl]
    rw [e]
    clear h
    go_enter Tryd.func26, Tryd.ntmps26
    go_wp2
    go_ret
    exact ⟨_, rfl, Took.nil _, ⟨v, H.out⟩, IBut.refl _ _⟩
  | false =>
    obtain ⟨m, hm⟩ : ∃ m, rest.length = m := ⟨_, rfl⟩
    by_cases hbad : n < 0 ∨ (m : Int) < n
    · have e : inTake ⟨rest, false⟩ n = ([], ⟨[], true⟩) := by unfold inTake; rw [if_neg (by simp), if_pos (by simpa [hm] using hbad)]
      rw [e]
      have HF : Hid (InAt ((w.setCell ⟨i, 0, none⟩ (.slice none 0 0)).setCell ⟨i, 1, none⟩ (.bool true)) i ⟨[], true⟩ (.slice none 0 0) ∧ IBut i w ((w.setCell ⟨i, 0, none⟩ (.slice none 0 0)).setCell ⟨i, 1, none⟩ (.bool true))) :=
        ⟨⟨(h.cells.set_ 0 _).set_ 1 _, .inl ⟨rfl, rfl⟩⟩, ((IBut.refl i w).set_ 0 _).set_ 1 _⟩
      have hv : ∃ A c, v = .slice A m c := by
        rcases h.row with ⟨e1, e2⟩ | ⟨ad, c, e1, _⟩
        · simp only at e2; subst e2; exact ⟨none, 0, by rw [← hm]; exact e1⟩
        · exact ⟨some ad, c, by rw [← hm]; exact e1⟩
      obtain ⟨A, c, rfl⟩ := hv
      clear h
      rcases (show n < 0 ∨ (0 ≤ n ∧ (m : Int) < n) by omega) with hneg | ⟨hpos, hbig⟩
      · have g1 : decide (n < 0) = true := by simp; omega
        go_enter Tryd.func26, Tryd.ntmps26
        go_wp2
        go_ret
        exact ⟨_, rfl, Took.nil _, ⟨_, HF.out.1⟩, HF.out.2⟩
      · have g1 : decide (n < 0) = false := by simp; omega
        have g2 : decide ((m : Int) < n) = true := by simp; omega
        go_enter Tryd.func26, Tryd.ntmps26
        go_wp2
        go_ret
        exact ⟨_, rfl, Took.nil _, ⟨_, HF.out.1⟩, HF.out.2⟩
    · obtain ⟨k, rfl⟩ : ∃ k : Nat, n = k := ⟨n.toNat, by omega⟩
      have hkm : k ≤ m := by omega
      have e : inTake ⟨rest, false⟩ k = (rest.take k, ⟨rest.drop k, false⟩) := by unfold inTake; rw [if_neg (by simp), if_neg (by simpa [hm] using hbad)]; rfl
      rw [e]
      have htl : (rest.take k).length = k := by rw [List.length_take]; omega
      have hdl : (rest.drop k).length = m - k := by rw [List.length_drop, hm]
      have g1 : decide ((k : Int) < 0) = false := by simp
      have g2 : decide ((m : Int) < (k : Int)) = false := by simp; omega
      have i0 : (0 : Int) ≤ (k : Int) := by omega
      have i1 : (k : Int) ≤ (m : Int) := by omega
      rcases h.row with ⟨rfl, e2⟩ | ⟨ad, c, rfl, hc, hr, hu⟩
      · simp only at e2
        subst e2
        obtain rfl : m = 0 := by rw [← hm]; rfl
        obtain rfl : k = 0 := by omega
        have HF : Hid (InAt (w.setCell ⟨i, 0, none⟩ (.slice none 0 0)) i ⟨[], false⟩ (.slice none 0 0) ∧ IBut i w (w.setCell ⟨i, 0, none⟩ (.slice none 0 0))) :=
          ⟨⟨h.cells.set_ 0 _, .inl ⟨rfl, rfl⟩⟩, (IBut.refl i w).set_ 0 _⟩
        clear h htl hdl
        go_enter Tryd.func26, Tryd.ntmps26
        go_wp2
        go_ret
        exact ⟨_, rfl, Took.nil _, ⟨_, HF.out.1⟩, HF.out.2⟩
      · simp only at hc hr c0 f0 H
        rw [hm] at hc hr c0 H
        have hsk : Reads w w.heap.size 1 (if c = k then some ad else some (ad.add k)) (m - k) (u8s (rest.drop k)) := hr.drop8 hkm hc
        have htk := hr.take8 hkm
        obtain ⟨ad2, had2, hblk⟩ : ∃ ad2, (if c = k then some ad else some (ad.add k)) = some ad2 ∧ ad2.block = ad.block := by
          split
          · exact ⟨_, rfl, rfl⟩
          · exact ⟨_, rfl, block_of_add _ _⟩
        rw [had2] at hsk
        have hI := h.cells.set_ 0 (.slice (some ad2) (m - k) (c - k))
        have hB : IBut i w (w.setCell ⟨i, 0, none⟩ (.slice (some ad2) (m - k) (c - k))) := (IBut.refl i w).set_ 0 _
        have hs2 := hsk.ibut (Nat.le_refl _) h.cells in_no8 hB
        have ht2 := htk.ibut (Nat.le_refl _) h.cells in_no8 hB
        have HF : Hid (Took (w.setCell ⟨i, 0, none⟩ (.slice (some ad2) (m - k) (c - k))) (.slice (some ad) k c) (rest.take k) ∧ (∃ v', InAt (w.setCell ⟨i, 0, none⟩ (.slice (some ad2) (m - k) (c - k))) i ⟨rest.drop k, false⟩ v') ∧ IBut i w (w.setCell ⟨i, 0, none⟩ (.slice (some ad2) (m - k) (c - k)))) :=
          ⟨⟨some ad, c, by rw [htl], by rw [htl]; exact ht2⟩, ⟨_, ⟨hI, .inr ⟨ad2, c - k, by simp only; rw [hdl], by simp only; omega, by simp only; rw [hdl]; exact hs2, by
            rw [hblk]
            refine hu.same (hB.block _ hu.lt (fun e => ?_))
            obtain ⟨cs, p, hg⟩ := hu
            have hx := h.cells
            unfold Blk at hx
            rw [e, hx] at hg
            injection hg with hg
            injection hg with _ hg
            exact absurd hg (by decide)⟩⟩⟩, hB⟩
        have i2 : (k : Int) ≤ (c : Int) := by omega
        have i3 : (m : Int) ≤ (c : Int) := by omega
        clear h hsk htk hI hB hs2 ht2 hr htl hdl e hbad hu hblk
        by_cases hck : c = k
        · rw [if_pos hck] at had2
          injection had2 with had2
          subst had2
          subst hck
          rw [show m - c = 0 by omega, Nat.sub_self] at HF
          go_enter Tryd.func26, Tryd.ntmps26
          go_wp2
          go_ret
          exact ⟨_, rfl, HF.out⟩
        · rw [if_neg hck] at had2
          injection had2 with had2
          go_enter Tryd.func26, Tryd.ntmps26
          go_wp2
          go_ret
          exact ⟨_, rfl, HF.out⟩
end
end Go.Proofs.YtmjikfeaopmejaaDoor
