/-
  An index, as plain values: what is put is got back; what the statement reckons is what the program asks.
-/
import Derived.Test.YtljclehhicmkhaaDoorIdxGet
namespace Go.Proofs.YtljclehhicmkhaaDoor
open Go.RowKit
set_option linter.unusedSimpArgs false
set_option linter.unusedVariables false
theorem read_ents {l : List MarkM} (h : ∀ x ∈ l, x.1 < 4294967296 ∧ 0 ≤ x.2 ∧ x.2 ≤ 4294967295) : ∀ j, j ≤ l.length → inMarksL 4 j ⟨l.flatMap entB, false⟩ = (l.take j, ⟨(l.drop j).flatMap entB, false⟩)
  | 0, _ => rfl
  | j + 1, hj => by
    have ih := read_ents h j (by omega)
    obtain ⟨x, hx⟩ : ∃ x, l[j]? = some x := ⟨_, List.getElem?_eq_getElem (by omega)⟩
    have hd : l.drop j = x :: l.drop (j + 1) := by
      have hlt := (List.getElem?_eq_some_iff.1 hx).1
      rw [List.drop_eq_getElem_cons hlt, (List.getElem?_eq_some_iff.1 hx).2]
    obtain ⟨h0, h1, h2⟩ := h x (List.mem_of_getElem? hx)
    rw [inMarksL, ih]
    simp only
    rw [hd, List.flatMap_cons]
    unfold entB
    rw [List.append_assoc, inN_be 4 x.1 _ (by omega)]
    simp only
    rw [inN_be 4 x.2.toNat _ (by omega), List.take_add_one, hx]
    simp only [Option.toList_some]
    rw [show ((x.2.toNat : Nat) : Int) = x.2 by omega]
theorem read_index {x : IdxM} (he : x.e < 4294967296) (hnx : x.nx < 4294967296) (hu : ∀ q ∈ x.l, q.1 < 4294967296) (h : x.right = true) : readIndex x.bytes = x := by
  obtain ⟨nm, e, nx, u, l⟩ := x
  unfold IdxM.right at h
  simp only at h he hnx hu
  obtain ⟨h1, _, _, _, _, h2, h3⟩ := idx_parts h
  have hb : IdxM.bytes ⟨nm, e, nx, u, l⟩ = textB nm ++ (be 4 e ++ (be 4 nx ++ (be 4 u ++ (be 2 l.length ++ l.flatMap entB)))) := by
    unfold IdxM.bytes indexB
    simp
  unfold readIndex
  rw [hb, inText_textB nm _ (by omega)]
  simp only
  rw [inN_be 4 e _ (by omega)]
  simp only
  rw [inN_be 4 nx _ (by omega)]
  simp only
  rw [inN_be 4 u _ (by omega)]
  simp only
  rw [inN_be 2 l.length _ (by omega)]
  simp only
  rw [read_ents (fun x hx => ⟨hu x hx, by
    obtain ⟨j, hj, e⟩ := List.getElem_of_mem hx
    exact idx_good h (j := j) (by rw [List.getElem?_eq_getElem hj, e])⟩) l.length (Nat.le_refl _)]
  simp
theorem getIndex_put {x : IdxM} (he : x.e < 4294967296) (hnx : x.nx < 4294967296) (hu : ∀ q ∈ x.l, q.1 < 4294967296) (h : x.right = true) : getIndexV (pageB 1 x.bytes) = some x := by
  unfold getIndexV
  rw [pageGet_page (by have := indexB_len (show rightIndexV x.nm x.e x.nx (x.u : Nat) x.l = true from h); unfold IdxM.bytes; omega)]
  simp only
  rw [read_index he hnx hu h, if_pos ⟨h, rfl⟩]
/-- any number of 64 bits, in 4 bytes -/
def low4 (x : Int) : List UInt8 := be 4 (x % 18446744073709551616).toNat
theorem low4_small {x : Int} (h0 : 0 ≤ x) (h1 : x ≤ 4294967295) : low4 x = be 4 x.toNat := by
  unfold low4
  congr 1
  omega
def entP (q : MarkM) : List UInt8 := be 4 q.1 ++ low4 q.2
theorem low4_len (x : Int) : (low4 x).length = 4 := be_length _ _
theorem entsP_len (l : List MarkM) : (l.flatMap entP).length = l.length * 8 := by
  induction l with
  | nil => simp
  | cons x r ih =>
    rw [List.flatMap_cons, List.length_append, List.length_cons, ih]
    have : (entP x).length = 8 := by unfold entP; simp [be_length, low4_len]
    omega
theorem entsP_eq {l : List MarkM} (h : ∀ x ∈ l, 0 ≤ x.2 ∧ x.2 ≤ 4294967295) : l.flatMap entP = l.flatMap entB := by
  induction l with
  | nil => rfl
  | cons x r ih =>
    rw [List.flatMap_cons, List.flatMap_cons, ih fun y hy => h y (List.mem_cons_of_mem _ hy)]
    obtain ⟨h0, h1⟩ := h x List.mem_cons_self
    have : entP x = entB x := by
      unfold entP entB
      rw [low4_small h0 h1]
    rw [this]
/-- what the statement has put so far -/
def idxP (nm : ByteArray) (e nx : Nat) (u : Int) (l : List MarkM) (j : Nat) : List UInt8 := textB nm ++ be 4 e ++ be 4 nx ++ low4 u ++ be 2 l.length ++ (l.take j).flatMap entP
theorem idxP_len (nm : ByteArray) (e nx : Nat) (u : Int) (l : List MarkM) {j : Nat} (hj : j ≤ l.length) : (idxP nm e nx u l j).length = 16 + nm.size + j * 8 := by
  unfold idxP
  simp only [List.length_append, textB_len, be_length, low4_len, entsP_len, List.length_take]
  omega
theorem idxP_succ (nm : ByteArray) (e nx : Nat) (u : Int) {l : List MarkM} {j : Nat} {x : MarkM} (hx : l[j]? = some x) : idxP nm e nx u l (j + 1) = idxP nm e nx u l j ++ be 4 x.1 ++ low4 x.2 := by
  unfold idxP
  rw [flat_step hx]
  simp [entP]
theorem idxP_all {nm : ByteArray} {e nx : Nat} {u : Int} {l : List MarkM} (h : rightIndexV nm e nx u l = true) : idxP nm e nx u l l.length = indexB nm e nx u l := by
  obtain ⟨_, _, _, _, h0, h1, _⟩ := idx_parts h
  unfold idxP indexB
  rw [List.take_of_length_le (Nat.le_refl _), low4_small h0 h1, entsP_eq]
  · simp
  · intro x hx
    obtain ⟨j, hj, e⟩ := List.getElem_of_mem hx
    exact idx_good h (j := j) (by rw [List.getElem?_eq_getElem hj, e])
/-- what the statement has found so far -/
def idxR (nm : ByteArray) (e nx : Nat) (u : Int) (l : List MarkM) (j : Nat) : Bool := nameIs nm && decide (0 < e) && decide (0 < nx) && decide (0 ≤ u) && decide (u ≤ 4294967295) && decide (l.length ≤ 500) && marksN (goodE nx) l j
theorem idxR_all (nm : ByteArray) (e nx : Nat) (u : Int) (l : List MarkM) : idxR nm e nx u l l.length = rightIndexV nm e nx u l := by
  unfold idxR rightIndexV
  rw [show decide (0 < e) = decide (1 ≤ e) from rfl, show decide (0 < nx) = decide (1 ≤ nx) from rfl]
  cases marksN (goodE nx) l l.length <;> simp
theorem idxR_succ (nm : ByteArray) (e nx : Nat) (u : Int) {l : List MarkM} {j : Nat} {x : MarkM} (hx : l[j]? = some x) : idxR nm e nx u l (j + 1) = (idxR nm e nx u l j && decide (lastN l j < x.1) && (decide (x.1 < nx) || ((nx : Int) == 4294967295)) && decide (0 ≤ x.2) && decide (x.2 ≤ 4294967295)) := by
  unfold idxR
  rw [marksN_succ _ hx]
  unfold mstep goodE
  rw [show decide (nx = 4294967295) = ((nx : Int) == 4294967295) by rw [Bool.eq_iff_iff]; simp; omega]
  simp only [Bool.and_assoc]
end Go.Proofs.YtljclehhicmkhaaDoor
