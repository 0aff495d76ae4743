/-
  Rows of flags, as plain values: what is put is got back; what the statement reckons is what the program asks.
-/
import Derived.Test.YtljclehhicmkhaaDoorFlagsGet
import Derived.Test.YtljclehhicmkhaaDoorIdxAwake
namespace Go.Proofs.YtljclehhicmkhaaDoor
open Go.RowKit
theorem read_marks {l : List MarkM} (h : ∀ x ∈ l, x.1 < 4294967296 ∧ 0 ≤ x.2 ∧ x.2 ≤ 31) : ∀ j, j ≤ l.length → inMarksL 1 j ⟨l.flatMap markB, false⟩ = (l.take j, ⟨(l.drop j).flatMap markB, false⟩)
  | 0, _ => rfl
  | j + 1, hj => by
    have ih := read_marks h j (by omega)
    obtain ⟨x, hx⟩ : ∃ x, l[j]? = some x := ⟨_, List.getElem?_eq_getElem (by omega)⟩
    have hd : l.drop j = x :: l.drop (j + 1) := by
      have hlt := (List.getElem?_eq_some_iff.1 hx).1
      rw [List.drop_eq_getElem_cons hlt, (List.getElem?_eq_some_iff.1 hx).2]
    obtain ⟨h0, h1, h2⟩ := h x (List.mem_of_getElem? hx)
    rw [inMarksL, ih]
    simp only
    rw [hd, List.flatMap_cons]
    unfold markB
    rw [List.append_assoc, inN_be 4 x.1 _ (by omega)]
    simp only
    rw [inN_be 1 x.2.toNat _ (by omega), List.take_add_one, hx]
    simp only [Option.toList_some]
    rw [show ((x.2.toNat : Nat) : Int) = x.2 by omega]
theorem read_flags {e : Nat} {l : List MarkM} (he : e < 4294967296) (hu : ∀ q ∈ l, q.1 < 4294967296) (h : rightFlagsV e l = true) : readFlags (flagsB e l) = (e, l) := by
  have h5 := flags_len h
  unfold readFlags flagsB
  rw [List.append_assoc, inN_be 4 e _ (by omega)]
  simp only
  rw [inN_be 2 l.length _ (by omega)]
  simp only
  rw [read_marks (fun x hx => ⟨hu x hx, by
    obtain ⟨j, hj, e⟩ := List.getElem_of_mem hx
    exact flags_good h (j := j) (by rw [List.getElem?_eq_getElem hj, e])⟩) l.length (Nat.le_refl _)]
  simp
theorem getFlags_put {e : Nat} {l : List MarkM} (he : e < 4294967296) (hu : ∀ q ∈ l, q.1 < 4294967296) (h : rightFlagsV e l = true) : getFlagsV (pageB 2 (flagsB e l)) = some (e, l) := by
  unfold getFlagsV
  rw [pageGet_page (by have := flagsB_len h; omega)]
  simp only
  rw [read_flags he hu h, if_pos ⟨h, rfl⟩]
/-- the low byte -/
def lowB (x : Int) : UInt8 := UInt8.ofNat (bits .and .i64 x 255 % 256).toNat
theorem lowB_int (x : Int) : (((lowB x).toNat : Nat) : Int) = bits .and .i64 x 255 % 256 := by
  unfold lowB
  simp
  omega
theorem and255s : ∀ v : Fin 32, bits .and .i64 (v.val : Int) 255 = (v.val : Int) := by decide +kernel
theorem lowB_small {x : Int} (h0 : 0 ≤ x) (h1 : x ≤ 31) : lowB x = UInt8.ofNat x.toNat := by
  obtain ⟨xn, hxn⟩ : ∃ xn : Fin 32, x = (xn.val : Int) := ⟨⟨x.toNat, by omega⟩, by simp; omega⟩
  unfold lowB
  rw [hxn, and255s xn]
  congr 1
  omega
def markP (q : MarkM) : List UInt8 := be 4 q.1 ++ [lowB q.2]
theorem markP_len (q : MarkM) : (markP q).length = 5 := by unfold markP; simp [be_length]
theorem marksP_len (l : List MarkM) : (l.flatMap markP).length = l.length * 5 := by
  induction l with
  | nil => simp
  | cons x r ih =>
    rw [List.flatMap_cons, List.length_append, List.length_cons, ih, markP_len]
    omega
theorem marksP_eq {l : List MarkM} (h : ∀ x ∈ l, 0 ≤ x.2 ∧ x.2 ≤ 31) : l.flatMap markP = l.flatMap markB := by
  induction l with
  | nil => rfl
  | cons x r ih =>
    rw [List.flatMap_cons, List.flatMap_cons, ih fun y hy => h y (List.mem_cons_of_mem _ hy)]
    obtain ⟨h0, h1⟩ := h x List.mem_cons_self
    have : markP x = markB x := by
      unfold markP markB
      rw [lowB_small h0 h1]
      simp [be]
    rw [this]
/-- what the statement has put so far -/
def flagsP (e : Nat) (l : List MarkM) (j : Nat) : List UInt8 := be 4 e ++ be 2 l.length ++ (l.take j).flatMap markP
theorem flagsP_len (e : Nat) (l : List MarkM) {j : Nat} (hj : j ≤ l.length) : (flagsP e l j).length = 6 + j * 5 := by
  unfold flagsP
  rw [List.length_append, List.length_append, be_length, be_length, marksP_len, List.length_take]
  omega
theorem flagsP_succ (e : Nat) {l : List MarkM} {j : Nat} {x : MarkM} (hx : l[j]? = some x) : flagsP e l (j + 1) = flagsP e l j ++ be 4 x.1 ++ [lowB x.2] := by
  unfold flagsP
  rw [List.take_add_one, hx]
  simp [List.flatMap_append, markP]
theorem flagsP_all {e : Nat} {l : List MarkM} (h : rightFlagsV e l = true) : flagsP e l l.length = flagsB e l := by
  unfold flagsP flagsB
  rw [List.take_of_length_le (Nat.le_refl _), marksP_eq]
  intro x hx
  obtain ⟨j, hj, e⟩ := List.getElem_of_mem hx
  exact flags_good h (j := j) (by rw [List.getElem?_eq_getElem hj, e])
/-- what the statement has found so far -/
def flagsR (e : Nat) (l : List MarkM) (j : Nat) : Bool := decide (0 < e) && decide (l.length ≤ 500) && marksN goodF l j
theorem flagsR_all (e : Nat) (l : List MarkM) : flagsR e l l.length = rightFlagsV e l := by
  unfold flagsR rightFlagsV
  rw [show decide (0 < e) = decide (1 ≤ e) from rfl]
  cases marksN goodF l l.length <;> cases decide (1 ≤ e) <;> cases decide (l.length ≤ 500) <;> rfl
theorem flagsR_succ (e : Nat) {l : List MarkM} {j : Nat} {x : MarkM} (hx : l[j]? = some x) : flagsR e l (j + 1) = (flagsR e l j && decide (lastN l j < x.1) && decide (0 ≤ x.2) && decide (x.2 < 32)) := by
  unfold flagsR
  rw [marksN_succ goodF hx]
  unfold mstep goodF
  rw [show decide (x.2 ≤ 31) = decide (x.2 < 32) by rw [Bool.eq_iff_iff]; simp; omega]
  simp only [Bool.and_assoc]
end Go.Proofs.YtljclehhicmkhaaDoor
