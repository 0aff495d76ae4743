/-
  Trees, as plain values: what is put is got back; what the statement reckons is what the program asks.
-/
import Derived.Test.YtljclehhicmkhaaDoorIdxAwake
namespace Go.Proofs.YtljclehhicmkhaaDoor
open Go.RowKit
def treeN (l : List PlaceM) (j : Nat) : Bool := (List.range j).all (stepAt l)
def inbN (l : List PlaceM) (j : Nat) : Bool := (l.take j).any isInbox
theorem treeN_succ (l : List PlaceM) (j : Nat) : treeN l (j + 1) = (treeN l j && stepAt l j) := by simp [treeN, List.range_succ, List.all_append]
theorem inbN_succ {l : List PlaceM} {j : Nat} {x : PlaceM} (hx : l[j]? = some x) : inbN l (j + 1) = (inbN l j || isInbox x) := by
  unfold inbN
  rw [List.take_add_one, hx]
  simp [List.any_append]
theorem inbox_one {l : List PlaceM} : ∀ j, j ≤ l.length → treeN l j = true → (l.take j).countP isInbox ≤ 1
  | 0, _, _ => by simp
  | j + 1, hj, h => by
    rw [treeN_succ, Bool.and_eq_true] at h
    have ih := inbox_one j (by omega) h.1
    obtain ⟨x, hx⟩ : ∃ x, l[j]? = some x := ⟨_, List.getElem?_eq_getElem (by omega)⟩
    rw [inbox_step hx]
    have hs := h.2
    rw [stepAt_eq hx] at hs
    have hp := (stepOk_parts hs).2.2.2.2
    by_cases hi : isInbox x = true
    · rw [if_pos hi]
      have h0 : (l.take j).countP isInbox = 0 := by
        rw [List.countP_eq_zero]
        intro y hy hyi
        unfold placeHas at hp
        rw [List.any_eq_false] at hp
        refine hp y hy ?_
        unfold isInbox at hi hyi
        rw [beq_iff_eq] at hi hyi ⊢
        rw [hi, hyi]
      omega
    · rw [if_neg hi]; omega
theorem right_eq (l : List PlaceM) : (treeN l l.length && inbN l l.length) = rightTreeV l := by
  cases ht : treeN l l.length with
  | false =>
    unfold rightTreeV treeAll
    unfold treeN at ht
    rw [ht]
    rfl
  | true =>
    have h1 := inbox_one l.length (Nat.le_refl _) ht
    unfold rightTreeV treeAll
    have ht2 := ht
    unfold treeN at ht2
    rw [ht2, Bool.true_and, Bool.true_and]
    unfold inbN
    rw [List.take_of_length_le (Nat.le_refl _)] at h1 ⊢
    rw [Bool.eq_iff_iff, beq_iff_eq, List.any_eq_true]
    constructor
    · rintro ⟨x, hx, hi⟩
      have : 0 < l.countP isInbox := List.countP_pos_iff.2 ⟨x, hx, hi⟩
      omega
    · intro h
      have : 0 < l.countP isInbox := by omega
      exact List.countP_pos_iff.1 this
theorem read_places {l : List PlaceM} (h : ∀ x ∈ l, 0 ≤ x.1 ∧ x.1 < 16 ∧ x.2.size ≤ 60) : ∀ j, j ≤ l.length → inTreeL j ⟨l.flatMap placeB, false⟩ = (l.take j, ⟨(l.drop j).flatMap placeB, false⟩)
  | 0, _ => rfl
  | j + 1, hj => by
    have ih := read_places h j (by omega)
    obtain ⟨x, hx⟩ : ∃ x, l[j]? = some x := ⟨_, List.getElem?_eq_getElem (by omega)⟩
    have hd : l.drop j = x :: l.drop (j + 1) := by
      have hlt := (List.getElem?_eq_some_iff.1 hx).1
      rw [List.drop_eq_getElem_cons hlt, (List.getElem?_eq_some_iff.1 hx).2]
    obtain ⟨h0, h1, h2⟩ := h x (List.mem_of_getElem? hx)
    rw [inTreeL, ih]
    simp only
    rw [hd, List.flatMap_cons]
    unfold placeB
    rw [List.append_assoc, inN_be 1 x.1.toNat _ (by omega)]
    simp only
    rw [inText_textB x.2 _ (by omega), List.take_add_one, hx]
    simp only [Option.toList_some]
    rw [show ((x.1.toNat : Nat) : Int) = x.1 by omega]
theorem right_parts {l : List PlaceM} (h : rightTreeV l = true) : ∀ x ∈ l, 0 ≤ x.1 ∧ x.1 < 16 ∧ x.2.size ≤ 60 := fun x hx => by
  obtain ⟨j, hj, e⟩ := List.getElem_of_mem hx
  have hxj : l[j]? = some x := by rw [List.getElem?_eq_getElem hj, e]
  have hp := stepOk_parts (tree_step hxj h)
  exact ⟨hp.1, hp.2.1, nameIs_size hp.2.2.2.1⟩
theorem read_tree {l : List PlaceM} (h : rightTreeV l = true) : readTree (treeB l) = l := by
  have h16 := tree_len h
  unfold readTree treeB
  rw [inN_be 1 l.length _ (by omega)]
  simp only
  rw [read_places (right_parts h) l.length (Nat.le_refl _)]
  simp
theorem getTree_put {l : List PlaceM} (h : rightTreeV l = true) : getTreeV (pageB 3 (treeB l)) = some l := by
  unfold getTreeV
  rw [pageGet_page (by have := treeB_len h; omega)]
  simp only
  rw [read_tree h, if_pos ⟨h, rfl⟩]
end Go.Proofs.YtljclehhicmkhaaDoor
