/-
  Rows of places; whether a name is among some.
-/
import Derived.Test.YtljclehhicmkhaaDoorNamed
import Derived.Test.YtljclehhicmkhaaDoorIn2
import Derived.Lib.QuietBelow
namespace Go.Proofs.YtljclehhicmkhaaDoor
open Go.RowKit
abbrev PlaceM := Int × ByteArray
def pcell (q : PlaceM) : List Value := [.int .i64 q.1, .string q.2]
def pcells (l : List PlaceM) : List Value := l.flatMap pcell
theorem pcells_length : ∀ l : List PlaceM, (pcells l).length = l.length * 2
  | [] => rfl
  | x :: r => by
    have := pcells_length r
    unfold pcells at this ⊢
    rw [List.flatMap_cons, List.length_append, this, List.length_cons]
    show 2 + _ = _
    omega
theorem pcells_at : ∀ (l : List PlaceM) (i : Nat) (x : PlaceM), l[i]? = some x → ∀ j, j < 2 → (pcells l)[i * 2 + j]? = (pcell x)[j]?
  | y :: r, 0, x, h, j, hj => by
    injection h with h
    subst h
    unfold pcells
    rw [List.flatMap_cons, List.getElem?_append_left (by show 0 * 2 + j < 2; omega), Nat.zero_mul, Nat.zero_add]
  | y :: r, i + 1, x, h, j, hj => by
    have ih := pcells_at r i x h j hj
    unfold pcells at ih ⊢
    rw [List.flatMap_cons, List.getElem?_append_right (by show 2 ≤ _; omega)]
    have e : (i + 1) * 2 + j - (pcell y).length = i * 2 + j := by show (i + 1) * 2 + j - 2 = _; omega
    rw [e]
    exact ih
theorem pcells_append (l m : List PlaceM) : pcells (l ++ m) = pcells l ++ pcells m := List.flatMap_append
theorem pcells_one (l : List PlaceM) : ∀ u ∈ pcells l, u.oneCell' = true := by
  intro u hu
  simp only [pcells, List.mem_flatMap] at hu
  obtain ⟨x, _, hx⟩ := hu
  simp only [pcell, List.mem_cons, List.not_mem_nil, or_false] at hx
  rcases hx with rfl | rfl <;> rfl
theorem add_k2 (ad : Addr) (j k : Nat) (hk : 0 < k) : ad.add (j + k) = ⟨(ad.add j).block, (ad.add j).off + k, none⟩ := by
  unfold Addr.add; by_cases h : j = 0 <;> simp [h] <;> omega
theorem place_at {w : World} {k : Nat} {ad : Addr} {l : List PlaceM} {x : PlaceM} (hc : ∀ j u, (pcells l)[j]? = some u → w.cell? (ad.add j) = some u) (hx : l[k]? = some x) :
    w.cell? (ad.add (k * 2)) = some (.int .i64 x.1) ∧ w.cell? ⟨(ad.add (k * 2)).block, (ad.add (k * 2)).off + 1, none⟩ = some (.string x.2) := by
  have h : ∀ j u, j < 2 → (pcell x)[j]? = some u → w.cell? (ad.add (k * 2 + j)) = some u := fun j u hj hu => hc _ u (by rw [pcells_at l k x hx j hj]; exact hu)
  have h0 := h 0 _ (by omega) rfl
  have h1 := h 1 _ (by omega) rfl
  rw [add_k2 _ _ _ (by omega)] at h1
  exact ⟨h0, h1⟩
/-- which of some places has a name -/
def placeHas (l : List PlaceM) (s : ByteArray) : Bool := l.any fun x => x.2.toList == s.toList
theorem placeHas_snoc (l : List PlaceM) (x : PlaceM) (s : ByteArray) : placeHas (l ++ [x]) s = (placeHas l s || x.2.toList == s.toList) := by simp [placeHas]
theorem placeHas_step {l : List PlaceM} {j : Nat} {x : PlaceM} (hx : l[j]? = some x) (s : ByteArray) : placeHas (l.take (j + 1)) s = (placeHas (l.take j) s || x.2.toList == s.toList) := by
  rw [List.take_add_one, hx, ← placeHas_snoc]; rfl
theorem placeHas_mem {l : List PlaceM} {j : Nat} {x : PlaceM} (hx : l[j]? = some x) (s : ByteArray) (h : (x.2.toList == s.toList) = true) : placeHas l s = true := List.any_eq_true.2 ⟨x, List.mem_of_getElem? hx, h⟩
set_option maxRecDepth 100000 in
theorem eqName_any (x : PlaceM) (gp : Nat) (t0 : Int) (s : ByteArray) (w : World) (hg : Blk w gp 26 #[.int .i64 t0, .string s]) :
    Calls Tryd.prog 36 #[.agg #[.int .i64 x.1, .string x.2], .pointer (some ⟨gp, 0, none⟩)] w fun e w' => e = .returned (.bool (x.2.toList == s.toList)) ∧ Below w.heap.size w w' := by
  have hb := (Below.refl w.heap.size w).alloc (Nat.le_refl _) (.cells #[.int .i64 x.1, .string x.2] 26)
  have hlt := hg.lt
  have k1 : w.cell? ⟨gp, 1, none⟩ = some (.string s) := by rw [hg.cell]; rfl
  have HB := Lib.hid hb
  clear hb hg
  go_enter Tryd.func36, Tryd.ntmps36
  go_wp2
  go_ret
  exact ⟨rfl, HB.out⟩
set_option maxRecDepth 100000 in
theorem index_any (A : Option Addr) (c n : Nat) (l : List PlaceM) (s : ByteArray) (w : World) (hn2 : l.length = n) (hn : n ≤ 100000) (hr : Reads w w.heap.size 2 A n (pcells l)) (gp : Nat) (t0 : Int) (hg : Blk w gp 26 #[.int .i64 t0, .string s]) :
    Calls Tryd.prog 44 #[.slice A n c, .func (Fn.func 36) #[] #[.pointer (some ⟨gp, 0, none⟩)]] w fun e w' => ∃ r : Int, e = .returned (.int .i64 r) ∧ (decide (0 ≤ r) = placeHas l s) ∧ Below w.heap.size w w' := by
  have HR := Lib.hid hr
  have HG := Lib.hid hg
  clear hr hg
  go_enter Tryd.func44, Tryd.ntmps44
  go_wp2
  go_loopw [8] (fun k wr => ∃ (j : Nat), k = .int .i64 j ∧ j ≤ n ∧ Hid (placeHas (l.take j) s = false) ∧ Hid (Below w.heap.size w wr)) (fun k _ => n - (intOf k).toNat)
  case atStart => exact ⟨0, rfl, by omega, rfl, Below.refl _ _⟩
  case round =>
    obtain ⟨j, rfl, hj, hno, hb⟩ := hrel
    by_cases hlt : j < n
    · obtain ⟨x, hx⟩ : ∃ x, l[j]? = some x := ⟨_, List.getElem?_eq_getElem (by omega)⟩
      obtain ⟨ad, rfl, hadl, hc⟩ := (HR.out.below hb.out).2 (by omega)
      obtain ⟨k0, k1⟩ := place_at hc hx
      have jj0 : (0 : Int) ≤ (j : Int) := by omega
      have jj1 : (j : Int) < (n : Int) := by omega
      have hst := placeHas_step hx s
      have hmm := placeHas_mem hx s
      rw [hno.out, Bool.false_or] at hst
      have R := Lib.hid (eqName_any x gp t0 s wr (HG.out.below hb.out HG.out.lt))
      generalize (x.2.toList == s.toList) = eq at *
      have HST := Lib.hid hst
      have HMM := Lib.hid hmm
      clear hst hmm hx hc
      go_wp2_with fail
      refine R.out.mono ?_
      rintro e w1 ⟨rfl, hb1⟩
      have HB1 := Lib.hid (hb.out.trans (hb1.mono hb.out.size))
      clear hb1 R k0 k1
      cases eq with
      | true =>
        go_wp2
        go_ret
        exact ⟨_, rfl, by rw [HMM.out (by first | rfl | trivial)]; simp, HB1.out⟩
      | false =>
        go_wp2
        go_roundw
        case rel => exact ⟨j + 1, by go_num, by omega, HST.out, HB1⟩
        case measure => simp [intOf]; omega
    · obtain rfl : j = n := by omega
      go_wp2
      go_ret
      refine ⟨_, rfl, ?_, hb.out⟩
      have := hno.out
      rw [List.take_of_length_le (by omega)] at this
      rw [this]
      rfl
set_option maxRecDepth 100000 in
theorem contains_any (A : Option Addr) (c n : Nat) (l : List PlaceM) (s : ByteArray) (w : World) (hn2 : l.length = n) (hn : n ≤ 100000) (hr : Reads w w.heap.size 2 A n (pcells l)) (gp : Nat) (t0 : Int) (hg : Blk w gp 26 #[.int .i64 t0, .string s]) :
    Calls Tryd.prog 35 #[.slice A n c, .func (Fn.func 36) #[] #[.pointer (some ⟨gp, 0, none⟩)]] w fun e w' => e = .returned (.bool (placeHas l s)) ∧ Below w.heap.size w w' := by
  have R := Lib.hid (index_any A c n l s w hn2 hn hr gp t0 hg)
  clear hr hg
  go_enter Tryd.func35, Tryd.ntmps35
  go_wp2_with fail
  refine R.out.mono ?_
  rintro e w1 ⟨r, rfl, hr, hb⟩
  go_wp2
  go_ret
  exact ⟨by first | rfl | exact ret_bool hr, hb⟩
end Go.Proofs.YtljclehhicmkhaaDoor
