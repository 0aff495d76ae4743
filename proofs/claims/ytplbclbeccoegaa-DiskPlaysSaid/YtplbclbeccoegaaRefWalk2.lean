/-
  Walks of the document's disk: Whole.
-/
import Derived.Test.YtplbclbeccoegaaRefWalk1
namespace Go.Proofs.Ytplbclbeccoegaa
open Go.RowKit Go.Maps
section
variable {w : World} {B q cap : Nat} {v : Value} {es : List (Key × FV)} {fuse : Int} {lost : Bool}
theorem refWhole_none (h : RefAt w B q v es cap fuse lost) (s : ByteArray) (hn : fget s.data.toList es = none) (hlen : es.length ≤ 1000000) :
    Calls Try.prog 34 #[.pointer (some ⟨q, 0, none⟩), .string s] w fun e w' => e = .returned (.bool false) ∧ Below w.heap.size w w' := by
  have Ha := Lib.hid (at_none h s hn hlen)
  have hb : Below w.heap.size w w.drew := (Below.refl _ _).drew
  have HB := Lib.hid hb
  clear h hn hb
  go_enter Try.func34, Try.ntmps34
  go_wp2_with fail
  refine Ha.out.mono ?_
  rintro e w1 ⟨rfl, rfl⟩
  go_wp2
  go_region
  all_goals (try go_wp2)
  all_goals (try go_ret)
  all_goals exact ⟨rfl, HB.out⟩
set_option maxRecDepth 100000 in
theorem refWhole_some (h : RefAt w B q v es cap fuse lost) (s : ByteArray) {n : Nat} {f : FV} (hn : es[n]? = some (s.data.toList, f)) (hlen : es.length ≤ 1000000) :
    Calls Try.prog 34 #[.pointer (some ⟨q, 0, none⟩), .string s] w fun e w' => e = .returned (.bool f.m.whole) ∧ Below w.heap.size w w' := by
  have Ha := Lib.hid (at_some h s hn hlen)
  have hb : Below w.heap.size w w.drew := (Below.refl _ _).drew
  have HB := Lib.hid hb
  obtain ⟨A, c, rfl, hr, hc⟩ := h.row.reads
  have c1 := h.c1
  have hnl : n < es.length := (List.getElem?_eq_some_iff.1 hn).1
  obtain ⟨ad, rfl, hab, hcs⟩ := hr.2 (by omega)
  obtain ⟨_, k1, k2, k3⟩ := file_at hcs hn
  obtain ⟨⟨b, safe, ever⟩, a, fc⟩ := f
  simp only at k1 k2 k3
  clear h hn hb hr hcs
  unfold FileM.whole
  simp only
  cases ever with
  | false =>
    rw [Bool.false_and]
    go_enter Try.func34, Try.ntmps34
    go_wp2_with fail
    refine Ha.out.mono ?_
    rintro e w1 ⟨rfl, rfl⟩
    go_wp2
    go_region
    all_goals (try go_wp2)
    all_goals (try go_ret)
    all_goals exact ⟨rfl, HB.out⟩
  | true =>
    by_cases hs : safe = b.length
    · have hs1 : ((safe : Int) == (b.length : Int)) = true := by simp [hs]
      rw [decide_eq_true hs, Bool.and_self]
      clear hs
      go_enter Try.func34, Try.ntmps34
      go_wp2_with fail
      refine Ha.out.mono ?_
      rintro e w1 ⟨rfl, rfl⟩
      go_wp2
      go_region
      all_goals (try go_wp2)
      all_goals (try go_ret)
      all_goals exact ⟨rfl, HB.out⟩
    · have hs1 : ((safe : Int) == (b.length : Int)) = false := by simp; omega
      rw [decide_eq_false hs, Bool.and_false]
      clear hs
      go_enter Try.func34, Try.ntmps34
      go_wp2_with fail
      refine Ha.out.mono ?_
      rintro e w1 ⟨rfl, rfl⟩
      go_wp2
      go_region
      all_goals (try go_wp2)
      all_goals (try go_ret)
      all_goals exact ⟨rfl, HB.out⟩
end
end Go.Proofs.Ytplbclbeccoegaa
