/-
  Walks of the disk's functions that look up a file.
-/
import Derived.Test.YtplbclbeccoegaaDiskWalk1
namespace Go.Proofs.Ytplbclbeccoegaa
open Go.RowKit Go.Maps
theorem look_none {w : World} {mb n : Nat} {es : List (Key × FV)} (h : w.ownsMap Try.prog 9 heldR mb n (dmap heldF es)) (s : ByteArray) (hs : s.size ≤ maxLen) (hg : fget s.data.toList es = none) :
    (Instr.lookup 53 (.map (some mb)) (.string s) true).run Try.prog w = .ok (.tuple #[.agg #[.slice none 0 0, .int .i64 0, .bool false], .bool false]) w := by
  rw [look_run h s hs, hg]; rfl
theorem look_some {w : World} {mb n : Nat} {es : List (Key × FV)} (h : w.ownsMap Try.prog 9 heldR mb n (dmap heldF es)) (s : ByteArray) (hs : s.size ≤ maxLen) {b : List UInt8} {sf : Nat} {ev : Bool} {A : Option Addr} {c : Nat} (hg : fget s.data.toList es = some ⟨⟨b, sf, ev⟩, A, c⟩) :
    (Instr.lookup 53 (.map (some mb)) (.string s) true).run Try.prog w = .ok (.tuple #[.agg #[.slice A b.length c, .int .i64 (sf : Nat), .bool ev], .bool true]) w := by
  rw [look_run h s hs, hg]; rfl
theorem look1_none {w : World} {mb n : Nat} {es : List (Key × FV)} (h : w.ownsMap Try.prog 9 heldR mb n (dmap heldF es)) (s : ByteArray) (hs : s.size ≤ maxLen) (hg : fget s.data.toList es = none) :
    (Instr.lookup 53 (.map (some mb)) (.string s) false).run Try.prog w = .ok (.agg #[.slice none 0 0, .int .i64 0, .bool false]) w := by
  rw [look_run1 h s hs, hg]; rfl
theorem look1_some {w : World} {mb n : Nat} {es : List (Key × FV)} (h : w.ownsMap Try.prog 9 heldR mb n (dmap heldF es)) (s : ByteArray) (hs : s.size ≤ maxLen) {b : List UInt8} {sf : Nat} {ev : Bool} {A : Option Addr} {c : Nat} (hg : fget s.data.toList es = some ⟨⟨b, sf, ev⟩, A, c⟩) :
    (Instr.lookup 53 (.map (some mb)) (.string s) false).run Try.prog w = .ok (.agg #[.slice A b.length c, .int .i64 (sf : Nat), .bool ev]) w := by
  rw [look_run1 h s hs, hg]; rfl
theorem there_nil (s : ByteArray) (w : World) : Calls Try.prog 38 #[.pointer none, .string s] w fun e w' => e = .returned (.int .i64 1) ∧ Below w.heap.size w w' := by
  have Hg := Lib.hid (gone_nil w)
  go_enter Try.func38, Try.ntmps38
  go_wp2_with fail
  refine Hg.out.mono ?_
  rintro e w1 ⟨rfl, rfl⟩
  go_wp2
  go_ret
  exact ⟨rfl, Below.refl _ _⟩
set_option maxRecDepth 100000 in
theorem there_at {w : World} {p mb cap : Nat} {es : List (Key × FV)} {fuse : Int} {lost : Bool} (h : DiskAt w p mb es cap fuse lost) (s : ByteArray) (hs : s.size ≤ maxLen) :
    Calls Try.prog 38 #[.pointer (some ⟨p, 0, none⟩), .string s] w fun e w' => e = .returned (.int .i64 (if lost = true then 6 else if (fget s.data.toList es).isSome = true then 0 else 7)) ∧ Below w.heap.size w w' := by
  have c1 := h.c1
  have Hg := Lib.hid (gone_at p lost w h.c3)
  cases lost with
  | true =>
    clear h
    go_enter Try.func38, Try.ntmps38
    go_wp2_with fail
    refine Hg.out.mono ?_
    rintro e w1 ⟨rfl, rfl⟩
    go_wp2
    go_ret
    exact ⟨rfl, Below.refl _ _⟩
  | false =>
    cases hg : fget s.data.toList es with
    | none =>
      have hl := look_none h.map s hs hg
      clear h hg
      go_enter Try.func38, Try.ntmps38
      go_wp2_with fail
      refine Hg.out.mono ?_
      rintro e w1 ⟨rfl, rfl⟩
      go_wp2
      go_ret
      exact ⟨rfl, by repeat (first | exact Below.refl _ _ | refine Below.setCell ?_ (by simp) _ | refine Below.alloc ?_ (by simp) _)⟩
    | some f =>
      obtain ⟨⟨b, sf, ev⟩, A, c⟩ := f
      have hl := look_some h.map s hs hg
      clear h hg
      go_enter Try.func38, Try.ntmps38
      go_wp2_with fail
      refine Hg.out.mono ?_
      rintro e w1 ⟨rfl, rfl⟩
      go_wp2
      go_ret
      exact ⟨rfl, by repeat (first | exact Below.refl _ _ | refine Below.setCell ?_ (by simp) _ | refine Below.alloc ?_ (by simp) _)⟩
/-- whether a file is there, and safe -/
def safeE (k : Key) (es : List (Key × FV)) : Bool := match fget k es with | some v => v.m.whole | none => false
theorem safe_nil (s : ByteArray) (w : World) : Calls Try.prog 18 #[.pointer none, .string s] w fun e w' => e = .returned (.bool false) ∧ Below w.heap.size w w' := by
  go_enter Try.func18, Try.ntmps18
  go_wp2
  go_ret
  exact ⟨rfl, Below.refl _ _⟩
theorem safe_at {w : World} {p mb cap : Nat} {es : List (Key × FV)} {fuse : Int} {lost : Bool} (h : DiskAt w p mb es cap fuse lost) (s : ByteArray) (hs : s.size ≤ maxLen) :
    Calls Try.prog 18 #[.pointer (some ⟨p, 0, none⟩), .string s] w fun e w' => e = .returned (.bool (safeE s.data.toList es)) ∧ Below w.heap.size w w' := by
  have c1 := h.c1
  unfold safeE
  cases hg : fget s.data.toList es with
  | none =>
    have hl := look1_none h.map s hs hg
    have Hw := Lib.hid (whole_any none 0 0 0 false w)
    clear h hg
    go_enter Try.func18, Try.ntmps18
    go_wp2_with fail
    refine Hw.out.mono ?_
    rintro e w1 ⟨rfl, hb⟩
    go_wp2
    go_ret
    exact ⟨rfl, hb⟩
  | some f =>
    obtain ⟨⟨b, sf, ev⟩, A, c⟩ := f
    have hl := look1_some h.map s hs hg
    have Hw := Lib.hid (whole_any A b.length c sf ev w)
    clear h hg
    go_enter Try.func18, Try.ntmps18
    go_wp2_with fail
    refine Hw.out.mono ?_
    rintro e w1 ⟨rfl, hb⟩
    go_wp2
    go_ret
    exact ⟨rfl, hb⟩
/-- a new disk -/
theorem new_bad (n : Int) (hn : n < 0 ∨ 4194304 < n) (w : World) : Calls Try.prog 9 #[.int .i64 n] w fun e w' => e = .returned (.tuple #[.pointer none, .int .i64 1]) ∧ w' = w := by
  by_cases h : n < 0
  all_goals
    try (have h2 : decide (n < 0) = false := by simp; omega)
    go_enter Try.func9, Try.ntmps9
    go_wp2
    go_ret2
    exact ⟨rfl, rfl⟩
theorem new_at (n : Nat) (hn : n ≤ 4194304) (w : World) : Calls Try.prog 9 #[.int .i64 (n : Nat)] w fun e w' => ∃ p mb, e = .returned (.tuple #[.pointer (some ⟨p, 0, none⟩), .int .i64 0]) ∧ DiskAt w' p mb [] n (-1) false ∧ w.heap.size ≤ p ∧ w.heap.size ≤ mb ∧ Below w.heap.size w w' := by
  have hmm := @run_makeMap Try.prog
  have h1 : decide ((n : Int) < 0) = false := by simp
  have h2 : decide ((n : Int) > 4194304) = false := by simp; omega
  go_enter Try.func9, Try.ntmps9
  go_wp2
  go_ret2
  refine ⟨w.heap.size + 1, w.heap.size, by simp,  ⟨?_, ?_, up_nil, fun q hq => by cases hq⟩, by omega, by omega, ((Below.refl _ _).alloc (by simp) _).alloc (by simp) _⟩
  · have hk := Blk.new (w.alloc (.map #[] 0)) 55 (dcells w.heap.size n (-1) false)
    rw [World.size_alloc] at hk
    exact hk
  · exact (World.ownsMap_made w _ _ _).alloc _
end Go.Proofs.Ytplbclbeccoegaa
