/-
  Walks of the disk's changes: Fuse, Remove, Lose, Sync.
-/
import Derived.Test.YtplbclbeccoegaaDiskWalk2
import Derived.StillTailTactics
namespace Go.Proofs.Ytplbclbeccoegaa
open Go.RowKit Go.Maps
theorem fget_m (k : Key) (es : List (Key × FV)) : fget k (fmap FV.m es) = (fget k es).map FV.m := fget_fmap FV.m k es
theorem fuse_nil (n : Int) (w : World) : Calls Try.prog 25 #[.pointer none, .int .i64 n] w fun e w' => e = .returned (.int .i64 1) ∧ Below w.heap.size w w' := by
  have Hg := Lib.hid (gone_nil w)
  go_enter Try.func25, Try.ntmps25
  go_wp2_with fail
  refine Hg.out.mono ?_
  rintro e w1 ⟨rfl, rfl⟩
  go_wp2
  go_ret
  exact ⟨rfl, Below.refl _ _⟩
set_option maxRecDepth 100000 in
theorem fuse_at {w : World} {p mb : Nat} {d : DiskM} (h : Disk w p mb d) (n : Int) :
    Calls Try.prog 25 #[.pointer (some ⟨p, 0, none⟩), .int .i64 n] w fun e w' => e = .returned (.int .i64 (dFuse d n).1) ∧ Disk w' p mb (dFuse d n).2 ∧ But p mb w w' := by
  obtain ⟨cap, files, fuse, lost⟩ := d
  obtain ⟨es, hf, h⟩ := h
  obtain rfl : files = fmap FV.m es := hf
  have Hg := Lib.hid (gone_at p lost w h.c3)
  have H := Lib.hid h
  have c2 := h.c2
  have f2 := h.cells.frozen 2
  have hne := h.ne
  unfold dFuse
  cases lost with
  | true =>
    clear h
    go_enter Try.func25, Try.ntmps25
    go_wp2_with fail
    refine Hg.out.mono ?_
    rintro e w1 ⟨rfl, rfl⟩
    go_wp2
    go_ret
    exact ⟨rfl, ⟨es, rfl, H.out⟩, But.refl _ _ _⟩
  | false =>
    simp only [Bool.false_eq_true, if_false] at *
    by_cases hn : n < 0
    · have hn' : decide (n < 0) = true := by simp [hn]
      rw [if_pos hn]
      clear h
      go_enter Try.func25, Try.ntmps25
      go_wp2_with fail
      refine Hg.out.mono ?_
      rintro e w1 ⟨rfl, rfl⟩
      go_wp2
      go_ret
      exact ⟨rfl, ⟨es, rfl, H.out⟩, But.refl _ _ _⟩
    · have hn' : decide (n < 0) = false := by simp; omega
      rw [if_neg hn]
      clear h
      go_enter Try.func25, Try.ntmps25
      go_wp2_with fail
      refine Hg.out.mono ?_
      rintro e w1 ⟨rfl, rfl⟩
      go_wp2
      go_ret
      have hb := (But.refl p mb w1).set_ 2 (.int .i64 n)
      exact ⟨rfl, ⟨es, rfl, H.out.turn hb (H.out.cells.set_ 2 _) (H.out.map.setCell (fun e => hne e.symm) _) H.out.up fun q hq => .inl hq⟩, hb⟩
/-- a file is taken away -/
theorem DiskAt.drop {w w' : World} {p mb cap : Nat} {es : List (Key × FV)} {fuse : Int} {lost : Bool} (h : DiskAt w p mb es cap fuse lost) (k : Key) {n : Nat} (hm : w'.ownsMap Try.prog 9 heldR mb n (dmap heldF (fdel k es))) (ht : w.mapTurned w' mb) :
    DiskAt w' p mb (fdel k es) cap fuse lost ∧ But p mb w w' := by
  have hb := (But.refl p mb w).turned ht
  refine ⟨h.turn hb ?_ hm (up_fdel h.up k) fun q hq => .inl (List.mem_filter.1 hq).1, hb⟩
  exact h.cells.grown ht.grown (fun e => h.ne (by injection e))
theorem remove_nil (s : ByteArray) (w : World) : Calls Try.prog 24 #[.pointer none, .string s] w fun e w' => e = .returned (.int .i64 1) ∧ Below w.heap.size w w' := by
  have Hg := Lib.hid (there_nil s w)
  go_enter Try.func24, Try.ntmps24
  go_wp2_with fail
  refine Hg.out.mono ?_
  rintro e w1 ⟨rfl, hb⟩
  go_wp2
  go_ret
  exact ⟨rfl, hb⟩
theorem lose_nil (s : ByteArray) (w : World) : Calls Try.prog 27 #[.pointer none, .string s] w fun e w' => e = .returned (.int .i64 1) ∧ Below w.heap.size w w' := by
  have Hg := Lib.hid (there_nil s w)
  go_enter Try.func27, Try.ntmps27
  go_wp2_with fail
  refine Hg.out.mono ?_
  rintro e w1 ⟨rfl, hb⟩
  go_wp2
  go_ret
  exact ⟨rfl, hb⟩
set_option maxRecDepth 100000 in
theorem lose_at {w : World} {p mb : Nat} {d : DiskM} (h : Disk w p mb d) (s : ByteArray) (hs : s.size ≤ maxLen) :
    Calls Try.prog 27 #[.pointer (some ⟨p, 0, none⟩), .string s] w fun e w' => e = .returned (.int .i64 (dLose d s.data.toList).1) ∧ Disk w' p mb (dLose d s.data.toList).2 ∧ But p mb w w' := by
  obtain ⟨cap, files, fuse, lost⟩ := d
  obtain ⟨es, hf, h⟩ := h
  obtain rfl : files = fmap FV.m es := hf
  have Ht := Lib.hid (there_at h s hs)
  have H := Lib.hid h
  unfold dLose
  simp only [fget_m]
  cases lost with
  | true =>
    clear h
    go_enter Try.func27, Try.ntmps27
    go_wp2_with fail
    refine Ht.out.mono ?_
    rintro e w1 ⟨rfl, hb⟩
    go_wp2
    go_ret
    exact ⟨rfl, ⟨es, rfl, H.out.below hb⟩, But.of_below hb⟩
  | false =>
    cases hg : fget s.data.toList es with
    | none =>
      rw [hg] at Ht
      clear h hg
      go_enter Try.func27, Try.ntmps27
      go_wp2_with fail
      refine Ht.out.mono ?_
      rintro e w1 ⟨rfl, hb⟩
      go_wp2
      go_ret
      exact ⟨rfl, ⟨es, rfl, H.out.below hb⟩, But.of_below hb⟩
    | some f =>
      rw [hg] at Ht
      clear h hg
      go_enter Try.func27, Try.ntmps27
      go_wp2_with fail
      refine Ht.out.mono ?_
      rintro e w1 ⟨rfl, hb⟩
      have h1 := H.out.below hb
      have c1 := h1.c1
      obtain ⟨w2, hrun, hm, ht⟩ := drop_run h1.map s hs 0
      obtain ⟨hd, hb2⟩ := h1.drop s.data.toList hm ht
      have Hd := Lib.hid hd
      have Hb := Lib.hid ((But.of_below hb).trans hb2)
      clear h1 hm ht hd hb2 hb
      go_wp2
      go_ret
      exact ⟨rfl, ⟨_, (fdel_fmap FV.m _ es).symm, Hd.out⟩, Hb.out⟩
end Go.Proofs.Ytplbclbeccoegaa
