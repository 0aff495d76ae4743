/-
  Walk of the disk's Names.
-/
import Derived.Test.YtplbclbeccoegaaIter
import Derived.Test.YtplbclbeccoegaaDiskLib
import Derived.Test.YtplbclbeccoegaaDiskWalk1
namespace Go.Proofs.Ytplbclbeccoegaa
open Go.RowKit Go.Maps
theorem names_nil (w : World) : Calls Try.prog 15 #[.pointer none] w fun e w' => e = .returned (.slice none 0 0) ∧ w' = w := by
  go_enter Try.func15, Try.ntmps15
  go_wp2
  go_ret
  exact ⟨rfl, rfl⟩
/-- a row of names -/
def keyCells {V : Type} (l : List (Key × V)) : List Value := l.map fun q => encStr q.1
theorem keyCells_fmap {V U : Type} (g : V → U) (l : List (Key × V)) : keyCells (fmap g l) = keyCells l := by simp [keyCells, fmap]
set_option maxRecDepth 100000 in
theorem names_at {w : World} {p mb : Nat} {d : DiskM} (h : Disk w p mb d) (hN : d.files.length < 1000000) :
    Calls Try.prog 15 #[.pointer (some ⟨p, 0, none⟩)] w fun e w' => ∃ A c, e = .returned (.slice A d.files.length c) ∧ Reads w' w'.heap.size 1 A d.files.length (keyCells d.files) ∧ Below w.heap.size w w' := by
  obtain ⟨cap, files, fuse, lost⟩ := d
  obtain ⟨es, hfi, h⟩ := h
  obtain rfl : files = fmap FV.m es := hfi
  have e1 : (fmap FV.m es).length = es.length := by simp [fmap]
  simp only [e1, keyCells_fmap] at hN ⊢
  have c1 := h.c1
  have HU := Lib.hid h.up
  have HK := Lib.hid (callsIn_wide.1 (Try.maps_Keys_37 (some mb) w))
  have HS := Lib.hid (callsIn_wide.1 (Try.slices_Sorted_keys_36_37 mb es.length (dmap heldF es) heldR w h.map (by rw [dmap_size]; unfold maxLen; omega) (by rw [dmap_size]; omega)))
  clear h
  go_enter Try.func15, Try.ntmps15
  go_wp2_with fail
  refine HK.out.mono ?_
  rintro e w1 ⟨rfl, rfl⟩
  go_wp2_with fail
  refine HS.out.mono ?_
  rintro e w2 ⟨v, ss, rfl, hp, ho, _, hb⟩
  have hb2 : Below w.heap.size w w2 := ((Below.refl _ w).alloc (Nat.le_refl _) _).trans (hb.mono (by simp))
  rw [dmap_keys] at hp
  have hlen : ss.length = es.length := by have := hp.length_eq; simpa using this
  have hs := sorted_names HU.out hp
  rw [show ss.mergeSort (fun x y => decide (x ≤ y)) = es.map (·.1) from hs, hlen, List.map_map] at ho
  obtain ⟨A, c, rfl, hr, _⟩ := own_reads ho
  have HR := Lib.hid hr
  have HB := Lib.hid hb2
  clear hb hb2 hp hs ho hr hlen
  go_wp2
  go_ret
  exact ⟨A, c, rfl, HR.out, HB.out⟩
end Go.Proofs.Ytplbclbeccoegaa
