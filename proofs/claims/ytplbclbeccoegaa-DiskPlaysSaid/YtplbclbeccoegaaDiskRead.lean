/-
  Walk of the disk's Read.
-/
import Derived.Test.YtplbclbeccoegaaDiskAppend
namespace Go.Proofs.Ytplbclbeccoegaa
open Go.RowKit Go.Maps
def dRead (d : DiskM) (k : Key) : List UInt8 × Int :=
  if d.lost = true then ([], 6) else match fget k d.files with
  | none => ([], 7)
  | some f => (f.b, 0)
theorem read_nil (s : ByteArray) (w : World) : Calls Try.prog 17 #[.pointer none, .string s] w fun e w' => e = .returned (.tuple #[.slice none 0 0, .int .i64 1]) ∧ Below w.heap.size w w' := by
  have Hg := Lib.hid (there_nil s w)
  go_enter Try.func17, Try.ntmps17
  go_wp2_with fail
  refine Hg.out.mono ?_
  rintro e w1 ⟨rfl, hb⟩
  go_wp2
  go_ret2
  exact ⟨rfl, hb⟩
set_option maxRecDepth 100000 in
theorem read_at {w : World} {p mb : Nat} {d : DiskM} (h : Disk w p mb d) (hf : WFD d) (s : ByteArray) (hs : s.size ≤ maxLen) :
    Calls Try.prog 17 #[.pointer (some ⟨p, 0, none⟩), .string s] w fun e w' => ∃ A c, e = .returned (.tuple #[.slice A (dRead d s.data.toList).1.length c, .int .i64 (dRead d s.data.toList).2]) ∧ Reads w' w'.heap.size 1 A (dRead d s.data.toList).1.length (u8s (dRead d s.data.toList).1) ∧ Below w.heap.size w w' := by
  have hrm := hf.room
  have hcp := hf.cap
  clear hf
  obtain ⟨cap, files, fuse, lost⟩ := d
  obtain ⟨es, hf, h⟩ := h
  obtain rfl : files = fmap FV.m es := hf
  have Ht := Lib.hid (there_at h s hs)
  have H := Lib.hid h
  unfold dRead
  simp only [fget_m] at hrm hcp ⊢
  cases lost with
  | true =>
    rw [if_pos rfl]
    clear h
    go_enter Try.func17, Try.ntmps17
    go_wp2_with fail
    refine Ht.out.mono ?_
    rintro e w1 ⟨rfl, hb⟩
    go_wp2
    go_ret2
    exact ⟨none, 0, rfl, Reads.none_, hb⟩
  | false =>
    rw [if_neg (by simp)]
    cases hg : fget s.data.toList es with
    | none =>
      rw [hg] at Ht
      dsimp only [Option.map_none]
      clear h hg
      go_enter Try.func17, Try.ntmps17
      go_wp2_with fail
      refine Ht.out.mono ?_
      rintro e w1 ⟨rfl, hb⟩
      go_wp2
      go_ret2
      exact ⟨none, 0, rfl, Reads.none_, hb⟩
    | some f =>
      have hle : f.m.b.length ≤ 4194304 := by
        have := used_get (k := s.data.toList) (f := f.m) (l := fmap FV.m es) (by rw [fget_m, hg]; rfl)
        omega
      obtain ⟨⟨b, sf, ev⟩, A, c⟩ := f
      rw [hg] at Ht
      dsimp only [Option.map_some] at hle ⊢
      have HG := Lib.hid hg
      clear h hg
      go_enter Try.func17, Try.ntmps17
      go_wp2_with fail
      refine Ht.out.mono ?_
      rintro e w1 ⟨rfl, hb⟩
      have h1 := H.out.below hb
      have HB := Lib.hid hb
      have c1 := h1.c1
      have hl := look1_some h1.map s hs HG.out
      have hr1 := (h1.bytes _ (fget_mem HG.out)).1
      have Hc := Lib.hid (clone_any A b.length c b w1 rfl (by omega) hr1)
      have hfr := field_run A b.length c (sf : Nat) ev w1
      clear h1 hb hr1
      go_wp2_with fail
      refine Hc.out.mono ?_
      rintro e w2 ⟨A', c', rfl, hr2, _, hb2⟩
      have HB2 := Lib.hid (HB.out.trans (hb2.mono HB.out.size))
      have HR := Lib.hid hr2
      clear hr2 hb2
      go_wp2
      go_ret2
      exact ⟨A', c', rfl, HR.out, HB2.out⟩
end Go.Proofs.Ytplbclbeccoegaa
