/-
  Walk of the disk's Room.
-/
import Derived.Test.YtplbclbeccoegaaDiskMem2
namespace Go.Proofs.Ytplbclbeccoegaa
open Go.RowKit Go.Maps
theorem room_nil (w : World) : Calls Try.prog 16 #[.pointer none] w fun e w' => e = .returned (.int .i64 0) ∧ w' = w := by
  go_enter Try.func16, Try.ntmps16
  go_wp2
  go_ret
  exact ⟨rfl, rfl⟩
set_option maxRecDepth 100000 in
theorem room_at {w : World} {p mb : Nat} {d : DiskM} (h : Disk w p mb d) (hf : WFD d) :
    Calls Try.prog 16 #[.pointer (some ⟨p, 0, none⟩)] w fun e w' => e = .returned (.int .i64 (d.room : Nat)) ∧ Below w.heap.size w w' := by
  obtain ⟨cap, files, fuse, lost⟩ := d
  obtain ⟨es, hfi, h⟩ := h
  obtain rfl : files = fmap FV.m es := hfi
  have hr : used (fmap FV.m es) ≤ cap := hf.room
  have hc : cap ≤ 4194304 := hf.cap
  have hup := h.up
  have c0 := h.c0
  have c1 := h.c1
  have hm := h.map
  have H := Lib.hid h
  have HU := Lib.hid hup
  clear h hf hup
  unfold DiskM.room
  go_enter Try.func16, Try.ntmps16
  go_wp2_with (first | (at_range; refine wpList_range_own _ rfl _ 53 rfl 9 65 string_key Try.underlying53 _ mb es.length (dmap heldF es) rfl hm ?_; intro w0 hrg0 hg0 hs0) | go_in)
  try go_frame
  have hb0 : Below w.heap.size w w0 := (Below.refl _ _).grown hg0 (Nat.le_refl _) (fun k hk => by cases hk)
  have HG := Lib.hid hrg0
  have HB := Lib.hid hb0
  clear hg0 hs0 hrg0 hb0
  go_loopw [3] (fun v wr => ∃ (left : Lit → Bool) (cnt : Nat), v = .int .i64 ((cap - usedL left es : Nat) : Int) ∧ Hid (wr.ranges Try.prog 9 heldR mb w.heap.size es.length (dmap heldF es) left cnt) ∧ Hid (Below w.heap.size w wr)) (fun _ wr => wr.rangeLeft mb w.heap.size)
  case atStart => exact ⟨_, _, by rw [usedL_start (fun _ h => h)]; rfl, HG, HB⟩
  case round =>
    obtain ⟨left, cnt, rfl, hrg, hb⟩ := hrel
    go_wp2_with (first | (at_next; refine wpList_next_files rfl _ rfl mb w.heap.size es.length es _ _ rfl hrg.out ?_ ?_) | go_in)
    · intro _ hl0
      have e := usedL_end hl0 es
      rw [e]
      have HB1 := Lib.hid hb
      clear e hl0
      go_wp2
      go_ret
      exact ⟨rfl, hb.out⟩
    · intro x ⟨⟨b, sf, ev⟩, A, c⟩ w1 cnt1 hxl hlx hget hrg1 hlt hg1 hs1 hen
      have hst := usedL_step HU.out hget hlx
      have hle := usedL_le (fun z => left z && !z.sameKey (.string x)) es
      have hbl := hb.out.size
      have hb1 := hb.out.grown hg1 hbl (fun k hk => by cases hk; exact Nat.le_refl _)
      have HB1 := Lib.hid hb1
      have HR1 := Lib.hid hrg1
      have HL := Lib.hid hlt
      have hn : (cap - usedL left es : Nat) = (cap - usedL left es : Nat) := rfl
      have hne : ((cap - usedL left es : Nat) : Int) - (b.length : Nat) = ((cap - usedL (fun z => left z && !z.sameKey (.string x)) es : Nat) : Int) := by simp only at hst; omega
      have hbd : (cap - usedL left es : Nat) ≤ 4194304 := by omega
      have hbd2 : b.length ≤ 4194304 := by simp only at hst; omega
      have HNE := Lib.hid hne
      clear hst hle hb1 hrg1 hlt hg1 hs1 hne hlx hget hn
      generalize (cap - usedL left es : Nat) = u at *
      go_wp2
      go_roundw
      case rel =>
        refine ⟨_, cnt1, by rw [HNE.out], HR1.out.alloc _, HB1.out.alloc ?_ _⟩
        exact HB1.out.size
      case measure =>
        rw [(HR1.out.alloc _).left_eq, hrg.out.left_eq]
        exact HL.out
end Go.Proofs.Ytplbclbeccoegaa
