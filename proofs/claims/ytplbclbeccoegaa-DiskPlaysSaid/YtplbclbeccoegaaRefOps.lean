/-
  The document's disk: its inner functions, whatever it has; what a lost one answers; Fuse.
-/
import Derived.Test.YtplbclbeccoegaaRefPutN
import Derived.Test.YtplbclbeccoegaaDiskDo
namespace Go.Proofs.Ytplbclbeccoegaa
open Go.RowKit Go.Maps
section
variable {w : World} {B q cap : Nat} {v : Value} {es : List (Key × FV)} {fuse : Int} {lost : Bool}
theorem refPut_any (h : RefAt w B q v es cap fuse lost) (hB : B ≤ w.heap.size) (s : ByteArray) (hlen : es.length ≤ 100000) (f : FV) (hf : Bytes8 w f) :
    Calls Try.prog 32 #[.pointer (some ⟨q, 0, none⟩), .agg #[.string s, .slice f.a f.m.b.length f.c, .int .i64 (f.m.safe : Nat), .bool f.m.ever]] w fun e w' => e = .returned (.tuple #[]) ∧ (∃ v', RefAt w' B q v' (fput s.data.toList f es) cap fuse lost) ∧ TBut B q w w' := by
  cases hg : fget s.data.toList es with
  | none => exact refPut_none h hB s hg hlen f hf
  | some f0 =>
    obtain ⟨n, hn⟩ := get_of_fget hg
    exact refPut_some h s hn hlen f hf
theorem refDrop_any (h : RefAt w B q v es cap fuse lost) (hB : B ≤ w.heap.size) (s : ByteArray) {f : FV} (hg : fget s.data.toList es = some f) (hlen : es.length ≤ 100000) :
    Calls Try.prog 33 #[.pointer (some ⟨q, 0, none⟩), .string s] w fun e w' => e = .returned (.tuple #[]) ∧ (∃ v', RefAt w' B q v' (fdel s.data.toList es) cap fuse lost) ∧ TBut B q w w' := by
  obtain ⟨n, hn⟩ := get_of_fget hg
  rw [fdel_cut h.up hn]
  exact refDrop_at h hB s hn hlen
theorem at_any (h : RefAt w B q v es cap fuse lost) (s : ByteArray) (hlen : es.length ≤ 1000000) : ∃ i : Int, Calls Try.prog 28 #[.pointer (some ⟨q, 0, none⟩), .string s] w fun e w' => e = .returned (.int .i64 i) ∧ w' = w := by
  cases hg : fget s.data.toList es with
  | none => exact ⟨_, at_none h s hg hlen⟩
  | some f0 =>
    obtain ⟨n, hn⟩ := get_of_fget hg
    exact ⟨_, at_some h s hn hlen⟩
theorem RefAt.same (h : RefAt w B q v es cap fuse lost) {w' : World} {cap' : Nat} {fuse' : Int} {lost' : Bool} (hb : TBut B q w w') (hc : Blk w' q 32 (refCells cap' v fuse' lost')) (hk : ∀ i, i ≠ q → w'.heap[i]? = w.heap[i]?) : RefAt w' B q v es cap' fuse' lost' :=
  h.turn hb hc (h.row.keep fun g hg => hk g fun e => by
    obtain ⟨cur, p, hc', _⟩ := h.row.pure g hg
    have hq := h.cells
    subst e
    unfold Blk at hq
    rw [hq] at hc'
    injection hc' with hc'
    injection hc' with _ hc'
    exact absurd hc' (by decide)) h.up (fun x hx => .inl ⟨x, hx, rfl⟩)
/-- a file by itself is written -/
theorem RefAt.setFile (h : RefAt w B q v es cap fuse lost) {fb : Nat} {cs : Array Value} (hbl : Blk w fb 61 cs) (hne : ∀ g, v.ownBlock = some g → g ≠ fb) (i : Nat) (u : Value) : RefAt (w.setCell ⟨fb, i, none⟩ u) B q v es cap fuse lost := by
  have hqf : q ≠ fb := by
    intro e
    have hq := h.cells
    subst e
    unfold Blk at hq hbl
    rw [hq] at hbl
    injection hbl with hbl
    injection hbl with _ hbl
    exact absurd hbl (by decide)
  refine ⟨h.le, h.cells.far (p := ⟨fb, i, none⟩) hqf u, h.row.keep fun g hg => Below.heap_setCell _ _ _ _ (hne g hg), h.up, fun x hx => (h.bytes x hx).keep fun g cur p hg => Below.heap_setCell _ _ _ _ (fun e => ?_)⟩
  simp only at e
  subst e
  unfold Blk at hbl
  rw [hbl] at hg
  injection hg with hg
  injection hg with _ hg
  exact absurd hg (by decide)
theorem Bytes8.setFile {f : FV} (h : Bytes8 w f) {fb : Nat} {cs : Array Value} (hbl : Blk w fb 61 cs) (i : Nat) (u : Value) : Bytes8 (w.setCell ⟨fb, i, none⟩ u) f := h.keep fun g cur p hg => Below.heap_setCell _ _ _ _ (fun e => by
  simp only at e
  subst e
  unfold Blk at hbl
  rw [hbl] at hg
  injection hg with hg
  injection hg with _ hg
  exact absurd hg (by decide))
theorem RefAt.fuse_ (h : RefAt w B q v es cap fuse lost) (n : Int) : RefAt (w.setCell ⟨q, 2, none⟩ (.int .i64 n)) B q v es cap n lost :=
  h.same ((TBut.refl B q w).set_ 2 (.int .i64 n)) (h.cells.set_ 2 (.int .i64 n)) (fun _ hi => Below.heap_setCell _ _ _ _ hi)
theorem Ref.below {w' : World} {d : DiskM} (h : Ref w B q d) (hb : Below w.heap.size w w') : Ref w' B q d := by
  obtain ⟨v, es, hf, hd⟩ := h
  exact ⟨v, es, hf, hd.below hb⟩
end
set_option maxRecDepth 100000 in
theorem ract_lost {w : World} {B q : Nat} {d : DiskM} (h : Ref w B q d) (hl : d.lost = true) (kind : Int) (a b : ByteArray) (at_ : Int) (dA : Option Addr) (dn dc : Nat) :
    Calls Try.prog 11 #[.pointer (some ⟨q, 0, none⟩), .int .i64 kind, .string a, .string b, .int .i64 at_, .slice dA dn dc] w fun e w' => e = .returned (.int .i64 6) ∧ w' = w := by
  obtain ⟨v, es, _, h⟩ := h
  have c3 := h.c3
  rw [hl] at c3
  clear h
  go_enter Try.func11, Try.ntmps11
  go_wp2
  go_ret
  exact ⟨rfl, rfl⟩
set_option maxRecDepth 100000 in
theorem ract_fuse {w : World} {B q : Nat} {d : DiskM} (h : Ref w B q d) (hN : d.files.length ≤ 90000) (a b : ByteArray) (at_ : Int) (dA : Option Addr) (dn dc : Nat) :
    Calls Try.prog 11 #[.pointer (some ⟨q, 0, none⟩), .int .i64 4, .string a, .string b, .int .i64 at_, .slice dA dn dc] w fun e w' => e = .returned (.int .i64 (dFuse d at_).1) ∧ Ref w' B q (dFuse d at_).2 ∧ TBut B q w w' := by
  unfold dFuse
  by_cases hl : d.lost = true
  · rw [if_pos hl]
    exact (ract_lost h hl _ _ _ _ _ _ _).mono fun e w' ⟨h1, h2⟩ => by subst h2; exact ⟨h1, h, TBut.refl _ _ _⟩
  · rw [if_neg hl]
    obtain ⟨v, es, hfi, hr⟩ := h
    have hle : es.length ≤ 90000 := by have := congrArg List.length hfi; simp [fmap] at this; omega
    obtain ⟨i, Ha⟩ := at_any hr a (by omega)
    have HA := Lib.hid Ha
    have c3 := hr.c3
    have c2 := hr.c2
    have f2 := hr.cells.frozen 2
    have HR := Lib.hid hr
    have hl' : d.lost = false := by simpa using hl
    rw [hl'] at c3
    have HF := Lib.hid hfi
    clear Ha hr hl hfi
    by_cases hat : at_ < 0
    · rw [if_pos hat]
      go_enter Try.func11, Try.ntmps11
      go_wp2_with fail
      refine HA.out.mono ?_
      rintro e w1 ⟨rfl, rfl⟩
      go_wp2
      go_ret
      exact ⟨rfl, ⟨v, es, HF.out, HR.out⟩, TBut.refl _ _ _⟩
    · rw [if_neg hat]
      have hat' : decide (at_ < 0) = false := by simp; omega
      go_enter Try.func11, Try.ntmps11
      go_wp2_with fail
      refine HA.out.mono ?_
      rintro e w1 ⟨rfl, rfl⟩
      go_wp2
      go_ret
      exact ⟨rfl, ⟨v, es, HF.out, HR.out.fuse_ at_⟩, (TBut.refl _ _ _).set_ 2 (.int .i64 at_)⟩
end Go.Proofs.Ytplbclbeccoegaa
