/-
  The document's disk: Remove, Lose.
-/
import Derived.Test.YtplbclbeccoegaaRefOps
namespace Go.Proofs.Ytplbclbeccoegaa
open Go.RowKit Go.Maps
theorem burn_parts {w : World} {B q : Nat} {d : DiskM} {v : Value} {es : List (Key × FV)} (hfi : d.files = fmap FV.m es) (h : RefAt w B q v es d.cap (if 0 < d.fuse then d.fuse - 1 else d.fuse) (decide (d.fuse = 0))) : Ref w B q d.burn := ⟨v, es, hfi, h⟩
set_option maxRecDepth 100000 in
theorem ract_remove {w : World} {B q : Nat} {d : DiskM} (h : Ref w B q d) (hf : WFD d) (hB : B ≤ w.heap.size) (hN : d.files.length ≤ 90000) (a b : ByteArray) (at_ : Int) (dA : Option Addr) (dn dc : Nat) :
    Calls Try.prog 11 #[.pointer (some ⟨q, 0, none⟩), .int .i64 3, .string a, .string b, .int .i64 at_, .slice dA dn dc] w fun e w' => e = .returned (.int .i64 (dRemove d a.data.toList).1) ∧ Ref w' B q (dRemove d a.data.toList).2 ∧ TBut B q w w' := by
  unfold dRemove
  by_cases hl : d.lost = true
  · rw [if_pos hl]
    exact (ract_lost h hl _ _ _ _ _ _ _).mono fun e w' ⟨h1, h2⟩ => by subst h2; exact ⟨h1, h, TBut.refl _ _ _⟩
  · rw [if_neg hl]
    have hf0 := hf.fuse0
    have hf1 := hf.fuse1
    obtain ⟨cap, files, fuse, lost⟩ := d
    obtain ⟨v, es, hfi, hr⟩ := h
    obtain rfl : files = fmap FV.m es := hfi
    have hle : es.length ≤ 90000 := by simpa [fmap] using hN
    simp only at hl hf0 hf1 hr
    obtain rfl : lost = false := by simpa using hl
    have c3 := hr.c3
    have HR := Lib.hid hr
    have HB := Lib.hid hB
    clear hl hf hB hN
    simp only [fget_m]
    cases hg : fget a.data.toList es with
    | none =>
      have HA := Lib.hid (at_none hr a hg (by omega))
      clear hr hg
      simp only [Option.map_none]
      go_enter Try.func11, Try.ntmps11
      go_wp2_with fail
      refine HA.out.mono ?_
      rintro e w1 ⟨rfl, rfl⟩
      go_wp2
      go_ret
      exact ⟨rfl, ⟨v, es, rfl, HR.out⟩, TBut.refl _ _ _⟩
    | some f =>
      obtain ⟨n, hn⟩ := get_of_fget hg
      have HA := Lib.hid (at_some hr a hn (by omega))
      have HU := Lib.hid (refBurns_at hr rfl hf0 hf1)
      have HG := Lib.hid hg
      clear hr hg hn hf0 hf1
      simp only [Option.map_some]
      by_cases hz : fuse = 0
      · rw [if_pos hz]
        subst hz
        go_enter Try.func11, Try.ntmps11
        go_wp2_with fail
        refine HA.out.mono ?_
        rintro e w1 ⟨rfl, rfl⟩
        go_wp2_with fail
        refine HU.out.mono ?_
        rintro e w2 ⟨rfl, h2, hb2⟩
        have H2 := Lib.hid h2
        have HB2 := Lib.hid hb2
        clear h2 hb2
        go_wp2
        go_ret
        exact ⟨rfl, ⟨v, es, rfl, H2.out⟩, HB2.out⟩
      · rw [if_neg hz]
        have hz' : decide (fuse = 0) = false := by simp [hz]
        rw [hz'] at HU
        go_enter Try.func11, Try.ntmps11
        go_wp2_with fail
        refine HA.out.mono ?_
        rintro e w1 ⟨rfl, rfl⟩
        go_wp2_with fail
        refine HU.out.mono ?_
        rintro e w2 ⟨rfl, h2, hb2⟩
        have HB2 := Lib.hid hb2
        have HD := Lib.hid (refDrop_any h2 (Nat.le_trans HB.out hb2.size) a HG.out (by omega))
        clear h2 hb2 HU
        go_wp2_with fail
        refine HD.out.mono ?_
        rintro e w3 ⟨rfl, ⟨v3, h3⟩, hb3⟩
        have H3 := Lib.hid h3
        have HB3 := Lib.hid (HB2.out.trans hb3)
        clear h3 hb3
        go_wp2
        go_ret
        refine ⟨rfl, ⟨v3, _, (fdel_fmap FV.m _ es).symm, ?_⟩, HB3.out⟩
        have h3 := H3.out
        simpa [DiskM.burn, hz'] using h3
set_option maxRecDepth 100000 in
theorem ract_lose {w : World} {B q : Nat} {d : DiskM} (h : Ref w B q d) (hB : B ≤ w.heap.size) (hN : d.files.length ≤ 90000) (a b : ByteArray) (at_ : Int) (dA : Option Addr) (dn dc : Nat) :
    Calls Try.prog 11 #[.pointer (some ⟨q, 0, none⟩), .int .i64 6, .string a, .string b, .int .i64 at_, .slice dA dn dc] w fun e w' => e = .returned (.int .i64 (dLose d a.data.toList).1) ∧ Ref w' B q (dLose d a.data.toList).2 ∧ TBut B q w w' := by
  unfold dLose
  by_cases hl : d.lost = true
  · rw [if_pos hl]
    exact (ract_lost h hl _ _ _ _ _ _ _).mono fun e w' ⟨h1, h2⟩ => by subst h2; exact ⟨h1, h, TBut.refl _ _ _⟩
  · rw [if_neg hl]
    obtain ⟨cap, files, fuse, lost⟩ := d
    obtain ⟨v, es, hfi, hr⟩ := h
    obtain rfl : files = fmap FV.m es := hfi
    have hle : es.length ≤ 90000 := by simpa [fmap] using hN
    simp only at hl hr
    obtain rfl : lost = false := by simpa using hl
    have c3 := hr.c3
    have HR := Lib.hid hr
    have HB := Lib.hid hB
    clear hl hB hN
    simp only [fget_m]
    cases hg : fget a.data.toList es with
    | none =>
      have HA := Lib.hid (at_none hr a hg (by omega))
      clear hr hg
      simp only [Option.map_none]
      go_enter Try.func11, Try.ntmps11
      go_wp2_with fail
      refine HA.out.mono ?_
      rintro e w1 ⟨rfl, rfl⟩
      go_wp2
      go_ret
      exact ⟨rfl, ⟨v, es, rfl, HR.out⟩, TBut.refl _ _ _⟩
    | some f =>
      obtain ⟨n, hn⟩ := get_of_fget hg
      have HA := Lib.hid (at_some hr a hn (by omega))
      have HD := Lib.hid (refDrop_any hr HB.out a hg (by omega))
      clear hr hg hn
      simp only [Option.map_some]
      go_enter Try.func11, Try.ntmps11
      go_wp2_with fail
      refine HA.out.mono ?_
      rintro e w1 ⟨rfl, rfl⟩
      go_wp2_with fail
      refine HD.out.mono ?_
      rintro e w3 ⟨rfl, ⟨v3, h3⟩, hb3⟩
      have H3 := Lib.hid h3
      have HB3 := Lib.hid hb3
      clear h3 hb3
      go_wp2
      go_ret
      exact ⟨rfl, ⟨v3, _, (fdel_fmap FV.m _ es).symm, H3.out⟩, HB3.out⟩
end Go.Proofs.Ytplbclbeccoegaa
