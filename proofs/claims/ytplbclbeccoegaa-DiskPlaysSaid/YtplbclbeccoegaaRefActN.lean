/-
  The document's disk: Rename.
-/
import Derived.Test.YtplbclbeccoegaaRefActS
namespace Go.Proofs.Ytplbclbeccoegaa
open Go.RowKit Go.Maps
set_option maxRecDepth 100000 in
set_option maxHeartbeats 1600000 in
theorem ract_rename {w : World} {B q : Nat} {d : DiskM} (h : Ref w B q d) (hf : WFD d) (hB : B ≤ w.heap.size) (hN : d.files.length ≤ 90000) (a b : ByteArray) (hb : b.size ≤ 1000000000) (at_ : Int) (dA : Option Addr) (dn dc : Nat) :
    Calls Try.prog 11 #[.pointer (some ⟨q, 0, none⟩), .int .i64 2, .string a, .string b, .int .i64 at_, .slice dA dn dc] w fun e w' => e = .returned (.int .i64 (dRename d a.data.toList b.data.toList).1) ∧ Ref w' B q (dRename d a.data.toList b.data.toList).2 ∧ TBut B q w w' := by
  unfold dRename
  by_cases hl : d.lost = true
  · rw [if_pos hl]
    exact (ract_lost h hl _ _ _ _ _ _ _).mono fun e w' ⟨h1, h2⟩ => by subst h2; exact ⟨h1, h, TBut.refl _ _ _⟩
  rw [if_neg hl]
  have hf0 := hf.fuse0
  have hf1 := hf.fuse1
  obtain ⟨cap, files, fuse, lost⟩ := d
  obtain ⟨v, es, hfi, hr⟩ := h
  obtain rfl : files = fmap FV.m es := hfi
  have hle : es.length ≤ 90000 := by simpa [fmap] using hN
  simp only at hl hf0 hf1 hr
  obtain rfl : lost = false := by simpa using hl
  have c3 := hr.c3
  have HR := Lib.hid hr
  have HB := Lib.hid hB
  have HRT : Hid (∀ w, _) := fun w => refRight_any b hb w
  clear hl hf hB hN
  simp only [fget_m]
  cases hrt : right b.data.toList with
  | false =>
    rw [if_pos (.inl rfl)]
    rw [hrt] at HRT
    obtain ⟨i, Ha⟩ := at_any hr a (by omega)
    have HA := Lib.hid Ha
    clear hr Ha hrt
    go_enter Try.func11, Try.ntmps11
    go_wp2_with fail
    refine HA.out.mono ?_
    rintro e w1 ⟨rfl, rfl⟩
    go_wp2_with fail
    refine (HRT.out _).mono ?_
    rintro e w2 ⟨rfl, rfl⟩
    go_wp2
    go_ret
    exact ⟨rfl, ⟨v, es, rfl, HR.out⟩, TBut.refl _ _ _⟩
  | true =>
    rw [hrt] at HRT
    by_cases hab : a.data.toList = b.data.toList
    · rw [if_pos (.inr hab)]
      obtain ⟨i, Ha⟩ := at_any hr a (by omega)
      have HA := Lib.hid Ha
      have hab' : a = b := by
        have h1 : (⟨a.data.toList.toArray⟩ : ByteArray) = ⟨b.data.toList.toArray⟩ := by rw [hab]
        have ea : (⟨a.data.toList.toArray⟩ : ByteArray) = a := by simp
        have eb : (⟨b.data.toList.toArray⟩ : ByteArray) = b := by simp
        rw [ea, eb] at h1
        exact h1
      subst hab'
      clear hr Ha hrt hab
      go_enter Try.func11, Try.ntmps11
      go_wp2_with fail
      refine HA.out.mono ?_
      rintro e w1 ⟨rfl, rfl⟩
      go_wp2_with fail
      refine (HRT.out _).mono ?_
      rintro e w2 ⟨rfl, rfl⟩
      go_wp2
      go_ret
      exact ⟨rfl, ⟨v, es, rfl, HR.out⟩, TBut.refl _ _ _⟩
    · rw [if_neg (by rintro (h | h); cases h; exact hab h)]
      have hne := str_ne hab
      cases hg : fget a.data.toList es with
      | none =>
        have HA := Lib.hid (at_none hr a hg (by omega))
        clear hr hg hrt
        simp only [Option.map_none]
        go_enter Try.func11, Try.ntmps11
        go_wp2_with fail
        refine HA.out.mono ?_
        rintro e w1 ⟨rfl, rfl⟩
        go_wp2_with fail
        refine (HRT.out _).mono ?_
        rintro e w2 ⟨rfl, rfl⟩
        go_wp2
        go_ret
        exact ⟨rfl, ⟨v, es, rfl, HR.out⟩, TBut.refl _ _ _⟩
      | some f =>
        obtain ⟨n, hn⟩ := get_of_fget hg
        have HA := Lib.hid (at_some hr a hn (by omega))
        have HWh := Lib.hid (refWhole_some hr a hn (by omega))
        have HG := Lib.hid hn
        have HGF := Lib.hid hg
        have HAB := Lib.hid hab
        have hnl : n < es.length := (List.getElem?_eq_some_iff.1 hn).1
        clear hr hg hn hrt hab
        simp only [Option.map_some]
        by_cases hwh : f.m.whole = false
        · rw [if_pos hwh]
          rw [hwh] at HWh
          clear hwh
          go_enter Try.func11, Try.ntmps11
          go_wp2_with fail
          refine HA.out.mono ?_
          rintro e w1 ⟨rfl, rfl⟩
          go_wp2_with fail
          refine (HRT.out _).mono ?_
          rintro e w2 ⟨rfl, rfl⟩
          go_wp2_with fail
          refine HWh.out.mono ?_
          rintro e w3 ⟨rfl, hb3⟩
          have HB3 := Lib.hid hb3
          clear hb3
          go_wp2
          go_ret
          exact ⟨rfl, ⟨v, es, rfl, HR.out.below HB3.out⟩, TBut.of_below HB3.out⟩
        · rw [if_neg hwh]
          have hwt : f.m.whole = true := by simpa using hwh
          rw [hwt] at HWh
          clear hwh
          by_cases hz : fuse = 0
          · rw [if_pos hz]
            subst hz
            go_enter Try.func11, Try.ntmps11
            go_wp2_with fail
            refine HA.out.mono ?_
            rintro e w1 ⟨rfl, rfl⟩
            go_wp2_with fail
            refine (HRT.out _).mono ?_
            rintro e w2 ⟨rfl, rfl⟩
            go_wp2_with fail
            refine HWh.out.mono ?_
            rintro e w3 ⟨rfl, hb3⟩
            have HB3 := Lib.hid hb3
            have HU := Lib.hid (refBurns_at (HR.out.below hb3) rfl hf0 hf1)
            clear hb3
            go_wp2_with fail
            refine HU.out.mono ?_
            rintro e w4 ⟨rfl, h4, hb4⟩
            have H4 := Lib.hid h4
            have HB4 := Lib.hid hb4
            clear h4 hb4
            go_wp2
            go_ret
            exact ⟨rfl, ⟨v, es, rfl, H4.out⟩, (TBut.of_below HB3.out).trans HB4.out⟩
          · rw [if_neg hz]
            have hz' : decide (fuse = 0) = false := by simp [hz]
            go_enter Try.func11, Try.ntmps11
            go_wp2_with fail
            refine HA.out.mono ?_
            rintro e w1 ⟨rfl, rfl⟩
            go_wp2_with fail
            refine (HRT.out _).mono ?_
            rintro e w2 ⟨rfl, rfl⟩
            go_wp2_with fail
            refine HWh.out.mono ?_
            rintro e w3 ⟨rfl, hb3⟩
            have HB3 := Lib.hid hb3
            have HU := Lib.hid (refBurns_at (HR.out.below hb3) rfl hf0 hf1)
            rw [hz'] at HU
            clear hb3
            go_wp2_with fail
            refine HU.out.mono ?_
            rintro e w4 ⟨rfl, h4, hb4⟩
            obtain ⟨A, c, rfl, hr4, hc4⟩ := h4.row.reads
            obtain ⟨ad, rfl, hadl, hcs⟩ := hr4.2 (by omega)
            obtain ⟨k0, k1, k2, k3⟩ := file_at hcs HG.out
            simp only at k0 k1 k2 k3
            rw [show (⟨a.data.toList.toArray⟩ : ByteArray) = a from by simp] at k0
            have c1 := h4.c1
            have i0 : (0 : Int) ≤ (n : Int) := by omega
            have i1 : (n : Int) < (es.length : Int) := by omega
            have H4 := Lib.hid h4
            have HB4 := Lib.hid ((TBut.of_below HB3.out).trans hb4)
            clear h4 hb4 hr4 hcs HU HWh
            go_wp2_with fail
            have hbl : Blk (w4.alloc (.cells #[.string a, .slice f.a f.m.b.length f.c, .int .i64 (f.m.safe : Nat), .bool f.m.ever] 61)) w4.heap.size 61 #[.string a, .slice f.a f.m.b.length f.c, .int .i64 (f.m.safe : Nat), .bool f.m.ever] := Blk.new w4 61 _
            have hb4' : Below w4.heap.size w4 (w4.alloc (.cells #[.string a, .slice f.a f.m.b.length f.c, .int .i64 (f.m.safe : Nat), .bool f.m.ever] 61)) := (Below.refl _ _).alloc (Nat.le_refl _) _
            have h5 := H4.out.below hb4'
            have t5 := HB4.out.below hb4'
            have hB5 := Nat.le_trans HB.out t5.size
            have hq4 := H4.out.cells.lt
            have hf4 := H4.out.bytes _ (List.mem_of_getElem? HG.out)
            generalize w4.alloc (.cells #[.string a, .slice f.a f.m.b.length f.c, .int .i64 (f.m.safe : Nat), .bool f.m.ever] 61) = w5 at *
            refine (refDrop_only h5 hB5 a HG.out (by omega)).mono ?_
            rintro e w6 ⟨rfl, ⟨v6, h6, hv6⟩, hb6, ho6⟩
            have hbl6 : Blk w6 w4.heap.size 61 #[.string a, .slice f.a f.m.b.length f.c, .int .i64 (f.m.safe : Nat), .bool f.m.ever] := (ho6 _ hbl.lt (by omega)).trans hbl
            have x0 : w6.cell? ⟨w4.heap.size, 0, none⟩ = some (.string a) := by rw [hbl6.cell]; rfl
            have x1 : w6.cell? ⟨w4.heap.size, 1, none⟩ = some (.slice f.a f.m.b.length f.c) := by rw [hbl6.cell]; rfl
            have x2 : w6.cell? ⟨w4.heap.size, 2, none⟩ = some (.int .i64 (f.m.safe : Nat)) := by rw [hbl6.cell]; rfl
            have x3 : w6.cell? ⟨w4.heap.size, 3, none⟩ = some (.bool f.m.ever) := by rw [hbl6.cell]; rfl
            have xf := hbl6.frozen 0
            rw [← fdel_cut h5.up HG.out] at h6
            have hf6 : Bytes8 w6 f := (hf4.below hb4').tbut (by decide) h5.cells hb6
            have hne6 : ∀ g, v6.ownBlock = some g → g ≠ w4.heap.size := fun g hg => by
              have := hv6 g hg
              have := hbl.lt
              omega
            have h7 := h6.setFile hbl6 hne6 0 (.string b)
            have hf7 := hf6.setFile hbl6 0 (.string b)
            have t7 := (t5.trans hb6).setNew (ad := ⟨w4.heap.size, 0, none⟩) HB4.out.size (.string b)
            have hle7 : (fdel a.data.toList es).length ≤ 100000 := Nat.le_trans (length_fdel_le _ _) (by omega)
            have HP := Lib.hid (refPut_any h7 (Nat.le_trans HB.out t7.size) b hle7 f hf7)
            have T7 := Lib.hid t7
            have HUP := Lib.hid h5.up
            clear h5 t5 hB5 hb6 ho6 hbl hbl6 h6 hf4 hf6 h7 hf7 t7 hv6 hne6 hb4'
            go_wp2_with fail
            refine HP.out.mono ?_
            rintro e w8 ⟨rfl, ⟨v8, h8⟩, hb8⟩
            have H8 := Lib.hid h8
            have HB8 := Lib.hid (T7.out.trans hb8)
            clear h8 hb8 HP
            go_wp2
            go_ret
            refine ⟨rfl, ⟨v8, fput b.data.toList f (fdel a.data.toList es), ?_, ?_⟩, HB8.out⟩
            · simp only
              rw [fput_fmap, fdel_fmap, fdel_fput (up_fmap.2 HUP.out) HAB.out]
            · have h8 := H8.out
              simpa [DiskM.burn, hz'] using h8
end Go.Proofs.Ytplbclbeccoegaa
