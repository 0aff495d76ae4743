/-
  Walk of the disk's Rename.
-/
import Derived.Test.YtplbclbeccoegaaDiskWalk4
import Derived.Test.YtplbclbeccoegaaDiskRight
namespace Go.Proofs.Ytplbclbeccoegaa
open Go.RowKit Go.Maps
theorem rename_nil (s t : ByteArray) (w : World) : Calls Try.prog 23 #[.pointer none, .string s, .string t] w fun e w' => e = .returned (.int .i64 1) ∧ Below w.heap.size w w' := by
  have Hg := Lib.hid (gone_nil w)
  go_enter Try.func23, Try.ntmps23
  go_wp2_with fail
  refine Hg.out.mono ?_
  rintro e w1 ⟨rfl, rfl⟩
  go_wp2
  go_ret
  exact ⟨rfl, Below.refl _ _⟩
theorem str_ne {s t : ByteArray} (h : s.data.toList ≠ t.data.toList) : (s.toList == t.toList) = false := by
  rw [ByteArray.toList_eq, ByteArray.toList_eq]
  simpa using h
set_option maxRecDepth 100000 in
theorem rename_at {w : World} {p mb : Nat} {d : DiskM} (h : Disk w p mb d) (hf : WFD d) (hN : d.files.length < 1000000) (s t : ByteArray) (hs : s.size ≤ 1000000000) (ht : t.size ≤ 1000000000) :
    Calls Try.prog 23 #[.pointer (some ⟨p, 0, none⟩), .string s, .string t] w fun e w' => e = .returned (.int .i64 (dRename d s.data.toList t.data.toList).1) ∧ Disk w' p mb (dRename d s.data.toList t.data.toList).2 ∧ But p mb w w' := by
  have hsm : s.size ≤ maxLen := by unfold maxLen; omega
  have htm : t.size ≤ maxLen := by unfold maxLen; omega
  have hf0 := hf.fuse0
  have hf1 := hf.fuse1
  clear hf
  obtain ⟨cap, files, fuse, lost⟩ := d
  obtain ⟨es, hf, h⟩ := h
  obtain rfl : files = fmap FV.m es := hf
  have hN' : es.length < 1000000 := by simpa [fmap] using hN
  clear hN
  have Hg := Lib.hid (gone_at p lost w h.c3)
  have H := Lib.hid h
  unfold dRename
  simp only [fget_m] at hf0 hf1 ⊢
  cases lost with
  | true =>
    clear h
    go_enter Try.func23, Try.ntmps23
    go_wp2_with fail
    refine Hg.out.mono ?_
    rintro e w1 ⟨rfl, rfl⟩
    go_wp2
    go_ret
    exact ⟨rfl, ⟨es, rfl, H.out⟩, But.refl _ _ _⟩
  | false =>
    simp only [Bool.false_eq_true, if_false]
    have Hr := Lib.hid (right_any t ht w)
    cases hrt : right t.data.toList with
    | false =>
      rw [hrt] at Hr
      rw [if_pos (.inl rfl)]
      clear h hrt
      go_enter Try.func23, Try.ntmps23
      go_wp2_with fail
      refine Hg.out.mono ?_
      rintro e w1 ⟨rfl, rfl⟩
      go_wp2_with fail
      refine Hr.out.mono ?_
      rintro e w1 ⟨rfl, rfl⟩
      go_wp2
      go_ret
      exact ⟨rfl, ⟨es, rfl, H.out⟩, But.refl _ _ _⟩
    | true =>
      rw [hrt] at Hr
      clear hrt
      by_cases hst : s.data.toList = t.data.toList
      · have hst' : s = t := ByteArray.ext (Array.ext' hst)
        subst hst'
        rw [if_pos (.inr rfl)]
        clear h hst
        go_enter Try.func23, Try.ntmps23
        go_wp2_with fail
        refine Hg.out.mono ?_
        rintro e w1 ⟨rfl, rfl⟩
        go_wp2_with fail
        refine Hr.out.mono ?_
        rintro e w1 ⟨rfl, rfl⟩
        go_wp2
        go_ret
        exact ⟨rfl, ⟨es, rfl, H.out⟩, But.refl _ _ _⟩
      · have hne := str_ne hst
        have Hst := Lib.hid hst
        have Ht := Lib.hid (there_at h s hsm)
        have e0 : ¬ (true = false ∨ s.data.toList = t.data.toList) := by simp [hst]
        rw [if_neg e0]
        clear hst e0
        cases hg : fget s.data.toList es with
        | none =>
          rw [hg] at Ht
          dsimp only [Option.map_none]
          clear h hg
          go_enter Try.func23, Try.ntmps23
          go_wp2_with fail
          refine Hg.out.mono ?_
          rintro e w1 ⟨rfl, rfl⟩
          go_wp2_with fail
          refine Hr.out.mono ?_
          rintro e w1 ⟨rfl, rfl⟩
          go_wp2_with fail
          refine Ht.out.mono ?_
          rintro e w1 ⟨rfl, hb⟩
          go_wp2
          go_ret
          exact ⟨rfl, ⟨es, rfl, H.out.below hb⟩, But.of_below hb⟩
        | some f =>
          obtain ⟨⟨b, sf, ev⟩, A, c⟩ := f
          rw [hg] at Ht
          have HG := Lib.hid hg
          clear h hg
          have hw : (FileM.whole ⟨b, sf, ev⟩) = (ev && decide (sf = b.length)) := rfl
          simp only [Option.map_some, hw]
          generalize hbw : (ev && decide (sf = b.length)) = bw
          have Hbw := Lib.hid hbw
          clear hbw hw
          cases bw with
          | false =>
            rw [if_pos rfl]
            go_enter Try.func23, Try.ntmps23
            go_wp2_with fail
            refine Hg.out.mono ?_
            rintro e w1 ⟨rfl, rfl⟩
            go_wp2_with fail
            refine Hr.out.mono ?_
            rintro e w1 ⟨rfl, rfl⟩
            go_wp2_with fail
            refine Ht.out.mono ?_
            rintro e w1 ⟨rfl, hb⟩
            have h1 := H.out.below hb
            have H1 := Lib.hid h1
            have HB := Lib.hid (But.of_below (p := p) (m := mb) hb)
            have c1 := h1.c1
            have hl := look1_some h1.map s hsm HG.out
            have Hw := Lib.hid (whole_any A b.length c sf ev w1)
            rw [Hbw.out] at Hw
            clear h1 hb
            go_wp2_with fail
            refine Hw.out.mono ?_
            rintro e w2 ⟨rfl, hb⟩
            have H2 := Lib.hid (H1.out.below hb)
            have HB2 := Lib.hid (HB.out.below hb)
            clear hb c1 hl
            go_wp2
            go_ret
            exact ⟨rfl, ⟨es, rfl, H2.out⟩, HB2.out⟩
          | true =>
            rw [if_neg (by simp)]
            by_cases hz : fuse = 0
            · have hd : decide (fuse = 0) = true := by simp [hz]
              rw [if_pos hz]
              go_enter Try.func23, Try.ntmps23
              go_wp2_with fail
              refine Hg.out.mono ?_
              rintro e w1 ⟨rfl, rfl⟩
              go_wp2_with fail
              refine Hr.out.mono ?_
              rintro e w1 ⟨rfl, rfl⟩
              go_wp2_with fail
              refine Ht.out.mono ?_
              rintro e w1 ⟨rfl, hb⟩
              have h1 := H.out.below hb
              have H1 := Lib.hid h1
              have HB := Lib.hid (But.of_below (p := p) (m := mb) hb)
              have c1 := h1.c1
              have hl := look1_some h1.map s hsm HG.out
              have Hw := Lib.hid (whole_any A b.length c sf ev w1)
              rw [Hbw.out] at Hw
              clear h1 hb
              go_wp2_with fail
              refine Hw.out.mono ?_
              rintro e w2 ⟨rfl, hb⟩
              have H2 := Lib.hid (H1.out.below hb)
              have HB2 := Lib.hid (HB.out.below hb)
              clear hb c1 hl
              have Hu := Lib.hid (burns_at H2.out hf0 hf1)
              go_wp2_with fail
              refine Hu.out.mono ?_
              rintro e w3 ⟨rfl, h3, hb3⟩
              have H3 := Lib.hid h3
              have HB3 := Lib.hid (HB2.out.trans hb3)
              clear h3 hb3
              rw [hd] at H3 ⊢
              go_wp2
              go_ret
              subst hz
              exact ⟨rfl, ⟨es, rfl, H3.out⟩, HB3.out⟩
            · have hd : decide (fuse = 0) = false := by simp [hz]
              rw [if_neg hz]
              go_enter Try.func23, Try.ntmps23
              go_wp2_with fail
              refine Hg.out.mono ?_
              rintro e w1 ⟨rfl, rfl⟩
              go_wp2_with fail
              refine Hr.out.mono ?_
              rintro e w1 ⟨rfl, rfl⟩
              go_wp2_with fail
              refine Ht.out.mono ?_
              rintro e w1 ⟨rfl, hb⟩
              have h1 := H.out.below hb
              have H1 := Lib.hid h1
              have HB := Lib.hid (But.of_below (p := p) (m := mb) hb)
              have c1 := h1.c1
              have hl := look1_some h1.map s hsm HG.out
              have Hw := Lib.hid (whole_any A b.length c sf ev w1)
              rw [Hbw.out] at Hw
              clear h1 hb
              go_wp2_with fail
              refine Hw.out.mono ?_
              rintro e w2 ⟨rfl, hb⟩
              have H2 := Lib.hid (H1.out.below hb)
              have HB2 := Lib.hid (HB.out.below hb)
              clear hb c1 hl
              have Hu := Lib.hid (burns_at H2.out hf0 hf1)
              go_wp2_with fail
              refine Hu.out.mono ?_
              rintro e w3 ⟨rfl, h3, hb3⟩
              have H3 := Lib.hid h3
              have HB3 := Lib.hid (HB2.out.trans hb3)
              clear h3 hb3
              have c1 := H3.out.c1
              have c1' : w3.drew.cell? ⟨p, 1, none⟩ = some (.map (some mb)) := c1
              have hl := look1_some (w := w3.drew) (H3.out.map.drew) s hsm HG.out
              obtain ⟨w4, hrun, hm, htn⟩ := store_some (w := w3.drew) H3.out.map.drew H3.out.up (by unfold maxLen; omega) t htm b sf ev A c
              have hb3 : But p mb w3 w3.drew := (But.refl _ _ _).drew
              have hk := H3.out.bytes _ (fget_mem HG.out)
              obtain ⟨hst4, hbt4⟩ := H3.out.store hb3 H3.out.cells.drew t.data.toList ⟨⟨b, sf, ev⟩, A, c⟩ hm htn ⟨H3.out.reads_but (hb3.turned htn) hk.1, hk.2⟩
              obtain ⟨w5, hrun5, hm5, ht5⟩ := drop_run hst4.map s hsm 0
              obtain ⟨hd5, hb5⟩ := hst4.drop s.data.toList hm5 ht5
              have c5 := hst4.c1
              have HD := Lib.hid hd5
              have HB5 := Lib.hid ((HB3.out.trans hbt4).trans hb5)
              rw [hd] at HD ⊢
              clear hm htn hb3 hk hst4 hbt4 hm5 ht5 hd5 hb5
              go_wp2
              go_region
              go_wp2
              go_ret
              exact ⟨rfl, ⟨fdel s.data.toList (fput t.data.toList ⟨⟨b, sf, ev⟩, A, c⟩ es), by show _ = fmap FV.m (fdel _ (fput _ ⟨⟨b, sf, ev⟩, A, c⟩ es)); rw [fdel_fmap, fput_fmap], by show DiskAt _ _ _ _ _ _ (decide (fuse = 0)); rw [hd]; exact HD.out⟩, HB5.out⟩
end Go.Proofs.Ytplbclbeccoegaa
