/-
  Walks of the disk's changes: Remove, Sync.
-/
import Derived.Test.YtplbclbeccoegaaDiskWalk3
namespace Go.Proofs.Ytplbclbeccoegaa
open Go.RowKit Go.Maps
set_option maxRecDepth 100000 in
theorem remove_at {w : World} {p mb : Nat} {d : DiskM} (h : Disk w p mb d) (hf : WFD d) (s : ByteArray) (hs : s.size ≤ maxLen) :
    Calls Try.prog 24 #[.pointer (some ⟨p, 0, none⟩), .string s] w fun e w' => e = .returned (.int .i64 (dRemove d s.data.toList).1) ∧ Disk w' p mb (dRemove d s.data.toList).2 ∧ But p mb w w' := by
  have hf0 := hf.fuse0
  have hf1 := hf.fuse1
  clear hf
  obtain ⟨cap, files, fuse, lost⟩ := d
  obtain ⟨es, hf, h⟩ := h
  obtain rfl : files = fmap FV.m es := hf
  have Ht := Lib.hid (there_at h s hs)
  have H := Lib.hid h
  unfold dRemove
  simp only [fget_m] at hf0 hf1 ⊢
  cases lost with
  | true =>
    clear h
    go_enter Try.func24, Try.ntmps24
    go_wp2_with fail
    refine Ht.out.mono ?_
    rintro e w1 ⟨rfl, hb⟩
    go_wp2
    go_ret
    exact ⟨rfl, ⟨es, rfl, H.out.below hb⟩, But.of_below hb⟩
  | false =>
    cases hg : fget s.data.toList es with
    | none =>
      rw [hg] at Ht
      clear h hg
      go_enter Try.func24, Try.ntmps24
      go_wp2_with fail
      refine Ht.out.mono ?_
      rintro e w1 ⟨rfl, hb⟩
      go_wp2
      go_ret
      exact ⟨rfl, ⟨es, rfl, H.out.below hb⟩, But.of_below hb⟩
    | some f =>
      rw [hg] at Ht
      clear h hg
      go_enter Try.func24, Try.ntmps24
      go_wp2_with fail
      refine Ht.out.mono ?_
      rintro e w1 ⟨rfl, hb⟩
      have HB := Lib.hid hb
      have Hu := Lib.hid (burns_at (H.out.below hb) hf0 hf1)
      clear hb
      go_wp2_with fail
      refine Hu.out.mono ?_
      rintro e w2 ⟨rfl, h2, hb2⟩
      have HB2 := Lib.hid ((But.of_below HB.out).trans hb2)
      by_cases hz : fuse = 0
      · have H2 := Lib.hid h2
        have hd : decide (fuse = 0) = true := by simp [hz]
        rw [hd] at H2 ⊢
        clear h2 hb2 HB
        go_wp2
        go_ret
        subst hz
        exact ⟨rfl, ⟨es, rfl, H2.out⟩, HB2.out⟩
      · have hd : decide (fuse = 0) = false := by simp [hz]
        have c1 := h2.c1
        obtain ⟨w3, hrun, hm, ht⟩ := drop_run h2.map s hs 0
        obtain ⟨hdr, hb3⟩ := h2.drop s.data.toList hm ht
        have Hd := Lib.hid hdr
        have Hb := Lib.hid (HB2.out.trans hb3)
        rw [hd] at Hd ⊢
        clear h2 hb2 HB hm ht hdr hb3
        go_wp2
        go_ret
        exact ⟨rfl, ⟨_, (fdel_fmap FV.m _ es).symm, by show DiskAt _ _ _ _ _ _ (decide (fuse = 0)); rw [hd]; exact Hd.out⟩, Hb.out⟩
theorem sync_nil (s : ByteArray) (w : World) : Calls Try.prog 21 #[.pointer none, .string s] w fun e w' => e = .returned (.int .i64 1) ∧ Below w.heap.size w w' := by
  have Hg := Lib.hid (there_nil s w)
  go_enter Try.func21, Try.ntmps21
  go_wp2_with fail
  refine Hg.out.mono ?_
  rintro e w1 ⟨rfl, hb⟩
  go_wp2
  go_ret
  exact ⟨rfl, hb⟩
/-- a file is put -/
theorem DiskAt.store {w w1 w' : World} {p mb cap cap0 : Nat} {es : List (Key × FV)} {fuse fuse0 : Int} {lost lost0 : Bool} (h : DiskAt w p mb es cap0 fuse0 lost0) (hw : But p mb w w1) (hc : Blk w1 p 55 (dcells mb cap fuse lost)) (k : Key) (v : FV) {n : Nat} (hm : w'.ownsMap Try.prog 9 heldR mb n (dmap heldF (fput k v es))) (ht : w1.mapTurned w' mb)
    (hv : Reads w' w'.heap.size 1 v.a v.m.b.length (u8s v.m.b) ∧ v.m.b.length ≤ v.c) :
    DiskAt w' p mb (fput k v es) cap fuse lost ∧ But p mb w w' := by
  have hb := hw.turned ht
  refine ⟨h.turn hb ?_ hm (up_fput h.up) fun q hq => ?_, hb⟩
  · exact hc.grown ht.grown (fun e => h.ne (by injection e))
  · rcases mem_fput hq with rfl | hq
    · exact .inr hv
    · exact .inl hq
theorem store_some {w : World} {mb n : Nat} {es : List (Key × FV)} (h : w.ownsMap Try.prog 9 heldR mb n (dmap heldF es)) (hup : Up es) (hn : n < maxLen) (s : ByteArray) (hs : s.size ≤ maxLen) (b : List UInt8) (sf : Nat) (ev : Bool) (A : Option Addr) (c : Nat) :
    ∃ w', (Instr.mapUpdate 53 (.map (some mb)) (.string s) (.agg #[.slice A b.length c, .int .i64 (sf : Nat), .bool ev])).run Try.prog w = .ok () w' ∧ w'.ownsMap Try.prog 9 heldR mb (n + 1) (dmap heldF (fput s.data.toList ⟨⟨b, sf, ev⟩, A, c⟩ es)) ∧ w.mapTurned w' mb :=
  store_run h hup hn s hs ⟨⟨b, sf, ev⟩, A, c⟩
set_option maxRecDepth 100000 in
theorem sync_at {w : World} {p mb : Nat} {d : DiskM} (h : Disk w p mb d) (hf : WFD d) (hN : d.files.length < 1000000) (s : ByteArray) (hs : s.size ≤ maxLen) :
    Calls Try.prog 21 #[.pointer (some ⟨p, 0, none⟩), .string s] w fun e w' => e = .returned (.int .i64 (dSync d s.data.toList).1) ∧ Disk w' p mb (dSync d s.data.toList).2 ∧ But p mb w w' := by
  have hf0 := hf.fuse0
  have hf1 := hf.fuse1
  clear hf
  obtain ⟨cap, files, fuse, lost⟩ := d
  obtain ⟨es, hf, h⟩ := h
  obtain rfl : files = fmap FV.m es := hf
  have hN' : es.length < 1000000 := by simpa [fmap] using hN
  clear hN
  have Ht := Lib.hid (there_at h s hs)
  have H := Lib.hid h
  unfold dSync
  simp only [fget_m] at hf0 hf1 ⊢
  cases lost with
  | true =>
    clear h
    go_enter Try.func21, Try.ntmps21
    go_wp2_with fail
    refine Ht.out.mono ?_
    rintro e w1 ⟨rfl, hb⟩
    go_wp2
    go_ret
    exact ⟨rfl, ⟨es, rfl, H.out.below hb⟩, But.of_below hb⟩
  | false =>
    cases hg : fget s.data.toList es with
    | none =>
      rw [hg] at Ht
      clear h hg
      go_enter Try.func21, Try.ntmps21
      go_wp2_with fail
      refine Ht.out.mono ?_
      rintro e w1 ⟨rfl, hb⟩
      go_wp2
      go_ret
      exact ⟨rfl, ⟨es, rfl, H.out.below hb⟩, But.of_below hb⟩
    | some f =>
      obtain ⟨⟨b, sf, ev⟩, A, c⟩ := f
      rw [hg] at Ht
      have Hg := Lib.hid hg
      clear h hg
      go_enter Try.func21, Try.ntmps21
      go_wp2_with fail
      refine Ht.out.mono ?_
      rintro e w1 ⟨rfl, hb⟩
      have HB := Lib.hid hb
      have Hu := Lib.hid (burns_at (H.out.below hb) hf0 hf1)
      clear hb
      go_wp2_with fail
      refine Hu.out.mono ?_
      rintro e w2 ⟨rfl, h2, hb2⟩
      have HB2 := Lib.hid ((But.of_below HB.out).trans hb2)
      by_cases hz : fuse = 0
      · have H2 := Lib.hid h2
        have hd : decide (fuse = 0) = true := by simp [hz]
        rw [hd] at H2 ⊢
        clear h2 hb2 HB
        go_wp2
        go_ret
        subst hz
        exact ⟨rfl, ⟨es, rfl, H2.out⟩, HB2.out⟩
      · have hd : decide (fuse = 0) = false := by simp [hz]
        have c1 := h2.c1
        have H2 := Lib.hid h2
        have hl := look1_some h2.map s hs Hg.out
        rw [hd] at H2 ⊢
        clear h2 hb2 HB
        obtain ⟨w3, hrun, hm, ht⟩ := store_some (((H2.out.map.alloc (.cells #[.slice A b.length c, .int .i64 (b.length : Nat), .bool true] 65)).drew)) H2.out.up (by unfold maxLen; omega) s hs b b.length true A c
        have c1' := Lib.cell?_alloc_some (.cells #[.slice A b.length c, .int .i64 (b.length : Nat), .bool true] 65) c1
        have hb3 : But p mb w2 (w2.alloc (.cells #[.slice A b.length c, .int .i64 (b.length : Nat), .bool true] 65)).drew := ((But.refl _ _ _).alloc _).drew
        have hk := H2.out.bytes _ (fget_mem Hg.out)
        obtain ⟨hst, hbt⟩ := H2.out.store hb3 ((H2.out.cells.alloc _).drew) s.data.toList ⟨⟨b, b.length, true⟩, A, c⟩ hm ht ⟨H2.out.reads_but (hb3.turned ht) hk.1, hk.2⟩
        have HS := Lib.hid hst
        have HT := Lib.hid (HB2.out.trans hbt)
        clear hm ht hst hbt hb3 hk
        go_wp2
        go_region
        go_wp2
        go_ret
        exact ⟨rfl, ⟨_, (fput_fmap FV.m _ ⟨⟨b, b.length, true⟩, A, c⟩ es).symm, by show DiskAt _ _ _ _ _ _ (decide (fuse = 0)); rw [hd]; exact HS.out⟩, HT.out⟩
end Go.Proofs.Ytplbclbeccoegaa
