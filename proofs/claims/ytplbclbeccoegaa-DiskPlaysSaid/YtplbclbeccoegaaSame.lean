/-
  Walk of the statement's own test: the disk and the document's have the same.
-/
import Derived.Test.YtplbclbeccoegaaRefRestart
import Derived.Test.YtplbclbeccoegaaDiskSafeB
namespace Go.Proofs.Ytplbclbeccoegaa
open Go.RowKit Go.Maps
theorem dRead_at {cap : Nat} {files : List (Key × FileM)} {fuse : Int} {lost : Bool} (hup : Up files) {x : Key} {f : FileM} (hm : (x, f) ∈ files) : dRead ⟨cap, files, fuse, lost⟩ x = if lost = true then ([], 6) else (f.b, 0) := by
  unfold dRead
  simp only
  rw [fget_of_mem hup hm]
set_option maxRecDepth 100000 in
set_option maxHeartbeats 1600000 in
theorem same_at {w : World} {p mb B q : Nat} {d : DiskM} (h : Disk w p mb d) (hr : Ref w B q d) (hf : WFD d) (hN : d.files.length ≤ 90000) :
    Calls Try.prog 13 #[.pointer (some ⟨p, 0, none⟩), .pointer (some ⟨q, 0, none⟩)] w fun e w' => e = .returned (.bool true) ∧ Below w.heap.size w w' := by
  have HW := Lib.hid hf
  have Hnm := Lib.hid (names_at h (by omega))
  have HD := Lib.hid h
  have hcap := hf.cap
  have hroom := hf.room
  obtain ⟨v, es, hfi, hr⟩ := hr
  obtain ⟨A4, c4, rfl, hr4, hc4⟩ := hr.row.reads
  obtain ⟨n, hn⟩ : ∃ n, d.files.length = n := ⟨_, rfl⟩
  have hes : es.length = n := by rw [← hn, hfi]; simp [fmap]
  have hn9 : n ≤ 90000 := by omega
  rw [hes] at hr hr4 hc4
  have HR := Lib.hid hr
  have HR4 := Lib.hid hr4
  have HES := Lib.hid hes
  have HFI := Lib.hid hfi
  have HN := Lib.hid hn
  have HCR : Hid (d.cap ≤ 4194304 ∧ used (fmap FV.m es) ≤ d.cap) := ⟨hcap, by rw [← hfi]; exact hroom⟩
  have hro : Hid (d.room = d.cap - used (fmap FV.m es)) := by unfold DiskM.room; rw [hfi]; exact rfl
  rw [hn] at Hnm
  clear h hf hN hr hr4 hes hfi hn hcap hroom
  obtain ⟨ro, hro2⟩ : ∃ ro, d.cap - used (fmap FV.m es) = ro := ⟨_, rfl⟩
  have HRO2 := Lib.hid hro2
  clear hro2
  go_enter Try.func13, Try.ntmps13
  go_wp2_with fail
  refine Hnm.out.mono ?_
  rintro e w1 ⟨NA, nc, rfl, hnr, hb1⟩
  have hd1 := HD.out.below hb1
  have hr1 := HR.out.below hb1
  obtain ⟨lo, hlo⟩ : ∃ lo, d.lost = lo := ⟨_, rfl⟩
  rw [hlo] at hr1
  have HLO := Lib.hid hlo
  have m1 : ∀ dd os, (Sort.grow (redrawn w1 dd) os).cell? ⟨q, 1, none⟩ = some (.slice A4 n c4) := fun dd os => cell_regrown hr1.c1 dd os
  have m3 : ∀ dd os, (Sort.grow (redrawn w1 dd) os).cell? ⟨q, 3, none⟩ = some (.bool lo) := fun dd os => cell_regrown hr1.c3 dd os
  have Hro : Hid (∀ dd os, Calls Try.prog 16 #[.pointer (some ⟨p, 0, none⟩)] (Sort.grow (redrawn w1 dd) os) fun e w' => e = .returned (.int .i64 (ro : Nat)) ∧ Below (Sort.grow (redrawn w1 dd) os).heap.size (Sort.grow (redrawn w1 dd) os) w') := fun dd os => by
    have hh := room_at (hd1.below (below_regrown w1 dd os)) HW.out
    rw [hro.out, HRO2.out] at hh
    exact hh
  have Hrr : Hid (∀ dd os, Calls Try.prog 30 #[.pointer (some ⟨q, 0, none⟩)] (Sort.grow (redrawn w1 dd) os) fun e w' => e = .returned (.int .i64 (ro : Nat)) ∧ Below (Sort.grow (redrawn w1 dd) os).heap.size (Sort.grow (redrawn w1 dd) os) w') := fun dd os => by
    have hh := refRoom_at (hr1.below (below_regrown w1 dd os)) HCR.out.1 HCR.out.2 (by have := HES.out; omega)
    rw [HRO2.out] at hh
    exact hh.mono fun e w' ⟨h1, h2⟩ => ⟨h1, by subst h2; exact Below.refl _ _⟩
  have Hlo : Hid (∀ dd os, Calls Try.prog 20 #[.pointer (some ⟨p, 0, none⟩)] (Sort.grow (redrawn w1 dd) os) fun e w' => e = .returned (.bool lo) ∧ Below (Sort.grow (redrawn w1 dd) os).heap.size (Sort.grow (redrawn w1 dd) os) w') := fun dd os => by
    obtain ⟨es1, _, ha⟩ := hd1.below (below_regrown w1 dd os)
    have hc := ha.c3
    rw [HLO.out] at hc
    exact (lost_at p lo _ hc).mono fun e w' ⟨h1, h2⟩ => ⟨h1, by subst h2; exact Below.refl _ _⟩
  have g1 : ((n : Int) != (n : Int)) = false := by simp
  have g2 : ((ro : Int) != (ro : Int)) = false := by simp
  have g3 : (lo != lo) = false := by simp
  have HD1 := Lib.hid hd1
  have HR1 := Lib.hid hr1
  have HNR := Lib.hid hnr
  have HB1 := Lib.hid hb1
  clear hd1 hr1 hnr hb1 hlo Hnm HD HR
  go_wp2
  refine wp_region_quiet_below (by kernel_rfl) (by kernel_rfl) ?_
  repeat (go_big_quiet_step (first | (go_at_call 16; exact Calls.regrown_of (Hro.out _ _)) | (go_at_call 30; exact Calls.regrown_of (Hrr.out _ _)) | (go_at_call 20; exact Calls.regrown_of (Hlo.out _ _))))
  refine wpQuiet_nil ?_
  intro w2 hw2
  have hb2 : Below w1.heap.size w1 w2 := by
    obtain ⟨p, hw2⟩ := hw2
    rw [hw2]; exact below_regrown _ _ _
  clear hw2 m1 m3 Hro Hrr Hlo g1 g2 g3
  have HD2 := Lib.hid (HD1.out.below hb2)
  have HR2 := Lib.hid (HR1.out.below hb2)
  have HN2 := Lib.hid ((HNR.out.below hb2).more hb2.size)
  have HB2 := Lib.hid (HB1.out.trans (hb2.mono HB1.out.size))
  have HX2 := Lib.hid ((HR4.out.below (HB1.out.trans (hb2.mono HB1.out.size))).more HB2.out.size)
  clear hb2 HD1 HR1 HNR HB1 HR4
  go_wp2
  go_loopw [38] (fun v wr => ∃ (k : Nat), v = .int .i64 k ∧ k ≤ n ∧ Hid (Below w2.heap.size w2 wr)) (fun v _ => n - (intOf v).toNat)
  case atStart => exact ⟨0, rfl, by omega, Below.refl _ _⟩
  case round =>
    obtain ⟨k, rfl, hk, hb⟩ := hrel
    by_cases hlt : k < n
    · obtain ⟨q', hq⟩ : ∃ q', es[k]? = some q' := ⟨_, List.getElem?_eq_getElem (by have := HES.out; omega)⟩
      have hqm : q' ∈ es := List.mem_of_getElem? hq
      obtain ⟨x, ⟨⟨b, sf, ev⟩, A2, c2⟩⟩ := q'
      have hfm : (x, (⟨b, sf, ev⟩ : FileM)) ∈ d.files := by rw [HFI.out]; exact List.mem_map.2 ⟨_, hqm, rfl⟩
      have hke := HW.out.each _ hfm
      simp only at hke
      have hks : (⟨x.toArray⟩ : ByteArray).size ≤ maxLen := by
        have : (⟨x.toArray⟩ : ByteArray).size = x.length := by simp [ByteArray.size]
        rw [this]; unfold maxLen; omega
      have hkc : (keyCells d.files)[k]? = some (.string ⟨x.toArray⟩) := by rw [HFI.out]; unfold keyCells fmap; rw [List.getElem?_map, List.getElem?_map, hq]; rfl
      obtain ⟨na, rfl, _, hs1⟩ := (HN2.out.below hb.out).2 (by omega)
      obtain ⟨ad, rfl, hadl, hcs⟩ := (HX2.out.below hb.out).2 (by omega)
      have j1 := hs1 _ _ hkc
      obtain ⟨k0, k1, k2, k3⟩ := file_at hcs hq
      simp only at k0 k1 k2 k3
      have jl1 := cell_lt j1
      have c1 := (HR2.out.below hb.out).c1
      have hql := (HR2.out.below hb.out).cells.lt
      have jj0 : (0 : Int) ≤ (k : Int) := by omega
      have jj1 : (k : Int) < (n : Int) := by omega
      have hF := Blk.new wr 61 #[.string ⟨x.toArray⟩, .slice A2 b.length c2, .int .i64 (sf : Nat), .bool ev]
      have hbx : Below wr.heap.size wr (wr.alloc (.cells #[.string ⟨x.toArray⟩, .slice A2 b.length c2, .int .i64 (sf : Nat), .bool ev] 61)) := (Below.refl _ _).alloc (Nat.le_refl _) _
      have hbx2 := hb.out.trans (hbx.mono hb.out.size)
      have hd3 := HD2.out.below hbx2
      have hrd := read_at hd3 HW.out ⟨x.toArray⟩ hks
      rw [show (⟨x.toArray⟩ : ByteArray).data.toList = x from by simp, show dRead d x = if lo = true then ([], 6) else (b, 0) from by
        obtain ⟨cap, files, fuse, lost⟩ := d
        obtain rfl : lost = lo := HLO.out
        exact dRead_at HW.out.up hfm] at hrd
      have HRD := Lib.hid hrd
      have HKE := Lib.hid hke
      have HKS := Lib.hid hks
      have HFM := Lib.hid hfm
      have HQ := Lib.hid hq
      have HF := Lib.hid hF
      have HJ1 := Lib.hid j1
      have HBX := Lib.hid hbx
      have HBX2 := Lib.hid hbx2
      clear hqm hfm hke hks hkc hs1 hcs hF hbx hbx2 hd3 hrd hq hadl
      go_wp2_with fail
      refine HRD.out.mono ?_
      rintro e w5 ⟨RA, rc, rfl, hg5, hb5⟩
      have hF5 := HF.out.below hb5 HF.out.lt
      have hbr5 : Below wr.heap.size wr w5 := HBX.out.trans (hb5.mono HBX.out.size)
      have hb25 : Below w2.heap.size w2 w5 := HBX2.out.trans (hb5.mono HBX2.out.size)
      have hj5 : w5.cell? (na.add k) = some (.string ⟨x.toArray⟩) := (hbr5.cell jl1).trans HJ1.out
      have hd5 := HD2.out.below hb25
      have hr5 := HR2.out.below hb25
      have hx5 := hr5.bytes _ (List.mem_of_getElem? HQ.out)
      obtain ⟨gf, hgf⟩ : ∃ gf, wr.heap.size = gf := ⟨_, rfl⟩
      clear j1 k0 k1 k2 k3 c1 hql hbr5 jl1 HBX HBX2
      rw [hgf] at hF5 ⊢
      have y0 : ∀ dd os, (Sort.grow (redrawn w5 dd) os).cell? ⟨gf, 0, none⟩ = some (.string ⟨x.toArray⟩) := fun dd os => cell_regrown (by rw [hF5.cell]; rfl) dd os
      have y1 : ∀ dd os, (Sort.grow (redrawn w5 dd) os).cell? ⟨gf, 1, none⟩ = some (.slice A2 b.length c2) := fun dd os => cell_regrown (by rw [hF5.cell]; rfl) dd os
      have y3 : ∀ dd os, (Sort.grow (redrawn w5 dd) os).cell? ⟨q, 3, none⟩ = some (.bool lo) := fun dd os => cell_regrown hr5.c3 dd os
      have j1 : ∀ dd os, (Sort.grow (redrawn w5 dd) os).cell? (na.add k) = some (.string ⟨x.toArray⟩) := fun dd os => cell_regrown hj5 dd os
      have Hsa : Hid (∀ dd os, Calls Try.prog 18 #[.pointer (some ⟨p, 0, none⟩), .string ⟨x.toArray⟩] (Sort.grow (redrawn w5 dd) os) fun e w' => e = .returned (.bool (FileM.whole ⟨b, sf, ev⟩)) ∧ Below (Sort.grow (redrawn w5 dd) os).heap.size (Sort.grow (redrawn w5 dd) os) w') := fun dd os => by
        obtain ⟨es1, hf1, ha⟩ := hd5.below (below_regrown w5 dd os)
        have hh := safe_at ha ⟨x.toArray⟩ HKS.out
        rw [show (⟨x.toArray⟩ : ByteArray).data.toList = x from by simp, safeE_of hf1 HW.out.up HFM.out] at hh
        exact hh
      have Hwh : Hid (∀ dd os, Calls Try.prog 34 #[.pointer (some ⟨q, 0, none⟩), .string ⟨x.toArray⟩] (Sort.grow (redrawn w5 dd) os) fun e w' => e = .returned (.bool (FileM.whole ⟨b, sf, ev⟩)) ∧ Below (Sort.grow (redrawn w5 dd) os).heap.size (Sort.grow (redrawn w5 dd) os) w') := fun dd os =>
        refWhole_some (hr5.below (below_regrown w5 dd os)) ⟨x.toArray⟩ (n := k) (f := ⟨⟨b, sf, ev⟩, A2, c2⟩) (by simpa using HQ.out) (by have := HES.out; omega)
      obtain ⟨wh, hwh⟩ : ∃ wh, FileM.whole ⟨b, sf, ev⟩ = wh := ⟨_, rfl⟩
      rw [hwh] at Hsa Hwh
      have g1 : (x != x) = false := by simp
      have g2 : (wh != wh) = false := by simp
      have HB5 := Lib.hid hb25
      have HG5 := Lib.hid hg5
      have HX5 := Lib.hid hx5
      clear hwh hF5 hgf hg5 hb5 hb25 hj5 hd5 hr5 hx5 HRD HF HJ1
      cases lo with
      | true =>
        rw [if_pos rfl]
        clear HG5 HX5
        go_wp2
        refine wp_region_quiet_below (by kernel_rfl) (by kernel_rfl) ?_
        repeat (go_big_quiet_step (first | (go_at_call 18; exact Calls.regrown_of (Hsa.out _ _)) | (go_at_call 34; exact Calls.regrown_of (Hwh.out _ _))))
        refine wpQuiet_nil ?_
        intro w6 hw6
        have hb6 : Below w5.heap.size w5 w6 := by
          obtain ⟨p, hw6⟩ := hw6
          rw [hw6]; exact below_regrown _ _ _
        have HB6 := Lib.hid (HB5.out.trans (hb6.mono HB5.out.size))
        clear hw6 hb6 y0 y1 y3 j1 Hsa Hwh
        go_wp2
        go_roundw
        case rel => exact ⟨k + 1, by go_num, by omega, HB6⟩
        case measure => simp [intOf]; omega
      | false =>
        rw [if_neg (by simp)] at HG5 ⊢
        have v1 : ∀ dd os, (convert 33 9 (.slice RA b.length rc)).run Try.prog (Sort.grow (redrawn w5 dd) os) = .ok (.string ⟨b.toArray⟩) (Sort.grow (redrawn w5 dd) os) := fun dd os => conv_reads rfl (HG5.out.below (below_regrown w5 dd os))
        have v2 : ∀ dd os, (convert 33 9 (.slice A2 b.length c2)).run Try.prog (Sort.grow (redrawn w5 dd) os) = .ok (.string ⟨b.toArray⟩) (Sort.grow (redrawn w5 dd) os) := fun dd os => conv_reads rfl (HX5.out.reads.1.below (below_regrown w5 dd os))
        clear HG5 HX5
        go_wp2
        refine wp_region_quiet_below (by kernel_rfl) (by kernel_rfl) ?_
        repeat (go_big_quiet_step (first | (go_at_call 18; exact Calls.regrown_of (Hsa.out _ _)) | (go_at_call 34; exact Calls.regrown_of (Hwh.out _ _))))
        refine wpQuiet_nil ?_
        intro w6 hw6
        have hb6 : Below w5.heap.size w5 w6 := by
          obtain ⟨p, hw6⟩ := hw6
          rw [hw6]; exact below_regrown _ _ _
        have HB6 := Lib.hid (HB5.out.trans (hb6.mono HB5.out.size))
        clear hw6 hb6 y0 y1 y3 j1 Hsa Hwh
        go_wp2
        go_roundw
        case rel => exact ⟨k + 1, by go_num, by omega, HB6⟩
        case measure => simp [intOf]; omega
    · obtain rfl : k = n := by omega
      go_wp2
      go_ret
      exact ⟨rfl, HB2.out.trans (hb.out.mono HB2.out.size)⟩
end Go.Proofs.Ytplbclbeccoegaa
