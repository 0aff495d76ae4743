/-
  Walk of the statement on the document's disk.
-/
import Derived.Test.YtplbclbeccoegaaSame
import Derived.Test.YtplbclbeccoegaaRefActN
namespace Go.Proofs.Ytplbclbeccoegaa
open Go.RowKit Go.Maps
theorem ract_at {w : World} {B q : Nat} {d : DiskM} (h : Ref w B q d) (hf : WFD d) (hB : B ≤ w.heap.size) (hN : d.files.length ≤ 90000) (x : ActM) (hk : x.kind < 7) (hok : ActOk w w.heap.size x) (hsz : x.size ≤ 100000) :
    Calls Try.prog 11 #[.pointer (some ⟨q, 0, none⟩), .int .i64 (x.kind : Nat), .string x.a, .string x.b, .int .i64 x.at_, .slice x.dA x.dl.length x.dc] w fun e w' => e = .returned (.int .i64 (dAct d x).1) ∧ Ref w' B q (dAct d x).2 ∧ TBut B q w w' := by
  obtain ⟨kind, a, b, at_, dA, dl, dc, kA, kl, kc⟩ := x
  have hs1 : a.size ≤ 100000 ∧ b.size ≤ 100000 ∧ dl.length ≤ 100000 ∧ kl.length ≤ 100000 := by
    unfold ActM.size at hsz; simp only at hsz; omega
  have hdr := hok.dr
  have hdc := hok.dlc.1
  simp only at hk hdr hdc
  unfold dAct
  simp only
  have hcase : kind = 0 ∨ kind = 1 ∨ kind = 2 ∨ kind = 3 ∨ kind = 4 ∨ kind = 5 ∨ kind = 6 := by omega
  rcases hcase with rfl | rfl | rfl | rfl | rfl | rfl | rfl
  · rw [if_pos rfl]
    exact ract_append h hf hB hN a b (by omega) at_ dA dl.length dc dl rfl hdc (by omega) hdr
  · rw [if_neg (by omega), if_pos rfl]
    exact ract_sync h hf hN a b at_ dA dl.length dc
  · rw [if_neg (by omega), if_neg (by omega), if_pos rfl]
    exact ract_rename h hf hB hN a b (by omega) at_ dA dl.length dc
  · rw [if_neg (by omega), if_neg (by omega), if_neg (by omega), if_pos rfl]
    exact ract_remove h hf hB hN a b at_ dA dl.length dc
  · rw [if_neg (by omega), if_neg (by omega), if_neg (by omega), if_neg (by omega), if_pos rfl]
    exact ract_fuse h hN a b at_ dA dl.length dc
  · rw [if_neg (by omega), if_neg (by omega), if_neg (by omega), if_neg (by omega), if_neg (by omega), if_pos rfl]
    exact ract_harm h hf hB hN a b (by omega) at_ dA dl.length dc dl rfl (by omega) hdr
  · rw [if_neg (by omega), if_neg (by omega), if_neg (by omega), if_neg (by omega), if_neg (by omega), if_neg (by omega), if_pos rfl]
    exact ract_lose h hB hN a b at_ dA dl.length dc
theorem Disk.tbut {w w' : World} {p mb B q : Nat} {d d2 : DiskM} (hd : Disk w p mb d) (hr : Ref w B q d2) (hb : TBut B q w w') : Disk w' p mb d := by
  obtain ⟨es, hf, h⟩ := hd
  obtain ⟨v, es2, _, h2⟩ := hr
  exact ⟨es, hf, h.tbut h2.cells (slice_no8 h2.row) hb⟩
theorem Ref.but {w w' : World} {p mb B q : Nat} {d d2 : DiskM} (hr : Ref w B q d2) (hd : Disk w p mb d) (hb : But p mb w w') : Ref w' B q d2 := by
  obtain ⟨es, _, h⟩ := hd
  obtain ⟨v, es2, hf, h2⟩ := hr
  exact ⟨v, es2, hf, h2.but h hb⟩
theorem ActOk.up {w : World} {B : Nat} {x : ActM} (h : ActOk w B x) (hB : B ≤ w.heap.size) : ActOk w w.heap.size x :=
  ⟨h.kind, h.a, h.b, h.at_, h.dlc, h.dr.more hB, h.klc, h.kv, h.kr.more hB⟩
theorem ref_new {w : World} {B : Nat} (hB : B ≤ w.heap.size) (cap : Nat) : Ref (w.alloc (.cells #[.int .i64 (cap : Nat), .slice none 0 0, .int .i64 (-1), .bool false] 32)) B w.heap.size (dNew cap) :=
  ⟨.slice none 0 0, [], rfl, ⟨hB, Blk.new w _ _, FRow.nil _ _, up_nil, fun x hx => by cases hx⟩⟩
set_option maxHeartbeats 3200000 in
set_option maxRecDepth 100000 in
theorem diskPlays (cap : Int) (hcap : -9223372036854775808 ≤ cap ∧ cap ≤ 9223372036854775807) (A1 : Option Addr) (c1 : Nat) (l1 : List ActM) (w : World) (hr1 : Reads w w.heap.size 6 A1 l1.length (actCells l1))
    (ho1 : ∀ x ∈ l1, ActOk w w.heap.size x) (hm1 : ∀ x ∈ l1, ActSmall x 140737488355328) (hn1 : l1.length ≤ 140737488355328) :
    Calls Try.prog 3 #[.int .i64 cap, .slice A1 l1.length c1] w fun e w' => e = .returned (.bool true) ∧ Below w.heap.size w w' := by
  have R1 := Lib.hid hr1
  have O1 := Lib.hid ho1
  have M1 := Lib.hid hm1
  have HA := Lib.hid (awake_any w)
  clear hr1 ho1 hm1
  cases hf1 : fewGo 100 0 0 l1 with
  | false =>
    have hfw : Hid (∀ w1, Below w.heap.size w w1 → Calls Try.prog 8 #[.slice A1 l1.length c1, .int .i64 100] w1 fun e w' => e = .returned (.bool false) ∧ Below w1.heap.size w1 w') := fun w1 hb => by
      have := few_any A1 c1 l1 100 (by omega) w1 w.heap.size (R1.out.below hb) (fun x hx => (O1.out x hx).below hb) M1.out hn1
      rw [hf1] at this; exact this
    clear hf1
    go_enter Try.func3, Try.ntmps3
    go_wp2_with fail
    refine HA.out.mono ?_
    rintro e w1 ⟨rfl, hb1⟩
    have HB1 := Lib.hid hb1
    clear hb1
    go_wp2_with fail
    refine (hfw.out w1 HB1.out).mono ?_
    rintro e w2 ⟨rfl, hb2⟩
    have HB2 := Lib.hid (HB1.out.trans (hb2.mono HB1.out.size))
    clear hb2
    go_wp2_with fail
    refine (awake_any _).mono ?_
    rintro e w3 ⟨rfl, hb3⟩
    have HB3 := Lib.hid (HB2.out.trans (hb3.mono HB2.out.size))
    clear hb3
    go_wp2
    go_ret
    exact ⟨rfl, HB3.out⟩
  | true =>
    obtain ⟨q1, q2⟩ := fewGo_some l1 0 0 hf1 (by omega)
    have hfw : Hid (∀ w1, Below w.heap.size w w1 → Calls Try.prog 8 #[.slice A1 l1.length c1, .int .i64 100] w1 fun e w' => e = .returned (.bool true) ∧ Below w1.heap.size w1 w') := fun w1 hb => by
      have := few_any A1 c1 l1 100 (by omega) w1 w.heap.size (R1.out.below hb) (fun x hx => (O1.out x hx).below hb) M1.out hn1
      rw [hf1] at this; exact this
    have hl1 : l1.length ≤ 100 := by omega
    have Q1 := Lib.hid q2
    clear hf1 q1 q2
    by_cases hbad : cap < 0 ∨ 4194304 < cap
    · rcases (show cap < 0 ∨ (0 ≤ cap ∧ 4194304 < cap) by omega) with hneg | ⟨hpos, hbig⟩
      · have hg1 : decide (cap < 0) = true := by simp; omega
        go_enter Try.func3, Try.ntmps3
        go_wp2_with fail
        refine HA.out.mono ?_
        rintro e w1 ⟨rfl, hb1⟩
        have HB1 := Lib.hid hb1
        clear hb1
        go_wp2_with fail
        refine (hfw.out w1 HB1.out).mono ?_
        rintro e w2 ⟨rfl, hb2⟩
        have HB2 := Lib.hid (HB1.out.trans (hb2.mono HB1.out.size))
        clear hb2
        go_wp2_with fail
        refine (new_bad cap hbad _).mono ?_
        rintro e w4 ⟨rfl, rfl⟩
        go_wp2
        go_ret
        exact ⟨rfl, HB2.out⟩
      · have hg1 : decide (cap < 0) = false := by simp; omega
        have hg2 : decide (4194304 < cap) = true := by simp; omega
        go_enter Try.func3, Try.ntmps3
        go_wp2_with fail
        refine HA.out.mono ?_
        rintro e w1 ⟨rfl, hb1⟩
        have HB1 := Lib.hid hb1
        clear hb1
        go_wp2_with fail
        refine (hfw.out w1 HB1.out).mono ?_
        rintro e w2 ⟨rfl, hb2⟩
        have HB2 := Lib.hid (HB1.out.trans (hb2.mono HB1.out.size))
        clear hb2
        go_wp2_with fail
        refine (new_bad cap hbad _).mono ?_
        rintro e w4 ⟨rfl, rfl⟩
        go_wp2
        go_ret
        exact ⟨rfl, HB2.out⟩
    · obtain ⟨cn, rfl⟩ : ∃ cn : Nat, cap = cn := ⟨cap.toNat, by omega⟩
      have hcn : cn ≤ 4194304 := by omega
      have hcn0 : (0 : Int) ≤ (cn : Int) := by omega
      have hcn1 : (cn : Int) ≤ 4194304 := by omega
      clear hbad hcap
      go_enter Try.func3, Try.ntmps3
      go_wp2_with fail
      refine HA.out.mono ?_
      rintro e w1 ⟨rfl, hb1⟩
      have HB1 := Lib.hid hb1
      clear hb1
      go_wp2_with fail
      refine (hfw.out w1 HB1.out).mono ?_
      rintro e w2 ⟨rfl, hb2⟩
      have HB2 := Lib.hid (HB1.out.trans (hb2.mono HB1.out.size))
      clear hb2 HB1 hfw
      go_wp2_with fail
      refine (new_at cn hcn _).mono ?_
      rintro e w4 ⟨p, mb, rfl, hd, hp, hm, hb4⟩
      have hd' : Disk w4 p mb (dNew cn) := ⟨[], rfl, hd⟩
      have hbp : w.heap.size ≤ p := Nat.le_trans HB2.out.size hp
      have hbm : w.heap.size ≤ mb := Nat.le_trans HB2.out.size hm
      have hb4' := HB2.out.trans (hb4.mono HB2.out.size)
      have hx := (Below.refl w4.heap.size w4).alloc (Nat.le_refl _) (.cells #[.int .i64 (cn : Nat), .slice none 0 0, .int .i64 (-1), .bool false] 32)
      have HD := Lib.hid (hd'.below hx)
      have HR := Lib.hid (ref_new hb4'.size cn)
      have HB4 := Lib.hid (hb4'.trans (hx.mono hb4'.size))
      obtain ⟨q, hq⟩ : ∃ q, w4.heap.size = q := ⟨_, rfl⟩
      have hbq : w.heap.size ≤ q := by rw [← hq]; exact hb4'.size
      rw [hq] at HR
      clear hd hd' hb4 hb4' hp hm hx HB2
      go_wp2_with fail
      generalize w4.alloc (.cells #[.int .i64 (cn : Nat), .slice none 0 0, .int .i64 (-1), .bool false] 32) = w5 at *
      clear hq
      go_loopw [42] (fun v wr => ∃ (k : Nat) (d : DiskM), v = .int .i64 k ∧ k ≤ l1.length ∧ Hid (Disk wr p mb d) ∧ Hid (Ref wr w.heap.size q d) ∧ Hid (WFD d) ∧ d.files.length ≤ k ∧ Hid (Below w.heap.size w wr)) (fun v _ => l1.length - (intOf v).toNat)
      case atStart => exact ⟨0, _, rfl, by omega, HD, HR, wfNew cn hcn, Nat.le_refl _, HB4⟩
      case round =>
        obtain ⟨k, d, rfl, hk, hd, hrf, hwf, hdl, hb⟩ := hrel
        by_cases hlt : k < l1.length
        · obtain ⟨x, hx⟩ : ∃ x, l1[k]? = some x := ⟨_, List.getElem?_eq_getElem hlt⟩
          have hxm := List.mem_of_getElem? hx
          obtain ⟨ad, rfl, hadl, hcs⟩ := (R1.out.below hb.out).2 (by omega)
          obtain ⟨k0, k1, k2, k3, k4, k5⟩ := act_at hcs hx
          have hadl' : (ad.add (k * 6)).block < wr.heap.size := by rw [block_of_add]; exact Nat.lt_of_lt_of_le hadl hb.out.size
          have hxo := (O1.out x hxm).below hb.out
          have hat := (O1.out x hxm).at_.2
          have hkd := (O1.out x hxm).kind
          have HS := Lib.hid (Q1.out x hxm)
          have hsz : w.heap.size ≤ wr.heap.size := hb.out.size
          obtain ⟨kind, a, b, at_, dA, dl, dc, kA, kl, kc⟩ := x
          have hbx := (Below.refl wr.heap.size wr).alloc (Nat.le_refl _) (.cells #[.int .u8 (kind : Nat), .string a, .string b, .int .i64 at_, .slice dA dl.length dc, .slice kA kl.length kc] 36)
          have hxb : Blk (wr.alloc (.cells #[.int .u8 (kind : Nat), .string a, .string b, .int .i64 at_, .slice dA dl.length dc, .slice kA kl.length kc] 36)) wr.heap.size 36 #[.int .u8 (kind : Nat), .string a, .string b, .int .i64 at_, .slice dA dl.length dc, .slice kA kl.length kc] := Blk.new wr _ _
          have hd1 := hd.out.below hbx
          have hr1 := hrf.out.below hbx
          have hb1 := hb.out.trans (hbx.mono hsz)
          have ho1 := hxo.below (hbx.mono hsz)
          have hlt1 := hd.out.lt
          have hs1 := hbx.size
          simp only at k0 k1 k2 k3 k4 k5 hat hkd
          have HDO := Lib.hid (do_at hd1 hwf.out (by omega) ⟨kind, a, b, at_, dA, dl, dc, kA, kl, kc⟩ w.heap.size ho1 HS.out (Nat.le_trans hsz hs1) hbp hbm)
          have HD1 := Lib.hid hd1
          have HR1 := Lib.hid hr1
          have HB1 := Lib.hid hb1
          have HO1 := Lib.hid ho1
          have HXB := Lib.hid hxb
          clear hx hxm hcs hbx hxb hd1 hr1 hb1 ho1 hadl hxo
          go_wp2_with fail
          refine HDO.out.mono ?_
          rintro e w6 ⟨rfl, h6, hb6⟩
          have hgp : wr.heap.size ≠ p ∧ wr.heap.size ≠ mb := ⟨by omega, by omega⟩
          have hxb6 : Blk w6 wr.heap.size 36 #[.int .u8 (kind : Nat), .string a, .string b, .int .i64 at_, .slice dA dl.length dc, .slice kA kl.length kc] := (hb6.block _ HXB.out.lt hgp.1 hgp.2).trans HXB.out
          have hr6 := HR1.out.but HD1.out hb6
          have hbw6 := HB1.out.trans (hb6.toBelow (Nat.le_trans hsz hs1) hbp hbm)
          have ho6 := HO1.out.below (hb6.toBelow (Nat.le_trans hsz hs1) hbp hbm)
          have hw6 := hwf.out.act ⟨kind, a, b, at_, dA, dl, dc, kA, kl, kc⟩ hat
          have hl6 : (dAct d ⟨kind, a, b, at_, dA, dl, dc, kA, kl, kc⟩).2.files.length ≤ k + 1 := Nat.le_trans (act_length hwf.out _) (by omega)
          have hs6 := hbw6.size
          have y0 : w6.cell? ⟨wr.heap.size, 0, none⟩ = some (.int .u8 (kind : Nat)) := by rw [hxb6.cell]; rfl
          have y1 : w6.cell? ⟨wr.heap.size, 1, none⟩ = some (.string a) := by rw [hxb6.cell]; rfl
          have y2 : w6.cell? ⟨wr.heap.size, 2, none⟩ = some (.string b) := by rw [hxb6.cell]; rfl
          have y3 : w6.cell? ⟨wr.heap.size, 3, none⟩ = some (.int .i64 at_) := by rw [hxb6.cell]; rfl
          have y4 : w6.cell? ⟨wr.heap.size, 4, none⟩ = some (.slice dA dl.length dc) := by rw [hxb6.cell]; rfl
          have y5 : w6.cell? ⟨wr.heap.size, 5, none⟩ = some (.slice kA kl.length kc) := by rw [hxb6.cell]; rfl
          have H6 := Lib.hid h6
          have HR6 := Lib.hid hr6
          have HB6 := Lib.hid hbw6
          have HO6 := Lib.hid ho6
          have HW6 := Lib.hid hw6
          clear hgp hxb6 h6 hb6 hr6 hbw6 ho6 hw6 HDO HD1 HR1 HB1 HO1 HXB k0 k1 k2 k3 k4 k5 hadl' hlt1
          by_cases hk7 : kind < 7
          · have hk7' : decide ((kind : Int) < 7) = true := by simp; omega
            have HACT := Lib.hid (ract_at HR6.out hwf.out hs6 (by omega) ⟨kind, a, b, at_, dA, dl, dc, kA, kl, kc⟩ hk7 (ActOk.up HO6.out hs6) HS.out)
            simp only at HACT
            generalize dAct d ⟨kind, a, b, at_, dA, dl, dc, kA, kl, kc⟩ = de at *
            obtain ⟨e5, d5⟩ := de
            simp only at HACT H6 HW6 hl6 ⊢
            have hee : (e5 != e5) = false := by simp
            go_wp2_with fail
            refine HACT.out.mono ?_
            rintro e w7 ⟨rfl, hr7, hb7⟩
            have hd7 := H6.out.tbut HR6.out hb7
            have hb07 := HB6.out.trans (hb7.toBelow hs6 (Nat.le_refl _) hbq)
            have HSM := Lib.hid (same_at hd7 hr7 HW6.out (by omega))
            have H7 := Lib.hid hd7
            have HR7 := Lib.hid hr7
            have HB7 := Lib.hid hb07
            clear hd7 hb07 hr7 hb7 H6 HR6 HB6 HO6 y0 y1 y2 y3 y4 y5 HACT
            go_wp2_with fail
            refine HSM.out.mono ?_
            rintro e w8 ⟨rfl, hb8⟩
            have H8 := Lib.hid (H7.out.below hb8)
            have HR8 := Lib.hid (HR7.out.below hb8)
            have HB8 := Lib.hid (HB7.out.trans (hb8.mono HB7.out.size))
            clear hb8 HSM
            go_wp2
            go_roundw
            case rel => exact ⟨k + 1, d5, by go_num, by omega, H8, HR8, HW6, hl6, HB8⟩
            case measure => simp [intOf]; omega
          · have hk7' : decide ((kind : Int) < 7) = false := by simp; omega
            have hde : dAct d ⟨kind, a, b, at_, dA, dl, dc, kA, kl, kc⟩ = (0, dRestart d kl) := by
              unfold dAct
              simp only
              rw [if_neg (by omega), if_neg (by omega), if_neg (by omega), if_neg (by omega), if_neg (by omega), if_neg (by omega), if_neg (by omega)]
            have hkl : kl.length ≤ 10000000 := by
              have := HS.out
              unfold ActM.size at this
              simp only at this
              omega
            have HACT := Lib.hid (refRestart_at HR6.out hwf.out hs6 (by omega) kA kl.length kc kl rfl hkl HO6.out.kv (ActOk.up HO6.out hs6).kr)
            rw [hde] at H6 HW6 hl6 ⊢
            generalize dRestart d kl = d5 at *
            simp only at H6 HW6 hl6 ⊢
            clear hde
            go_wp2_with fail
            refine HACT.out.mono ?_
            rintro e w7 ⟨rfl, hr7, hb7⟩
            have hd7 := H6.out.tbut HR6.out hb7
            have hb07 := HB6.out.trans (hb7.toBelow hs6 (Nat.le_refl _) hbq)
            have HSM := Lib.hid (same_at hd7 hr7 HW6.out (by omega))
            have H7 := Lib.hid hd7
            have HR7 := Lib.hid hr7
            have HB7 := Lib.hid hb07
            clear hd7 hb07 hr7 hb7 H6 HR6 HB6 HO6 y0 y1 y2 y3 y4 y5 HACT
            go_wp2_with fail
            refine HSM.out.mono ?_
            rintro e w8 ⟨rfl, hb8⟩
            have H8 := Lib.hid (H7.out.below hb8)
            have HR8 := Lib.hid (HR7.out.below hb8)
            have HB8 := Lib.hid (HB7.out.trans (hb8.mono HB7.out.size))
            clear hb8 HSM
            go_wp2
            go_roundw
            case rel => exact ⟨k + 1, d5, by go_num, by omega, H8, HR8, HW6, hl6, HB8⟩
            case measure => simp [intOf]; omega
        · obtain rfl : k = l1.length := by omega
          go_wp2
          go_ret
          exact ⟨rfl, hb.out⟩
end Go.Proofs.Ytplbclbeccoegaa
