/-
  Walk of the statement on clones.
-/
import Derived.Test.YtplbclbeccoegaaDiskDo
namespace Go.Proofs.Ytplbclbeccoegaa
open Go.RowKit Go.Maps
theorem Disk.other {w w' : World} {p mb q m2 : Nat} {d d2 : DiskM} (hd : Disk w p mb d) (h : Disk w q m2 d2) (hb : But p mb w w') (hq : q ≠ p) (hm : m2 ≠ mb) : Disk w' q m2 d2 := by
  obtain ⟨es, _, h1⟩ := hd
  obtain ⟨es2, hf, h2⟩ := h
  exact ⟨es2, hf, h1.other h2 hb hq hm⟩
theorem Disk.lt {w : World} {p mb : Nat} {d : DiskM} (h : Disk w p mb d) : p < w.heap.size ∧ mb < w.heap.size := by
  obtain ⟨es, _, h⟩ := h
  exact ⟨h.cells.lt, h.map.lt⟩
theorem conv_nil (c : Nat) (w : World) : (convert 33 9 (.slice none 0 c)).run Try.prog w = .ok (.string ⟨#[]⟩) w := by kernel_rfl
/-- string(b), whatever slice b is -/
theorem conv_reads {w : World} {B n c : Nat} {A : Option Addr} {l : List UInt8} (hl : l.length = n) (hr : Reads w B 1 A n (u8s l)) : (convert 33 9 (.slice A n c)).run Try.prog w = .ok (.string ⟨l.toArray⟩) w := by
  subst hl
  cases A with
  | none =>
    have h0 : l.length = 0 := by
      rcases Nat.eq_zero_or_pos l.length with h | h
      · exact h
      · obtain ⟨ad, h, _⟩ := hr.2 h; cases h
    have : l = [] := List.length_eq_zero_iff.1 h0
    subst this
    exact conv_nil c w
  | some a =>
    refine run_string_bytes w 33 9 5 a l c Try.underlying33 Try.underlying5 Try.underlying9 fun j b hj => ?_
    have hp : 0 < l.length := by
      rcases Nat.lt_or_ge j l.length with h | h
      · omega
      · rw [List.getElem?_eq_none h] at hj; cases hj
    obtain ⟨ad, e, _, hc⟩ := hr.2 hp
    injection e with e
    subst e
    exact hc j _ (by rw [u8s_get, hj]; rfl)
/-- an act that is loaded -/
theorem act_at {w : World} {k : Nat} {ad : Addr} {l : List ActM} {x : ActM} (hc : ∀ j u, (actCells l)[j]? = some u → w.cell? (ad.add j) = some u) (hx : l[k]? = some x) :
    w.cell? (ad.add (k * 6)) = some (.int .u8 (x.kind : Nat)) ∧ w.cell? ⟨(ad.add (k * 6)).block, (ad.add (k * 6)).off + 1, none⟩ = some (.string x.a) ∧ w.cell? ⟨(ad.add (k * 6)).block, (ad.add (k * 6)).off + 2, none⟩ = some (.string x.b) ∧ w.cell? ⟨(ad.add (k * 6)).block, (ad.add (k * 6)).off + 3, none⟩ = some (.int .i64 x.at_) ∧ w.cell? ⟨(ad.add (k * 6)).block, (ad.add (k * 6)).off + 4, none⟩ = some (.slice x.dA x.dl.length x.dc) ∧ w.cell? ⟨(ad.add (k * 6)).block, (ad.add (k * 6)).off + 5, none⟩ = some (.slice x.kA x.kl.length x.kc) := by
  have h : ∀ j u, j < 6 → x.cells[j]? = some u → w.cell? (ad.add (k * 6 + j)) = some u := fun j u hj hu => hc _ u (by rw [actCells_at l k x hx j hj]; exact hu)
  have h0 := h 0 _ (by omega) rfl
  have h1 := h 1 _ (by omega) rfl
  have h2 := h 2 _ (by omega) rfl
  have h3 := h 3 _ (by omega) rfl
  have h4 := h 4 _ (by omega) rfl
  have h5 := h 5 _ (by omega) rfl
  rw [add_k _ _ _ (by omega)] at h1 h2 h3 h4 h5
  exact ⟨h0, h1, h2, h3, h4, h5⟩
def dNew (cap : Nat) : DiskM := ⟨cap, [], -1, false⟩
theorem wfNew (cap : Nat) (h : cap ≤ 4194304) : WFD (dNew cap) := ⟨up_nil, Nat.zero_le _, h, by show (-1 : Int) ≤ -1; omega, by show (-1 : Int) ≤ _; omega, fun q hq => by cases hq⟩
set_option maxHeartbeats 3200000 in
set_option maxRecDepth 100000 in
theorem diskClones (cap : Int) (hcap : -9223372036854775808 ≤ cap ∧ cap ≤ 9223372036854775807) (A1 A2 : Option Addr) (c1 c2 : Nat) (l1 l2 : List ActM) (w : World) (hr1 : Reads w w.heap.size 6 A1 l1.length (actCells l1)) (hr2 : Reads w w.heap.size 6 A2 l2.length (actCells l2))
    (ho1 : ∀ x ∈ l1, ActOk w w.heap.size x) (ho2 : ∀ x ∈ l2, ActOk w w.heap.size x) (hm1 : ∀ x ∈ l1, ActSmall x 140737488355328) (hm2 : ∀ x ∈ l2, ActSmall x 140737488355328) (hn1 : l1.length ≤ 140737488355328) (hn2 : l2.length ≤ 140737488355328) :
    Calls Try.prog 4 #[.int .i64 cap, .slice A1 l1.length c1, .slice A2 l2.length c2] w fun e w' => e = .returned (.bool true) ∧ Below w.heap.size w w' := by
  have R1 := Lib.hid hr1
  have R2 := Lib.hid hr2
  have O1 := Lib.hid ho1
  have O2 := Lib.hid ho2
  have M1 := Lib.hid hm1
  have M2 := Lib.hid hm2
  have HA := Lib.hid (awake_any w)
  clear hr1 hr2 ho1 ho2 hm1 hm2
  cases hf1 : fewGo 60 0 0 l1 with
  | false =>
    have hfw : Hid (∀ w1, Below w.heap.size w w1 → Calls Try.prog 8 #[.slice A1 l1.length c1, .int .i64 60] w1 fun e w' => e = .returned (.bool false) ∧ Below w1.heap.size w1 w') := fun w1 hb => by
      have := few_any A1 c1 l1 60 (by omega) w1 w.heap.size (R1.out.below hb) (fun x hx => (O1.out x hx).below hb) M1.out hn1
      rw [hf1] at this; exact this
    clear hf1
    go_enter Try.func4, Try.ntmps4
    go_wp2_with fail
    refine HA.out.mono ?_
    rintro e w1 ⟨rfl, hb1⟩
    have HB1 := Lib.hid hb1
    clear hb1
    go_wp2_with fail
    refine (hfw.out w1 HB1.out).mono ?_
    rintro e w2 ⟨rfl, hb2⟩
    have HB2 := Lib.hid (HB1.out.trans (hb2.mono HB1.out.size))
    clear hb2
    go_wp2_with fail
    refine (awake_any _).mono ?_
    rintro e w3 ⟨rfl, hb3⟩
    have HB3 := Lib.hid (HB2.out.trans (hb3.mono HB2.out.size))
    clear hb3
    go_wp2
    go_ret
    exact ⟨rfl, HB3.out⟩
  | true =>
    obtain ⟨q1, q2⟩ := fewGo_some l1 0 0 hf1 (by omega)
    have hfw : Hid (∀ w1, Below w.heap.size w w1 → Calls Try.prog 8 #[.slice A1 l1.length c1, .int .i64 60] w1 fun e w' => e = .returned (.bool true) ∧ Below w1.heap.size w1 w') := fun w1 hb => by
      have := few_any A1 c1 l1 60 (by omega) w1 w.heap.size (R1.out.below hb) (fun x hx => (O1.out x hx).below hb) M1.out hn1
      rw [hf1] at this; exact this
    have hl1 : l1.length ≤ 60 := by omega
    have Q1 := Lib.hid q2
    clear hf1 q1 q2
    cases hf2 : fewGo 60 0 0 l2 with
    | false =>
      have hfw2 : Hid (∀ w1, Below w.heap.size w w1 → Calls Try.prog 8 #[.slice A2 l2.length c2, .int .i64 60] w1 fun e w' => e = .returned (.bool false) ∧ Below w1.heap.size w1 w') := fun w1 hb => by
        have := few_any A2 c2 l2 60 (by omega) w1 w.heap.size (R2.out.below hb) (fun x hx => (O2.out x hx).below hb) M2.out hn2
        rw [hf2] at this; exact this
      clear hf2
      go_enter Try.func4, Try.ntmps4
      go_wp2_with fail
      refine HA.out.mono ?_
      rintro e w1 ⟨rfl, hb1⟩
      have HB1 := Lib.hid hb1
      clear hb1
      go_wp2_with fail
      refine (hfw.out w1 HB1.out).mono ?_
      rintro e w2 ⟨rfl, hb2⟩
      have HB2 := Lib.hid (HB1.out.trans (hb2.mono HB1.out.size))
      clear hb2
      go_wp2_with fail
      refine (hfw2.out w2 HB2.out).mono ?_
      rintro e w3 ⟨rfl, hb3⟩
      have HB3 := Lib.hid (HB2.out.trans (hb3.mono HB2.out.size))
      clear hb3
      go_wp2_with fail
      refine (awake_any _).mono ?_
      rintro e w4 ⟨rfl, hb4⟩
      have HB4 := Lib.hid (HB3.out.trans (hb4.mono HB3.out.size))
      clear hb4
      go_wp2
      go_ret
      exact ⟨rfl, HB4.out⟩
    | true =>
      obtain ⟨q1, q2⟩ := fewGo_some l2 0 0 hf2 (by omega)
      have hfw2 : Hid (∀ w1, Below w.heap.size w w1 → Calls Try.prog 8 #[.slice A2 l2.length c2, .int .i64 60] w1 fun e w' => e = .returned (.bool true) ∧ Below w1.heap.size w1 w') := fun w1 hb => by
        have := few_any A2 c2 l2 60 (by omega) w1 w.heap.size (R2.out.below hb) (fun x hx => (O2.out x hx).below hb) M2.out hn2
        rw [hf2] at this; exact this
      have hl2 : l2.length ≤ 60 := by omega
      have Q2 := Lib.hid q2
      clear hf2 q1 q2
      by_cases hbad : cap < 0 ∨ 4194304 < cap
      · go_enter Try.func4, Try.ntmps4
        go_wp2_with fail
        refine HA.out.mono ?_
        rintro e w1 ⟨rfl, hb1⟩
        have HB1 := Lib.hid hb1
        clear hb1
        go_wp2_with fail
        refine (hfw.out w1 HB1.out).mono ?_
        rintro e w2 ⟨rfl, hb2⟩
        have HB2 := Lib.hid (HB1.out.trans (hb2.mono HB1.out.size))
        clear hb2
        go_wp2_with fail
        refine (hfw2.out w2 HB2.out).mono ?_
        rintro e w3 ⟨rfl, hb3⟩
        have HB3 := Lib.hid (HB2.out.trans (hb3.mono HB2.out.size))
        clear hb3
        go_wp2_with fail
        refine (new_bad cap hbad _).mono ?_
        rintro e w4 ⟨rfl, rfl⟩
        go_wp2
        go_ret
        exact ⟨rfl, HB3.out⟩
      · obtain ⟨cn, rfl⟩ : ∃ cn : Nat, cap = cn := ⟨cap.toNat, by omega⟩
        have hcn : cn ≤ 4194304 := by omega
        clear hbad hcap
        go_enter Try.func4, Try.ntmps4
        go_wp2_with fail
        refine HA.out.mono ?_
        rintro e w1 ⟨rfl, hb1⟩
        have HB1 := Lib.hid hb1
        clear hb1
        go_wp2_with fail
        refine (hfw.out w1 HB1.out).mono ?_
        rintro e w2 ⟨rfl, hb2⟩
        have HB2 := Lib.hid (HB1.out.trans (hb2.mono HB1.out.size))
        clear hb2
        go_wp2_with fail
        refine (hfw2.out w2 HB2.out).mono ?_
        rintro e w3 ⟨rfl, hb3⟩
        have HB3 := Lib.hid (HB2.out.trans (hb3.mono HB2.out.size))
        clear hb3 HB1 HB2 hfw hfw2
        go_wp2_with fail
        refine (new_at cn hcn _).mono ?_
        rintro e w4 ⟨p, mb, rfl, hd, hp, hm, hb4⟩
        have HD : Hid (Disk w4 p mb (dNew cn)) := ⟨[], rfl, hd⟩
        have HB4 := Lib.hid (HB3.out.trans (hb4.mono HB3.out.size))
        have hbp : w.heap.size ≤ p := Nat.le_trans HB3.out.size hp
        have hbm : w.heap.size ≤ mb := Nat.le_trans HB3.out.size hm
        clear hd hb4 hp hm HB3
        go_wp2
        go_loopw [44] (fun v wr => ∃ (k : Nat) (d : DiskM), v = .int .i64 k ∧ k ≤ l1.length ∧ Hid (Disk wr p mb d) ∧ Hid (WFD d) ∧ d.files.length ≤ k ∧ Hid (Below w.heap.size w wr)) (fun v _ => l1.length - (intOf v).toNat)
        case atStart => exact ⟨0, _, rfl, by omega, HD, wfNew cn hcn, Nat.le_refl _, HB4⟩
        case round =>
          obtain ⟨k, d, rfl, hk, hd, hwf, hdl, hb⟩ := hrel
          by_cases hlt : k < l1.length
          · obtain ⟨x, hx⟩ : ∃ x, l1[k]? = some x := ⟨_, List.getElem?_eq_getElem hlt⟩
            have hxm := List.mem_of_getElem? hx
            obtain ⟨ad, rfl, _, hcs⟩ := (R1.out.below hb.out).2 (by omega)
            obtain ⟨k0, k1, k2, k3, k4, k5⟩ := act_at hcs hx
            have HO := Lib.hid ((O1.out x hxm).below hb.out)
            have hat := (O1.out x hxm).at_.2
            have HS := Lib.hid (Q1.out x hxm)
            have hsz : w.heap.size ≤ wr.heap.size := hb.out.size
            clear hx hxm hcs
            go_wp2_with fail
            refine (do_at hd.out hwf.out (by omega) x w.heap.size HO.out HS.out hsz hbp hbm).mono ?_
            rintro e w5 ⟨rfl, h5, hb5⟩
            have H5 := Lib.hid h5
            have HB5 := Lib.hid (hb.out.trans (hb5.toBelow hsz hbp hbm))
            have HW5 := Lib.hid (hwf.out.act x hat)
            have hl5 : (dAct d x).2.files.length ≤ k + 1 := Nat.le_trans (act_length hwf.out x) (by omega)
            clear h5 hb5 k0 k1 k2 k3 k4 k5
            generalize (dAct d x).2 = d5 at *
            generalize (dAct d x).1 = e5 at *
            go_wp2
            go_roundw
            case rel => exact ⟨k + 1, d5, by go_num, by omega, H5, HW5, hl5, HB5⟩
            case measure => simp [intOf]; omega
          · obtain rfl : k = l1.length := by omega
            have hd60 : d.files.length < 1000000 := by omega
            have hlt0 := hd.out.lt
            clear hk hlt
            go_wp2_with fail
            refine (clone_at hd.out hwf.out hd60).mono ?_
            rintro e w5 ⟨q1, o1, rfl, hc1, hq1, ho1, hb5⟩
            have HD5 := Lib.hid (hd.out.below hb5)
            have HC5 := Lib.hid hc1
            have HB5 := Lib.hid (hb.out.trans (hb5.mono hb.out.size))
            have hlt1 := hc1.lt
            have hs5 := hb5.size
            have hsz := hb.out.size
            clear hc1 hb5
            go_wp2_with fail
            refine (clone_at HD5.out hwf.out hd60).mono ?_
            rintro e w6 ⟨q2, o2, rfl, hc2, hq2, ho2, hb6⟩
            have HD6 := Lib.hid (HD5.out.below hb6)
            have HC6 := Lib.hid (HC5.out.below hb6)
            have HX6 := Lib.hid hc2
            have HB6 := Lib.hid (HB5.out.trans (hb6.mono HB5.out.size))
            have e1 : q1 ≠ p ∧ o1 ≠ mb ∧ q2 ≠ p ∧ o2 ≠ mb ∧ q2 ≠ q1 ∧ o2 ≠ o1 := ⟨by omega, by omega, by omega, by omega, by omega, by omega⟩
            have HNE : Hid (q1 ≠ p ∧ o1 ≠ mb ∧ q2 ≠ p ∧ o2 ≠ mb ∧ q2 ≠ q1 ∧ o2 ≠ o1) := e1
            have hbq : w.heap.size ≤ q1 := by omega
            have hbo : w.heap.size ≤ o1 := by omega
            clear e1 hc2 hb6 hlt0 hlt1 hs5 hsz hq1 ho1 hq2 ho2 HD5 HC5 HB5
            go_wp2
            go_loopw [60] (fun v wr => ∃ (k : Nat) (dc : DiskM), v = .int .i64 k ∧ k ≤ l2.length ∧ Hid (Disk wr q1 o1 dc) ∧ Hid (WFD dc) ∧ dc.files.length ≤ 60 + k ∧ Hid (Disk wr p mb d) ∧ Hid (Disk wr q2 o2 d) ∧ Hid (Below w.heap.size w wr)) (fun v _ => l2.length - (intOf v).toNat)
            case atStart => exact ⟨0, d, rfl, by omega, HC6, hwf, by omega, HD6, HX6, HB6⟩
            case round =>
              obtain ⟨k, dc, rfl, hk, hc, hwc, hdl, hd, hx, hb⟩ := hrel
              by_cases hlt : k < l2.length
              · obtain ⟨x, hx2⟩ : ∃ x, l2[k]? = some x := ⟨_, List.getElem?_eq_getElem hlt⟩
                have hxm := List.mem_of_getElem? hx2
                obtain ⟨ad, rfl, _, hcs⟩ := (R2.out.below hb.out).2 (by omega)
                obtain ⟨k0, k1, k2, k3, k4, k5⟩ := act_at hcs hx2
                have HO := Lib.hid ((O2.out x hxm).below hb.out)
                have hat := (O2.out x hxm).at_.2
                have HS := Lib.hid (Q2.out x hxm)
                have hsz : w.heap.size ≤ wr.heap.size := hb.out.size
                clear hx2 hxm hcs
                go_wp2_with fail
                refine (do_at hc.out hwc.out (by omega) x w.heap.size HO.out HS.out hsz hbq hbo).mono ?_
                rintro e w7 ⟨rfl, h7, hb7⟩
                have H7 := Lib.hid h7
                have HB7 := Lib.hid (hb.out.trans (hb7.toBelow hsz hbq hbo))
                have HW7 := Lib.hid (hwc.out.act x hat)
                have hl7 : (dAct dc x).2.files.length ≤ 60 + (k + 1) := Nat.le_trans (act_length hwc.out x) (by omega)
                have HD7 := Lib.hid (hc.out.other hd.out hb7 (fun e => HNE.out.1 e.symm) (fun e => HNE.out.2.1 e.symm))
                have HX7 := Lib.hid (hc.out.other hx.out hb7 HNE.out.2.2.2.2.1 HNE.out.2.2.2.2.2)
                clear h7 hb7 k0 k1 k2 k3 k4 k5
                generalize (dAct dc x).2 = d7 at *
                generalize (dAct dc x).1 = e7 at *
                go_wp2
                go_roundw
                case rel => exact ⟨k + 1, d7, by go_num, by omega, H7, HW7, hl7, HD7, HX7, HB7⟩
                case measure => simp [intOf]; omega
              · obtain rfl : k = l2.length := by omega
                clear hk hlt hc hwc hdl
                go_wp2_with fail
                refine (names_at hd.out hd60).mono ?_
                rintro e w7 ⟨N1, n1, rfl, hr1, hb7⟩
                have HD7 := Lib.hid (hd.out.below hb7)
                have HX7 := Lib.hid (hx.out.below hb7)
                have HR7 := Lib.hid hr1
                have HB7 := Lib.hid (hb.out.trans (hb7.mono hb.out.size))
                clear hr1 hb7
                go_wp2_with fail
                refine (names_at HX7.out hd60).mono ?_
                rintro e w8 ⟨N2, n2, rfl, hr2, hb8⟩
                have HD8 := Lib.hid (HD7.out.below hb8)
                have HX8 := Lib.hid (HX7.out.below hb8)
                have HR8 := Lib.hid ((HR7.out.below hb8).more hb8.size)
                have HS8 := Lib.hid hr2
                have HB8 := Lib.hid (HB7.out.trans (hb8.mono HB7.out.size))
                clear hr2 hb8
                go_wp2_with fail
                refine (room_at HD8.out hwf.out).mono ?_
                rintro e w9 ⟨rfl, hb9⟩
                have HD9 := Lib.hid (HD8.out.below hb9)
                have HX9 := Lib.hid (HX8.out.below hb9)
                have HR9 := Lib.hid ((HR8.out.below hb9).more hb9.size)
                have HS9 := Lib.hid ((HS8.out.below hb9).more hb9.size)
                have HB9 := Lib.hid (HB8.out.trans (hb9.mono HB8.out.size))
                clear hb9
                go_wp2_with fail
                refine (room_at HX9.out hwf.out).mono ?_
                rintro e w10 ⟨rfl, hb10⟩
                have HD10 := Lib.hid (HD9.out.below hb10)
                have HX10 := Lib.hid (HX9.out.below hb10)
                have HR10 := Lib.hid ((HR9.out.below hb10).more hb10.size)
                have HS10 := Lib.hid ((HS9.out.below hb10).more hb10.size)
                have HB10 := Lib.hid (HB9.out.trans (hb10.mono HB9.out.size))
                clear hb10
                generalize d.room = ro at *
                go_wp2
                go_loopw [88] (fun v wr => ∃ (k : Nat), v = .int .i64 k ∧ k ≤ d.files.length ∧ Hid (Disk wr p mb d) ∧ Hid (Disk wr q2 o2 d) ∧ Hid (Below w10.heap.size w10 wr)) (fun v _ => d.files.length - (intOf v).toNat)
                case atStart => exact ⟨0, rfl, by omega, HD10, HX10, Below.refl _ _⟩
                case round =>
                  obtain ⟨k, rfl, hk, hd, hx, hb⟩ := hrel
                  by_cases hlt : k < d.files.length
                  · obtain ⟨q, hq⟩ : ∃ q, d.files[k]? = some q := ⟨_, List.getElem?_eq_getElem hlt⟩
                    have hke := hwf.out.each q (List.mem_of_getElem? hq)
                    have hkc : (keyCells d.files)[k]? = some (.string ⟨q.1.toArray⟩) := by unfold keyCells; rw [List.getElem?_map, hq]; rfl
                    obtain ⟨a1, rfl, _, hs1⟩ := (HR10.out.below hb.out).2 (by omega)
                    obtain ⟨a2, rfl, _, hs2⟩ := (HS10.out.below hb.out).2 (by omega)
                    have j1 := hs1 _ _ hkc
                    have j2 := hs2 _ _ hkc
                    have J1 := Lib.hid j1
                    have J2 := Lib.hid j2
                    have hks : (⟨q.1.toArray⟩ : ByteArray).size ≤ maxLen := by
                      have : (⟨q.1.toArray⟩ : ByteArray).size = q.1.length := by simp [ByteArray.size]
                      rw [this]; unfold maxLen; omega
                    have hrl : (dRead d (⟨q.1.toArray⟩ : ByteArray).data.toList).1.length = (dRead d (⟨q.1.toArray⟩ : ByteArray).data.toList).1.length := rfl
                    clear hs1 hs2 hq hke hkc j2 hrl
                    go_wp2_with fail
                    refine (read_at hd.out hwf.out ⟨q.1.toArray⟩ hks).mono ?_
                    rintro e w11 ⟨B1, b1, rfl, hg1, hb11⟩
                    have HD11 := Lib.hid (hd.out.below hb11)
                    have HX11 := Lib.hid (hx.out.below hb11)
                    have HG11 := Lib.hid hg1
                    have HB11 := Lib.hid (hb.out.trans (hb11.mono hb.out.size))
                    have HJ := Lib.hid hb11
                    have j1' : w11.cell? (a1.add k) = some (.string ⟨q.1.toArray⟩) := (hb11.cell (cell_lt J1.out)).trans J1.out
                    clear hg1 hb11 j1
                    go_wp2_with fail
                    refine (read_at HX11.out hwf.out ⟨q.1.toArray⟩ hks).mono ?_
                    rintro e w12 ⟨B2, b2, rfl, hg2, hb12⟩
                    have HD12 := Lib.hid (HD11.out.below hb12)
                    have HX12 := Lib.hid (HX11.out.below hb12)
                    have HB12 := Lib.hid (HB11.out.trans (hb12.mono HB11.out.size))
                    have hg1 := (HG11.out.below hb12).more hb12.size
                    have i1 : w12.cell? (a1.add k) = some (.string ⟨q.1.toArray⟩) := (hb12.cell (cell_lt j1')).trans j1'
                    have i2 : w12.cell? (a2.add k) = some (.string ⟨q.1.toArray⟩) := (hb12.cell (Nat.lt_of_lt_of_le (cell_lt J2.out) HJ.out.size)).trans ((HJ.out.cell (cell_lt J2.out)).trans J2.out)
                    generalize (dRead d (⟨q.1.toArray⟩ : ByteArray).data.toList).1 = bs at *
                    generalize (dRead d (⟨q.1.toArray⟩ : ByteArray).data.toList).2 = er at *
                    have v1 := conv_reads (w := w12.drew) (c := b1) rfl hg1.drew
                    have v2 := conv_reads (w := w12.drew) (c := b2) rfl hg2.drew
                    have hne : (er != er) = false := by simp
                    clear hg1 hg2 hb12 j1'
                    go_wp2
                    go_region
                    have HD13 := Lib.hid (HD12.out.below ((Below.refl _ w12).drew))
                    have HX13 := Lib.hid (HX12.out.below ((Below.refl _ w12).drew))
                    have HB13 := Lib.hid HB12.out.drew
                    go_wp2
                    go_roundw
                    case rel => exact ⟨k + 1, by go_num, by omega, HD13, HX13, HB13⟩
                    case measure => simp [intOf]; omega
                  · obtain rfl : k = d.files.length := by omega
                    go_wp2
                    go_ret
                    exact ⟨rfl, HB10.out.trans (hb.out.mono HB10.out.size)⟩
end Go.Proofs.Ytplbclbeccoegaa
