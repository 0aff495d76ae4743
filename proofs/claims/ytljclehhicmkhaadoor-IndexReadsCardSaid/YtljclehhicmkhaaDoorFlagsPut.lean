/-
  Walk: the page of flags.
-/
import Derived.Test.YtljclehhicmkhaaDoorMark
namespace Go.Proofs.YtljclehhicmkhaaDoor
open Go.RowKit
def markB (q : MarkM) : List UInt8 := be 4 q.1 ++ be 1 q.2.toNat
def flagsB (e : Nat) (l : List MarkM) : List UInt8 := be 4 e ++ be 2 l.length ++ l.flatMap markB
def flagsErr (e : Nat) (l : List MarkM) : Int := if rightFlagsV e l = true then 0 else 1
def flagsPage (e : Nat) (l : List MarkM) : List UInt8 := if rightFlagsV e l = true then pageB 2 (flagsB e l) else []
theorem markFlat_len (l : List MarkM) : (l.flatMap markB).length = l.length * 5 := by
  induction l with
  | nil => simp
  | cons x r ih =>
    rw [List.flatMap_cons, List.length_append, List.length_cons, ih]
    have : (markB x).length = 5 := by unfold markB; simp [be_length]
    omega
theorem flags_len {e : Nat} {l : List MarkM} (h : rightFlagsV e l = true) : 1 ≤ e ∧ l.length ≤ 500 := by
  unfold rightFlagsV at h
  simp only [Bool.and_eq_true, decide_eq_true_eq] at h
  exact ⟨h.1.2, h.2⟩
theorem flagsB_len {e : Nat} {l : List MarkM} (h : rightFlagsV e l = true) : (flagsB e l).length ≤ 3000 := by
  have := (flags_len h).2
  unfold flagsB
  rw [List.length_append, List.length_append, be_length, be_length, markFlat_len]
  omega
theorem flags_good {e : Nat} {l : List MarkM} (h : rightFlagsV e l = true) {j : Nat} {x : MarkM} (hx : l[j]? = some x) : 0 ≤ x.2 ∧ x.2 ≤ 31 := by
  unfold rightFlagsV at h
  simp only [Bool.and_eq_true] at h
  have := marks_at hx h.1.1
  unfold mstep goodF at this
  simp only [Bool.and_eq_true, decide_eq_true_eq] at this
  exact this.2
set_option maxHeartbeats 800000 in
set_option maxRecDepth 100000 in
theorem putFlags_any (A : Option Addr) (c n e : Nat) (l : List MarkM) (w : World) (hu : ∀ q ∈ l, q.1 < 4294967296) (he : e < 4294967296) (hn2 : l.length = n) (hn : n ≤ 100000) (hr : Reads w w.heap.size 2 A n (mcells l)) :
    Calls Tryd.prog 15 #[.agg #[.int .u32 (e : Nat), .slice A n c]] w fun ev w' => ∃ r, ev = .returned (.tuple #[r, .int .i64 (flagsErr e l)]) ∧ w'.ownsRow w.heap.size 5 1 r (flagsPage e l).length (u8s (flagsPage e l)) ∧ Below w.heap.size w w' := by
  have hb0 := (Below.refl w.heap.size w).alloc (Nat.le_refl _) (.cells #[.int .u32 (e : Nat), .slice A n c] 39)
  have hk0 : Blk (w.alloc (.cells #[.int .u32 (e : Nat), .slice A n c] 39)) w.heap.size 39 #[.int .u32 (e : Nat), .slice A n c] := Blk.new w _ _
  have hr0 := (hr.below hb0).more hb0.size
  have hlt0 : w.heap.size < (w.alloc (.cells #[.int .u32 (e : Nat), .slice A n c] 39)).heap.size := hk0.lt
  obtain ⟨w0, hw0⟩ : ∃ w0, w.alloc (.cells #[.int .u32 (e : Nat), .slice A n c] 39) = w0 := ⟨_, rfl⟩
  obtain ⟨ob, hob⟩ : ∃ ob, w.heap.size = ob := ⟨_, rfl⟩
  rw [hw0] at hb0 hk0 hr0 hlt0
  rw [hob] at hk0 hlt0
  have R1 := Lib.hid (rightFlags_any A c n e l w0 hu he hn2 hn hr0)
  have HR := Lib.hid hr0
  have HK := Lib.hid hk0
  have HB0 := Lib.hid hb0
  have HU := Lib.hid hu
  have HL := Lib.hid hn2
  have HOB := Lib.hid hob
  have z0 : w0.cell? ⟨ob, 0, none⟩ = some (.int .u32 (e : Nat)) := by rw [hk0.cell]; rfl
  have z1 : w0.cell? ⟨ob, 1, none⟩ = some (.slice A n c) := by rw [hk0.cell]; rfl
  unfold flagsErr flagsPage
  cases hv : rightFlagsV e l with
  | false =>
    rw [hv] at R1
    rw [if_neg (by simp), if_neg (by simp)]
    clear hr hr0 hk0 hb0 hu hn2 hv
    go_enter Tryd.func15, Tryd.ntmps15
    go_wp2_with fail
    refine R1.out.mono ?_
    rintro ev w1 ⟨rfl, hb1⟩
    go_wp2
    go_ret2
    exact ⟨_, rfl, World.ownsRow_nil _ _ _ _, HB0.out.trans (hb1.mono HB0.out.size)⟩
  | true =>
    rw [hv] at R1
    rw [if_pos rfl, if_pos rfl]
    obtain ⟨_, hl500⟩ := flags_len hv
    have HP : Hid (∀ (j : Nat) (x : MarkM), l[j]? = some x → 0 ≤ x.2 ∧ x.2 ≤ 31) := fun j x hx => flags_good hv hx
    have HTL := Lib.hid (flagsB_len hv)
    have hn500 : n ≤ 500 := by omega
    clear hr hr0 hk0 hb0 hu hn2 hv hl500
    go_enter Tryd.func15, Tryd.ntmps15
    go_wp2_with fail
    clear hw0 hob
    refine R1.out.mono ?_
    rintro ev w1 ⟨rfl, hb1⟩
    have hk1 := HK.out.below hb1 HK.out.lt
    have hbo := (Below.refl w1.heap.size w1).alloc (Nat.le_refl _) (.cells #[.slice none 0 0, .bool false] 62)
    have ho0 := out_new (w := w1) (B := w0.heap.size) hb1.size
    have hk2 := hk1.alloc (.cells #[.slice none 0 0, .bool false] 62)
    obtain ⟨w2, hw2⟩ : ∃ w2, w1.alloc (.cells #[.slice none 0 0, .bool false] 62) = w2 := ⟨_, rfl⟩
    obtain ⟨o, ho⟩ : ∃ o, w1.heap.size = o := ⟨_, rfl⟩
    have hoo : Hid (w0.heap.size ≤ o) := by show _ ≤ _; have := hb1.size; omega
    rw [hw2, ho] at ho0
    rw [hw2] at hbo hk2
    have hbw := hb1.trans (hbo.mono hb1.size)
    have R2 := Lib.hid (out_N ho0 hbw.size (by simp) e 4 (by omega) (by omega))
    have y0 : w2.cell? ⟨ob, 0, none⟩ = some (.int .u32 (e : Nat)) := by rw [hk2.cell]; rfl
    have HBW := Lib.hid hbw
    have HK2 := Lib.hid hk2
    have hobo : ob ≠ o := by have := hoo.out; omega
    clear hb1 hbo ho0 R1 hbw hk1 hk2 z0 z1
    go_wp2_with fail
    clear hw2 ho
    refine R2.out.mono ?_
    rintro ev w3 ⟨rfl, ⟨v3, h3⟩, hb3⟩
    have hk3 := HK2.out.obut hb3 hobo (by decide)
    have hbw3 := HBW.out.trans (hb3.toBelow HBW.out.size (Nat.le_refl _) hoo.out)
    have y1 : w3.cell? ⟨ob, 1, none⟩ = some (.slice A n c) := by rw [hk3.cell]; rfl
    have R3 := Lib.hid (out_N h3 hbw3.size (by rw [List.length_append, be_length]; simp) n 2 (by omega) (by omega))
    have HBW3 := Lib.hid hbw3
    have HK3 := Lib.hid hk3
    clear h3 hb3 hbw3 hk3 R2 y0
    go_wp2_with fail
    refine R3.out.mono ?_
    rintro ev w4 ⟨rfl, ⟨v4, h4⟩, hb4⟩
    have hk4 := HK3.out.obut hb4 hobo (by decide)
    have x1 : w4.cell? ⟨ob, 1, none⟩ = some (.slice A n c) := by rw [hk4.cell]; rfl
    have HB4 := Lib.hid (HBW3.out.trans (hb4.toBelow HBW3.out.size (Nat.le_refl _) hoo.out))
    have HO4 := Lib.hid h4
    clear h4 hb4 hk4 R3 y1
    go_wp2
    clear x1
    go_loopw [21] (fun k wr => ∃ (j : Nat) (v : Value), k = .int .i64 j ∧ j ≤ n ∧ Hid (OutAt wr w0.heap.size o (be 4 e ++ be 2 n ++ (l.take j).flatMap markB) false v) ∧ Hid (Below w0.heap.size w0 wr)) (fun k _ => n - (intOf k).toNat)
    case atStart => exact ⟨0, v4, rfl, by omega, by simpa using HO4, HB4⟩
    case round =>
      obtain ⟨j, v, rfl, hj, ho, hb⟩ := hrel
      by_cases hlt : j < n
      · obtain ⟨x, hx⟩ : ∃ x, l[j]? = some x := ⟨_, List.getElem?_eq_getElem (by have := HL.out; omega)⟩
        obtain ⟨p0, p1⟩ := HP.out j x hx
        have hxu := HU.out x (List.mem_of_getElem? hx)
        obtain ⟨xu, xf⟩ := x
        obtain ⟨xn, rfl⟩ : ∃ xn : Nat, xf = xn := ⟨xf.toNat, by simp only at p0; omega⟩
        obtain ⟨ad, rfl, hadl, hc⟩ := (HR.out.below hb.out).2 (by omega)
        obtain ⟨k0, k1⟩ := mark_at hc hx
        simp only at k0 k1 p0 p1 hxu
        have hadl' : (ad.add (j * 2)).block < wr.heap.size := by rw [block_of_add]; exact Nat.lt_of_lt_of_le hadl hb.out.size
        have hbx := (Below.refl wr.heap.size wr).alloc (Nat.le_refl _) (.cells #[.int .u32 (xu : Nat), .int .i64 (xn : Nat)] 44)
        have hxb : Blk (wr.alloc (.cells #[.int .u32 (xu : Nat), .int .i64 (xn : Nat)] 44)) wr.heap.size 44 #[.int .u32 (xu : Nat), .int .i64 (xn : Nat)] := Blk.new wr _ _
        have ho1 := ho.out.below hbx
        have hb1 := hb.out.trans (hbx.mono hb.out.size)
        have hfl : ((l.take j).flatMap markB).length ≤ 2500 := by rw [markFlat_len, List.length_take]; omega
        have hlen : (be 4 e ++ be 2 n ++ (l.take j).flatMap markB).length ≤ 2510 := by rw [List.length_append, List.length_append, be_length, be_length]; omega
        have hst : be 4 e ++ be 2 n ++ (l.take (j + 1)).flatMap markB = ((be 4 e ++ be 2 n ++ (l.take j).flatMap markB) ++ be 4 xu) ++ be 1 xn := by
          rw [List.take_add_one, hx]
          simp [markB, List.flatMap_append, List.append_assoc]
        have HST := Lib.hid hst
        obtain ⟨gp, hgp⟩ : ∃ gp, wr.heap.size = gp := ⟨_, rfl⟩
        have hgo : gp ≠ o := by have := ho.out.cells.lt; omega
        obtain ⟨w5, hw5⟩ : ∃ w5, wr.alloc (.cells #[.int .u32 (xu : Nat), .int .i64 (xn : Nat)] 44) = w5 := ⟨_, rfl⟩
        rw [hw5] at hxb ho1 hb1
        rw [hgp] at hxb
        have R5 := Lib.hid (out_N ho1 hb1.size (by omega) xu 4 (by omega) (by omega))
        have z0 : w5.cell? ⟨gp, 0, none⟩ = some (.int .u32 (xu : Nat)) := by rw [hxb.cell]; rfl
        have HB1 := Lib.hid hb1
        have HXB := Lib.hid hxb
        clear hx hc hst hadl hbx hxb ho1 hb1 hfl
        go_wp2_with fail
        clear hw5 hgp k0 k1 hadl'
        refine R5.out.mono ?_
        rintro ev w6 ⟨rfl, ⟨v6, h6⟩, hb6⟩
        have hx6 := HXB.out.obut hb6 hgo (by decide)
        have hb16 := HB1.out.trans (hb6.toBelow HB1.out.size (Nat.le_refl _) hoo.out)
        have z1 : w6.cell? ⟨gp, 1, none⟩ = some (.int .i64 (xn : Nat)) := by rw [hx6.cell]; rfl
        have R6 := Lib.hid (out_N h6 hb16.size (by rw [List.length_append, be_length]; omega) xn 1 (by omega) (by omega))
        have HB16 := Lib.hid hb16
        clear h6 hb6 hb16 hx6 R5 z0
        go_wp2_with fail
        refine R6.out.mono ?_
        rintro ev w7 ⟨rfl, ⟨v7, h7⟩, hb7⟩
        rw [← HST.out] at h7
        have H7 := Lib.hid h7
        have HB7 := Lib.hid (HB16.out.trans (hb7.toBelow HB16.out.size (Nat.le_refl _) hoo.out))
        clear h7 hb7 R6 z1
        go_wp2
        go_roundw
        case rel => exact ⟨j + 1, v7, by go_num, by omega, H7, HB7⟩
        case measure => simp [intOf]; omega
      · obtain rfl : j = n := by omega
        have hfin : be 4 e ++ be 2 j ++ (l.take j).flatMap markB = flagsB e l := by
          unfold flagsB
          rw [List.take_of_length_le (by have := HL.out; omega), HL.out]
        have ho1 := ho.out
        rw [hfin] at ho1
        have R9 := Lib.hid (put_any ho1 (by have := HTL.out; omega) 2 (by omega))
        have he9 : errLong (flagsB e l).length = 0 := by unfold errLong; rw [if_pos (by have := HTL.out; omega)]
        have hp9 : pageOr 2 (flagsB e l) = pageB 2 (flagsB e l) := by unfold pageOr; rw [if_pos (by have := HTL.out; omega)]
        rw [he9, hp9] at R9
        clear ho1 hfin he9 hp9
        go_wp2_with fail
        refine R9.out.mono ?_
        rintro ev w9 ⟨r9, rfl, ho9, hb9⟩
        have HO9 := Lib.hid (own_mono ho9 (Nat.le_trans HB0.out.size hb.out.size))
        have HB9 := Lib.hid (HB0.out.trans ((hb.out.trans (hb9.mono hb.out.size)).mono HB0.out.size))
        clear ho9 hb9
        go_wp2
        go_ret2
        exact ⟨r9, rfl, HO9.out, HB9.out⟩
end Go.Proofs.YtljclehhicmkhaaDoor
