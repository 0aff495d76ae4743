/-
  Walks: what is put, and whether it is the same; a tree's page.
-/
import Derived.Test.YtljclehhicmkhaaDoorTree
namespace Go.Proofs.YtljclehhicmkhaaDoor
open Go.RowKit
def errLong (n : Nat) : Int := if n ≤ 60000 then 0 else 3
def pageOr (k : Nat) (l : List UInt8) : List UInt8 := if l.length ≤ 60000 then pageB k l else []
theorem page_or (k : Nat) (hk : 1 ≤ k ∧ k ≤ 3) (A : Option Addr) (c : Nat) (l : List UInt8) (w : World) (hr : Reads w w.heap.size 1 A l.length (u8s l)) :
    Calls Tryd.prog 39 #[.int .i64 (k : Nat), .slice A l.length c] w fun e w' => ∃ v, e = .returned (.tuple #[v, .int .i64 (errLong l.length)]) ∧ w'.ownsRow w.heap.size 5 1 v (pageOr k l).length (u8s (pageOr k l)) ∧ Below w.heap.size w w' := page_any k hk A l.length c l rfl w hr
set_option maxRecDepth 100000 in
theorem put_any {w : World} {B o : Nat} {l : List UInt8} {v0 : Value} (h : OutAt w B o l false v0) (hl : l.length ≤ 800000000) (k : Nat) (hk : 1 ≤ k ∧ k ≤ 3) :
    Calls Tryd.prog 23 #[.int .i64 (k : Nat), .pointer (some ⟨o, 0, none⟩)] w fun e w' => ∃ r, e = .returned (.tuple #[r, .int .i64 (errLong l.length)]) ∧ w'.ownsRow w.heap.size 5 1 r (pageOr k l).length (u8s (pageOr k l)) ∧ Below w.heap.size w w' := by
  have R1 := Lib.hid (out_End h hl)
  clear h
  go_enter Tryd.func23, Tryd.ntmps23
  go_wp2_with fail
  refine R1.out.mono ?_
  rintro e w1 ⟨v1, rfl, ho1, hb1⟩
  obtain ⟨A1, c1, rfl, hr1⟩ := own8_reads ho1
  have R2 := Lib.hid (page_or k hk A1 c1 l w1 hr1)
  have HB1 := Lib.hid hb1
  clear ho1 hr1 hb1 R1
  go_wp2_with fail
  refine R2.out.mono ?_
  rintro e w2 ⟨v2, rfl, ho2, hb2⟩
  have HO2 := Lib.hid (own_mono ho2 HB1.out.size)
  have HB2 := Lib.hid (HB1.out.trans (hb2.mono HB1.out.size))
  clear ho2 hb2 R2
  go_wp2
  go_ret2
  exact ⟨v2, rfl, HO2.out, HB2.out⟩
set_option maxRecDepth 100000 in
theorem same_any (A1 A2 : Option Addr) (n c m d : Nat) (l1 l2 : List UInt8) (e : Int) (w : World) (h1 : l1.length = n) (h2 : l2.length = m) (r1 : Reads w w.heap.size 1 A1 n (u8s l1)) (r2 : Reads w w.heap.size 1 A2 m (u8s l2)) :
    Calls Tryd.prog 28 #[.slice A1 n c, .int .i64 e, .slice A2 m d] w fun e' w' => e' = .returned (.bool (decide (e = 0) && (l1 == l2))) ∧ w' = w := by
  have R := Lib.hid (equal_any A1 A2 n c m d l1 l2 w h1 h2 r1 r2)
  generalize (l1 == l2) = q at *
  clear r1 r2
  by_cases he : e = 0
  · subst he
    go_enter Tryd.func28, Tryd.ntmps28
    go_wp2_with fail
    refine R.out.mono ?_
    rintro e w1 ⟨rfl, rfl⟩
    go_wp2
    go_ret
    exact ⟨by simp, rfl⟩
  · have g1 : (e == 0) = false := by simpa using he
    have g2 : decide (e = 0) = false := by simpa using he
    rw [g2, Bool.false_and]
    clear he g2
    go_enter Tryd.func28, Tryd.ntmps28
    go_wp2
    go_ret
    exact ⟨rfl, rfl⟩
def placeB (q : PlaceM) : List UInt8 := be 1 q.1.toNat ++ textB q.2
def treeB (l : List PlaceM) : List UInt8 := be 1 l.length ++ l.flatMap placeB
theorem tree_step {l : List PlaceM} {j : Nat} {x : PlaceM} (hx : l[j]? = some x) (h : rightTreeV l = true) : stepOk l j x = true := by
  cases hs : stepOk l j x with
  | true => rfl
  | false => rw [tree_no hx hs] at h; cases h
theorem stepOk_parts {l : List PlaceM} {j : Nat} {x : PlaceM} (h : stepOk l j x = true) : 0 ≤ x.1 ∧ x.1 < 16 ∧ (0 < j → prevN l j < x.1) ∧ nameIs x.2 = true ∧ placeHas (l.take j) x.2 = false := by
  unfold stepOk numOk at h
  simp only [Bool.and_eq_true, Bool.not_eq_true', decide_eq_false_iff_not, Bool.and_eq_false_imp, decide_eq_true_eq] at h
  exact ⟨by omega, by omega, fun hj => by have := h.1.1.2 hj; omega, h.1.2, h.2⟩
theorem tree_rise {l : List PlaceM} (h : rightTreeV l = true) : ∀ (j : Nat) (x : PlaceM), l[j]? = some x → (j : Int) ≤ x.1
  | 0, x, hx => (stepOk_parts (tree_step hx h)).1
  | j + 1, x, hx => by
    obtain ⟨y, hy⟩ : ∃ y, l[j]? = some y := ⟨_, List.getElem?_eq_getElem (by have := (List.getElem?_eq_some_iff.1 hx).1; omega)⟩
    have h1 := tree_rise h j y hy
    have h2 := (stepOk_parts (tree_step hx h)).2.2.1 (by omega)
    unfold prevN at h2
    rw [show j + 1 - 1 = j by omega, hy] at h2
    simp only at h2
    omega
theorem tree_len {l : List PlaceM} (h : rightTreeV l = true) : l.length ≤ 16 := by
  rcases Nat.lt_or_ge 16 l.length with hl | hl
  · exfalso
    have hx : l[16]? = some l[16] := List.getElem?_eq_getElem hl
    have h1 := tree_rise h 16 _ hx
    have h2 := (stepOk_parts (tree_step hx h)).2.1
    omega
  · exact hl
theorem flat_len (l : List PlaceM) (h : ∀ x ∈ l, x.2.size ≤ 60) : (l.flatMap placeB).length ≤ l.length * 63 := by
  induction l with
  | nil => simp
  | cons x r ih =>
    have h1 := h x (by simp)
    have h2 := ih (fun y hy => h y (by simp [hy]))
    rw [List.flatMap_cons, List.length_append, List.length_cons]
    have h3 : (placeB x).length = 3 + x.2.size := by unfold placeB textB; simp [be_length]; omega
    omega
theorem tree_names {l : List PlaceM} (h : rightTreeV l = true) : ∀ x ∈ l, x.2.size ≤ 60 := fun x hx => by
  obtain ⟨j, hj, e⟩ := List.getElem_of_mem hx
  have hxj : l[j]? = some x := by rw [List.getElem?_eq_getElem hj, e]
  exact nameIs_size (stepOk_parts (tree_step hxj h)).2.2.2.1
theorem treeB_len {l : List PlaceM} (h : rightTreeV l = true) : (treeB l).length ≤ 2000 := by
  have h1 := tree_len h
  have h2 := flat_len l (tree_names h)
  unfold treeB
  rw [List.length_append, be_length]
  omega
def treeErr (l : List PlaceM) : Int := if rightTreeV l = true then 0 else 1
def treePage (l : List PlaceM) : List UInt8 := if rightTreeV l = true then pageB 3 (treeB l) else []
set_option maxHeartbeats 800000 in
set_option maxRecDepth 100000 in
theorem putTree_any (A : Option Addr) (c n : Nat) (l : List PlaceM) (w : World) (hm : MaxCell w) (hg : 1 < w.heap.size) (hsz : ∀ q ∈ l, q.2.size ≤ 9223372036854775807) (hn2 : l.length = n) (hn : n ≤ 100000) (hcn : n ≤ c) (hr : Reads w w.heap.size 2 A n (pcells l)) :
    Calls Tryd.prog 10 #[.slice A n c] w fun e w' => ∃ r, e = .returned (.tuple #[r, .int .i64 (treeErr l)]) ∧ w'.ownsRow w.heap.size 5 1 r (treePage l).length (u8s (treePage l)) ∧ Below w.heap.size w w' := by
  have R1 := Lib.hid (rightTree_any A c n l w hm hg hsz hn2 hn hcn hr)
  have HR := Lib.hid hr
  have HL := Lib.hid hn2
  unfold treeErr treePage
  cases hv : rightTreeV l with
  | false =>
    rw [hv] at R1
    rw [if_neg (by simp), if_neg (by simp)]
    clear hr hn2 hv hsz hm
    go_enter Tryd.func10, Tryd.ntmps10
    go_wp2_with fail
    refine R1.out.mono ?_
    rintro e w1 ⟨rfl, hb1⟩
    go_wp2
    go_ret2
    exact ⟨_, rfl, World.ownsRow_nil _ _ _ _, hb1⟩
  | true =>
    rw [hv] at R1
    rw [if_pos rfl, if_pos rfl]
    have hl16 := tree_len hv
    have HP : Hid (∀ (j : Nat) (x : PlaceM), l[j]? = some x → 0 ≤ x.1 ∧ x.1 < 16 ∧ x.2.size ≤ 60) := fun j x hx => by
      have h := stepOk_parts (tree_step hx hv)
      exact ⟨h.1, h.2.1, nameIs_size h.2.2.2.1⟩
    have HTL := Lib.hid (treeB_len hv)
    have HFL : Hid (∀ j, j ≤ n → ((l.take j).flatMap placeB).length ≤ 2000) := fun j hj => by
      have h1 := flat_len (l.take j) (fun x hx => tree_names hv x (List.mem_of_mem_take hx))
      rw [List.length_take] at h1
      omega
    have hn16 : n ≤ 16 := by omega
    clear hr hn2 hv hsz hm hl16
    go_enter Tryd.func10, Tryd.ntmps10
    go_wp2_with fail
    refine R1.out.mono ?_
    rintro e w1 ⟨rfl, hb1⟩
    have hb0 := (Below.refl w1.heap.size w1).alloc (Nat.le_refl _) (.cells #[.slice none 0 0, .bool false] 62)
    have ho0 := out_new (w := w1) (B := w.heap.size) hb1.size
    obtain ⟨w0, hw0⟩ : ∃ w0, w1.alloc (.cells #[.slice none 0 0, .bool false] 62) = w0 := ⟨_, rfl⟩
    obtain ⟨o, ho⟩ : ∃ o, w1.heap.size = o := ⟨_, rfl⟩
    have hob : Hid (w.heap.size ≤ o) := by show _ ≤ _; have := hb1.size; omega
    rw [hw0, ho] at ho0
    rw [hw0] at hb0
    have hbw := hb1.trans (hb0.mono hb1.size)
    have R2 := Lib.hid (out_N ho0 hbw.size (by simp) n 1 (by omega) (by omega))
    have HBW := Lib.hid hbw
    clear hb1 hb0 ho0 R1 hbw
    go_wp2_with fail
    clear hw0 ho
    refine R2.out.mono ?_
    rintro e w2 ⟨rfl, ⟨v2, h2⟩, hb2⟩
    have HB2 := Lib.hid (HBW.out.trans (hb2.toBelow HBW.out.size (Nat.le_refl _) hob.out))
    have HO2 := Lib.hid h2
    clear h2 hb2 R2
    go_wp2
    go_loopw [15] (fun k wr => ∃ (j : Nat) (v : Value), k = .int .i64 j ∧ j ≤ n ∧ Hid (OutAt wr w.heap.size o (be 1 n ++ (l.take j).flatMap placeB) false v) ∧ Hid (Below w.heap.size w wr)) (fun k _ => n - (intOf k).toNat)
    case atStart => exact ⟨0, v2, rfl, by omega, by simpa using HO2, HB2⟩
    case round =>
      obtain ⟨j, v, rfl, hj, ho, hb⟩ := hrel
      by_cases hlt : j < n
      · obtain ⟨x, hx⟩ : ∃ x, l[j]? = some x := ⟨_, List.getElem?_eq_getElem (by have := HL.out; omega)⟩
        obtain ⟨p0, p1, p2⟩ := HP.out j x hx
        obtain ⟨xi, xs⟩ := x
        obtain ⟨xn, rfl⟩ : ∃ xn : Nat, xi = xn := ⟨xi.toNat, by simp only at p0; omega⟩
        obtain ⟨ad, rfl, hadl, hc⟩ := (HR.out.below hb.out).2 (by omega)
        obtain ⟨k0, k1⟩ := place_at hc hx
        simp only at k0 k1 p0 p1 p2
        have hadl' : (ad.add (j * 2)).block < wr.heap.size := by rw [block_of_add]; exact Nat.lt_of_lt_of_le hadl hb.out.size
        have hbx := (Below.refl wr.heap.size wr).alloc (Nat.le_refl _) (.cells #[.int .i64 (xn : Int), .string xs] 26)
        have hxb : Blk (wr.alloc (.cells #[.int .i64 (xn : Int), .string xs] 26)) wr.heap.size 26 #[.int .i64 (xn : Int), .string xs] := Blk.new wr _ _
        have ho1 := ho.out.below hbx
        have hb1 := hb.out.trans (hbx.mono hb.out.size)
        have hfl := HFL.out j hj
        have hlen : (be 1 n ++ (l.take j).flatMap placeB).length ≤ 2001 := by rw [List.length_append, be_length]; omega
        have hst : be 1 n ++ (l.take (j + 1)).flatMap placeB = ((be 1 n ++ (l.take j).flatMap placeB) ++ be 1 xn) ++ textB xs := by
          rw [List.take_add_one, hx]
          simp [placeB, List.flatMap_append, List.append_assoc]
        have HST := Lib.hid hst
        obtain ⟨gp, hgp⟩ : ∃ gp, wr.heap.size = gp := ⟨_, rfl⟩
        have hgo : gp ≠ o := by have := ho.out.cells.lt; omega
        obtain ⟨w3, hw3⟩ : ∃ w3, wr.alloc (.cells #[.int .i64 (xn : Int), .string xs] 26) = w3 := ⟨_, rfl⟩
        rw [hw3] at hxb ho1 hb1
        rw [hgp] at hxb
        have R3 := Lib.hid (out_N ho1 hb1.size (by omega) xn 1 (by omega) (by omega))
        have z0 : w3.cell? ⟨gp, 0, none⟩ = some (.int .i64 (xn : Int)) := by rw [hxb.cell]; rfl
        have HB1 := Lib.hid hb1
        have HXB := Lib.hid hxb
        clear hx hc hst hadl hbx hxb ho1 hb1 hfl
        go_wp2_with fail
        clear hw3 hgp k0 k1 hadl'
        refine R3.out.mono ?_
        rintro e w4 ⟨rfl, ⟨v4, h4⟩, hb4⟩
        have hx4 := HXB.out.obut hb4 hgo (by decide)
        have hb14 := HB1.out.trans (hb4.toBelow HB1.out.size (Nat.le_refl _) hob.out)
        have z1 : w4.cell? ⟨gp, 1, none⟩ = some (.string xs) := by rw [hx4.cell]; rfl
        have R4 := Lib.hid (out_Text h4 hb14.size (by rw [List.length_append, be_length]; omega) xs (by omega))
        have HB14 := Lib.hid hb14
        clear h4 hb4 hb14 hx4 R3 z0
        go_wp2_with fail
        refine R4.out.mono ?_
        rintro e w5 ⟨rfl, ⟨v5, h5⟩, hb5⟩
        rw [← HST.out] at h5
        have H5 := Lib.hid h5
        have HB5 := Lib.hid (HB14.out.trans (hb5.toBelow HB14.out.size (Nat.le_refl _) hob.out))
        clear h5 hb5 R4 z1
        go_wp2
        go_roundw
        case rel => exact ⟨j + 1, v5, by go_num, by omega, H5, HB5⟩
        case measure => simp [intOf]; omega
      · obtain rfl : j = n := by omega
        have hfin : be 1 j ++ (l.take j).flatMap placeB = treeB l := by
          unfold treeB
          rw [List.take_of_length_le (by have := HL.out; omega), HL.out]
        have ho1 := ho.out
        rw [hfin] at ho1
        have R9 := Lib.hid (put_any ho1 (by have := HTL.out; omega) 3 (by omega))
        have he : errLong (treeB l).length = 0 := by unfold errLong; rw [if_pos (by have := HTL.out; omega)]
        have hp : pageOr 3 (treeB l) = pageB 3 (treeB l) := by unfold pageOr; rw [if_pos (by have := HTL.out; omega)]
        rw [he, hp] at R9
        clear ho1 hfin he hp
        go_wp2_with fail
        refine R9.out.mono ?_
        rintro e w9 ⟨r9, rfl, ho9, hb9⟩
        have HO9 := Lib.hid (own_mono ho9 hb.out.size)
        have HB9 := Lib.hid (hb.out.trans (hb9.mono hb.out.size))
        clear ho9 hb9
        go_wp2
        go_ret2
        exact ⟨r9, rfl, HO9.out, HB9.out⟩
end Go.Proofs.YtljclehhicmkhaaDoor
