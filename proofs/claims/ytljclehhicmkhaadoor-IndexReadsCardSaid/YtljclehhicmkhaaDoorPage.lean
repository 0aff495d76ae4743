/-
  Walks of a page: the program's Put and Get.
-/
import Derived.Test.YtljclehhicmkhaaDoorOut2
import Derived.Lib.SlBytesConst
namespace Go.Proofs.YtljclehhicmkhaaDoor
open Go.RowKit
theorem lit8 {w : World} {g : Nat} {p : Nat × Nat} {l : List UInt8} (h : w.heap[g]? = some (.cells (u8s l).toArray 5 p)) : Reads w w.heap.size 1 (some ⟨g, 0, none⟩) l.length (u8s l) := by
  refine ⟨by rw [u8s_length, Nat.mul_one], fun _ => ⟨_, rfl, lt_of_get h, fun j u hu => ?_⟩⟩
  have ha : (⟨g, 0, none⟩ : Addr).add j = ⟨g, j, none⟩ := by unfold Addr.add; split <;> simp_all
  rw [ha, cell_of_row w g j _ _ p h]
  simpa using hu
theorem own8_reads {w : World} {B n : Nat} {v : Value} {l : List UInt8} (h : w.ownsRow B 5 1 v n (u8s l)) : ∃ A c, v = .slice A l.length c ∧ Reads w w.heap.size 1 A l.length (u8s l) := by
  obtain ⟨A, c, rfl, hr, _⟩ := own_reads (own8 h)
  have hn : n = l.length := by have := h.1; rw [u8s_length] at this; omega
  subst hn
  obtain ⟨A, c, e, hr, _⟩ := own_reads h
  injection e with e1 e2 e3
  subst e1 e3
  exact ⟨_, _, rfl, hr⟩
set_option maxRecDepth 100000 in
theorem page_long (k : Nat) (hk : 1 ≤ k ∧ k ≤ 3) (A : Option Addr) (n c : Nat) (hn : 60000 < n) (w : World) :
    Calls Tryd.prog 39 #[.int .i64 (k : Nat), .slice A n c] w fun e w' => e = .returned (.tuple #[.slice none 0 0, .int .i64 3]) ∧ w' = w := by
  have k1 : decide ((k : Int) < 1) = false := by simp; omega
  have k2 : decide (3 < (k : Int)) = false := by simp; omega
  have k3 : decide (60000 < (n : Int)) = true := by simp; omega
  go_enter Tryd.func39, Tryd.ntmps39
  go_wp2
  go_ret2
  exact ⟨rfl, rfl⟩
set_option maxRecDepth 100000 in
theorem page_Put (k : Nat) (hk : 1 ≤ k ∧ k ≤ 3) (A : Option Addr) (n c : Nat) (l : List UInt8) (hl : l.length = n) (hn : n ≤ 60000) (w : World) (hr : Reads w w.heap.size 1 A n (u8s l)) :
    Calls Tryd.prog 39 #[.int .i64 (k : Nat), .slice A n c] w fun e w' => ∃ v, e = .returned (.tuple #[v, .int .i64 0]) ∧ w'.ownsRow w.heap.size 5 1 v (pageB k l).length (u8s (pageB k l)) ∧ Below w.heap.size w w' := by
  have k1 : decide ((k : Int) < 1) = false := by simp; omega
  have k2 : decide (3 < (k : Int)) = false := by simp; omega
  have k3 : decide (60000 < (n : Int)) = false := by simp; omega
  have hb0 := (Below.refl w.heap.size w).alloc (Nat.le_refl _) (.cells #[.slice none 0 0, .bool false] 62)
  have ho0 := out_new (w := w) (Nat.le_refl w.heap.size)
  have hr0 := hr.below hb0
  obtain ⟨w0, hw0⟩ : ∃ w0, w.alloc (.cells #[.slice none 0 0, .bool false] 62) = w0 := ⟨_, rfl⟩
  rw [hw0] at hb0 ho0 hr0
  obtain ⟨o, ho⟩ : ∃ o, w.heap.size = o := ⟨_, rfl⟩
  have hob : Hid (w.heap.size ≤ o) := by show _ ≤ _; omega
  have hbl : Below w0.heap.size w0 (w0.alloc (.cells #[.int .u8 112, .int .u8 97, .int .u8 103] 5 (3, 4))) := (Below.refl _ _).alloc (Nat.le_refl _) _
  have hlit : Reads (w0.alloc (.cells #[.int .u8 112, .int .u8 97, .int .u8 103] 5 (3, 4))) (w0.alloc (.cells #[.int .u8 112, .int .u8 97, .int .u8 103] 5 (3, 4))).heap.size 1 (some ⟨w0.heap.size, 0, none⟩) 3 (u8s [112, 97, 103]) := lit8 (l := [112, 97, 103]) (p := (3, 4)) (heap_alloc_new w0 _)
  rw [show OutAt w0 w.heap.size w.heap.size [] false (.slice none 0 0) = OutAt w0 w.heap.size o [] false (.slice none 0 0) by rw [ho]] at ho0
  have R1 := Lib.hid (out_Raw (ho0.below hbl) (Nat.le_trans hb0.size hbl.size) (by simp) (some ⟨w0.heap.size, 0, none⟩) 3 3 [112, 97, 103] rfl (by omega) hlit)
  have HB0 := Lib.hid (((OBut.of_below (B := w.heap.size) (o := o) (hb0.mono (Nat.le_refl _)))).below hbl)
  have HR := Lib.hid hr
  have HC0 : Hid (w.heap.size ≤ w.heap.size) := Nat.le_refl _
  have HBW : Hid (∀ w', OBut w.heap.size o w w' → Below w.heap.size w w') := fun w' h => h.toBelow (Nat.le_refl _) (Nat.le_refl _) hob.out
  have hcv := Lib.run_convert_bytes_const (P := Tryd.prog) w0 24 5 #[.int .u8 112, .int .u8 97, .int .u8 103] 3 3 Tryd.underlying24 Tryd.underlying5
  clear hb0 ho0 hr0 hbl hlit hr
  go_enter Tryd.func39, Tryd.ntmps39
  go_wp2_with fail
  refine R1.out.mono ?_
  rintro e w1 ⟨rfl, ⟨v1, h1⟩, hb1⟩
  have hB1 := HB0.out.trans hb1
  have R2 := Lib.hid (out_N h1 hB1.size (by simp) k 1 (by omega) (by omega))
  have HB1 := Lib.hid hB1
  clear h1 hb1 hB1 R1 HB0 hcv
  go_wp2_with fail
  refine R2.out.mono ?_
  rintro e w2 ⟨rfl, ⟨v2, h2⟩, hb2⟩
  have hB2 := HB1.out.trans hb2
  have R3 := Lib.hid (out_N h2 hB2.size (by simp [be_length]) n 4 (by omega) (by omega))
  have HB2 := Lib.hid hB2
  clear h2 hb2 hB2 R2 HB1
  go_wp2_with fail
  refine R3.out.mono ?_
  rintro e w3 ⟨rfl, ⟨v3, h3⟩, hb3⟩
  have hB3 := HB2.out.trans hb3
  have R4 := Lib.hid (out_Raw h3 hB3.size (by simp [be_length]) A n c l hl (by omega) ((HR.out.below (HBW.out _ hB3)).more hB3.size))
  have HB3 := Lib.hid hB3
  clear h3 hb3 hB3 R3 HB2
  go_wp2_with fail
  refine R4.out.mono ?_
  rintro e w4 ⟨rfl, ⟨v4, h4⟩, hb4⟩
  have hh : ((([] ++ [112, 97, 103]) ++ be 1 k) ++ be 4 n) ++ l = pageHead k l := by
    unfold pageHead
    rw [hl]
    simp [be]
  rw [hh] at h4
  have hB4 := HB3.out.trans hb4
  have hpl : (pageHead k l).length ≤ 60008 := by rw [pageHead_length]; omega
  have R5 := Lib.hid (out_End h4 (by omega))
  have H4 := Lib.hid h4
  have HB4 := Lib.hid hB4
  clear h4 hb4 hB4 R4 HB3 hh
  go_wp2_with fail
  refine R5.out.mono ?_
  rintro e w5 ⟨r5, rfl, ho5, hb5⟩
  obtain ⟨A5, c5, rfl, hr5⟩ := own8_reads ho5
  have R6 := Lib.hid (crc_any A5 _ c5 _ w5 rfl (by omega) hr5)
  have hB5 := HB4.out.below hb5
  have hcl := crc_lt (pageHead k l)
  have R7 := Lib.hid (out_N (H4.out.below hb5) hB5.size (by omega) (crc (pageHead k l)) 4 (by omega) (by omega))
  have HB5 := Lib.hid hB5
  clear ho5 hb5 hr5 hB5 H4 HB4 R5
  obtain ⟨cr, hcr⟩ : ∃ cr, crc (pageHead k l) = cr := ⟨_, rfl⟩
  rw [hcr] at R6 R7 hcl
  have HCR := Lib.hid hcr
  clear hcr
  go_wp2_with fail
  refine R6.out.mono ?_
  rintro e w6 ⟨rfl, rfl⟩
  go_wp2_with fail
  refine R7.out.mono ?_
  rintro e w7 ⟨rfl, ⟨v7, h7⟩, hb7⟩
  have hh : pageHead k l ++ be 4 cr = pageB k l := by unfold pageB; rw [HCR.out]
  rw [hh] at h7
  have R8 := Lib.hid (out_End h7 (by rw [pageB_length]; omega))
  have HB7 := Lib.hid (HB5.out.trans hb7)
  clear h7 hb7 R7 HB5 hh
  go_wp2_with fail
  refine R8.out.mono ?_
  rintro e w8 ⟨r8, rfl, ho8, hb8⟩
  have HO8 := Lib.hid (own_mono ho8 HB7.out.size)
  have HB8 := Lib.hid (HBW.out _ (HB7.out.below hb8))
  clear ho8 hb8
  go_wp2
  go_ret2
  exact ⟨r8, rfl, HO8.out, HB8.out⟩
/-- whatever is put: some bytes, or an error -/
theorem page_any (k : Nat) (hk : 1 ≤ k ∧ k ≤ 3) (A : Option Addr) (n c : Nat) (l : List UInt8) (hl : l.length = n) (w : World) (hr : Reads w w.heap.size 1 A n (u8s l)) :
    Calls Tryd.prog 39 #[.int .i64 (k : Nat), .slice A n c] w fun e w' => ∃ v, e = .returned (.tuple #[v, .int .i64 (if n ≤ 60000 then 0 else 3)]) ∧ w'.ownsRow w.heap.size 5 1 v (if n ≤ 60000 then pageB k l else []).length (u8s (if n ≤ 60000 then pageB k l else [])) ∧ Below w.heap.size w w' := by
  by_cases hn : n ≤ 60000
  · rw [if_pos hn, if_pos hn]
    exact page_Put k hk A n c l hl hn w hr
  · rw [if_neg hn, if_neg hn]
    refine (page_long k hk A n c (by omega) w).mono ?_
    rintro e w' ⟨rfl, rfl⟩
    exact ⟨_, rfl, World.ownsRow_nil _ _ _ _, Below.refl _ _⟩
theorem midOf_reads {w : World} {B n c : Nat} {A : Option Addr} {l : List UInt8} (hl : l.length = n) (hc : n ≤ c) (h12 : 12 ≤ n) (hr : Reads w B 1 A n (u8s l)) : ∃ ad, A = some ad ∧ Reads w B 1 (some (ad.add 8)) (n - 12) (u8s (midOf l)) := by
  obtain ⟨ad, rfl, _, _⟩ := hr.2 (by omega)
  refine ⟨ad, rfl, ?_⟩
  have h1 := hr.drop8 (k := 8) (c := c) (by omega) hc
  rw [if_neg (by omega)] at h1
  have h2 := h1.take8 (k := n - 12) (by omega)
  unfold midOf
  rw [hl]
  exact h2
set_option maxRecDepth 100000 in
theorem page_short (k : Nat) (A : Option Addr) (n c : Nat) (hn : n < 12) (w : World) :
    Calls Tryd.prog 24 #[.int .i64 (k : Nat), .slice A n c] w fun e w' => e = .returned (.tuple #[.slice none 0 0, .int .i64 9]) ∧ w' = w := by
  have k3 : decide ((n : Int) < 12) = true := by simp; omega
  go_enter Tryd.func24, Tryd.ntmps24
  go_wp2
  go_ret2
  exact ⟨rfl, rfl⟩
set_option maxRecDepth 100000 in
theorem page_mid (k : Nat) (hk : 1 ≤ k ∧ k ≤ 3) (ad : Addr) (n c : Nat) (hc : n ≤ c) (h12 : 12 ≤ n) (hn : n ≤ 1000000) (l : List UInt8) (hl : l.length = n) (w : World) (hr : Reads w w.heap.size 1 (some ad) n (u8s l)) :
    Calls Tryd.prog 24 #[.int .i64 (k : Nat), .slice (some ad) n c] w fun e w' => ∃ v, e = .returned (.tuple #[v, .int .i64 (if (pageGet k l).isSome = true then 0 else 9)]) ∧ w'.ownsRow w.heap.size 5 1 v ((pageGet k l).getD []).length (u8s ((pageGet k l).getD [])) ∧ Below w.heap.size w w' := by
  have k3 : decide ((n : Int) < 12) = false := by simp; omega
  obtain ⟨_, e, hm⟩ := midOf_reads hl hc h12 hr
  injection e with e
  subst e
  have hml : (midOf l).length = n - 12 := by have := hm.1; rw [u8s_length] at this; omega
  obtain ⟨m, hmn⟩ : ∃ m, n - 12 = m := ⟨_, rfl⟩
  rw [hmn] at hm hml
  have e4 : (n : Int) - 4 = ((m + 8 : Nat) : Int) := by omega
  have R1 := Lib.hid (page_any k hk (some (ad.add 8)) m (c - 8) (midOf l) hml w hm)
  have HR := Lib.hid hr
  have HM := Lib.hid hm
  have h88 : m + 8 - 8 = m := by omega
  have ea : ad.add 8 = ⟨ad.block, ad.off + 8, none⟩ := by unfold Addr.add; simp
  rw [ea] at R1 HM
  have i1 : (8 : Int) ≤ (n : Int) - 4 := by omega
  have i2 : (n : Int) - 4 ≤ (c : Int) := by omega
  clear hr hm ea
  have hpg : pageGet k l = if m ≤ 60000 ∧ pageB k (midOf l) = l then some (midOf l) else none := by
    unfold pageGet
    rw [hml]
    by_cases h : m ≤ 60000 ∧ pageB k (midOf l) = l
    · rw [if_pos ⟨by omega, h.1, h.2⟩, if_pos h]
    · rw [if_neg (fun h' => h h'.2), if_neg h]
  by_cases hm6 : m ≤ 60000
  · rw [if_pos hm6, if_pos hm6] at R1
    by_cases heq : pageB k (midOf l) = l
    · have hv : pageGet k l = some (midOf l) := by rw [hpg, if_pos ⟨hm6, heq⟩]
      rw [hv]
      rw [heq] at R1
      dsimp only [Option.isSome_some, Option.getD_some]
      rw [if_pos rfl, hml]
      have hll : (l == l) = true := by simp
      have HML := Lib.hid hml
      clear hpg hv heq hml
      go_enter Tryd.func24, Tryd.ntmps24
      go_wp2_with fail
      refine R1.out.mono ?_
      rintro e w1 ⟨v1, rfl, ho1, hb1⟩
      obtain ⟨A1, c1, rfl, hr1⟩ := own8_reads ho1
      have hr' := (HR.out.below hb1).more hb1.size
      have hm' := (HM.out.below hb1).more hb1.size
      rw [hl] at hr1 ⊢
      have R2 := Lib.hid (equal_any A1 (some ad) n c1 n c l l w1 hl hl hr1 hr')
      rw [hll] at R2
      have R3 := Lib.hid (clone_any (some ⟨ad.block, ad.off + 8, none⟩) m (c - 8) (midOf l) w1 HML.out (by omega) hm')
      have HB1 := Lib.hid hb1
      clear ho1 hb1 hr1 hr' hm' R1
      go_wp2_with fail
      refine R2.out.mono ?_
      rintro e w2 ⟨rfl, rfl⟩
      go_wp2_with fail
      refine R3.out.mono ?_
      rintro e w3 ⟨v3, rfl, ho3, hb3⟩
      have HO3 := Lib.hid (own_mono ho3 HB1.out.size)
      have HB3 := Lib.hid (HB1.out.trans (hb3.mono HB1.out.size))
      clear ho3 hb3
      go_wp2
      go_ret2
      exact ⟨v3, rfl, HO3.out, HB3.out⟩
    · have hv : pageGet k l = none := by rw [hpg, if_neg (fun h => heq h.2)]
      rw [hv]
      dsimp only [Option.isSome_none, Option.getD_none]
      rw [if_neg (by decide)]
      have hll : (pageB k (midOf l) == l) = false := by simpa using heq
      obtain ⟨pb, hpb⟩ : ∃ pb, pageB k (midOf l) = pb := ⟨_, rfl⟩
      rw [hpb] at R1 hll
      clear hpg hv heq hml hpb
      go_enter Tryd.func24, Tryd.ntmps24
      go_wp2_with fail
      refine R1.out.mono ?_
      rintro e w1 ⟨v1, rfl, ho1, hb1⟩
      obtain ⟨A1, c1, rfl, hr1⟩ := own8_reads ho1
      have hr' := (HR.out.below hb1).more hb1.size
      have R2 := Lib.hid (equal_any A1 (some ad) pb.length c1 n c pb l w1 rfl hl hr1 hr')
      rw [hll] at R2
      have HB1 := Lib.hid hb1
      clear ho1 hb1 hr1 hr' R1
      go_wp2_with fail
      refine R2.out.mono ?_
      rintro e w2 ⟨rfl, rfl⟩
      go_wp2
      go_ret2
      exact ⟨_, rfl, World.ownsRow_nil _ _ _ _, HB1.out⟩
  · rw [if_neg hm6, if_neg hm6] at R1
    have hv : pageGet k l = none := by rw [hpg, if_neg (fun h => hm6 h.1)]
    rw [hv]
    dsimp only [Option.isSome_none, Option.getD_none]
    rw [if_neg (by decide)]
    clear hpg hv hml
    go_enter Tryd.func24, Tryd.ntmps24
    go_wp2_with fail
    refine R1.out.mono ?_
    rintro e w1 ⟨v1, rfl, ho1, hb1⟩
    have HB1 := Lib.hid hb1
    clear ho1 hb1 R1
    go_wp2
    go_ret2
    exact ⟨_, rfl, World.ownsRow_nil _ _ _ _, HB1.out⟩
/-- a page's payload, or an error -/
theorem page_Get (k : Nat) (hk : 1 ≤ k ∧ k ≤ 3) (A : Option Addr) (n c : Nat) (hc : n ≤ c) (hn : n ≤ 1000000) (l : List UInt8) (hl : l.length = n) (w : World) (hr : Reads w w.heap.size 1 A n (u8s l)) :
    Calls Tryd.prog 24 #[.int .i64 (k : Nat), .slice A n c] w fun e w' => ∃ v, e = .returned (.tuple #[v, .int .i64 (if (pageGet k l).isSome = true then 0 else 9)]) ∧ w'.ownsRow w.heap.size 5 1 v ((pageGet k l).getD []).length (u8s ((pageGet k l).getD [])) ∧ Below w.heap.size w w' := by
  by_cases h12 : 12 ≤ n
  · obtain ⟨ad, rfl, _⟩ := hr.2 (by omega)
    exact page_mid k hk ad n c hc h12 hn l hl w hr
  · have e : pageGet k l = none := by unfold pageGet; rw [if_neg (fun h => by omega)]
    rw [e]
    refine (page_short k A n c (by omega) w).mono ?_
    rintro e w' ⟨rfl, rfl⟩
    exact ⟨_, rfl, World.ownsRow_nil _ _ _ _, Below.refl _ _⟩
end Go.Proofs.YtljclehhicmkhaaDoor
