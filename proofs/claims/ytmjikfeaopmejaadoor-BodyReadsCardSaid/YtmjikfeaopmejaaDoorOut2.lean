/-
  Bytes and texts that are put, and what all of it is: the program's codec.Out; the clone of bytes.
-/
import Derived.Test.YtmjikfeaopmejaaDoorOut
import Derived.Lib.ConvBytes
namespace Go.Proofs.YtmjikfeaopmejaaDoor
open Go.RowKit
attribute [local go_sem ↓ 100000] builtin_append8
theorem empty_new (w : World) : (w.alloc (.cells #[] 5)).ownsRow w.heap.size 5 1 (.slice (some ⟨w.heap.size, 0, none⟩) 0 0) ([] : List UInt8).length (u8s []) := bytes_empty w
theorem nil_nil (w : World) : (binOp .eql 22 (.slice none 0 0) (.slice none 0 0)).run Tryd.prog w = .ok (.bool true) w := by kernel_rfl
theorem some_nil (g n c : Nat) (w : World) : (binOp .eql 22 (.slice (some ⟨g, 0, none⟩) n c) (.slice none 0 0)).run Tryd.prog w = .ok (.bool false) w := by kernel_rfl
set_option maxRecDepth 100000 in
theorem sclone_any {w : World} {B n : Nat} {v : Value} {l : List UInt8} (h : w.ownsRow B 5 1 v n (u8s l)) (hl : l.length = n) (hn : n ≤ 900000000) :
    Calls Tryd.prog 31 #[v] w fun e w' => ∃ v, e = .returned v ∧ w'.ownsRow w.heap.size 5 1 v n (u8s l) ∧ Below w.heap.size w w' := by
  obtain ⟨_, _, _, hr, _⟩ := own_reads h
  rcases h.2 with ⟨rfl, rfl⟩ | ⟨g, c, cur, rfl, _⟩
  · obtain rfl := List.length_eq_zero_iff.1 hl
    have he := nil_nil w
    go_enter Tryd.func31, Tryd.ntmps31
    go_wp2
    go_ret
    exact ⟨_, rfl, World.ownsRow_nil _ _ _ _, Below.refl _ _⟩
  · have hr := Reads.of_own h
    have he := some_nil g n c w
    have hbx := (Below.refl w.heap.size w).alloc (Nat.le_refl _) (.cells #[] 5)
    obtain ⟨A2, c2, w2, E1, hown, hg⟩ := run_append8 (n := n) (m := l) (empty_new w) c hl.symm (hr.below hbx) (by simp; omega) hbx.size
    have hb2 := hbx.grown hg hbx.size (fun k hk => ((empty_new w).lt k hk).1)
    simp only [List.nil_append] at E1 hown
    rw [hl] at E1 hown
    have HO := Lib.hid hown
    have HB2 := Lib.hid hb2
    clear hr hbx hown hg hb2
    go_enter Tryd.func31, Tryd.ntmps31
    go_wp2
    go_ret
    exact ⟨_, rfl, HO.out, HB2.out⟩
set_option maxRecDepth 100000 in
theorem out_Raw {w : World} {B o : Nat} {l : List UInt8} {sp : Bool} {v0 : Value} (h : OutAt w B o l sp v0) (hB : B ≤ w.heap.size) (hl : l.length ≤ 800000000) (A : Option Addr) (n c : Nat) (m : List UInt8) (hm : m.length = n) (hn : n ≤ 100000000) (hr : Reads w w.heap.size 1 A n (u8s m)) :
    Calls Tryd.prog 23 #[.pointer (some ⟨o, 0, none⟩), .slice A n c] w fun e w' => e = .returned (.tuple #[]) ∧ (∃ v', OutAt w' B o (l ++ m) sp v') ∧ OBut B o w w' := by
  obtain ⟨A2, c2, w2, E1, hown, hg⟩ := run_append8 (n := n) (m := m) h.own c hm.symm hr (by omega) hB
  obtain ⟨ho2, p1, p2⟩ := out_push h hg hown
  have c0 := h.c0
  have z0 : w2.cell? ⟨o, 0, none⟩ = some v0 := by rw [ho2.cell]; rfl
  have zf := ho2.frozen 0
  obtain ⟨l2, hl2⟩ : ∃ l2, l ++ m = l2 := ⟨_, rfl⟩
  rw [hl2] at E1 p1 p2 ⊢
  have H1 := Lib.hid p1
  have H2 := Lib.hid p2
  clear h hr hown hg ho2 p1 p2 hl2
  go_enter Tryd.func23, Tryd.ntmps23
  go_wp2
  go_end0
  exact ⟨rfl, ⟨_, H1.out⟩, H2.out⟩
set_option maxRecDepth 100000 in
theorem out_Text {w : World} {B o : Nat} {l : List UInt8} {sp : Bool} {v0 : Value} (h : OutAt w B o l sp v0) (hB : B ≤ w.heap.size) (hl : l.length ≤ 700000000) (s : ByteArray) (hs : s.size < 65536) :
    Calls Tryd.prog 22 #[.pointer (some ⟨o, 0, none⟩), .string s] w fun e w' => e = .returned (.tuple #[]) ∧ (∃ v', OutAt w' B o (l ++ textB s) sp v') ∧ OBut B o w w' := by
  have HN := Lib.hid (out_N h hB (by omega) s.size 2 (by omega) (by omega))
  have hcv : ∀ w1 : World, (convert 9 22 (.string s)).run Tryd.prog w1 = .ok (.slice (some ⟨w1.heap.size, 0, none⟩) s.size (grownCap w1 s.size 0 5)) (Lib.bytesWorld w1 5 s) := fun w1 => Lib.run_convert_string_bytes w1 9 22 5 s Tryd.underlying9 Tryd.underlying22 Tryd.underlying5
  go_enter Tryd.func22, Tryd.ntmps22
  go_wp2_with fail
  refine HN.out.mono ?_
  rintro e w1 ⟨rfl, ⟨v1, h1⟩, hb1⟩
  have hbx : Below w1.heap.size w1 (Lib.bytesWorld w1 5 s) := ⟨rfl, rfl, rfl, by rw [Lib.bytesWorld_size]; omega, fun k hk => Lib.bytesWorld_at_old w1 5 s k hk⟩
  have hx := h1.below hbx
  have hrd : Reads (Lib.bytesWorld w1 5 s) (Lib.bytesWorld w1 5 s).heap.size 1 (some ⟨w1.heap.size, 0, none⟩) s.size (u8s s.data.toList) := by
    refine ⟨by rw [u8s_length, Array.length_toList, Nat.mul_one]; rfl, fun _ => ⟨_, rfl, by rw [Lib.bytesWorld_size]; exact Nat.lt_succ_self _, fun j u hu => ?_⟩⟩
    have hj : j < s.size := by
      rcases Nat.lt_or_ge j s.size with h | h
      · exact h
      · rw [u8s_get, List.getElem?_eq_none (by simpa using h)] at hu; cases hu
    have ha : (⟨w1.heap.size, 0, none⟩ : Addr).add j = ⟨w1.heap.size, j, none⟩ := by unfold Addr.add; split <;> simp_all
    rw [ha, Lib.bytesWorld_cell w1 5 s j hj, ← hu, u8s_get]
    have hj2 : j < s.data.toList.length := by simpa using hj
    rw [List.getD_eq_getElem?_getD, List.getElem?_eq_getElem hj2]
    rfl
  have HR := Lib.hid (out_Raw hx (Nat.le_trans (Nat.le_trans hB hb1.size) hbx.size) (by rw [List.length_append, be_length]; omega) (some ⟨w1.heap.size, 0, none⟩) s.size (grownCap w1 s.size 0 5) s.data.toList rfl (by omega) hrd)
  have HB1 := Lib.hid (hb1.below hbx)
  have hcv1 := hcv w1
  clear hcv hx hrd h1 hb1 hbx
  go_wp2_with fail
  refine HR.out.mono ?_
  rintro e w2 ⟨rfl, ⟨v2, h2⟩, hb2⟩
  have H2 := Lib.hid h2
  have HB2 := Lib.hid (HB1.out.trans hb2)
  clear h2 hb2
  go_wp2
  go_end0
  refine ⟨rfl, ⟨v2, ?_⟩, HB2.out⟩
  have := H2.out
  rw [List.append_assoc] at this
  exact this
set_option maxRecDepth 100000 in
theorem out_End {w : World} {B o : Nat} {l : List UInt8} {v0 : Value} (h : OutAt w B o l false v0) (hl : l.length ≤ 800000000) :
    Calls Tryd.prog 24 #[.pointer (some ⟨o, 0, none⟩)] w fun e w' => ∃ v, e = .returned (.tuple #[v, .int .i64 0]) ∧ w'.ownsRow w.heap.size 5 1 v l.length (u8s l) ∧ Below w.heap.size w w' := by
  have HC := Lib.hid (sclone_any h.own rfl (by omega))
  have c0 := h.c0
  have c1 := h.c1
  clear h
  go_enter Tryd.func24, Tryd.ntmps24
  go_wp2_with fail
  refine HC.out.mono ?_
  rintro e w2 ⟨v, rfl, ho, hb⟩
  go_wp2
  go_ret2
  exact ⟨v, rfl, ho, hb⟩
end Go.Proofs.YtmjikfeaopmejaaDoor
