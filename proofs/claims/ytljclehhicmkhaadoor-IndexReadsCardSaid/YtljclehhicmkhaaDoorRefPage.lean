/-
  Walks of the document's text and page.
-/
import Derived.Test.YtljclehhicmkhaaDoorPage
import Derived.Lib.AppendStr
namespace Go.Proofs.YtljclehhicmkhaaDoor
open Go.RowKit
attribute [local go_sem ↓ 100000] builtin_append8
/-- a row of bytes, added to -/
theorem append8_step {w0 w : World} (hb : Below w0.heap.size w0 w) {v : Value} {l m : List UInt8} (h : w.ownsRow w0.heap.size 5 1 v l.length (u8s l)) {A : Option Addr} {n : Nat} (c : Nat) {Bd : Nat} (hn : n = m.length) (hr : Reads w Bd 1 A n (u8s m)) (hlen : l.length + m.length ≤ 1000000000) :
    ∃ A' c' w', (append8S #[v, .slice A n c]).run Tryd.prog w = .ok (.value (.slice A' (l ++ m).length c')) w' ∧ w'.ownsRow w0.heap.size 5 1 (.slice A' (l ++ m).length c') (l ++ m).length (u8s (l ++ m)) ∧ Below w0.heap.size w0 w' := by
  obtain ⟨A2, c2, w2, E, ho, hg⟩ := run_append8 h c hn hr hlen hb.size
  exact ⟨A2, c2, w2, E, ho, hb.grown hg hb.size fun k hk => (h.lt k hk).1⟩
theorem append8_at {w0 w : World} (hb : Below w0.heap.size w0 w) {v : Value} {l m : List UInt8} {n1 n n2 : Nat} (h : w.ownsRow w0.heap.size 5 1 v n1 (u8s l)) {A : Option Addr} (c : Nat) {Bd : Nat} (hn : m.length = n) (h2 : n1 + n = n2) (hr : Reads w Bd 1 A n (u8s m)) (hlen : n2 ≤ 1000000000) :
    ∃ A' c' w', (append8S #[v, .slice A n c]).run Tryd.prog w = .ok (.value (.slice A' n2 c')) w' ∧ w'.ownsRow w0.heap.size 5 1 (.slice A' n2 c') n2 (u8s (l ++ m)) ∧ Reads w' w'.heap.size 1 A' n2 (u8s (l ++ m)) ∧ Below w0.heap.size w0 w' := by
  have h1 : l.length = n1 := by have := h.1; rw [u8s_length] at this; omega
  have hlm : (l ++ m).length = n2 := by rw [List.length_append]; omega
  obtain ⟨A2, c2, w2, E, ho, hb2⟩ := append8_step hb (own8 h) c hn.symm hr (by omega)
  rw [hlm] at E ho
  exact ⟨A2, c2, w2, E, ho, Reads.of_own ho, hb2⟩
theorem own_lit8 {w : World} {l : List UInt8} (hl : l.length ≤ 1000) {cs : Array Value} (hcs : cs = (u8s l).toArray) : (w.alloc (.cells cs 5)).ownsRow w.heap.size 5 1 (.slice (some ⟨w.heap.size, 0, none⟩) l.length l.length) l.length (u8s l) := by
  subst hcs
  have := World.ownsRow_lit (base := w.heap.size) (e := 5) (size := 1) w (u8s l).toArray l.length (Nat.le_refl _) (by unfold maxLen; omega) (by simp [u8s])
  simpa using this
def append8T (args : Array Value) : Sem Next := do pure (.value (← Builtin.append_ #[24, 9] 24 args))
theorem builtin_append8T (cs : Array Bool) (args : Array Value) : builtin .append #[24, 9] 24 cs args = append8T args := rfl
attribute [local go_sem ↓ 100000] builtin_append8T
theorem append8T_step {w0 w : World} (hb : Below w0.heap.size w0 w) {v : Value} {l : List UInt8} (h : w.ownsRow w0.heap.size 5 1 v l.length (u8s l)) (s : ByteArray) (hlen : l.length + s.size ≤ 1000000000) :
    ∃ A' c' w', (append8T #[v, .string s]).run Tryd.prog w = .ok (.value (.slice A' (l ++ s.data.toList).length c')) w' ∧ w'.ownsRow w0.heap.size 5 1 (.slice A' (l ++ s.data.toList).length c') (l ++ s.data.toList).length (u8s (l ++ s.data.toList)) ∧ Below w0.heap.size w0 w' := by
  obtain ⟨i0, hi0, hz0, hz1, hz2⟩ := info_parts u8_info
  obtain ⟨v', w', hrun, ho, hg, _⟩ := Lib.run_append_own_string (P := Tryd.prog) w w0.heap.size 24 9 24 5 i0 Tryd.underlying24 Tryd.underlying9 hi0 hz0 hz1 hz2 v l.length (u8s l) h s (by unfold maxLen; omega) (by omega) hb.size
  have ho' : w'.ownsRow w0.heap.size 5 1 v' (l ++ s.data.toList).length (u8s (l ++ s.data.toList)) := by
    rw [u8s_append, List.length_append]
    exact ho
  obtain ⟨A', c', rfl, _, _⟩ := own_reads ho'
  exact ⟨A', c', w', by unfold append8T; simp only [Sem.run_bind, hrun, Result.andThen_ok, Sem.run_pure], ho', hb.grown hg hb.size fun k hk => (h.lt k hk).1⟩
set_option maxRecDepth 100000 in
theorem refText_any (s : ByteArray) (hs : s.size ≤ 1000000) (w : World) :
    Calls Tryd.prog 9 #[.string s] w fun e w' => ∃ v, e = .returned v ∧ w'.ownsRow w.heap.size 5 1 v (textB s).length (u8s (textB s)) ∧ Below w.heap.size w w' := by
  have R1 := Lib.hid (refBytes_any s.size 2 (by omega) (by omega) w)
  go_enter Tryd.func9, Tryd.ntmps9
  go_wp2_with fail
  refine R1.out.mono ?_
  rintro e w1 ⟨v1, rfl, ho1, hb1⟩
  obtain ⟨A2, c2, w2, E, ho2, hb2⟩ := append8T_step hb1 (own8 ho1) s (by rw [be_length]; omega)
  obtain ⟨n2, hn2⟩ : ∃ n2, (be 2 s.size ++ s.data.toList).length = n2 := ⟨_, rfl⟩
  rw [hn2] at E ho2
  have HN2 : Hid ((textB s).length = n2) := hn2
  clear hn2
  have HO := Lib.hid ho2
  have HB := Lib.hid hb2
  clear ho1 hb1 ho2 hb2
  go_wp2
  go_ret
  refine ⟨_, rfl, ?_, HB.out⟩
  rw [HN2.out]
  exact HO.out
set_option maxRecDepth 100000 in
theorem refPage_any (k : Nat) (hk : k ≤ 255) (A : Option Addr) (n c : Nat) (l : List UInt8) (hl : l.length = n) (hn : n ≤ 1000000) (w : World) (hr : Reads w w.heap.size 1 A n (u8s l)) :
    Calls Tryd.prog 12 #[.int .i64 (k : Nat), .slice A n c] w fun e w' => ∃ v, e = .returned v ∧ w'.ownsRow w.heap.size 5 1 v (pageB k l).length (u8s (pageB k l)) ∧ Below w.heap.size w w' := by
  have hk8 : (k : Int) % 256 = (k : Int) := by omega
  have hkn : (((UInt8.ofNat k).toNat : Nat) : Int) = (k : Int) := by simp; omega
  have hcs : #[Value.int .u8 112, .int .u8 97, .int .u8 103, .int .u8 (k : Int)] = (u8s [112, 97, 103, UInt8.ofNat k]).toArray := by
    unfold u8s; simp only [List.map_cons, List.map_nil]; rw [hkn]; rfl
  have ho0 : (w.alloc (.cells #[Value.int .u8 112, .int .u8 97, .int .u8 103, .int .u8 (k : Int)] 5)).ownsRow w.heap.size 5 1 (.slice (some ⟨w.heap.size, 0, none⟩) 4 4) 4 (u8s [112, 97, 103, UInt8.ofNat k]) := own_lit8 (w := w) (l := [112, 97, 103, UInt8.ofNat k]) (by simp) hcs
  have hb0 := (Below.refl w.heap.size w).alloc (Nat.le_refl _) (.cells #[Value.int .u8 112, .int .u8 97, .int .u8 103, .int .u8 (k : Int)] 5)
  obtain ⟨w0, hw0⟩ : ∃ w0, w.alloc (.cells #[Value.int .u8 112, .int .u8 97, .int .u8 103, .int .u8 (k : Int)] 5) = w0 := ⟨_, rfl⟩
  rw [hw0] at ho0 hb0
  have R1 := Lib.hid (refBytes_any n 4 (by omega) (by omega) w0)
  have HR := Lib.hid hr
  have HO0 := Lib.hid ho0
  have HB0 := Lib.hid hb0
  clear hr ho0 hb0 hcs hkn
  go_enter Tryd.func12, Tryd.ntmps12
  go_wp2_with fail
  refine R1.out.mono ?_
  rintro e w1 ⟨v1, rfl, ho1, hb1⟩
  have hB1 := HB0.out.trans (hb1.mono HB0.out.size)
  obtain ⟨A1, c1, e1, hr1⟩ := own8_reads ho1
  rw [be_length] at e1 hr1
  subst e1
  obtain ⟨A2, c2, w2, E2, ho2, _, hb2⟩ := append8_at (n2 := 8) hB1 (own_below HO0.out hb1) c1 (be_length 4 n) rfl hr1 (by omega)
  obtain ⟨np, hnp⟩ : ∃ np, 8 + n = np := ⟨_, rfl⟩
  obtain ⟨A3, c3, w3, E3, ho3, hr3, hb3⟩ := append8_at hb2 ho2 c hl hnp (HR.out.below hb2) (by omega)
  have hh : [112, 97, 103, UInt8.ofNat k] ++ be 4 n ++ l = pageHead k l := by unfold pageHead; rw [hl]
  rw [hh] at ho3 hr3
  have hpl : (pageHead k l).length = np := by rw [pageHead_length]; omega
  have R3 := Lib.hid (refCrc_any A3 np c3 (pageHead k l) w3 hpl (by omega) hr3)
  have hcl := crc_lt (pageHead k l)
  obtain ⟨cr, hcr⟩ : ∃ cr, crc (pageHead k l) = cr := ⟨_, rfl⟩
  rw [hcr] at R3 hcl
  have HCR := Lib.hid hcr
  have R4 := Lib.hid (refBytes_any cr 4 (by omega) (by omega) w3)
  have HO3 := Lib.hid ho3
  have HB3 := Lib.hid hb3
  have hnp4 : np + 4 ≤ 1000000000 := by omega
  clear ho1 hb1 hB1 hr1 ho2 hb2 ho3 hb3 hh hr3 hcr hnp hpl
  go_wp2_with fail
  refine R3.out.mono ?_
  rintro e w4 ⟨rfl, rfl⟩
  go_wp2_with fail
  refine R4.out.mono ?_
  rintro e w5 ⟨v5, rfl, ho5, hb5⟩
  obtain ⟨A5, c5, e5, hr5⟩ := own8_reads ho5
  rw [be_length] at e5 hr5
  subst e5
  obtain ⟨n9, hn9⟩ : ∃ n9, np + 4 = n9 := ⟨_, rfl⟩
  obtain ⟨A6, c6, w6, E6, ho6, _, hb6⟩ := append8_at (HB3.out.trans (hb5.mono HB3.out.size)) (own_below HO3.out hb5) c5 (be_length 4 cr) hn9 hr5 (by omega)
  have hh : pageHead k l ++ be 4 cr = pageB k l := by unfold pageB; rw [HCR.out]
  rw [hh] at ho6
  have HO6 := Lib.hid (own8 ho6)
  have HB6 := Lib.hid hb6
  clear ho5 hb5 hr5 ho6 hb6 hh hn9
  go_wp2
  go_ret
  exact ⟨_, rfl, HO6.out, HB6.out⟩
end Go.Proofs.YtljclehhicmkhaaDoor
