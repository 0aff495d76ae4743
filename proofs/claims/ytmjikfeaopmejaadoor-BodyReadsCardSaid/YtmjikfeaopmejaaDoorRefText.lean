/-
  Walk of the document's text.
-/
import Derived.Test.YtmjikfeaopmejaaDoorOut2
import Derived.Lib.AppendStr
namespace Go.Proofs.YtmjikfeaopmejaaDoor
open Go.RowKit
attribute [local go_sem ↓ 100000] builtin_append8
/-- a row of bytes, added to -/
theorem append8_step {w0 w : World} (hb : Below w0.heap.size w0 w) {v : Value} {l m : List UInt8} (h : w.ownsRow w0.heap.size 5 1 v l.length (u8s l)) {A : Option Addr} {n : Nat} (c : Nat) {Bd : Nat} (hn : n = m.length) (hr : Reads w Bd 1 A n (u8s m)) (hlen : l.length + m.length ≤ 1000000000) :
    ∃ A' c' w', (append8S #[v, .slice A n c]).run Tryd.prog w = .ok (.value (.slice A' (l ++ m).length c')) w' ∧ w'.ownsRow w0.heap.size 5 1 (.slice A' (l ++ m).length c') (l ++ m).length (u8s (l ++ m)) ∧ Below w0.heap.size w0 w' := by
  obtain ⟨A2, c2, w2, E, ho, hg⟩ := run_append8 h c hn hr hlen hb.size
  exact ⟨A2, c2, w2, E, ho, hb.grown hg hb.size fun k hk => (h.lt k hk).1⟩
theorem append8_at {w0 w : World} (hb : Below w0.heap.size w0 w) {v : Value} {l m : List UInt8} {n1 n n2 : Nat} (h : w.ownsRow w0.heap.size 5 1 v n1 (u8s l)) {A : Option Addr} (c : Nat) {Bd : Nat} (hn : m.length = n) (h2 : n1 + n = n2) (hr : Reads w Bd 1 A n (u8s m)) (hlen : n2 ≤ 1000000000) :
    ∃ A' c' w', (append8S #[v, .slice A n c]).run Tryd.prog w = .ok (.value (.slice A' n2 c')) w' ∧ w'.ownsRow w0.heap.size 5 1 (.slice A' n2 c') n2 (u8s (l ++ m)) ∧ Reads w' w'.heap.size 1 A' n2 (u8s (l ++ m)) ∧ Below w0.heap.size w0 w' := by
  have h1 : l.length = n1 := by have := h.1; rw [u8s_length] at this; omega
  have hlm : (l ++ m).length = n2 := by rw [List.length_append]; omega
  obtain ⟨A2, c2, w2, E, ho, hb2⟩ := append8_step hb (own8 h) c hn.symm hr (by omega)
  rw [hlm] at E ho
  exact ⟨A2, c2, w2, E, ho, Reads.of_own ho, hb2⟩
theorem own_lit8 {w : World} {l : List UInt8} (hl : l.length ≤ 1000) {cs : Array Value} (hcs : cs = (u8s l).toArray) : (w.alloc (.cells cs 5)).ownsRow w.heap.size 5 1 (.slice (some ⟨w.heap.size, 0, none⟩) l.length l.length) l.length (u8s l) := by
  subst hcs
  have := World.ownsRow_lit (base := w.heap.size) (e := 5) (size := 1) w (u8s l).toArray l.length (Nat.le_refl _) (by unfold maxLen; omega) (by simp [u8s])
  simpa using this
def append8T (args : Array Value) : Sem Next := do pure (.value (← Builtin.append_ #[22, 9] 22 args))
theorem builtin_append8T (cs : Array Bool) (args : Array Value) : builtin .append #[22, 9] 22 cs args = append8T args := rfl
attribute [local go_sem ↓ 100000] builtin_append8T
theorem append8T_step {w0 w : World} (hb : Below w0.heap.size w0 w) {v : Value} {l : List UInt8} (h : w.ownsRow w0.heap.size 5 1 v l.length (u8s l)) (s : ByteArray) (hlen : l.length + s.size ≤ 1000000000) :
    ∃ A' c' w', (append8T #[v, .string s]).run Tryd.prog w = .ok (.value (.slice A' (l ++ s.data.toList).length c')) w' ∧ w'.ownsRow w0.heap.size 5 1 (.slice A' (l ++ s.data.toList).length c') (l ++ s.data.toList).length (u8s (l ++ s.data.toList)) ∧ Below w0.heap.size w0 w' := by
  obtain ⟨i0, hi0, hz0, hz1, hz2⟩ := info_parts u8_info
  obtain ⟨v', w', hrun, ho, hg, _⟩ := Lib.run_append_own_string (P := Tryd.prog) w w0.heap.size 22 9 22 5 i0 Tryd.underlying22 Tryd.underlying9 hi0 hz0 hz1 hz2 v l.length (u8s l) h s (by unfold maxLen; omega) (by omega) hb.size
  have ho' : w'.ownsRow w0.heap.size 5 1 v' (l ++ s.data.toList).length (u8s (l ++ s.data.toList)) := by
    rw [u8s_append, List.length_append]
    exact ho
  obtain ⟨A', c', rfl, _, _⟩ := own_reads ho'
  exact ⟨A', c', w', by unfold append8T; simp only [Sem.run_bind, hrun, Result.andThen_ok, Sem.run_pure], ho', hb.grown hg hb.size fun k hk => (h.lt k hk).1⟩
set_option maxRecDepth 100000 in
theorem refText_any (s : ByteArray) (hs : s.size ≤ 1000000) (w : World) :
    Calls Tryd.prog 20 #[.string s] w fun e w' => ∃ v, e = .returned v ∧ w'.ownsRow w.heap.size 5 1 v (textB s).length (u8s (textB s)) ∧ Below w.heap.size w w' := by
  have R1 := Lib.hid (refBytes_any s.size 2 (by omega) (by omega) w)
  go_enter Tryd.func20, Tryd.ntmps20
  go_wp2_with fail
  refine R1.out.mono ?_
  rintro e w1 ⟨v1, rfl, ho1, hb1⟩
  obtain ⟨A2, c2, w2, E, ho2, hb2⟩ := append8T_step hb1 (own8 ho1) s (by rw [be_length]; omega)
  obtain ⟨n2, hn2⟩ : ∃ n2, (be 2 s.size ++ s.data.toList).length = n2 := ⟨_, rfl⟩
  rw [hn2] at E ho2
  have HN2 : Hid ((textB s).length = n2) := hn2
  clear hn2
  have HO := Lib.hid ho2
  have HB := Lib.hid hb2
  clear ho1 hb1 ho2 hb2
  go_wp2
  go_ret
  refine ⟨_, rfl, ?_, HB.out⟩
  rw [HN2.out]
  exact HO.out
end Go.Proofs.YtmjikfeaopmejaaDoor
