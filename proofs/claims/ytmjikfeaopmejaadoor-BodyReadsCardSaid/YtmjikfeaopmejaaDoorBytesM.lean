/-
  Rows of bytes that are owned, and what is taken from them, for the walks by facts.
-/
import Derived.Test.YtmjikfeaopmejaaDoorHoare
import Derived.Test.YtmjikfeaopmejaaDoorU8
import Derived.IntWalk
namespace Go.Proofs.YtmjikfeaopmejaaDoor
open Go.RowKit
theorem lit_one (w : World) (c : UInt8) : Reads (w.alloc (.cells #[.int .u8 ((c.toNat : Nat) : Int)] 5)) (w.heap.size + 1) 1 (some ⟨w.heap.size, 0, none⟩) 1 (u8s [c]) := by
  refine ⟨rfl, fun _ => ⟨⟨w.heap.size, 0, none⟩, rfl, Nat.lt_succ_self _, fun j u hu => ?_⟩⟩
  have hb : Blk (w.alloc (.cells #[.int .u8 ((c.toNat : Nat) : Int)] 5)) w.heap.size 5 #[.int .u8 ((c.toNat : Nat) : Int)] := Blk.new w _ _
  rcases j with _ | j
  · have ha : (⟨w.heap.size, 0, none⟩ : Addr).add 0 = ⟨w.heap.size, 0, none⟩ := by unfold Addr.add; simp
    rw [ha, hb.cell]
    exact hu
  · cases hu
theorem own8_reads {w : World} {B n : Nat} {v : Value} {l : List UInt8} (h : w.ownsRow B 5 1 v n (u8s l)) : ∃ A c, v = .slice A l.length c ∧ Reads w w.heap.size 1 A l.length (u8s l) := by
  obtain ⟨A, c, rfl, hr, _⟩ := own_reads (own8 h)
  have hn : n = l.length := by have := h.1; rw [u8s_length] at this; omega
  subst hn
  obtain ⟨A, c, e, hr, _⟩ := own_reads h
  injection e with e1 e2 e3
  subst e1 e3
  exact ⟨_, _, rfl, hr⟩
/-- what is taken: a slice that reads as bytes -/
def Took (w : World) (r : Value) (l : List UInt8) : Prop := ∃ A c, r = .slice A l.length c ∧ Reads w w.heap.size 1 A l.length (u8s l)
theorem Took.nil (w : World) : Took w (.slice none 0 0) [] := ⟨none, 0, rfl, Reads.none8⟩
/-- a row of bytes of one's own -/
def Own8 (B : Nat) (w : World) (v : Value) (l : List UInt8) : Prop := w.ownsRow B 5 1 v l.length (u8s l)
section
variable {w w' : World} {B B' : Nat} {v : Value} {l m : List UInt8} {P : Program} {ev : Operand → Value} {o : Oper}
theorem Own8.below (h : Own8 B w v l) (hb : Below w.heap.size w w') : Own8 B w' v l := own_below h hb
theorem Own8.mono (h : Own8 B w v l) (hb : B' ≤ B) : Own8 B' w v l := own_mono h hb
theorem Own8.keep (h : Own8 B w v l) (hk : ∀ g, v.ownBlock = some g → w'.heap[g]? = w.heap[g]?) : Own8 B w' v l := own_keep h hk
theorem Own8.took (h : Own8 B w v l) : Took w v l := own8_reads h
theorem Own8.of {n : Nat} (h : w.ownsRow B 5 1 v n (u8s l)) : Own8 B w v l := own8 h
theorem Own8.nil (w : World) : Own8 B w (.slice none 0 0) [] := World.ownsRow_nil _ _ _ _
theorem Took.below (h : Took w v l) (hb : Below w.heap.size w w') : Took w' v l := by
  obtain ⟨A, c, e, hr⟩ := h
  exact ⟨A, c, e, (hr.below hb).more hb.size⟩
theorem exec_append {s x : Operand} {T T' : TypeId} {u r : Value} (ho : o.op = .call { callee := .builtin .append, args := #[s, x], argTypes := #[T, T'] }) (hs : ev s = v) (hx : ev x = u)
    (hr : (Builtin.append_ #[T, T'] o.type #[v, u]).run P w = .ok r w') : (execOp ev o).run P w = .ok (.value r) w' := by
  unfold execOp
  simp only [ho, resolve, invoke, builtin, Sem.run_bind, Sem.run_pure, Result.andThen_ok, List.map_toArray, List.map_cons, List.map_nil, hs, hx, hr]
theorem run_app8 {u : Value} (h : Own8 B w v l) (hu : Took w u m) (hlen : l.length + m.length ≤ 1000000000) (hB : B ≤ w.heap.size) :
    ∃ r w', (Builtin.append_ #[22, 22] 22 #[v, u]).run Tryd.prog w = .ok r w' ∧ Own8 B w' r (l ++ m) ∧ w.grownBy w' v.ownBlock := by
  obtain ⟨A, c, rfl, hr⟩ := hu
  obtain ⟨i0, hi0, hz0, hz1, hz2⟩ := info_parts u8_info
  obtain ⟨v', w', hrun, ho, hg⟩ := run_append_any (P := Tryd.prog) w B 22 22 5 i0 _ 1 1 Tryd.underlying22 hi0 hz0 hz1 hz2 rfl (by omega) v l.length (u8s l) h A m.length c (u8s m) (Gives.of_reads hr (u8s_one m)) (by unfold maxLen; omega) (by omega) hB
  rw [← u8s_append] at ho
  exact ⟨v', w', hrun, .of ho, hg⟩
/-- append of bytes -/
theorem exec_app8 {s x : Operand} {u : Value} (ho : o.op = .call { callee := .builtin .append, args := #[s, x], argTypes := #[22, 22] }) (hty : o.type = 22) (hs : ev s = v) (hx : ev x = u) (h : Own8 B w v l) (hu : Took w u m) (hlen : l.length + m.length ≤ 1000000000) (hB : B ≤ w.heap.size) :
    ∃ r w', (execOp ev o).run Tryd.prog w = .ok (.value r) w' ∧ Own8 B w' r (l ++ m) ∧ w.grownBy w' v.ownBlock := by
  obtain ⟨r, w', hr, h2, h3⟩ := run_app8 h hu hlen hB
  exact ⟨r, w', exec_append ho hs hx (by rw [hty]; exact hr), h2, h3⟩
theorem below_app8 {W : World} {B0 : Nat} (hb : Below B0 W w) (h : Own8 B w v l) (hg : w.grownBy w' v.ownBlock) (h0 : B0 ≤ B) (hB : B0 ≤ w.heap.size) : Below B0 W w' :=
  hb.grown hg hB fun k hk => Nat.le_trans h0 (World.ownsRow.lt h k hk).1
/-- a written slice of one byte -/
theorem took_one (w : World) (c : UInt8) : Took (w.alloc (.cells #[.int .u8 ((c.toNat : Nat) : Int)] 5)) (.slice (some ⟨w.heap.size, 0, none⟩) 1 1) [c] :=
  ⟨_, _, rfl, by simpa using lit_one w c⟩
theorem took_blk {g : Nat} {c : UInt8} (h : Blk w g 5 #[.int .u8 ((c.toNat : Nat) : Int)]) : Took w (.slice (some ⟨g, 0, none⟩) 1 1) [c] := by
  refine ⟨_, _, rfl, rfl, fun _ => ⟨⟨g, 0, none⟩, rfl, h.lt, fun j u hu => ?_⟩⟩
  rcases j with _ | j
  · have ha : (⟨g, 0, none⟩ : Addr).add 0 = ⟨g, 0, none⟩ := by unfold Addr.add; simp
    rw [ha, h.cell]
    exact hu
  · cases hu
end
end Go.Proofs.YtmjikfeaopmejaaDoor
