/-
  Numbers of one's own; worlds that differ in some blocks alone; rows that are cleared.
-/
import Derived.Test.YtbbhblnhbgkcaaaDoorUids
import Derived.Test.YtbbhblnhbgkcaaaDoorOwnMsg
import Derived.Test.YtbbhblnhbgkcaaaDoorMailRefAppend
import Derived.Lib.SliceRun
namespace Go.Proofs.YtbbhblnhbgkcaaaDoor
open Go.RowKit
def OwnU (B : Nat) (w : World) (v : Value) (l : List Nat) : Prop := w.ownsRow B 22 1 v l.length (u32s l)
theorem u32s_length (l : List Nat) : (u32s l).length = l.length := by simp [u32s]
theorem u32s_append (l m : List Nat) : u32s (l ++ m) = u32s l ++ u32s m := by simp [u32s]
theorem u32_info : (Tryd.prog.info? 22).map (fun i => (i.zero, i.size, i.bytes)) = some (some (.int .u32 0), 1, 4) := by kernel_rfl
theorem u32s_one (l : List Nat) : ∀ u ∈ u32s l, u.oneCell' = true := by
  intro u hu
  obtain ⟨n, _, rfl⟩ := List.mem_map.1 hu
  rfl
section
variable {w w' w'' : World} {B B' : Nat} {v : Value} {l m : List Nat}
theorem OwnU.below (h : OwnU B w v l) (hb : Below w.heap.size w w') : OwnU B w' v l := own_below h hb
theorem OwnU.mono (h : OwnU B w v l) (hb : B' ≤ B) : OwnU B' w v l := own_mono h hb
theorem OwnU.keep (h : OwnU B w v l) (hk : ∀ g, v.ownBlock = some g → w'.heap[g]? = w.heap[g]?) : OwnU B w' v l := own_keep h hk
theorem OwnU.nil (B : Nat) (w : World) : OwnU B w (.slice none 0 0) [] := World.ownsRow_nil _ _ _ _
theorem OwnU.reads (h : OwnU B w v l) : ∃ A c, v = .slice A l.length c ∧ Reads w w.heap.size 1 A l.length (u32s l) := by
  obtain ⟨A, c, e, hr, _⟩ := own_reads h
  exact ⟨A, c, e, hr⟩
theorem run_appU {A : Option Addr} {c : Nat} (h : OwnU B w v l) (hu : Reads w w.heap.size 1 A m.length (u32s m)) (hlen : l.length + m.length ≤ 1000000000) (hB : B ≤ w.heap.size) :
    ∃ r w', (Builtin.append_ #[42, 42] 42 #[v, .slice A m.length c]).run Tryd.prog w = .ok r w' ∧ OwnU B w' r (l ++ m) ∧ w.grownBy w' v.ownBlock := by
  obtain ⟨i0, hi0, hz0, hz1, hz2⟩ := info_parts u32_info
  obtain ⟨v', w', hrun, ho, hg⟩ := run_append_any (P := Tryd.prog) w B 42 42 22 i0 _ 1 4 Tryd.underlying42 hi0 hz0 hz1 hz2 rfl (by omega) v l.length (u32s l) h A m.length c (u32s m) (Gives.of_reads hu (u32s_one m)) (by unfold maxLen; omega) (by omega) hB
  rw [← u32s_append] at ho
  refine ⟨v', w', hrun, ?_, hg⟩
  unfold OwnU
  rw [List.length_append]
  exact ho
theorem u32_blk {g x : Nat} (K : Blk w g 22 #[.int .u32 (x : Nat)]) : Reads w w.heap.size 1 (some ⟨g, 0, none⟩) 1 (u32s [x]) := by
  refine ⟨rfl, fun _ => ⟨_, rfl, K.lt, fun j u hu => ?_⟩⟩
  rcases j with _ | j
  · rw [add0, K.cell]; exact hu
  · cases hu
/-- two worlds differ in some blocks alone -/
structure Apart (S : Nat → Prop) (w w' : World) : Prop where
  os : w'.os = w.os
  tape : w'.tape = w.tape
  output : w'.output = w.output
  size : w.heap.size ≤ w'.heap.size
  block : ∀ i, i < w.heap.size → ¬ S i → w'.heap[i]? = w.heap[i]?
variable {S S' : Nat → Prop}
theorem Apart.refl (S : Nat → Prop) (w : World) : Apart S w w := ⟨rfl, rfl, rfl, Nat.le_refl _, fun _ _ _ => rfl⟩
theorem Apart.trans (h : Apart S w w') (k : Apart S' w' w'') (hs : ∀ i, i < w.heap.size → S' i → S i) : Apart S w w'' :=
  ⟨k.os.trans h.os, k.tape.trans h.tape, k.output.trans h.output, Nat.le_trans h.size k.size, fun i hi hn => (k.block i (Nat.lt_of_lt_of_le hi h.size) fun h' => hn (hs i hi h')).trans (h.block i hi hn)⟩
theorem Apart.below (h : Apart S w w') (k : Below w'.heap.size w' w'') : Apart S w w'' :=
  ⟨k.os.trans h.os, k.tape.trans h.tape, k.output.trans h.output, Nat.le_trans h.size k.size, fun i hi hn => (k.block i (Nat.lt_of_lt_of_le hi h.size)).trans (h.block i hi hn)⟩
theorem Apart.grown {row : Option Nat} (h : Apart S w w') (k : w'.grownBy w'' row) (hs : ∀ g, row = some g → w.heap.size ≤ g ∨ S g) : Apart S w w'' :=
  ⟨k.os.trans h.os, k.tape.trans h.tape, k.output.trans h.output, Nat.le_trans h.size k.size, fun i hi hn => (k.block i (Nat.lt_of_lt_of_le hi h.size) fun e => by
    rcases hs i e.symm with h1 | h1
    · omega
    · exact hn h1).trans (h.block i hi hn)⟩
theorem Apart.only {g : Nat} (h : Apart S w w') (k : Only g w' w'') (hs : w.heap.size ≤ g ∨ S g) : Apart S w w'' :=
  h.grown k.grown fun g' e => by rw [← Option.some.inj e]; exact hs
theorem Apart.toBelow (h : Apart S w w') (hs : ∀ i, S i → B ≤ i) (hB : B ≤ w.heap.size) : Below B w w' :=
  ⟨h.os, h.tape, h.output, h.size, fun i hi => h.block i (by omega) fun hS => by have := hs i hS; omega⟩
theorem Apart.blk {g : Nat} {T : TypeId} {cs : Array Value} (h : Apart S w w') (K : Blk w g T cs) (hg : ¬ S g) : Blk w' g T cs := (h.block g K.lt hg).trans K
theorem Apart.reads {n : Nat} {A : Option Addr} {xs : List Value} (h : Apart S w w') (hr : Reads w w.heap.size 1 A n xs) (hn : 0 < n → ∀ ad, A = some ad → ¬ S ad.block) : Reads w' w'.heap.size 1 A n xs := by
  refine ⟨hr.1, fun h0 => ?_⟩
  obtain ⟨ad, e, hlt, hc⟩ := hr.2 h0
  refine ⟨ad, e, Nat.lt_of_lt_of_le hlt h.size, fun j u hu => ?_⟩
  have := hc j u hu
  rwa [← World.cell?_of_block (w' := w') (h.block _ (by rw [block_of_add]; exact hlt) (by rw [block_of_add]; exact hn h0 ad e))] at this
theorem grown_tr {row : Option Nat} (h : w.grownBy w' row) (k : w'.grownBy w'' row) : w.grownBy w'' row :=
  ⟨k.os.trans h.os, k.tape.trans h.tape, k.output.trans h.output, Nat.le_trans h.size k.size, fun i hi hn => (k.block i (Nat.lt_of_lt_of_le hi h.size) hn).trans (h.block i hi hn)⟩
/-- an element is set -/
theorem OwnM.put {g n c i : Nat} {lm : List MsgV} {x y : MsgV} (h : OwnM B w (.slice (some ⟨g, 0, none⟩) n c) lm) (hy : lm[i]? = some y)
    (ho : Reads w w.heap.size 1 x.a x.b.length (u8s x.b)) (hoff : Off g x) (hu : x.uid < 4294967296) (hc : x.b.length ≤ x.c ∧ x.c ≤ 9223372036854775807) :
    OwnM B ((((w.setCell ⟨g, i * 4, none⟩ (.int .u32 (x.uid : Nat))).setCell ⟨g, i * 4 + 1, none⟩ (.int .i64 x.date)).setCell ⟨g, i * 4 + 2, none⟩ (.int .i64 x.flags)).setCell ⟨g, i * 4 + 3, none⟩ (.slice x.a x.b.length x.c)) (.slice (some ⟨g, 0, none⟩) n c) (lm.set i x) ∧
      w.grownBy ((((w.setCell ⟨g, i * 4, none⟩ (.int .u32 (x.uid : Nat))).setCell ⟨g, i * 4 + 1, none⟩ (.int .i64 x.date)).setCell ⟨g, i * 4 + 2, none⟩ (.int .i64 x.flags)).setCell ⟨g, i * 4 + 3, none⟩ (.slice x.a x.b.length x.c)) (some g) := by
  have hi := (List.getElem?_eq_some_iff.1 hy).1
  have hmy := List.mem_of_getElem? hy
  have hg : ∀ {z}, (lm.set i z)[i]? = some z := fun {z} => by rw [List.getElem?_set_self hi]
  have oy := h.octs y hmy
  have fy := h.off g rfl y hmy
  have uy := h.uids y hmy
  have cy := h.caps y hmy
  obtain ⟨h1, g1⟩ := h.set (y := ⟨x.uid, y.date, y.flags, y.a, y.c, y.b⟩) hy (j := 0) (by omega) rfl oy fy hu cy
  have e1 := h1.octs _ (List.mem_of_getElem? hg)
  obtain ⟨h2, g2⟩ := h1.set (i := i) (x := ⟨x.uid, y.date, y.flags, y.a, y.c, y.b⟩) (y := ⟨x.uid, x.date, y.flags, y.a, y.c, y.b⟩) hg (j := 1) (by omega) rfl e1 fy hu cy
  rw [List.set_set] at h2
  have e2 := h2.octs _ (List.mem_of_getElem? hg)
  obtain ⟨h3, g3⟩ := h2.set (i := i) (x := ⟨x.uid, x.date, y.flags, y.a, y.c, y.b⟩) (y := ⟨x.uid, x.date, x.flags, y.a, y.c, y.b⟩) hg (j := 2) (by omega) rfl e2 fy hu cy
  rw [List.set_set] at h3
  have gg := grown_tr (grown_tr g1 g2) g3
  have ox := Reads.apart ho hoff (fun k hk hne => gg.block k hk (fun e => hne (Option.some.inj e))) gg.size
  obtain ⟨h4, g4⟩ := h3.set (i := i) (x := ⟨x.uid, x.date, x.flags, y.a, y.c, y.b⟩) (y := x) hg (j := 3) (by omega) rfl ox hoff hu hc
  rw [List.set_set] at h4
  exact ⟨h4, grown_tr gg g4⟩
/-- the elements ahead alone -/
theorem OwnM.cut {g n c i : Nat} {lm : List MsgV} (h : OwnM B w (.slice (some ⟨g, 0, none⟩) n c) lm) (hi : i ≤ n) : OwnM B w (.slice (some ⟨g, 0, none⟩) i c) (lm.take i) := by
  have hn := own_len h.row
  have hm : ∀ {m}, m ∈ lm.take i → m ∈ lm := fun {m} hm => List.mem_of_mem_take hm
  have hl : (lm.take i).length = i := by rw [List.length_take]; omega
  refine ⟨?_, fun m h' => h.octs m (hm h'), fun g' hg' m h' => h.off g' hg' m (hm h'), fun m h' => h.uids m (hm h'), fun m h' => h.caps m (hm h')⟩
  rw [hl]
  rcases h.row.2 with ⟨e, _⟩ | ⟨g', cap, cur, e, h1, h2, h3, h4, h5, h6⟩
  · cases e
  · injection e with e1 e2 e3
    injection e1 with e1
    injection e1 with e1 _
    subst e1 e3
    refine ⟨by rw [flatK_len msgC_len, hl], .inr ⟨g, c, cur, rfl, h1, h2, by omega, h4, h5, ?_⟩⟩
    rw [flatK_take msgC_len, ← h6, List.take_take, Nat.min_eq_left (Nat.mul_le_mul_right 4 (by omega))]
theorem own_setCells {g n c size : Nat} {e : TypeId} {xs : List Value} : ∀ (vs : List Value) (o : Nat) (w : World), w.ownsRow B e size (.slice (some ⟨g, 0, none⟩) n c) n xs → n * size ≤ o → (w.setCells g o vs).ownsRow B e size (.slice (some ⟨g, 0, none⟩) n c) n xs ∧ w.grownBy (w.setCells g o vs) (some g)
  | [], _, w, h, _ => ⟨h, ⟨rfl, rfl, rfl, Nat.le_refl _, fun _ _ _ => rfl⟩⟩
  | u :: r, o, w, h, ho => by
    obtain ⟨h1, h2⟩ := h.stored o u
    rw [List.set_eq_of_length_le (by rw [h.1]; exact ho)] at h1
    obtain ⟨h3, h4⟩ := own_setCells r (o + 1) _ h1 (by omega)
    exact ⟨h3, grown_tr h2 h4⟩
theorem msg_zero (w : World) : (zeroValue 30).run Tryd.prog w = .ok (.agg #[.int .u32 0, .int .i64 0, .int .i64 0, .slice none 0 0]) w := by kernel_rfl
/-- the rest of a row is cleared -/
theorem run_clearM {g n c i d : Nat} {lm : List MsgV} (h : OwnM B w (.slice (some ⟨g, 0, none⟩) n c) lm) (hi : i < n) :
    ∃ w', (∀ ty, (Builtin.clear_ #[23] ty #[.slice (some ⟨g, i * 4, none⟩) (n - i) d]).run Tryd.prog w = .ok (.tuple #[]) w') ∧ OwnM B w' (.slice (some ⟨g, 0, none⟩) i c) (lm.take i) ∧ w.grownBy w' (some g) := by
  have hn := own_len h.row
  have hr := h.row
  rw [hn] at hr
  have hz : ∀ k, ((Builtin.zeroCells (Value.agg #[.int .u32 0, .int .i64 0, .int .i64 0, .slice none 0 0]).cells k).toList).length = k * 4 := fun k => by simp [Builtin.zeroCells, Value.cells]
  have h1z : ∀ k, ∀ u ∈ (Builtin.zeroCells (Value.agg #[.int .u32 0, .int .i64 0, .int .i64 0, .slice none 0 0]).cells k).toList, u.oneCell' = true := fun k u hu => by
    simp only [Builtin.zeroCells, Array.toList_map, List.mem_map] at hu
    obtain ⟨j, _, rfl⟩ := hu
    have h4 : ∀ q, q < 4 → ((Value.agg #[.int .u32 0, .int .i64 0, .int .i64 0, .slice none 0 0]).cells[q]!).oneCell' = true := fun q hq => by
      rcases (by omega : q = 0 ∨ q = 1 ∨ q = 2 ∨ q = 3) with e | e | e | e <;> subst e <;> rfl
    exact h4 _ (Nat.mod_lt _ (by decide))
  have hst := run_storeCells_cells (P := Tryd.prog) g (i * 4) (Builtin.zeroCells (Value.agg #[.int .u32 0, .int .i64 0, .int .i64 0, .slice none 0 0]).cells (n - i)).toList 0 w (fun j hj => by
    rw [hz] at hj
    rw [Nat.add_zero, hr.cellAt _ (by omega), List.getElem?_eq_getElem (by rw [hr.1]; omega)]
    rfl) (fun j _ => hr.frozenAt _) (h1z _)
  rw [Nat.add_zero] at hst
  have hcut := h.cut (Nat.le_of_lt hi)
  have hl : (lm.take i).length = i := by rw [List.length_take]; omega
  have hcr := hcut.row
  rw [hl] at hcr
  obtain ⟨q1, q2⟩ := own_setCells (Builtin.zeroCells (Value.agg #[.int .u32 0, .int .i64 0, .int .i64 0, .slice none 0 0]).cells (n - i)).toList (i * 4) w hcr (Nat.le_refl _)
  refine ⟨_, ?_, ⟨by rw [hl]; exact q1, fun m hm => ?_, hcut.off, hcut.uids, hcut.caps⟩, q2⟩
  · intro ty
    obtain ⟨m, hm⟩ : ∃ m, n - i = m + 1 := ⟨n - i - 1, by omega⟩
    rw [hm] at hst ⊢
    simp [Builtin.clear_, run_underlying Tryd.underlying23, hst]
  · exact Reads.apart (hcut.octs m hm) (hcut.off g rfl m hm) (fun k hk hne => q2.block k hk (fun e => hne (Option.some.inj e))) q2.size
end
end Go.Proofs.YtbbhblnhbgkcaaaDoor
