/-
  Walk of the document's disk: drop.
-/
import Derived.Test.YtplbclbeccoegaaRefRow
import Derived.BigRegion
namespace Go.Proofs.Ytplbclbeccoegaa
open Go.RowKit Go.Maps
theorem Reads.firsts {w w' : World} {H N n : Nat} {A : Option Addr} {l : List (Key × FV)} (hr : Reads w H 4 A N (rcells l)) (hb : Below H w w') (hN : N = l.length) (hn : n ≤ N) : Reads w' H 4 A n (rcells (l.take n)) := by
  refine ⟨by rw [rcells_length, List.length_take]; congr 1; omega, fun hp => ?_⟩
  obtain ⟨ad, e, hlt, hc⟩ := (hr.below hb).2 (by omega)
  refine ⟨ad, e, hlt, fun j u hu => hc j u ?_⟩
  rw [rcells_take] at hu
  rw [List.getElem?_take] at hu
  split at hu
  · exact hu
  · cases hu
theorem Reads.lasts {w w' : World} {H N n c : Nat} {A : Option Addr} {l : List (Key × FV)} (hr : Reads w H 4 A N (rcells l)) (hb : Below H w w') (hn : n ≤ N) (hc : N ≤ c) : Reads w' H 4 (if c = n then A else A.map (·.add (n * 4))) (N - n) (rcells (l.drop n)) := by
  rw [rcells_drop]
  exact (hr.below hb).cut hn hc
/-- append of files, shut: so that a run equation serves the walk -/
def appendS (args : Array Value) : Sem Next := do pure (.value (← Builtin.append_ #[30, 30] 30 args))
theorem builtin_append_files (cs : Array Bool) (args : Array Value) : builtin .append #[30, 30] 30 cs args = appendS args := rfl
attribute [local go_sem ↓ 100000] builtin_append_files
/-- append onto a row that is younger than a world -/
theorem run_append_fresh {w w0 : World} (hb : Below w0.heap.size w0 w) {v : Value} {l gs : List (Key × FV)} (h : FRow w w0.heap.size v l) {A : Option Addr} {m : Nat} (c : Nat) {Bd : Nat} (hm : m = gs.length) (hr : Reads w Bd 4 A m (rcells gs)) (hlen : l.length + gs.length ≤ 1000000) :
    ∃ A' n' c' w', (appendS #[v, .slice A m c]).run Try.prog w = .ok (.value (.slice A' n' c')) w' ∧ FRow w' w0.heap.size (.slice A' n' c') (l ++ gs) ∧ Below w0.heap.size w0 w' := by
  obtain ⟨v', w', hrun, h2, h3⟩ := run_append_files h c hm hr hlen hb.size 30
  obtain ⟨A', c', rfl, _, _⟩ := h2.reads
  exact ⟨A', _, c', w', by unfold appendS; simp only [Sem.run_bind, hrun, Result.andThen_ok, Sem.run_pure], h2, hb.grown h3 hb.size fun k hk => (h.lt k hk).1⟩
theorem drop_fin {w1 w3 : World} {B q cap n n3 c3 : Nat} {v : Value} {A3 : Option Addr} {es : List (Key × FV)} {fuse : Int} {lost : Bool} (h : RefAt w1 B q v es cap fuse lost) (hB : B ≤ w1.heap.size) (HB2 : Below w1.heap.size w1 w3) (hF : FRow w3 w1.heap.size (.slice A3 n3 c3) ([] ++ es.take n ++ es.drop (n + 1))) :
    (∃ v', RefAt (w3.setCell ⟨q, 1, none⟩ (.slice A3 n3 c3)) B q v' (es.take n ++ es.drop (n + 1)) cap fuse lost ∧ ∀ g, v'.ownBlock = some g → w1.heap.size ≤ g) ∧ TBut B q w1 (w3.setCell ⟨q, 1, none⟩ (.slice A3 n3 c3)) ∧ Only q w1 (w3.setCell ⟨q, 1, none⟩ (.slice A3 n3 c3)) := by
  have hql := h.cells.lt
  refine ⟨⟨.slice A3 n3 c3, ?_⟩, (TBut.of_below HB2).set_ 1 (.slice A3 n3 c3), fun i hi hne => (Below.heap_setCell _ _ _ _ hne).trans (HB2.block i hi)⟩
  rw [List.nil_append] at hF
  have hup := h.up
  refine ⟨?_, fun g hg => (hF.lt g hg).1⟩
  refine h.turn ((TBut.of_below HB2).set_ 1 (.slice A3 n3 c3)) ((h.cells.below HB2 hql).set_ 1 (.slice A3 n3 c3)) ((hF.mono hB).keep fun g hg => ?_) ?_ (fun x hx => .inl ⟨x, ?_, rfl⟩)
  · refine Below.heap_setCell _ _ _ _ (fun e => ?_)
    have := (hF.lt g hg).1
    simp only at e
    omega
  · refine hup.sublist ?_
    conv => rhs; rw [← List.take_append_drop n es]
    refine List.Sublist.append_left ?_ _
    rw [← List.drop_drop]
    exact List.drop_sublist _ _
  · rcases List.mem_append.1 hx with hx | hx
    · exact List.mem_of_mem_take hx
    · exact List.mem_of_mem_drop hx
section
variable {w : World} {B q cap : Nat} {v : Value} {es : List (Key × FV)} {fuse : Int} {lost : Bool}
set_option maxRecDepth 100000 in
set_option maxHeartbeats 800000 in
theorem refDrop_only (h : RefAt w B q v es cap fuse lost) (hB : B ≤ w.heap.size) (s : ByteArray) {n : Nat} {f : FV} (hn : es[n]? = some (s.data.toList, f)) (hlen : es.length ≤ 100000) :
    Calls Try.prog 33 #[.pointer (some ⟨q, 0, none⟩), .string s] w fun e w' => e = .returned (.tuple #[]) ∧ (∃ v', RefAt w' B q v' (es.take n ++ es.drop (n + 1)) cap fuse lost ∧ ∀ g, v'.ownBlock = some g → w.heap.size ≤ g) ∧ TBut B q w w' ∧ Only q w w' := by
  have Ha := Lib.hid (at_some h s hn (by omega))
  obtain ⟨A, c, rfl, hr, hc⟩ := h.row.reads
  have c1 := h.c1
  have f1 := h.cells.frozen 1
  have hq := h.cells.lt
  have hnl : n < es.length := (List.getElem?_eq_some_iff.1 hn).1
  obtain ⟨ad, rfl, hab, hcs⟩ := hr.2 (by omega)
  have e1 : Below w.heap.size w (w.alloc (.cells #[] 61)).drew := ((Below.refl _ _).alloc (Nat.le_refl _) _).drew
  obtain ⟨A2, n2, c2, w2, E1, F1, B1⟩ := run_append_fresh e1 (FRow.empty w w.heap.size (Nat.le_refl _)).drew (gs := es.take n) c (by rw [List.length_take]; omega) (hr.firsts e1 rfl (by omega)) (by rw [List.length_take, List.length_nil]; omega)
  obtain ⟨A3, n3, c3, w3, E2, F2, B2⟩ := run_append_fresh B1 F1 (gs := es.drop (n + 1)) (c - (n + 1)) (by rw [List.length_drop]) (hr.lasts B1 (by omega) hc) (by rw [List.nil_append, List.length_take, List.length_drop]; omega)
  have c1' : w3.cell? ⟨q, 1, none⟩ = some (.slice (some ad) es.length c) := (B2.cell hq).trans c1
  have f1' : w3.frozen? ⟨q, 1, none⟩ = false := (B2.frozen hq).trans f1
  have c2' : w2.cell? ⟨q, 1, none⟩ = some (.slice (some ad) es.length c) := (B1.cell hq).trans c1
  have hql : q < w.heap.size := hq
  simp only [Option.map_some] at E2
  have H := Lib.hid h
  have hHB := Lib.hid hB
  have HF := Lib.hid F2
  have HB2 := Lib.hid B2
  have i0 : (0 : Int) ≤ (n : Int) := by omega
  have i1 : (n : Int) ≤ (es.length : Int) := by omega
  have i2 : (n : Int) ≤ (c : Int) := by omega
  have i3 : (0 : Int) ≤ ((n : Int) + 1) := by omega
  have i4 : ((n : Int) + 1) ≤ (es.length : Int) := by omega
  have i5 : (es.length : Int) ≤ (c : Int) := by omega
  clear h hn hr hcs hB e1 F1 B1 F2 B2
  go_enter Try.func33, Try.ntmps33
  go_wp2_with fail
  refine Ha.out.mono ?_
  rintro e w1 ⟨rfl, rfl⟩
  go_wp2
  go_region
  all_goals (try go_wp2)
  all_goals (go_end0; exact ⟨rfl, drop_fin H.out hHB.out HB2.out HF.out⟩)
theorem refDrop_at (h : RefAt w B q v es cap fuse lost) (hB : B ≤ w.heap.size) (s : ByteArray) {n : Nat} {f : FV} (hn : es[n]? = some (s.data.toList, f)) (hlen : es.length ≤ 100000) :
    Calls Try.prog 33 #[.pointer (some ⟨q, 0, none⟩), .string s] w fun e w' => e = .returned (.tuple #[]) ∧ (∃ v', RefAt w' B q v' (es.take n ++ es.drop (n + 1)) cap fuse lost) ∧ TBut B q w w' :=
  (refDrop_only h hB s hn hlen).mono fun _ _ ⟨a, ⟨v', b, _⟩, c, _⟩ => ⟨a, ⟨v', b⟩, c⟩
end
end Go.Proofs.Ytplbclbeccoegaa
