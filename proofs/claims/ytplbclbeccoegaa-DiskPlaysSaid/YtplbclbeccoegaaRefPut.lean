/-
  Walk of the document's disk: put, the file being there.
-/
import Derived.Test.YtplbclbeccoegaaRefDrop
import Derived.BigRegion
namespace Go.Proofs.Ytplbclbeccoegaa
open Go.RowKit Go.Maps
theorem list_split {V : Type} {l : List V} {n : Nat} {x : V} (h : l[n]? = some x) : l = l.take n ++ x :: l.drop (n + 1) := by
  obtain ⟨hn, e⟩ := List.getElem?_eq_some_iff.1 h
  rw [← e, List.getElem_cons_drop, List.take_append_drop]
theorem list_set {V : Type} {l : List V} {n : Nat} {x y : V} (h : l[n]? = some x) : l.set n y = l.take n ++ y :: l.drop (n + 1) := by
  obtain ⟨hn, e⟩ := List.getElem?_eq_some_iff.1 h
  rw [List.set_eq_take_append_cons_drop, if_pos hn]
theorem fput_set {V : Type} {l : List (Key × V)} {n : Nat} {k : Key} {u v : V} (hup : Up l) (h : l[n]? = some (k, u)) : fput k v l = l.set n (k, v) := by
  have e := list_split h
  rw [list_set h]
  conv => lhs; rw [e]
  exact fput_at (by rw [← e]; exact hup)
theorem fput_ins {V : Type} {k : Key} {v : V} : ∀ {l : List (Key × V)} {m : Nat}, (∀ (i : Nat) y, i < m → l[i]? = some y → bytesBefore y.1 k = true) → m ≤ l.length → (∀ y, l[m]? = some y → bytesBefore y.1 k = false) → fget k l = none → fput k v l = l.take m ++ (k, v) :: l.drop m
  | [], m, _, hm, _, _ => by
    have : m = 0 := by simpa using hm
    subst this
    rfl
  | (y, u) :: r, 0, _, _, h2, h3 => by
    have h4 := h2 (y, u) rfl
    rw [fget_cons] at h3
    split at h3
    · cases h3
    · rename_i hne
      unfold fput
      rw [if_neg hne, if_pos (before_total hne h4)]
      rfl
  | (y, u) :: r, m + 1, h1, hm, h2, h3 => by
    have h4 := h1 0 (y, u) (by omega) rfl
    rw [fget_cons] at h3
    split at h3
    · cases h3
    · rename_i hne
      unfold fput
      rw [if_neg hne, if_neg (by rw [before_anti h4]; simp), fput_ins (l := r) (m := m) (fun i z hi hz => h1 (i + 1) z (by omega) hz) (by simpa using hm) (fun z hz => h2 z hz) h3]
      rfl
theorem fget_of_get {V : Type} {l : List (Key × V)} (hup : Up l) {n : Nat} {k : Key} {u : V} (h : l[n]? = some (k, u)) : fget k l = some u := fget_of_mem hup (List.mem_of_getElem? h)
theorem get_of_fget {V : Type} {l : List (Key × V)} {k : Key} {u : V} (h : fget k l = some u) : ∃ n : Nat, l[n]? = some (k, u) := by
  obtain ⟨n, hn, e⟩ := List.getElem_of_mem (fget_mem h)
  exact ⟨n, by rw [List.getElem?_eq_getElem hn, e]⟩
theorem fdel_cut {V : Type} {l : List (Key × V)} (hup : Up l) {n : Nat} {k : Key} {u : V} (h : l[n]? = some (k, u)) : fdel k l = l.take n ++ l.drop (n + 1) := by
  have e := list_split h
  conv => lhs; rw [e]
  exact fdel_at (by rw [← e]; exact hup)
theorem rcells_set : ∀ {l : List (Key × FV)} {n : Nat} (x : Key × FV), n < l.length → rcells (l.set n x) = ((((rcells l).set (n * 4) (.string ⟨x.1.toArray⟩)).set (n * 4 + 1) (.slice x.2.a x.2.m.b.length x.2.c)).set (n * 4 + 2) (.int .i64 (x.2.m.safe : Nat))).set (n * 4 + 3) (.bool x.2.m.ever)
  | y :: r, 0, x, _ => by
    unfold rcells
    simp [rcell]
  | y :: r, n + 1, x, h => by
    have ih := rcells_set (l := r) (n := n) x (by simpa using h)
    unfold rcells at ih ⊢
    rw [List.set_cons_succ, List.flatMap_cons, ih, List.flatMap_cons]
    have e : ∀ j : Nat, (n + 1) * 4 + j = (rcell y).length + (n * 4 + j) := fun j => by show _ = 4 + _; omega
    have e0 : (n + 1) * 4 = (rcell y).length + n * 4 := by show _ = 4 + _; omega
    rw [e 1, e 2, e 3, e0, List.set_append_right _ _ (by omega), List.set_append_right _ _ (by omega), List.set_append_right _ _ (by omega), List.set_append_right _ _ (by omega)]
    simp
theorem mem_set_of {V : Type} {l : List V} {n : Nat} {x y : V} (h : y ∈ l.set n x) : y = x ∨ y ∈ l := by
  rcases List.mem_or_eq_of_mem_set h with h | h
  · exact .inr h
  · exact .inl h
/-- a file is written in its place -/
theorem put_fin {w : World} {B q g cap n c0 : Nat} {es : List (Key × FV)} {fuse : Int} {lost : Bool} (h : RefAt w B q (.slice (some ⟨g, 0, none⟩) es.length c0) es cap fuse lost) {k : Key} {f0 f : FV} (hn : es[n]? = some (k, f0)) (hf : Bytes8 w f) :
    (∃ v', RefAt ((((w.setCell ⟨g, n * 4, none⟩ (.string ⟨k.toArray⟩)).setCell ⟨g, n * 4 + 1, none⟩ (.slice f.a f.m.b.length f.c)).setCell ⟨g, n * 4 + 2, none⟩ (.int .i64 (f.m.safe : Nat))).setCell ⟨g, n * 4 + 3, none⟩ (.bool f.m.ever)) B q v' (fput k f es) cap fuse lost) ∧
    TBut B q w ((((w.setCell ⟨g, n * 4, none⟩ (.string ⟨k.toArray⟩)).setCell ⟨g, n * 4 + 1, none⟩ (.slice f.a f.m.b.length f.c)).setCell ⟨g, n * 4 + 2, none⟩ (.int .i64 (f.m.safe : Nat))).setCell ⟨g, n * 4 + 3, none⟩ (.bool f.m.ever)) := by
  have hnl : n < es.length := (List.getElem?_eq_some_iff.1 hn).1
  have hpure := h.row.pure g rfl
  have hB : B ≤ g := (h.row.own.lt g rfl).1
  have o1 := (h.row.own.stored (n * 4) (.string ⟨k.toArray⟩)).1
  have o2 := (o1.stored (n * 4 + 1) (.slice f.a f.m.b.length f.c)).1
  have o3 := (o2.stored (n * 4 + 2) (.int .i64 (f.m.safe : Nat))).1
  have o4 := (o3.stored (n * 4 + 3) (.bool f.m.ever)).1
  rw [← rcells_set (k, f) hnl] at o4
  have p1 := hpure.set_ g (n * 4) (.string ⟨k.toArray⟩) (fun _ h => by cases h)
  have p2 := p1.set_ g (n * 4 + 1) (.slice f.a f.m.b.length f.c) (fun _ h => by cases h)
  have p3 := p2.set_ g (n * 4 + 2) (.int .i64 (f.m.safe : Nat)) (fun _ h => by cases h)
  have p4 := p3.set_ g (n * 4 + 3) (.bool f.m.ever) (fun _ h => by cases h)
  have t4 := ((((TBut.refl B q w).setRow hpure hB (n * 4) (.string ⟨k.toArray⟩)).setRow p1 hB (n * 4 + 1) (.slice f.a f.m.b.length f.c)).setRow p2 hB (n * 4 + 2) (.int .i64 (f.m.safe : Nat))).setRow p3 hB (n * 4 + 3) (.bool f.m.ever)
  have hqg : q ≠ g := by
    intro e
    obtain ⟨cur, p, hc, _⟩ := hpure
    have hq := h.cells
    subst e
    unfold Blk at hq
    rw [hq] at hc
    injection hc with hc
    injection hc with _ hc
    exact absurd hc (by decide)
  have hl : (es.set n (k, f)).length = es.length := List.length_set
  have q1 := h.cells.far (p := ⟨g, n * 4, none⟩) hqg (.string ⟨k.toArray⟩)
  have q2 := q1.far (p := ⟨g, n * 4 + 1, none⟩) hqg (.slice f.a f.m.b.length f.c)
  have q3 := q2.far (p := ⟨g, n * 4 + 2, none⟩) hqg (.int .i64 (f.m.safe : Nat))
  have q4 := q3.far (p := ⟨g, n * 4 + 3, none⟩) hqg (.bool f.m.ever)
  have hup : Up (es.set n (k, f)) := by rw [← fput_set h.up hn]; exact up_fput h.up
  rw [fput_set h.up hn]
  generalize (((w.setCell ⟨g, n * 4, none⟩ (.string ⟨k.toArray⟩)).setCell ⟨g, n * 4 + 1, none⟩ (.slice f.a f.m.b.length f.c)).setCell ⟨g, n * 4 + 2, none⟩ (.int .i64 (f.m.safe : Nat))).setCell ⟨g, n * 4 + 3, none⟩ (.bool f.m.ever) = w' at *
  have hrow : FRow w' B (.slice (some ⟨g, 0, none⟩) es.length c0) (es.set n (k, f)) := ⟨by rw [hl]; exact o4, fun g' hg' => by injection hg' with hg'; subst hg'; exact p4⟩
  refine ⟨⟨.slice (some ⟨g, 0, none⟩) es.length c0, h.turn t4 q4 hrow hup (fun x hx => ?_)⟩, t4⟩
  rcases mem_set_of hx with rfl | hx
  · exact .inr (hf.tbut (by decide) h.cells t4)
  · exact .inl ⟨x, hx, rfl⟩
section
variable {w : World} {B q cap : Nat} {v : Value} {es : List (Key × FV)} {fuse : Int} {lost : Bool}
set_option maxRecDepth 100000 in
set_option maxHeartbeats 800000 in
theorem refPut_some (h : RefAt w B q v es cap fuse lost) (s : ByteArray) {n : Nat} {f0 : FV} (hn : es[n]? = some (s.data.toList, f0)) (hlen : es.length ≤ 100000) (f : FV) (hf : Bytes8 w f) :
    Calls Try.prog 32 #[.pointer (some ⟨q, 0, none⟩), .agg #[.string s, .slice f.a f.m.b.length f.c, .int .i64 (f.m.safe : Nat), .bool f.m.ever]] w fun e w' => e = .returned (.tuple #[]) ∧ (∃ v', RefAt w' B q v' (fput s.data.toList f es) cap fuse lost) ∧ TBut B q w w' := by
  have h0 : Below w.heap.size w (w.alloc (.cells #[.string s, .slice f.a f.m.b.length f.c, .int .i64 (f.m.safe : Nat), .bool f.m.ever] 61)) := (Below.refl _ _).alloc (Nat.le_refl _) _
  have hk : Blk (w.alloc (.cells #[.string s, .slice f.a f.m.b.length f.c, .int .i64 (f.m.safe : Nat), .bool f.m.ever] 61)) w.heap.size 61 #[.string s, .slice f.a f.m.b.length f.c, .int .i64 (f.m.safe : Nat), .bool f.m.ever] := heap_alloc_new w _
  have H0 := h.below h0
  have F0 := hf.below h0
  have T0 : TBut B q w (w.alloc (.cells #[.string s, .slice f.a f.m.b.length f.c, .int .i64 (f.m.safe : Nat), .bool f.m.ever] 61)) := .of_below h0
  generalize hW : w.alloc (.cells #[.string s, .slice f.a f.m.b.length f.c, .int .i64 (f.m.safe : Nat), .bool f.m.ever] 61) = w1 at *
  have HW := Lib.hid hW
  have Ha := Lib.hid (at_some H0 s hn (by omega))
  have hnl : n < es.length := (List.getElem?_eq_some_iff.1 hn).1
  obtain ⟨g, c0, rfl, _, _⟩ := H0.row.own.form (by omega)
  have c1 := H0.c1
  have hq := H0.cells.lt
  have hcell : ∀ j, j < 4 → (w1.cell? ⟨g, n * 4 + j, none⟩).isSome = true := fun j hj => by
    rw [H0.row.own.cellAt (n * 4 + j) (by omega), rcells_at es n _ hn j hj]
    rcases j with _ | _ | _ | _ | j <;> first | rfl | omega
  obtain ⟨x0, k0⟩ := Option.isSome_iff_exists.1 (hcell 0 (by omega))
  obtain ⟨x1, k1⟩ := Option.isSome_iff_exists.1 (hcell 1 (by omega))
  obtain ⟨x2, k2⟩ := Option.isSome_iff_exists.1 (hcell 2 (by omega))
  obtain ⟨x3, k3⟩ := Option.isSome_iff_exists.1 (hcell 3 (by omega))
  rw [Nat.add_zero] at k0
  have f0' := H0.row.own.frozenAt (n * 4)
  have f1' := H0.row.own.frozenAt (n * 4 + 1)
  have f2' := H0.row.own.frozenAt (n * 4 + 2)
  have f3' := H0.row.own.frozenAt (n * 4 + 3)
  have b0 : w1.cell? ⟨w.heap.size, 0, none⟩ = some (.string s) := by rw [hk.cell]; rfl
  have b1 : w1.cell? ⟨w.heap.size, 1, none⟩ = some (.slice f.a f.m.b.length f.c) := by rw [hk.cell]; rfl
  have b2 : w1.cell? ⟨w.heap.size, 2, none⟩ = some (.int .i64 (f.m.safe : Nat)) := by rw [hk.cell]; rfl
  have b3 : w1.cell? ⟨w.heap.size, 3, none⟩ = some (.bool f.m.ever) := by rw [hk.cell]; rfl
  have HH := Lib.hid H0
  have HF := Lib.hid F0
  have HT := Lib.hid T0
  have hc0 : es.length ≤ c0 := by
    obtain ⟨A, c, e, _, hc⟩ := H0.row.reads
    injection e with _ _ e
    omega
  have i0 : (0 : Int) ≤ (n : Int) := by omega
  have i1 : (n : Int) < (es.length : Int) := by omega
  have HN := Lib.hid hn
  clear h hf h0 hk H0 F0 T0 hW hcell hn
  go_enter Try.func32, Try.ntmps32
  go_wp2_with fail
  rw [show w.alloc (.cells #[.string s, .slice f.a f.m.b.length f.c, .int .i64 (f.m.safe : Nat), .bool f.m.ever] 61) = w1 from HW.out]
  refine Ha.out.mono ?_
  rintro e w2 ⟨rfl, rfl⟩
  go_wp2
  go_region
  all_goals (try go_wp2)
  all_goals
    refine bodyPost_ret (results_none rfl _ _ _) rfl ?_
    have hh := put_fin HH.out HN.out HF.out
    rw [show (⟨s.data.toList.toArray⟩ : ByteArray) = s from by simp] at hh
    obtain ⟨⟨v', h1⟩, h2⟩ := hh
    exact ⟨rfl, ⟨v', h1.below (Below.refl _ _).drew⟩, (HT.out.trans h2).drew⟩
end
end Go.Proofs.Ytplbclbeccoegaa
