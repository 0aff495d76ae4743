/-
  Rows of bytes of one's own that may begin in the middle of their block.
-/
import Derived.Test.YtaljodmhalodhaaDoorFsa
import Derived.Deep.AppendSrc
import Derived.Laws.AppendOwn
import Derived.Maps.AppendAt
import Derived.Lib.SliceRun
import Derived.Lib.SmallJoins
namespace Go.Proofs.YtaljodmhalodhaaDoor
open Go Go.RowKit
set_option linter.unusedSimpArgs false
def OwnX (B : Nat) (w : World) (v : Value) (l : List UInt8) : Prop :=
  (v = .slice none 0 0 ∧ l = []) ∨ ∃ (g off cap : Nat) (cur : List Value), v = .slice (some ⟨g, off, none⟩) l.length cap ∧ B ≤ g ∧ Blk w g 5 cur.toArray ∧ l.length ≤ cap ∧ cap ≤ maxLen ∧ off + cap ≤ cur.length ∧ (cur.drop off).take l.length = u8s l
def spl : List Value → Nat → List Value → List Value
  | cs, _, [] => cs
  | cs, o, u :: r => spl (cs.set o u) (o + 1) r
theorem spl_eq : ∀ (vs cs : List Value) (o : Nat), o + vs.length ≤ cs.length → spl cs o vs = cs.take o ++ vs ++ cs.drop (o + vs.length)
  | [], cs, o, _ => by
    unfold spl
    simp
  | u :: r, cs, o, h => by
    rw [List.length_cons] at h
    unfold spl
    rw [spl_eq r (cs.set o u) (o + 1) (by rw [List.length_set]; omega)]
    have e1 : (cs.set o u).take (o + 1) = cs.take o ++ [u] := by
      rw [List.take_add_one, List.take_set_of_le (Nat.le_refl o), List.getElem?_set_self (by omega)]
      rfl
    have e2 : (cs.set o u).drop (o + 1 + r.length) = cs.drop (o + (u :: r).length) := by
      rw [List.drop_set_of_lt (by omega), List.length_cons]
      congr 1
      omega
    rw [e1, e2, List.append_assoc (cs.take o)]
    rfl
theorem blk_setCells {g : Nat} {T : TypeId} : ∀ (vs : List Value) (o : Nat) (w : World) (cs : List Value), Blk w g T cs.toArray → Blk (w.setCells g o vs) g T (spl cs o vs).toArray ∧ w.grownBy (w.setCells g o vs) (some g)
  | [], o, w, cs, K => ⟨K, ⟨rfl, rfl, rfl, Nat.le_refl _, fun _ _ _ => rfl⟩⟩
  | u :: r, o, w, cs, K => by
    have h2 := K.set_ o u
    rw [List.setIfInBounds_toArray] at h2
    obtain ⟨h3, h4⟩ := blk_setCells r (o + 1) _ _ h2
    have h5 : w.grownBy (w.setCell ⟨g, o, none⟩ u) (some g) := (Only.set (g := g) (i := o) (w := w) (u := u)).grown
    exact ⟨h3, ⟨h4.os.trans h5.os, h4.tape.trans h5.tape, h4.output.trans h5.output, Nat.le_trans h5.size h4.size, fun i hi hn => (h4.block i (Nat.lt_of_lt_of_le hi h5.size) hn).trans (h5.block i hi hn)⟩⟩
section
variable {B B' : Nat} {w w' : World} {v : Value} {l m : List UInt8}
theorem OwnX.nil (w : World) : OwnX B w (.slice none 0 0) [] := .inl ⟨rfl, rfl⟩
theorem OwnX.mono (h : OwnX B w v l) (hb : B' ≤ B) : OwnX B' w v l := by
  rcases h with h | ⟨g, off, cap, cur, h1, h2, h3⟩
  · exact .inl h
  · exact .inr ⟨g, off, cap, cur, h1, Nat.le_trans hb h2, h3⟩
theorem OwnX.keep (h : OwnX B w v l) (hk : ∀ g, v.ownBlock = some g → w'.heap[g]? = w.heap[g]?) : OwnX B w' v l := by
  rcases h with h | ⟨g, off, cap, cur, h1, h2, h3, h4⟩
  · exact .inl h
  · exact .inr ⟨g, off, cap, cur, h1, h2, (hk g (by rw [h1]; rfl)).trans h3, h4⟩
theorem OwnX.lt (h : OwnX B w v l) : ∀ g, v.ownBlock = some g → B ≤ g ∧ g < w.heap.size := fun g hg => by
  rcases h with ⟨h, _⟩ | ⟨g', off, cap, cur, h1, h2, h3, h4⟩
  · rw [h] at hg; cases hg
  · rw [h1] at hg
    have : g' = g := by simpa [Value.ownBlock] using hg
    subst this
    exact ⟨h2, h3.lt⟩
theorem OwnX.below (h : OwnX B w v l) (hb : Below w.heap.size w w') : OwnX B w' v l := h.keep fun g hg => hb.block g (h.lt g hg).2
theorem OwnX.kind (h : OwnX B w v l) {g : Nat} (hg : v.ownBlock = some g) : ∃ cs, Blk w g 5 cs := by
  rcases h with ⟨h, _⟩ | ⟨g', off, cap, cur, h1, h2, h3, h4⟩
  · rw [h] at hg; cases hg
  · rw [h1] at hg
    have : g' = g := by simpa [Value.ownBlock] using hg
    subst this
    exact ⟨_, h3⟩
theorem OwnX.ne (h : OwnX B w v l) {i : Nat} {t : TypeId} {cs : Array Value} (hi : Blk w i t cs) (ht : t ≠ 5) : ∀ g, v.ownBlock = some g → g ≠ i := fun g hg he => by
  obtain ⟨cs', hc⟩ := h.kind hg
  unfold Blk at hc hi
  rw [he, hi] at hc
  injection hc with hc
  injection hc with _ hc
  exact ht hc
theorem OwnX.only {k : Nat} (h : OwnX B w v l) (hs : Only k w w') (hne : ∀ g, v.ownBlock = some g → g ≠ k) : OwnX B w' v l := h.keep fun g hg => hs.block g (hne g hg)
theorem OwnX.cells {g off : Nat} {cur : List Value} (h3 : Blk w g 5 cur.toArray) (h5 : (cur.drop off).take l.length = u8s l) : ∀ j u, (u8s l)[j]? = some u → w.cell? ((⟨g, off, none⟩ : Addr).add j) = some u := fun j u hu => by
  have hj : j < l.length := by have := (List.getElem?_eq_some_iff.1 hu).1; rwa [u8s_length] at this
  have e : ((⟨g, off, none⟩ : Addr).add j) = ⟨g, off + j, none⟩ := by
    unfold Addr.add
    by_cases h : j = 0 <;> simp [h]
  rw [e, h3.cell]
  rw [← h5, List.getElem?_take_of_lt hj, List.getElem?_drop] at hu
  simpa using hu
theorem OwnX.took (h : OwnX B w v l) : Took w v l := by
  rcases h with ⟨h, h2⟩ | ⟨g, off, cap, cur, h1, h2, h3, h4, _, h6, h5⟩
  · subst h h2
    exact Took.nil w
  · exact ⟨_, _, h1, by rw [u8s_length]; omega, fun _ => ⟨_, rfl, h3.lt, OwnX.cells h3 h5⟩⟩
theorem OwnX.form (h : OwnX B w v l) : ∃ A c, v = .slice A l.length c ∧ l.length ≤ c := by
  rcases h with ⟨h, h2⟩ | ⟨g, off, cap, cur, h1, h2, h3, h4, _⟩
  · subst h h2; exact ⟨none, 0, rfl, Nat.le_refl _⟩
  · exact ⟨_, _, h1, h4⟩
/-- bytes ahead -/
theorem OwnX.cut {A : Option Addr} {n c k : Nat} (h : OwnX B w (.slice A n c) l) (hk : k ≤ n) : OwnX B w (.slice A k c) (l.take k) := by
  rcases h with ⟨h, h2⟩ | ⟨g, off, cap, cur, h1, h2, h3, h4, h7, h6, h5⟩
  · injection h with h8 h9 h10
    subst h8 h9 h10 h2
    have : k = 0 := by omega
    subst this
    exact .inl ⟨rfl, rfl⟩
  · injection h1 with h8 h9 h10
    subst h8 h9 h10
    have hl : (l.take k).length = k := by rw [List.length_take]; omega
    refine .inr ⟨g, off, c, cur, by rw [hl], h2, h3, by omega, h7, h6, ?_⟩
    rw [hl, show u8s (l.take k) = (u8s l).take k by simp [u8s], ← h5, List.take_take, Nat.min_eq_left hk]
/-- bytes behind -/
theorem OwnX.tail {ad : Addr} {n c k : Nat} (h : OwnX B w (.slice (some ad) n c) l) (hk : k < n) : OwnX B w (.slice (some ⟨ad.block, ad.off + k, none⟩) (n - k) (c - k)) (l.drop k) := by
  rcases h with ⟨h, _⟩ | ⟨g, off, cap, cur, h1, h2, h3, h4, h7, h6, h5⟩
  · cases h
  · injection h1 with h8 h9 h10
    injection h8 with h8
    subst h8 h9 h10
    have hl : (l.drop k).length = l.length - k := by rw [List.length_drop]
    refine .inr ⟨g, off + k, c - k, cur, by rw [hl], h2, h3, by omega, by omega, by omega, ?_⟩
    rw [hl, u8s_drop, ← h5, List.drop_take, List.drop_drop]
theorem Own8.x (h : Own8 B w v l) : OwnX B w v l := by
  rcases h.2 with ⟨e, h0⟩ | ⟨g, cap, cur, e, h1, h2, h3, h4, h5, h6⟩
  · exact .inl ⟨e, List.length_eq_zero_iff.1 h0⟩
  · refine .inr ⟨g, 0, cap, cur.toList, e, h1, ?_, h3, h4, by simp; omega, ?_⟩
    · unfold Blk; simpa using h2
    · rw [Nat.mul_one] at h6
      simpa using h6
set_option maxRecDepth 100000 in
/-- bytes are appended, out of a slice or a string -/
theorem run_appS {tx : TypeId} {x : Value} (h : OwnX B w v l) (hsrc : Src Tryd.prog 1 tx x m.length (u8s m) w) (hlen : l.length + m.length ≤ 1000000000) (hB : B ≤ w.heap.size) :
    ∃ r w', (Builtin.append_ #[22, tx] 22 #[v, x]).run Tryd.prog w = .ok r w' ∧ OwnX B w' r (l ++ m) ∧ w.grownBy w' v.ownBlock ∧ (r.ownBlock = v.ownBlock ∨ r.ownBlock = some w.heap.size) := by
  obtain ⟨i0, hi0, hz0, hz1, hz2⟩ := info_parts u8_info
  have hu := Tryd.underlying22
  rw [← hz1] at hsrc
  have hnew : ∀ (old : Option Addr) (oc : Nat), (Builtin.firstCells 1 l.length (.slice old l.length oc)).run Tryd.prog w.drew = .ok (u8s l).toArray w.drew → oc < l.length + m.length → v = .slice old l.length oc →
      ∃ r w', (Builtin.append_ #[22, tx] 22 #[v, x]).run Tryd.prog w = .ok r w' ∧ OwnX B w' r (l ++ m) ∧ w.grownBy w' v.ownBlock ∧ (r.ownBlock = v.ownBlock ∨ r.ownBlock = some w.heap.size) := by
    intro old oc hf hg hv
    have hb : Builtin.nextslicecap (l.length + m.length) oc * i0.bytes ≤ 281474976710656 := growslice_fits hg (by rw [hz2]; omega)
    have hrun := run_append_grow_src (P := Tryd.prog) w 22 tx 22 5 i0 _ hu hi0 hz0 old l.length oc (u8s l) (by rw [hz1]; exact hf) x m.length (u8s m) hsrc hg (by omega) hb
    have hge := grownCap_ge w (l.length + m.length) oc 5
    have hle := grownCap_le_maxLen w (l.length + m.length) oc 5 (by unfold maxLen; omega)
    obtain ⟨C, hC⟩ : ∃ C, grownCap w (l.length + m.length) oc 5 = C := ⟨_, rfl⟩
    rw [hC] at hrun hge hle
    rw [← hv] at hrun
    refine ⟨_, _, hrun, .inr ⟨w.heap.size, 0, C, (u8s l ++ u8s m) ++ (Builtin.zeroCells (Value.int .u8 0).cells (C - (l.length + m.length))).toList, by rw [List.length_append], hB, ?_, by rw [List.length_append]; exact hge, hle, ?_, ?_⟩, ⟨rfl, rfl, rfl, by simp, fun k hk _ => heap_alloc_old w.drew _ hk⟩, .inr rfl⟩
    · have := heap_alloc_new w.drew (.cells ((u8s l ++ u8s m).toArray ++ Builtin.zeroCells (Value.int .u8 0).cells (C - (l.length + m.length))) 5)
      unfold Blk
      refine this.trans ?_
      congr 2
      simp
    · have hz := size_zeroCells (Value.int .u8 0).cells (C - (l.length + m.length))
      have h1 : (Value.int .u8 0).cells.size = 1 := rfl
      rw [h1, Nat.mul_one] at hz
      rw [Nat.zero_add, List.length_append, List.length_append, u8s_length, u8s_length]
      have hz2 : (Builtin.zeroCells (Value.int .u8 0).cells (C - (l.length + m.length))).toList.length = C - (l.length + m.length) := by simpa using hz
      rw [hz2]
      omega
    · rw [List.drop_zero, List.take_left' (by rw [List.length_append, List.length_append, u8s_length, u8s_length]), u8s_append]
  rcases h with ⟨h, h2⟩ | ⟨g, off, cap, cur, h1, h2, h3, h4, h7, h6, h5⟩
  · subst h h2
    by_cases hm0 : m.length = 0
    · have hm : m = [] := List.length_eq_zero_iff.1 hm0
      subst hm
      refine ⟨.slice none 0 0, w, ?_, OwnX.nil w, ⟨rfl, rfl, rfl, Nat.le_refl _, fun _ _ _ => rfl⟩, .inl rfl⟩
      have e1 := hsrc.len w
      have e2 := hsrc.cells
      simp only [List.length_nil] at e1 e2
      rcases hsrc.kind with ⟨e', hk⟩ | hk <;> simp [Builtin.append_, run_underlying hu, run_underlying hk, sizeOf, typeInfo, hi0, e1, e2, Result.andThen]
    · exact hnew none 0 (by simp [Builtin.firstCells, loadCells, loadCellsFrom, u8s]) (by simp; omega) rfl
  · by_cases hroom : l.length + m.length ≤ cap
    · have hrun := run_append_room_src (P := Tryd.prog) w 22 tx 22 5 i0 hu hi0 g off l.length cap x m.length (u8s m) hsrc hroom
        (fun j hj => by rw [u8s_length] at hj; rw [hz1, h3.cell]; simp; omega) (fun j hj => h3.frozen _)
      rw [hz1, Nat.mul_one] at hrun
      rw [← h1] at hrun
      obtain ⟨hb1, hb2⟩ := blk_setCells (u8s m) (off + l.length) w cur h3
      rw [spl_eq _ _ _ (by rw [u8s_length]; omega)] at hb1
      refine ⟨_, _, hrun, .inr ⟨g, off, cap, _, by rw [List.length_append], h2, hb1, by rw [List.length_append]; exact hroom, h7, ?_, ?_⟩, by rw [h1]; exact hb2, .inl (by rw [h1]; rfl)⟩
      · rw [List.length_append, List.length_append, List.length_take, List.length_drop, u8s_length]
        omega
      · have e1 : (cur.take (off + l.length)).length = off + l.length := by rw [List.length_take]; omega
        rw [List.append_assoc, List.drop_append_of_le_length (by omega), List.length_append, List.take_append, List.length_drop, e1, show off + l.length - off = l.length by omega, List.take_of_length_le (by rw [List.length_drop, e1]; omega), show l.length + m.length - l.length = m.length by omega, List.take_left' (u8s_length m), u8s_append]
        congr 1
        rw [List.drop_take, show off + l.length - off = l.length by omega, h5]
    · have hc := OwnX.cells (l := l) h3 h5
      exact hnew (some ⟨g, off, none⟩) cap (run_firstCells_some w.drew 1 l.length _ l.length cap (u8s l) (by rw [u8s_length]; omega) (by simpa using hc)) (by omega) h1
set_option maxRecDepth 100000 in
theorem src_reads {A : Option Addr} {c : Nat} (hr : Reads w w.heap.size 1 A m.length (u8s m)) : Src Tryd.prog 1 22 (.slice A m.length c) m.length (u8s m) w := by
  have hu := Tryd.underlying22
  cases A with
  | some ad => exact Src.ofSlice w hu ad m.length c (u8s m) (by rw [u8s_length]; omega) (fun j u hj => by
      have hn : 0 < m.length := by have := (List.getElem?_eq_some_iff.1 hj).1; rw [u8s_length] at this; omega
      obtain ⟨ad', e, _, hc⟩ := hr.2 hn
      injection e with e
      subst e
      exact hc j u hj) (u8s_one m)
  | none =>
    have h0 : m.length = 0 := by
      rcases Nat.eq_zero_or_pos m.length with h0 | h0
      · exact h0
      · obtain ⟨ad, e, _⟩ := hr.2 h0; cases e
    have hm : m = [] := List.length_eq_zero_iff.1 h0
    subst hm
    exact Src.ofNil w hu c
set_option maxRecDepth 100000 in
theorem src_string (s : ByteArray) (hm : s.data.toList = m) : Src Tryd.prog 1 9 (.string s) m.length (u8s m) w := by
  have h := Src.ofString (P := Tryd.prog) w (tx := 9) Tryd.underlying9 s
  have e1 : s.size = m.length := by rw [← hm]; rfl
  have e2 : byteCells s = u8s m := by rw [← hm]; rfl
  rw [e1, e2] at h
  exact h
set_option maxRecDepth 100000 in
/-- bytes are appended -/
theorem run_appX {A : Option Addr} {c : Nat} (h : OwnX B w v l) (hr : Reads w w.heap.size 1 A m.length (u8s m)) (hlen : l.length + m.length ≤ 1000000000) (hB : B ≤ w.heap.size) :
    ∃ r w', (Builtin.append_ #[22, 22] 22 #[v, .slice A m.length c]).run Tryd.prog w = .ok r w' ∧ OwnX B w' r (l ++ m) ∧ w.grownBy w' v.ownBlock ∧ (r.ownBlock = v.ownBlock ∨ r.ownBlock = some w.heap.size) :=
  run_appS h (src_reads hr) hlen hB
set_option maxRecDepth 100000 in
theorem run_appXs {s : ByteArray} (h : OwnX B w v l) (hm : s.data.toList = m) (hlen : l.length + m.length ≤ 1000000000) (hB : B ≤ w.heap.size) :
    ∃ r w', (Builtin.append_ #[22, 9] 22 #[v, .string s]).run Tryd.prog w = .ok r w' ∧ OwnX B w' r (l ++ m) ∧ w.grownBy w' v.ownBlock ∧ (r.ownBlock = v.ownBlock ∨ r.ownBlock = some w.heap.size) :=
  run_appS h (src_string s hm) hlen hB
end
end Go.Proofs.YtaljodmhalodhaaDoor
/-
  Rows of what takes k cells each.
-/
namespace Go.Proofs.YtaljodmhalodhaaDoor
open Go.RowKit
section
variable {M : Type} {f : M → List Value} {k : Nat}
theorem flatK_len (hf : ∀ x, (f x).length = k) : ∀ l : List M, (l.flatMap f).length = l.length * k
  | [] => by simp
  | x :: r => by rw [List.flatMap_cons, List.length_append, hf, flatK_len hf r, List.length_cons, Nat.succ_mul]; omega
theorem flatK_at (hf : ∀ x, (f x).length = k) : ∀ (l : List M) (i j : Nat) (x : M), l[i]? = some x → j < k → (l.flatMap f)[i * k + j]? = (f x)[j]?
  | y :: r, 0, j, x, h, hj => by
    have e : y = x := by simpa using h
    subst e
    rw [List.flatMap_cons, Nat.zero_mul, Nat.zero_add, List.getElem?_append_left (by rw [hf]; exact hj)]
  | y :: r, i + 1, j, x, h, hj => by
    have ih := flatK_at hf r i j x (by simpa using h) hj
    rw [List.flatMap_cons, List.getElem?_append_right (by rw [hf, Nat.succ_mul]; omega)]
    have e : (i + 1) * k + j - (f y).length = i * k + j := by rw [hf, Nat.succ_mul]; omega
    rw [e]; exact ih
theorem flatK_take (hf : ∀ x, (f x).length = k) (l : List M) (i : Nat) : (l.take i).flatMap f = (l.flatMap f).take (i * k) := by
  induction l generalizing i with
  | nil => simp
  | cons y r ih =>
    cases i with
    | zero => simp
    | succ i =>
      have h1 : (f y).take ((i + 1) * k) = f y := List.take_of_length_le (by rw [hf, Nat.succ_mul]; omega)
      have h2 : (i + 1) * k - (f y).length = i * k := by rw [hf, Nat.succ_mul]; omega
      rw [List.take_succ_cons, List.flatMap_cons, List.flatMap_cons, List.take_append, h1, h2, ih i]
theorem add_kj (ad : Addr) (i j : Nat) (hj : 0 < j) : ad.add (i + j) = ⟨(ad.add i).block, (ad.add i).off + j, none⟩ := by
  unfold Addr.add; by_cases h : i = 0 <;> simp [h] <;> omega
/-- an element's cells -/
theorem rowK_at {w : World} {B n i : Nat} {A : Option Addr} {l : List M} {x : M} (hf : ∀ x, (f x).length = k) (h : Reads w B k A n (l.flatMap f)) (hn : 0 < n) (hx : l[i]? = some x) :
    ∃ ad, A = some ad ∧ ad.block < B ∧ (∀ u, (f x)[0]? = some u → w.cell? (ad.add (i * k)) = some u) ∧ ∀ j u, 0 < j → (f x)[j]? = some u → w.cell? ⟨(ad.add (i * k)).block, (ad.add (i * k)).off + j, none⟩ = some u := by
  obtain ⟨ad, rfl, hb, hc⟩ := h.2 hn
  have hk : ∀ j u, (f x)[j]? = some u → j < k := fun j u hu => by
    have := (List.getElem?_eq_some_iff.1 hu).1
    rw [hf] at this; exact this
  refine ⟨ad, rfl, hb, fun u hu => ?_, fun j u hj hu => ?_⟩
  · have := hc (i * k + 0) u (by rw [flatK_at hf l i 0 x hx (hk 0 u hu)]; exact hu)
    simpa using this
  · have := hc (i * k + j) u (by rw [flatK_at hf l i j x hx (hk j u hu)]; exact hu)
    rwa [add_kj _ _ _ hj] at this
theorem Reads.takeK {w : World} {B n : Nat} {A : Option Addr} {l : List M} (hf : ∀ x, (f x).length = k) (h : Reads w B k A n (l.flatMap f)) (hl : l.length = n) {i : Nat} (hi : i ≤ n) : Reads w B k A i ((l.take i).flatMap f) := by
  refine ⟨by rw [flatK_len hf, List.length_take]; congr 1; omega, fun hp => ?_⟩
  obtain ⟨ad, e, hb, hc⟩ := h.2 (by omega)
  refine ⟨ad, e, hb, fun j u hu => hc j u ?_⟩
  rw [flatK_take hf, List.getElem?_take] at hu
  split at hu
  · exact hu
  · cases hu
end
end Go.Proofs.YtaljodmhalodhaaDoor
/-
  Rows of structs of one's own: a row that is one's own, the bytes of its parts elsewhere.
-/
namespace Go.Proofs.YtaljodmhalodhaaDoor
open Go.RowKit
/-- a kind of struct: its type, the type of its rows, its cells, its parts -/
structure Sh (M : Type) where
  T : TypeId
  S : TypeId
  k : Nat
  by_ : Nat
  z : Value
  f : M → List Value
  parts : M → List (Option Addr × List UInt8)
  len : ∀ x, (f x).length = k
  one : ∀ x, ∀ u ∈ f x, u.oneCell' = true
  und : Tryd.prog.underlying S = some (.slice T)
  info : (Tryd.prog.info? T).map (fun i => (i.zero, i.size, i.bytes)) = some (some z, k, by_)
  zk : z.cells.size = k
  pos : 0 < k
  small : by_ ≤ 1000
/-- bytes lie apart from a block -/
def OffP (g : Nat) (p : Option Addr × List UInt8) : Prop := 0 < p.2.length → ∀ ad, p.1 = some ad → ad.block ≠ g
abbrev ReadsP (w : World) (p : Option Addr × List UInt8) : Prop := Reads w w.heap.size 1 p.1 p.2.length (u8s p.2)
structure RowR {M : Type} (s : Sh M) (w : World) (A : Option Addr) (l : List M) : Prop where
  row : Reads w w.heap.size s.k A l.length (l.flatMap s.f)
  octs : ∀ m ∈ l, ∀ p ∈ s.parts m, ReadsP w p
structure OwnR {M : Type} (s : Sh M) (B : Nat) (w : World) (v : Value) (l : List M) : Prop where
  row : w.ownsRow B s.T s.k v l.length (l.flatMap s.f)
  octs : ∀ m ∈ l, ∀ p ∈ s.parts m, ReadsP w p
  off : ∀ g, v.ownBlock = some g → ∀ m ∈ l, ∀ p ∈ s.parts m, OffP g p
theorem ReadsP.below {w w' : World} {p : Option Addr × List UInt8} (h : ReadsP w p) (hb : Below w.heap.size w w') : ReadsP w' p := (Reads.below h hb).more hb.size
theorem readsP_apart {w w' : World} {g : Nat} {p : Option Addr × List UInt8} (h : ReadsP w p) (hg : OffP g p) (hb : ∀ k, k < w.heap.size → k ≠ g → w'.heap[k]? = w.heap[k]?) (hs : w.heap.size ≤ w'.heap.size) : ReadsP w' p := by
  refine ⟨h.1, fun hn => ?_⟩
  obtain ⟨ad, e, hlt, hc⟩ := h.2 hn
  refine ⟨ad, e, by omega, fun j u hu => ?_⟩
  have := hc j u hu
  rwa [← World.cell?_of_block (w' := w') (hb _ (by rw [block_of_add]; exact hlt) (by rw [block_of_add]; exact hg hn ad e))] at this
theorem readsP_off {w : World} {p : Option Addr × List UInt8} (h : ReadsP w p) {g : Nat} (hg : w.heap.size ≤ g) : OffP g p := fun hn ad ha => by
  obtain ⟨ad', e, hlt, _⟩ := h.2 hn
  rw [ha] at e
  injection e with e
  subst e
  omega
/-- no cell of bytes -/
def noB8 : Value → Bool
  | .int .u8 _ => false
  | _ => true
theorem readsP_blk {w : World} {p : Option Addr × List UInt8} {g : Nat} {T : TypeId} {cs : Array Value} (h : ReadsP w p) (K : Blk w g T cs) (hno : cs.toList.all noB8 = true) : OffP g p := fun hn ad ha he => by
  obtain ⟨ad', e, _, hc⟩ := h.2 hn
  rw [ha] at e
  injection e with e
  subst e
  have h0 : (u8s p.2)[0]? = some (.int .u8 (((p.2[0]'hn).toNat : Nat) : Int)) := by rw [u8s_get, List.getElem?_eq_getElem hn]; rfl
  have h1 := hc 0 _ h0
  have h2 : ad.add 0 = ad := by unfold Addr.add; simp
  rw [h2] at h1
  unfold World.cell? at h1
  unfold Blk at K
  rw [he, K] at h1
  simp only at h1
  split at h1
  · cases h1
  · have hm : Value.int .u8 (((p.2[0]'hn).toNat : Nat) : Int) ∈ cs.toList := by
      have := Array.mem_of_getElem? h1
      simpa using this
    have := List.all_eq_true.1 hno _ hm
    cases this
/-- bytes stay, as a block without bytes turns -/
theorem reads_only {w w' : World} {A : Option Addr} {n g : Nat} {l : List UInt8} {T : TypeId} {cs : Array Value} (h : Reads w w.heap.size 1 A n (u8s l)) (hs : Only g w w') (K : Blk w g T cs) (hno : cs.toList.all noB8 = true) : Reads w' w'.heap.size 1 A n (u8s l) := by
  have hl : l.length = n := by have := h.1; rw [u8s_length] at this; omega
  subst hl
  exact readsP_apart (p := (A, l)) h (readsP_blk (p := (A, l)) h K hno) (fun j _ hj => hs.block j hj) (by rw [hs.size]; exact Nat.le_refl _)
section
variable {M : Type} {s : Sh M} {B : Nat} {w w' : World} {v : Value} {l : List M}
theorem RowR.below {A : Option Addr} (h : RowR s w A l) (hb : Below w.heap.size w w') : RowR s w' A l := ⟨(h.row.below hb).more hb.size, fun m hm p hp => (h.octs m hm p hp).below hb⟩
theorem RowR.nil (A : Option Addr) : RowR s w A [] := ⟨⟨by simp, fun h => absurd h (by simp)⟩, fun _ h => (by cases h)⟩
theorem OwnR.below (h : OwnR s B w v l) (hb : Below w.heap.size w w') : OwnR s B w' v l := ⟨own_below h.row hb, fun m hm p hp => (h.octs m hm p hp).below hb, h.off⟩
theorem OwnR.mono {B' : Nat} (h : OwnR s B w v l) (hb : B' ≤ B) : OwnR s B' w v l := ⟨own_mono h.row hb, h.octs, h.off⟩
theorem OwnR.reads (h : OwnR s B w v l) : ∃ A c, v = .slice A l.length c ∧ RowR s w A l ∧ l.length ≤ c := by
  obtain ⟨A, c, e, hr, hc⟩ := own_reads h.row
  exact ⟨A, c, e, ⟨hr, h.octs⟩, hc⟩
theorem OwnR.nil (B : Nat) (w : World) : OwnR s B w (.slice none 0 0) [] := ⟨World.ownsRow_nil _ _ _ _, fun _ h => (by cases h), fun _ _ _ h => (by cases h)⟩
theorem OwnR.empty {g : Nat} (K : Blk w g s.T #[]) (hb : B ≤ g) : OwnR s B w (.slice (some ⟨g, 0, none⟩) 0 0) [] := ⟨ownsRow_empty K hb, fun _ h => (by cases h), fun _ _ _ h => (by cases h)⟩
theorem RowR.parts_off {A : Option Addr} {g : Nat} (h : RowR s w A l) (hg : w.heap.size ≤ g) : ∀ m ∈ l, ∀ p ∈ s.parts m, OffP g p := fun m hm p hp => readsP_off (h.octs m hm p hp) hg
/-- an element's cells -/
theorem RowR.cell {A : Option Addr} {i : Nat} {x : M} (h : RowR s w A l) (hx : l[i]? = some x) : ∃ ad, A = some ad ∧ ad.block < w.heap.size ∧ (∀ u, (s.f x)[0]? = some u → w.cell? (ad.add (i * s.k)) = some u) ∧ ∀ j u, 0 < j → (s.f x)[j]? = some u → w.cell? ⟨(ad.add (i * s.k)).block, (ad.add (i * s.k)).off + j, none⟩ = some u :=
  rowK_at s.len h.row (by have := (List.getElem?_eq_some_iff.1 hx).1; omega) hx
theorem OwnR.at_ (h : OwnR s B w v l) (hl : 0 < l.length) : ∃ g c, v = .slice (some ⟨g, 0, none⟩) l.length c ∧ B ≤ g ∧ g < w.heap.size := by
  obtain ⟨g, cap, hv, hg, hlt⟩ := h.row.form hl
  exact ⟨g, cap, hv, hg, hlt⟩
theorem OwnR.only {k : Nat} (h : OwnR s B w v l) (hs : Only k w w') (hne : ∀ g, v.ownBlock = some g → g ≠ k) (hoff : ∀ m ∈ l, ∀ p ∈ s.parts m, OffP k p) : OwnR s B w' v l :=
  ⟨own_keep h.row fun g hg => hs.block g (hne g hg), fun m hm p hp => readsP_apart (h.octs m hm p hp) (hoff m hm p hp) (fun j _ hj => hs.block j hj) (by rw [hs.size]; exact Nat.le_refl _), h.off⟩
theorem OwnR.onlyK {k : Nat} {T : TypeId} {cs : Array Value} (h : OwnR s B w v l) (hs : Only k w w') (K : Blk w k T cs) (hT : T ≠ s.T) (hno : cs.toList.all noB8 = true) : OwnR s B w' v l :=
  h.only hs (own_ne h.row K hT) fun m hm p hp => readsP_blk (h.octs m hm p hp) K hno
theorem run_app0 {P : Program} {t ty e : TypeId} {i : TypeInfo} {base size n : Nat} {xs : List Value} (ht : P.underlying t = some (.slice e)) (hi : P.info? e = some i) (hown : w.ownsRow base e size v n xs) (c : Nat) :
    (Builtin.append_ #[t, t] ty #[v, .slice none 0 c]).run P w = .ok v w := by
  rcases hown.2 with ⟨rfl, rfl⟩ | ⟨g, cap, cur, rfl, _, _, hnc, _⟩
  · simp [Builtin.append_, run_underlying ht, sizeOf, typeInfo, hi, Builtin.lenOf, Builtin.firstCells, Result.andThen]
  · have := run_append_room_src (P := P) w t t ty e i ht hi g 0 n cap (.slice none 0 c) 0 [] (Src.ofNil w ht c) (by omega) (fun j hj => by simp at hj) (fun j hj => by simp at hj)
    rw [setCells_nil] at this
    exact this
theorem flat_one' (l : List M) : ∀ u ∈ l.flatMap s.f, u.oneCell' = true := by
  intro u hu
  obtain ⟨m, _, hm⟩ := List.mem_flatMap.1 hu
  exact s.one m u hm
/-- structs are appended -/
theorem run_appR {k : List M} {A : Option Addr} {c : Nat} (h : OwnR s B w v l) (hk : RowR s w A k) (hoff : ∀ g, v.ownBlock = some g → ∀ m ∈ k, ∀ p ∈ s.parts m, OffP g p) (hlen : l.length + k.length ≤ 100000000) (hB : B ≤ w.heap.size) :
    ∃ r w', (Builtin.append_ #[s.S, s.S] s.S #[v, .slice A k.length c]).run Tryd.prog w = .ok r w' ∧ OwnR s B w' r (l ++ k) ∧ w.grownBy w' v.ownBlock ∧ (r.ownBlock = v.ownBlock ∨ r.ownBlock = some w.heap.size) := by
  obtain ⟨i0, hi0, hz0, hz1, hz2⟩ := info_parts s.info
  have hmul : (l.length + k.length) * s.by_ ≤ 140737488355328 := Nat.le_trans (Nat.mul_le_mul hlen s.small) (by omega)
  have key : ∃ r w', (Builtin.append_ #[s.S, s.S] s.S #[v, .slice A k.length c]).run Tryd.prog w = .ok r w' ∧ w'.ownsRow B s.T s.k r (l.length + k.length) (l.flatMap s.f ++ k.flatMap s.f) ∧ w.grownBy w' v.ownBlock ∧ (r.ownBlock = v.ownBlock ∨ r.ownBlock = some w.heap.size) := by
    cases A with
    | some ad =>
      have hc : ∀ j u, (k.flatMap s.f)[j]? = some u → w.cell? (ad.add j) = some u := by
        rcases Nat.eq_zero_or_pos k.length with h0 | h0
        · intro j u hj
          rw [List.length_eq_zero_iff.1 h0] at hj
          cases hj
        · obtain ⟨ad', e, _, hc⟩ := hk.row.2 h0
          injection e with e; subst e; exact hc
      obtain ⟨v', w', hr, h2, h3, _, h5⟩ := run_append_own_at (P := Tryd.prog) w B s.S s.S s.T i0 s.z s.k s.by_ s.und hi0 hz0 hz1 hz2 s.zk s.pos v l.length _ h.row ad k.length c _ hk.row.1 hc (flat_one' k) (by unfold maxLen; omega) hmul hB
      exact ⟨v', w', hr, h2, h3, h5⟩
    | none =>
      have h0 : k.length = 0 := by
        rcases Nat.eq_zero_or_pos k.length with h0 | h0
        · exact h0
        · obtain ⟨ad, e, _⟩ := hk.row.2 h0; cases e
      have hk0 : k = [] := List.length_eq_zero_iff.1 h0
      subst hk0
      exact ⟨v, w, run_app0 s.und hi0 h.row c, by simpa using h.row, ⟨rfl, rfl, rfl, Nat.le_refl _, fun _ _ _ => rfl⟩, .inl rfl⟩
  obtain ⟨r, w', hr, h2, h3, h4⟩ := key
  have hoffB : ∀ {p : Option Addr × List UInt8}, ReadsP w p → (∀ g, v.ownBlock = some g → OffP g p) → ∀ g, r.ownBlock = some g → OffP g p := fun {p} hm ho g hg => by
    rcases h4 with e | e
    · exact ho g (e ▸ hg)
    · rw [e] at hg
      injection hg with hg
      subst hg
      exact readsP_off hm (Nat.le_refl _)
  have hkeep : ∀ {p : Option Addr × List UInt8}, ReadsP w p → (∀ g, v.ownBlock = some g → OffP g p) → ReadsP w' p := fun {p} hm ho => by
    cases hb : v.ownBlock with
    | none => exact (Reads.grown hm h3 (Nat.le_refl _) fun g hg => by rw [hb] at hg; cases hg).more h3.size
    | some g => exact readsP_apart hm (ho g hb) (fun j hj hne => h3.block j hj (fun e => by rw [hb] at e; exact hne (Option.some.inj e))) h3.size
  refine ⟨r, w', hr, ⟨?_, fun m hm p hp => ?_, fun g hg m hm p hp => ?_⟩, h3, h4⟩
  · rw [List.length_append, List.flatMap_append]; exact h2
  · rcases List.mem_append.1 hm with hm | hm
    · exact hkeep (h.octs m hm p hp) fun g hg => h.off g hg m hm p hp
    · exact hkeep (hk.octs m hm p hp) fun g hg => hoff g hg m hm p hp
  · rcases List.mem_append.1 hm with hm | hm
    · exact hoffB (h.octs m hm p hp) (fun g hg => h.off g hg m hm p hp) g hg
    · exact hoffB (hk.octs m hm p hp) (fun g hg => hoff g hg m hm p hp) g hg
/-- one struct, in a block of its own, as a row -/
theorem rowR_blk {g : Nat} {x : M} (K : Blk w g s.T (s.f x).toArray) (hp : ∀ p ∈ s.parts x, ReadsP w p) : RowR s w (some ⟨g, 0, none⟩) [x] := by
  refine ⟨⟨by simp [s.len], fun _ => ⟨⟨g, 0, none⟩, rfl, K.lt, fun j u hu => ?_⟩⟩, fun m hm => ?_⟩
  · rw [List.flatMap_cons, List.flatMap_nil, List.append_nil] at hu
    rw [add0]
    unfold World.cell?
    unfold Blk at K
    rw [K]
    simpa using hu
  · rw [List.mem_singleton.1 hm]; exact hp
theorem below_appR {W : World} {B0 : Nat} (hb : Below B0 W w) (h : OwnR s B w v l) (hg : w.grownBy w' v.ownBlock) (h0 : B0 ≤ B) (hB : B0 ≤ w.heap.size) : Below B0 W w' :=
  hb.grown hg hB fun k hk => Nat.le_trans h0 (World.ownsRow.lt h.row k hk).1
/-- what is known of a part stays, as one's row grows -/
theorem grown_part {p : Option Addr × List UInt8} (hg : w.grownBy w' v.ownBlock) (hm : ReadsP w p) (ho : ∀ g, v.ownBlock = some g → OffP g p) : ReadsP w' p := by
  cases hb : v.ownBlock with
  | none => exact (Reads.grown hm hg (Nat.le_refl _) fun g hg' => by rw [hb] at hg'; cases hg').more hg.size
  | some g => exact readsP_apart hm (ho g hb) (fun j hj hne => hg.block j hj (fun e => by rw [hb] at e; exact hne (Option.some.inj e))) hg.size
end
end Go.Proofs.YtaljodmhalodhaaDoor
/-
  Worlds that differ in some blocks alone; rows of structs of one's own: an element set, cut, cleared.
-/
namespace Go.Proofs.YtaljodmhalodhaaDoor
open Go.RowKit
section
variable {w w' w'' : World} {B B' : Nat}
/-- two worlds differ in some blocks alone -/
structure Apart (S : Nat → Prop) (w w' : World) : Prop where
  os : w'.os = w.os
  tape : w'.tape = w.tape
  output : w'.output = w.output
  size : w.heap.size ≤ w'.heap.size
  block : ∀ i, i < w.heap.size → ¬ S i → w'.heap[i]? = w.heap[i]?
variable {S S' : Nat → Prop}
theorem Apart.refl (S : Nat → Prop) (w : World) : Apart S w w := ⟨rfl, rfl, rfl, Nat.le_refl _, fun _ _ _ => rfl⟩
theorem Apart.mono' (h : Apart S w w') (hs : ∀ i, S i → S' i) : Apart S' w w' := ⟨h.os, h.tape, h.output, h.size, fun i hi hn => h.block i hi fun h' => hn (hs i h')⟩
theorem Apart.trans (h : Apart S w w') (k : Apart S' w' w'') (hs : ∀ i, i < w.heap.size → S' i → S i) : Apart S w w'' :=
  ⟨k.os.trans h.os, k.tape.trans h.tape, k.output.trans h.output, Nat.le_trans h.size k.size, fun i hi hn => (k.block i (Nat.lt_of_lt_of_le hi h.size) fun h' => hn (hs i hi h')).trans (h.block i hi hn)⟩
theorem Apart.below (h : Apart S w w') (k : Below w'.heap.size w' w'') : Apart S w w'' :=
  ⟨k.os.trans h.os, k.tape.trans h.tape, k.output.trans h.output, Nat.le_trans h.size k.size, fun i hi hn => (k.block i (Nat.lt_of_lt_of_le hi h.size)).trans (h.block i hi hn)⟩
theorem Apart.grown {row : Option Nat} (h : Apart S w w') (k : w'.grownBy w'' row) (hs : ∀ g, row = some g → w.heap.size ≤ g ∨ S g) : Apart S w w'' :=
  ⟨k.os.trans h.os, k.tape.trans h.tape, k.output.trans h.output, Nat.le_trans h.size k.size, fun i hi hn => (k.block i (Nat.lt_of_lt_of_le hi h.size) fun e => by
    rcases hs i e.symm with h1 | h1
    · omega
    · exact hn h1).trans (h.block i hi hn)⟩
theorem Apart.only {g : Nat} (h : Apart S w w') (k : Only g w' w'') (hs : w.heap.size ≤ g ∨ S g) : Apart S w w'' :=
  h.grown k.grown fun g' e => by rw [← Option.some.inj e]; exact hs
theorem Apart.toBelow (h : Apart S w w') (hs : ∀ i, S i → B ≤ i) (hB : B ≤ w.heap.size) : Below B w w' :=
  ⟨h.os, h.tape, h.output, h.size, fun i hi => h.block i (by omega) fun hS => by have := hs i hS; omega⟩
theorem Apart.blk {g : Nat} {T : TypeId} {cs : Array Value} (h : Apart S w w') (K : Blk w g T cs) (hg : ¬ S g) : Blk w' g T cs := (h.block g K.lt hg).trans K
theorem Apart.reads {n : Nat} {A : Option Addr} {xs : List Value} (h : Apart S w w') (hr : Reads w w.heap.size 1 A n xs) (hn : 0 < n → ∀ ad, A = some ad → ¬ S ad.block) : Reads w' w'.heap.size 1 A n xs := by
  refine ⟨hr.1, fun h0 => ?_⟩
  obtain ⟨ad, e, hlt, hc⟩ := hr.2 h0
  refine ⟨ad, e, Nat.lt_of_lt_of_le hlt h.size, fun j u hu => ?_⟩
  have := hc j u hu
  rwa [← World.cell?_of_block (w' := w') (h.block _ (by rw [block_of_add]; exact hlt) (by rw [block_of_add]; exact hn h0 ad e))] at this
theorem grown_tr {row : Option Nat} (h : w.grownBy w' row) (k : w'.grownBy w'' row) : w.grownBy w'' row :=
  ⟨k.os.trans h.os, k.tape.trans h.tape, k.output.trans h.output, Nat.le_trans h.size k.size, fun i hi hn => (k.block i (Nat.lt_of_lt_of_le hi h.size) hn).trans (h.block i hi hn)⟩
theorem own_setCells {g n c size : Nat} {e : TypeId} {xs : List Value} : ∀ (vs : List Value) (o : Nat) (w : World), w.ownsRow B e size (.slice (some ⟨g, 0, none⟩) n c) n xs → n * size ≤ o → (w.setCells g o vs).ownsRow B e size (.slice (some ⟨g, 0, none⟩) n c) n xs ∧ w.grownBy (w.setCells g o vs) (some g)
  | [], _, w, h, _ => ⟨h, ⟨rfl, rfl, rfl, Nat.le_refl _, fun _ _ _ => rfl⟩⟩
  | u :: r, o, w, h, ho => by
    obtain ⟨h1, h2⟩ := h.stored o u
    rw [List.set_eq_of_length_le (by rw [h.1]; exact ho)] at h1
    obtain ⟨h3, h4⟩ := own_setCells r (o + 1) _ h1 (by omega)
    exact ⟨h3, grown_tr h2 h4⟩
theorem own_putCells {g n c N size : Nat} {e : TypeId} : ∀ (vs : List Value) (o : Nat) (w : World) (xs : List Value), w.ownsRow B e size (.slice (some ⟨g, 0, none⟩) n c) n xs → o + vs.length ≤ xs.length → (w.setCells g o vs).ownsRow B e size (.slice (some ⟨g, 0, none⟩) n c) n (xs.take o ++ vs ++ xs.drop (o + vs.length)) ∧ w.grownBy (w.setCells g o vs) (some g)
  | [], o, w, xs, h, _ => ⟨(show xs.take o ++ [] ++ xs.drop (o + ([] : List Value).length) = xs by simp).symm ▸ h, ⟨rfl, rfl, rfl, Nat.le_refl _, fun _ _ _ => rfl⟩⟩
  | u :: r, o, w, xs, h, ho => by
    rw [List.length_cons] at ho
    obtain ⟨h1, h2⟩ := h.stored o u
    obtain ⟨h3, h4⟩ := own_putCells (N := N) r (o + 1) _ _ h1 (by rw [List.length_set]; omega)
    refine ⟨?_, grown_tr h2 h4⟩
    have e1 : (xs.set o u).take (o + 1) = xs.take o ++ [u] := by
      rw [List.take_add_one, List.take_set_of_le (Nat.le_refl o), List.getElem?_set_self (by omega)]
      rfl
    have e2 : (xs.set o u).drop (o + 1 + r.length) = xs.drop (o + (u :: r).length) := by
      rw [List.drop_set_of_lt (by omega), List.length_cons]
      congr 1
      omega
    rw [e1, e2, List.append_assoc (xs.take o)] at h3
    exact h3
end
section
variable {M : Type} {s : Sh M} {B : Nat} {w w' : World} {l : List M} {g n c i : Nat}
theorem flatR_set {x y : M} (hy : l[i]? = some y) : (l.set i x).flatMap s.f = (l.flatMap s.f).take (i * s.k) ++ s.f x ++ (l.flatMap s.f).drop (i * s.k + s.k) := by
  have hi := (List.getElem?_eq_some_iff.1 hy).1
  have e0 : l = l.take i ++ y :: l.drop (i + 1) := by
    have h1 : l[i] = y := (List.getElem?_eq_some_iff.1 hy).2
    rw [← h1, ← List.drop_eq_getElem_cons hi, List.take_append_drop]
  have hlt : (l.take i).length = i := by rw [List.length_take]; omega
  have hf : ((l.take i).flatMap s.f).length = i * s.k := by rw [flatK_len s.len, hlt]
  rw [List.set_eq_take_append_cons_drop, if_pos hi, List.flatMap_append, List.flatMap_cons, flatK_take s.len, List.append_assoc]
  congr 1
  congr 1
  conv => rhs; rw [e0, List.flatMap_append, List.flatMap_cons]
  rw [← List.append_assoc, List.drop_left' (by rw [List.length_append, hf, s.len])]
theorem OwnR.len (h : OwnR s B w (.slice (some ⟨g, 0, none⟩) n c) l) : l.length = n := by
  obtain ⟨A, c', e, _⟩ := h.reads
  injection e with _ e _
  exact e.symm
/-- an element is set -/
theorem OwnR.put {x y : M} (h : OwnR s B w (.slice (some ⟨g, 0, none⟩) n c) l) (hy : l[i]? = some y) (ho : ∀ p ∈ s.parts x, ReadsP w p) (hoff : ∀ p ∈ s.parts x, OffP g p) :
    OwnR s B (w.setCells g (i * s.k) (s.f x)) (.slice (some ⟨g, 0, none⟩) n c) (l.set i x) ∧ w.grownBy (w.setCells g (i * s.k) (s.f x)) (some g) := by
  have hi := (List.getElem?_eq_some_iff.1 hy).1
  have hn := h.len
  have hr := h.row
  rw [hn] at hr
  have hle : i * s.k + s.k ≤ (l.flatMap s.f).length := by
    rw [flatK_len s.len, ← Nat.succ_mul]
    exact Nat.mul_le_mul_right _ hi
  obtain ⟨h1, h2⟩ := own_putCells (N := 0) (s.f x) (i * s.k) w _ hr (by rw [s.len]; exact hle)
  rw [s.len, ← flatR_set hy] at h1
  have keep : ∀ {p}, ReadsP w p → OffP g p → ReadsP (w.setCells g (i * s.k) (s.f x)) p := fun {p} hp hg => readsP_apart hp hg (fun j hj hne => h2.block j hj (fun e => hne (Option.some.inj e))) h2.size
  refine ⟨⟨by rw [List.length_set, hn]; exact h1, fun m hm p hp => ?_, fun g' hg' m hm p hp => ?_⟩, h2⟩
  · rcases List.mem_or_eq_of_mem_set hm with hm | hm
    · exact keep (h.octs m hm p hp) (h.off g rfl m hm p hp)
    · subst hm; exact keep (ho p hp) (hoff p hp)
  · rcases List.mem_or_eq_of_mem_set hm with hm | hm
    · exact h.off g' hg' m hm p hp
    · subst hm; rw [← Option.some.inj hg']; exact hoff p hp
/-- the elements ahead alone -/
theorem OwnR.cut (h : OwnR s B w (.slice (some ⟨g, 0, none⟩) n c) l) (hi : i ≤ n) : OwnR s B w (.slice (some ⟨g, 0, none⟩) i c) (l.take i) := by
  have hn := h.len
  have hm : ∀ {m}, m ∈ l.take i → m ∈ l := fun {m} hm => List.mem_of_mem_take hm
  have hl : (l.take i).length = i := by rw [List.length_take]; omega
  refine ⟨?_, fun m h' => h.octs m (hm h'), fun g' hg' m h' => h.off g' hg' m (hm h')⟩
  rw [hl]
  rcases h.row.2 with ⟨e, _⟩ | ⟨g', cap, cur, e, h1, h2, h3, h4, h5, h6⟩
  · cases e
  · injection e with e1 e2 e3
    injection e1 with e1
    injection e1 with e1 _
    subst e1 e3
    refine ⟨by rw [flatK_len s.len, hl], .inr ⟨g, c, cur, rfl, h1, h2, by omega, h4, h5, ?_⟩⟩
    rw [flatK_take s.len, ← h6, List.take_take, Nat.min_eq_left (Nat.mul_le_mul_right s.k (by omega))]
/-- the rest of a row is cleared -/
theorem run_clearR {d : Nat} (h : OwnR s B w (.slice (some ⟨g, 0, none⟩) n c) l) (hi : i < n) (hz1 : s.z.cells.toList.all (·.oneCell') = true) :
    ∃ w', (∀ ty, (Builtin.clear_ #[s.S] ty #[.slice (some ⟨g, i * s.k, none⟩) (n - i) d]).run Tryd.prog w = .ok (.tuple #[]) w') ∧ OwnR s B w' (.slice (some ⟨g, 0, none⟩) i c) (l.take i) ∧ w.grownBy w' (some g) := by
  obtain ⟨i0, hi0, hz0, _, _⟩ := info_parts s.info
  have hn := h.len
  have hr := h.row
  rw [hn] at hr
  have hz : ∀ k, ((Builtin.zeroCells s.z.cells k).toList).length = k * s.k := fun k => by simp [Builtin.zeroCells, s.zk]
  have h1z : ∀ k, ∀ u ∈ (Builtin.zeroCells s.z.cells k).toList, u.oneCell' = true := fun k u hu => by
    simp only [Builtin.zeroCells, Array.toList_map, List.mem_map] at hu
    obtain ⟨j, _, rfl⟩ := hu
    have hlt : j % s.z.cells.size < s.z.cells.size := Nat.mod_lt _ (by rw [s.zk]; exact s.pos)
    rw [getElem!_pos s.z.cells _ hlt]
    exact List.all_eq_true.1 hz1 _ (by simp)
  have hst := run_storeCells_cells (P := Tryd.prog) g (i * s.k) (Builtin.zeroCells s.z.cells (n - i)).toList 0 w (fun j hj => by
    rw [hz] at hj
    have hb : i * s.k + (n - i) * s.k = n * s.k := by rw [← Nat.add_mul, Nat.add_sub_cancel' (Nat.le_of_lt hi)]
    rw [Nat.add_zero, hr.cellAt _ (by omega), List.getElem?_eq_getElem (by rw [hr.1]; omega)]
    rfl) (fun j _ => hr.frozenAt _) (h1z _)
  rw [Nat.add_zero] at hst
  have hcut := h.cut (Nat.le_of_lt hi)
  have hl : (l.take i).length = i := by rw [List.length_take]; omega
  have hcr := hcut.row
  rw [hl] at hcr
  obtain ⟨q1, q2⟩ := own_setCells (Builtin.zeroCells s.z.cells (n - i)).toList (i * s.k) w hcr (Nat.le_refl _)
  refine ⟨_, ?_, ⟨by rw [hl]; exact q1, fun m hm p hp => ?_, hcut.off⟩, q2⟩
  · intro ty
    obtain ⟨m, hm⟩ : ∃ m, n - i = m + 1 := ⟨n - i - 1, by omega⟩
    rw [hm] at hst ⊢
    simp [Builtin.clear_, run_underlying s.und, zeroValue, typeInfo, hi0, hz0, hst]
  · exact readsP_apart (hcut.octs m hm p hp) (hcut.off g rfl m hm p hp) (fun k hk hne => q2.block k hk (fun e => hne (Option.some.inj e))) q2.size
end
end Go.Proofs.YtaljodmhalodhaaDoor
/-
  Rows of structs of one's own: one cell of an element is set.
-/
namespace Go.Proofs.YtaljodmhalodhaaDoor
open Go.RowKit
theorem flatK_put {M : Type} {f : M → List Value} {k : Nat} (hf : ∀ x, (f x).length = k) : ∀ (l : List M) (i j : Nat) (x y : M) (u : Value), l[i]? = some x → j < k → f y = (f x).set j u → (l.set i y).flatMap f = (l.flatMap f).set (i * k + j) u
  | [], i, j, x, y, u, h, _, _ => by cases h
  | z :: r, 0, j, x, y, u, h, hj, hy => by
    injection h with h
    subst h
    rw [List.set_cons_zero, List.flatMap_cons, List.flatMap_cons, hy, Nat.zero_mul, Nat.zero_add, List.set_append_left _ _ (by rw [hf]; exact hj)]
  | z :: r, i + 1, j, x, y, u, h, hj, hy => by
    rw [List.set_cons_succ, List.flatMap_cons, List.flatMap_cons, flatK_put hf r i j x y u h hj hy, List.set_append_right _ _ (by rw [hf, Nat.succ_mul]; omega), hf]
    congr 2
    rw [Nat.succ_mul]
    omega
section
variable {M : Type} {s : Sh M} {B : Nat} {w w' : World} {l : List M} {g n c i j : Nat}
/-- one cell of an element is set; its parts stay -/
theorem OwnR.put1 {x y : M} {u : Value} (h : OwnR s B w (.slice (some ⟨g, 0, none⟩) n c) l) (hy : l[i]? = some y) (hj : j < s.k) (hx : s.f x = (s.f y).set j u) (hp : s.parts x = s.parts y) :
    OwnR s B (w.setCell ⟨g, i * s.k + j, none⟩ u) (.slice (some ⟨g, 0, none⟩) n c) (l.set i x) ∧ w.grownBy (w.setCell ⟨g, i * s.k + j, none⟩ u) (some g) := by
  have hn := h.len
  have hr := h.row
  rw [hn] at hr
  obtain ⟨h1, h2⟩ := hr.stored (i * s.k + j) u
  rw [← flatK_put s.len l i j y x u hy hj hx] at h1
  have keep : ∀ {p}, ReadsP w p → OffP g p → ReadsP (w.setCell ⟨g, i * s.k + j, none⟩ u) p := fun {p} hp hg => readsP_apart hp hg (fun j hj hne => h2.block j hj (fun e => hne (Option.some.inj e))) h2.size
  have hm0 := List.mem_of_getElem? hy
  refine ⟨⟨by rw [List.length_set, hn]; exact h1, fun m hm p hp' => ?_, fun g' hg' m hm p hp' => ?_⟩, h2⟩
  · rcases List.mem_or_eq_of_mem_set hm with hm | hm
    · exact keep (h.octs m hm p hp') (h.off g rfl m hm p hp')
    · subst hm
      rw [hp] at hp'
      exact keep (h.octs y hm0 p hp') (h.off g rfl y hm0 p hp')
  · rcases List.mem_or_eq_of_mem_set hm with hm | hm
    · exact h.off g' hg' m hm p hp'
    · subst hm
      rw [hp] at hp'
      exact h.off g' hg' y hm0 p hp'
/-- what an element's cell holds -/
theorem OwnR.cellAt {x : M} {u : Value} (h : OwnR s B w (.slice (some ⟨g, 0, none⟩) n c) l) (hx : l[i]? = some x) (hk : (s.f x)[j]? = some u) : w.cell? ⟨g, i * s.k + j, none⟩ = some u := by
  have hn := h.len
  have hr := h.row
  rw [hn] at hr
  have hi := (List.getElem?_eq_some_iff.1 hx).1
  have hj : j < s.k := by have := (List.getElem?_eq_some_iff.1 hk).1; rw [s.len] at this; exact this
  have hle : i * s.k + s.k ≤ n * s.k := by rw [← Nat.succ_mul]; exact Nat.mul_le_mul_right _ (by omega)
  rw [hr.cellAt _ (by omega)]
  exact (flatK_at s.len l i j x hx hj).trans hk
theorem OwnR.frozenAt (h : OwnR s B w (.slice (some ⟨g, 0, none⟩) n c) l) (k : Nat) : w.frozen? ⟨g, k, none⟩ = false := by
  have hn := h.len
  have hr := h.row
  rw [hn] at hr
  exact hr.frozenAt k
/-- another row grows -/
theorem OwnR.grown {v : Value} {row : Option Nat} (h : OwnR s B w v l) (hg : w.grownBy w' row) (hne : ∀ g, v.ownBlock = some g → row ≠ some g) (hoff : ∀ g, row = some g → ∀ m ∈ l, ∀ p ∈ s.parts m, OffP g p) : OwnR s B w' v l := by
  refine ⟨own_keep h.row fun g hg' => hg.block g (World.ownsRow.lt h.row g hg').2 (fun e => hne g hg' e.symm), fun m hm p hp => ?_, h.off⟩
  cases hb : row with
  | none => exact (Reads.grown (h.octs m hm p hp) hg (Nat.le_refl _) fun g hg' => by rw [hb] at hg'; cases hg').more hg.size
  | some g => exact readsP_apart (h.octs m hm p hp) (hoff g hb m hm p hp) (fun j hj hne => hg.block j hj (fun e => by rw [hb] at e; exact hne (Option.some.inj e))) hg.size
/-- rows of different kinds lie in different blocks -/
theorem OwnR.ne {M2 : Type} {s2 : Sh M2} {B2 : Nat} {v v2 : Value} {l2 : List M2} (h : OwnR s B w v l) (h2 : OwnR s2 B2 w v2 l2) (ht : s2.T ≠ s.T) {g : Nat} (hg : v.ownBlock = some g) : v2.ownBlock ≠ some g := fun hg2 => by
  obtain ⟨cs, hc⟩ := own_kind h.row hg
  obtain ⟨cs2, hc2⟩ := own_kind h2.row hg2
  rw [hc] at hc2
  injection hc2 with hc2
  injection hc2 with _ hc2
  exact ht hc2.symm
end
end Go.Proofs.YtaljodmhalodhaaDoor
/-
  The memory of a chunk (lex.Chunk): its three rows of bytes lie apart; units.
-/
namespace Go.Proofs.YtaljodmhalodhaaDoor
open Go.RowKit
/-- two rows lie in different blocks -/
def sepV (a b : Value) : Prop := ∀ g, a.ownBlock = some g → b.ownBlock ≠ some g
theorem sepV.symm {a b : Value} (h : sepV a b) : sepV b a := fun g hb ha => h g ha hb
theorem sepV_nil (a : Value) : sepV a (.slice none 0 0) := fun _ _ h => by cases h
theorem nil_sepV (a : Value) : sepV (.slice none 0 0) a := fun _ h => by cases h
section
variable {B : Nat} {w w' : World} {u v : Value} {l m : List UInt8}
theorem OwnX.grown (h : OwnX B w v l) (hg : w.grownBy w' u.ownBlock) (hs : sepV v u) : OwnX B w' v l := h.keep fun g hg' => hg.block g (h.lt g hg').2 fun e => hs g hg' e.symm
/-- a row that grew, or was made anew, stays apart from another one -/
theorem sepV_grown {r : Value} (h : OwnX B w v l) (hs : sepV v u) (hr : r.ownBlock = u.ownBlock ∨ r.ownBlock = some w.heap.size) : sepV v r := fun g hg e => by
  rcases hr with hr | hr
  · exact hs g hg (hr ▸ e)
  · rw [hr] at e
    injection e with e
    have := (h.lt g hg).2
    omega
theorem sepV_new {r : Value} (h : OwnX B w v l) (hr : ∀ g, r.ownBlock = some g → w.heap.size ≤ g) : sepV v r := fun g hg e => by
  have h1 := (h.lt g hg).2
  have h2 := hr g e
  omega
end
/-- a chunk in memory -/
structure ChunkAt (B : Nat) (w : World) (pc : Nat) (s : ChunkS) (vd vl va : Value) : Prop where
  blk : Blk w pc 43 #[vd, vl, .int .i64 (s.left : Nat), .bool s.lost, va]
  d : OwnX B w vd s.done
  l : OwnX B w vl s.line
  a : OwnX B w va s.ahead
  dl : sepV vd vl
  da : sepV vd va
  la : sepV vl va
section
variable {B pc : Nat} {w w' : World} {s : ChunkS} {vd vl va : Value}
theorem ChunkAt.below (h : ChunkAt B w pc s vd vl va) (hb : Below w.heap.size w w') : ChunkAt B w' pc s vd vl va := ⟨h.blk.below hb h.blk.lt, h.d.below hb, h.l.below hb, h.a.below hb, h.dl, h.da, h.la⟩
end
structure UnitV where
  k : Nat
  a : Option Addr
  c : Nat
  b : List UInt8
def unitC (u : UnitV) : List Value := [.int .i64 (u.k : Nat), .slice u.a u.b.length u.c]
def unitB (u : UnitV) : UnitB := (u.k, u.b)
def unitSh : Sh UnitV := ⟨29, 24, 2, 32, .agg #[.int .i64 0, .slice none 0 0], unitC, fun u => [(u.a, u.b)], fun _ => rfl, fun x u hu => by
  unfold unitC at hu
  simp only [List.mem_cons, List.not_mem_nil, or_false] at hu
  rcases hu with rfl | rfl <;> rfl, Tryd.underlying24, by kernel_rfl, rfl, by decide, by decide⟩
/-- a unit's bytes lie in a block of bytes, apart from a chunk's rows -/
structure UnitOk (w : World) (u : UnitV) (vd vl va : Value) : Prop where
  octs : ReadsP w (u.a, u.b)
  blk : ∀ ad, u.a = some ad → ∃ cs, Blk w ad.block 5 cs
  d : ∀ ad, u.a = some ad → vd.ownBlock ≠ some ad.block
  l : ∀ ad, u.a = some ad → vl.ownBlock ≠ some ad.block
end Go.Proofs.YtaljodmhalodhaaDoor
/-
  Walks: the length that a line's end asks for (lex.literal); some bytes (lex.some).
-/
namespace Go.Proofs.YtaljodmhalodhaaDoor
open Go.RowKit
set_option linter.unusedSimpArgs false
set_option linter.unusedVariables false
def litV (l : List UInt8) : Int := match litP l with
  | some n => (n : Int)
  | none => -1
def digs : List UInt8 := [48, 49, 50, 51, 52, 53, 54, 55, 56, 57]
theorem digs_has (c : UInt8) : digs.contains c = digitB c := by
  unfold digs digitB
  rw [Bool.eq_iff_iff]
  simp
  have h : c.toNat < 256 := c.toNat_lt
  constructor
  · rintro (rfl | rfl | rfl | rfl | rfl | rfl | rfl | rfl | rfl | rfl) <;> decide
  · intro h
    have : c = UInt8.ofNat c.toNat := by simp
    have hc : c.toNat = 48 ∨ c.toNat = 49 ∨ c.toNat = 50 ∨ c.toNat = 51 ∨ c.toNat = 52 ∨ c.toNat = 53 ∨ c.toNat = 54 ∨ c.toNat = 55 ∨ c.toNat = 56 ∨ c.toNat = 57 := by omega
    rcases hc with e | e | e | e | e | e | e | e | e | e <;> rw [e] at this <;> rw [this] <;> simp
theorem atoi_digits {d : List UInt8} (h : 1 ≤ d.length) (hd : d.all digitB = true) : Lib.atoi d = some ((valB d : Nat) : Int) := by
  cases d with
  | nil => simp at h
  | cons b r =>
    have hb := List.all_eq_true.1 hd b List.mem_cons_self
    have hb1 : (b == 45) = false := by
      rw [beq_eq_false_iff_ne]
      intro e; subst e; revert hb; decide
    have hb2 : (b == 43) = false := by
      rw [beq_eq_false_iff_ne]
      intro e; subst e; revert hb; decide
    have key : ∀ (l : List UInt8) (a : Nat), l.all digitB = true → Lib.decFrom a l = some (l.foldl (fun n b => n * 10 + (b.toNat - 48)) a) := by
      intro l
      induction l with
      | nil => intro a _; rfl
      | cons x l ih =>
        intro a hl
        rw [List.all_cons, Bool.and_eq_true] at hl
        have hx := hl.1
        unfold digitB at hx
        simp at hx
        have hv : Lib.digitVal x = some (x.toNat - 48) := by unfold Lib.digitVal; rw [if_pos hx]
        unfold Lib.decFrom
        rw [hv]
        exact ih _ hl.2
    show (if (b == 45) = true then _ else if (b == 43) = true then _ else (Lib.decNat (b :: r)).map fun (m : Nat) => (m : Int)) = _
    rw [hb1, hb2]
    simp only [Bool.false_eq_true, if_false]
    unfold Lib.decNat
    rw [if_neg (by simp), key _ 0 hd]
    rfl
theorem suffix_last {l : List UInt8} : Lib.hasSuffix l [125] = true ↔ l.getLast? = some 125 := by
  unfold Lib.hasSuffix
  rw [List.isSuffixOf_iff_suffix]
  constructor
  · rintro ⟨t, rfl⟩
    exact List.getLast?_concat
  · intro h
    rcases List.eq_nil_or_concat l with e | ⟨q, y, e⟩
    · rw [e] at h; cases h
    · rw [e, List.concat_eq_append, List.getLast?_concat] at h
      injection h with h
      exact ⟨q, by rw [e, h, List.concat_eq_append]⟩
theorem bang_eq {l : List UInt8} {j : Nat} (h : j < l.length) : (St l).data[j]! = l[j] := by
  show l.toArray[j]! = _
  rw [getElem!_pos l.toArray j (by simpa using h)]
  simp
set_option maxRecDepth 100000 in
theorem literal_any (A : Option Addr) (n c : Nat) (l : List UInt8) (hl : l.length = n) (hn : n ≤ 1000000) (w : World) (hr : Reads w w.heap.size 1 A n (u8s l)) :
    Calls Tryd.prog 38 #[.slice A n c] w fun ev w' => ev = .returned (.int .i64 (litV l)) ∧ Below w.heap.size w w' := by
  have hcv := conv_reads (c := c) hl hr
  have hsz : (St l).size = n := hl
  refine calls_at 46 Tryd.func38 rfl rfl (Nat.le_of_ble_eq_true rfl) ?_
  intro a hA; replace hA := hA.norm
  refine wS (wR ?_)
  revert a; refine wo rfl rfl (by decide) (fun ev e h => by simp [go_sem, h, hcv] <;> rfl) ?_; intro a hA
  replace hA := hA.keepN [0]
  refine wN (nT (wS (wR ?_)))
  revert a; refine wo rfl rfl (by decide) (fun ev e h => by simp [go_sem, h, hcv] <;> rfl) ?_; intro a hA
  refine wl_op hA rfl rfl (by decide) (fun ev h => by simp [go_sem, h.get 10 rfl, hcv]; try first | exact ⟨rfl, rfl⟩ | rfl) fun a hA => ?_
  refine wl_call hA rfl rfl (by decide) (fun ev h => exec_call Tryd.func51 (by kernel_rfl) rfl (h.f _) (by first | (simp only [mL, h.get 11 rfl, h.c] <;> rfl) | (simp [mL, h.get 11 rfl, h.c, hcv] <;> rfl))) (Tryd.strings_CutSuffix (St l) (St [125]) _ (by rw [hsz]; omega)) ?_
  rintro e w1 ⟨rfl, rfl⟩
  refine ⟨_, rfl, fun a hA => ?_⟩
  obtain ⟨ok, hok⟩ : ∃ q, Lib.hasSuffix l [125] = q := ⟨_, rfl⟩
  obtain ⟨s, hs⟩ : ∃ s, Lib.trimSuffix l [125] = s := ⟨_, rfl⟩
  have hsl : s.length ≤ n := by
    rw [← hs]
    unfold Lib.trimSuffix
    split
    · rw [List.length_take]; omega
    · omega
  rw [show Lib.hasSuffix (St l).data.toList (St [125]).data.toList = ok from hok, show (⟨(Lib.trimSuffix (St l).data.toList (St [125]).data.toList).toArray⟩ : ByteArray) = St s by rw [← hs]] at hA
  revert a; (iterate 5 refine wo rfl rfl (by decide) (fun ev e h => by simp [go_sem, h] <;> rfl) ?_); intro a hA
  replace hA := hA.keepN [3, 4]
  refine wN (nT (wS (wR ?_)))
  revert a; refine wo rfl rfl (by decide) (fun ev e h => by simp [go_sem, h] <;> rfl) ?_; intro a hA
  refine wl_call hA rfl rfl (by decide) (fun ev h => exec_call Tryd.func39 (by kernel_rfl) rfl (h.f _) (by first | (simp only [mL, h.get 15 rfl, h.c] <;> rfl) | (simp [mL, h.get 15 rfl, h.c] <;> rfl))) (Tryd.strings_LastIndexByte (St s) 123 (by show s.length < _; omega) _) ?_
  rintro e w2 ⟨rfl, rfl⟩
  refine ⟨_, rfl, fun a hA => ?_⟩
  obtain ⟨i, hi⟩ : ∃ i, Lib.lastIndexByte (St s) 123 = i := ⟨_, rfl⟩
  rw [hi] at hA
  have hsp := Lib.lastIdx_spec (St s) 123 s.length
  rw [show Lib.lastIdx (St s) 123 s.length = i from hi] at hsp
  revert a; refine wo rfl rfl (by decide) (fun ev e h => by simp [go_sem, h] <;> rfl) ?_; intro a hA
  replace hA := hA.keepN [3, 4, 5]
  refine wN (nT (wS (wS (wR ?_))))
  revert a; (iterate 3 refine wo rfl rfl (by decide) (fun ev e h => by simp [go_sem, h] <;> rfl) ?_); (iterate 2 refine wg _ rfl rfl rfl rfl (by decide) (fun hq ev e h => by simp [go_sem, h, ↓gw_t (beq_t hq)] <;> rfl) ?_); refine wko rfl rfl (by decide) rfl rfl rfl ?_; intro a hA
  replace hA := hA.keepN [3, 5, 22]
  refine wN (nT ?_)
  refine wp_if hA 22 _ rfl (fun hq => ?yQ) (fun hq => ?nQ)
  case yQ =>
    have hv : litV l = -1 := by
      unfold litV
      cases ok with
      | false =>
        rw [lit_end (fun e => by rw [suffix_last.2 e] at hok; cases hok)]
      | true =>
        have hlast := suffix_last.1 hok
        rcases List.eq_nil_or_concat l with e | ⟨q, y, e⟩
        · rw [e] at hlast; cases hlast
        · rw [e, List.concat_eq_append, List.getLast?_concat] at hlast
          injection hlast with hlast
          have hsq : s = q := by
            rw [← hs, e, List.concat_eq_append]
            unfold Lib.trimSuffix
            rw [if_pos (by rw [← hok, e, List.concat_eq_append])]
            simp
          rcases hsp with ⟨h1, h2⟩ | ⟨k, h1, h2, h3, h4⟩
          · rw [e, List.concat_eq_append, hlast, lit_none (fun x hx hx2 => by
              obtain ⟨j, hj, e2⟩ := List.getElem_of_mem hx
              rw [← hsq] at hj
              have := h2 j hj
              rw [bang_eq hj] at this
              subst hsq
              rw [e2, hx2] at this
              exact this rfl)]
          · simp at hq
            omega
    refine wS (wR ?_)
    revert a; refine wo rfl rfl (by decide) (fun ev e h => by simp [go_sem, h] <;> rfl) ?_; intro a hA
    replace hA := hA.keepN [2]
    refine wN (nT (wp_ret (rT ?_)))
    refine ret_1 hA 2 rfl rfl ?_
    exact ⟨by rw [hv], Below.refl _ _⟩
  case nQ =>
    have hokt : ok = true := by
      cases ok with
      | true => rfl
      | false => simp at hq
    subst hokt
    have hi0 : 0 ≤ i := by simp at hq; omega
    have hlast := suffix_last.1 hok
    obtain ⟨pa, d, hsd, hia, hd1⟩ : ∃ pa d, s = pa ++ [123] ++ d ∧ i = (pa.length : Nat) ∧ ∀ x ∈ d, x ≠ 123 := by
      rcases hsp with ⟨h1, h2⟩ | ⟨k, h1, h2, h3, h4⟩
      · omega
      · refine ⟨s.take k, s.drop (k + 1), ?_, by rw [List.length_take]; omega, fun x hx hx2 => ?_⟩
        · rw [bang_eq h1] at h3
          have h5 : s[k] = 123 := by
            apply UInt8.toNat.inj
            have : (s[k].toNat : Int) = 123 := h3
            have h6 : (123 : UInt8).toNat = 123 := rfl
            omega
          rw [← h5, List.append_assoc, List.singleton_append, ← List.drop_eq_getElem_cons h1, List.take_append_drop]
        · obtain ⟨j, hj, e2⟩ := List.getElem_of_mem hx
          rw [List.length_drop] at hj
          have hj2 : k + 1 + j < s.length := by omega
          have := h4 (k + 1 + j) (by omega) hj2
          rw [bang_eq hj2] at this
          rw [List.getElem_drop, hx2] at e2
          rw [e2] at this
          exact this rfl
    subst hia
    have hll : l = pa ++ [123] ++ d ++ [125] := by
      rcases List.eq_nil_or_concat l with e | ⟨q, y, e⟩
      · rw [e] at hlast; cases hlast
      · rw [e, List.concat_eq_append, List.getLast?_concat] at hlast
        injection hlast with hlast
        have hsq : s = q := by
          rw [← hs, e, List.concat_eq_append]
          unfold Lib.trimSuffix
          rw [if_pos (by rw [← hok, e, List.concat_eq_append])]
          simp
        rw [← hsd, hsq, e, List.concat_eq_append, hlast]
    have hdl : d.length ≤ 1000000 := by rw [hsd] at hsl; simp at hsl; omega
    have hal : pa.length ≤ 1000000 := by rw [hsd] at hsl; simp at hsl; omega
    have hw1 : IntKind.i64.wrap ((pa.length : Int) + 1) = (pa.length : Int) + 1 := IntWalk.i64_in _ (by omega)
    have hsl2 : s.length = pa.length + 1 + d.length := by rw [hsd]; simp; omega
    have i1 : (0 : Int) ≤ (pa.length : Int) + 1 := by omega
    have i2 : (pa.length : Int) + 1 ≤ (s.length : Int) := by omega
    have hex : (St s).extract (pa.length + 1) s.length = St d := by rw [extract_drop s _ _ rfl, hsd, List.drop_left' (by simp)]
    have i3 : ((pa.length : Int) + 1).toNat = pa.length + 1 := by omega
    have i4 : (St s).size = s.length := rfl
    refine wp_skip (nT (wS (wR ?_)))
    revert a; (iterate 5 refine wo rfl rfl (by decide) (fun ev e h => by simp [go_sem, h, hw1, i1, i2, i3, i4, hex] <;> rfl) ?_); intro a hA
    replace hA := hA.keepN [6]
    refine wN (nT (wS (wS (wR ?_))))
    revert a; (iterate 4 refine wo rfl rfl (by decide) (fun ev e h => by simp [go_sem, h, hw1, i1, i2, i3, i4, hex] <;> rfl) ?_); (iterate 3 refine wg _ rfl rfl rfl rfl (by decide) (fun hq ev e h => by simp [go_sem, h, ↓gw_t (beq_t hq), hw1, i1, i2, i3, i4, hex] <;> rfl) ?_); refine wko rfl rfl (by decide) rfl rfl rfl ?_; refine wo rfl rfl (by decide) (fun ev e h => by simp [go_sem, h, hw1, i1, i2, i3, i4, hex] <;> rfl) ?_; refine wg _ rfl rfl rfl rfl (by decide) (fun hq ev e h => by simp [go_sem, h, ↓gw_t (beq_t hq), hw1, i1, i2, i3, i4, hex] <;> rfl) ?_; intro a hA
    replace hA := hA.keepN [6, 35, 36]
    have hdv : litV l = if 1 ≤ d.length ∧ d.length ≤ 6 ∧ d.all digitB = true then ((valB d : Nat) : Int) else -1 := by
      unfold litV
      rw [hll, lit_brace hd1]
      by_cases hc : 1 ≤ d.length ∧ d.length ≤ 6 ∧ d.all digitB = true
      · rw [if_pos hc, if_pos hc]
      · rw [if_neg hc, if_neg hc]
    refine wl_gcallv _ hA rfl rfl rfl rfl (by decide) (fun hq ev h => exec_call Tryd.func52 (by kernel_rfl) rfl (h.f _) (by first | (simp only [mL, ((h.get 36 rfl).trans (gw_t (beq_t hq))), h.c] <;> rfl) | (simp [mL, ((h.get 36 rfl).trans (gw_t (beq_t hq))), h.c, hw1, i1, i2, i3, i4, hex] <;> rfl))) (fun hq => trim_any digs d _ hdl (by decide) (by decide) (by intro j b hj; have := List.mem_of_getElem? hj; revert this; unfold digs; simp; rintro (rfl | rfl | rfl | rfl | rfl | rfl | rfl | rfl | rfl | rfl) <;> decide)) fun a w3 hb3 hA => ?_
    revert a; refine wg _ rfl rfl rfl rfl (by decide) (fun hq ev e h => by simp [go_sem, h, ↓gw_t (beq_t hq), hw1, i1, i2, i3, i4, hex] <;> rfl) ?_; refine wko rfl rfl (by decide) rfl rfl rfl ?_; intro a hA
    replace hA := hA.keepN [6, 39]
    refine wN (nT ?_)
    have htr : (trimS digs d).isEmpty = d.all digitB := by
      have h1 := trimS_nil digs d
      have h2 : (trimS digs d == []) = (trimS digs d).isEmpty := by cases trimS digs d <;> rfl
      rw [← h2, h1]
      congr 1
      funext x
      exact digs_has x
    rw [htr] at hA
    refine wp_if hA 39 _ rfl (fun hq2 => ?yR) (fun hq2 => ?nR)
    case yR =>
      have hno : ¬ (1 ≤ d.length ∧ d.length ≤ 6 ∧ d.all digitB = true) := fun ⟨h1, h2, h3⟩ => by
        rw [h3] at hq2
        simp at hq2
        omega
      rw [if_neg hno] at hdv
      refine wS (wR ?_)
      revert a; refine wo rfl rfl (by decide) (fun ev e h => by simp [go_sem, h, hw1, i1, i2, i3, i4, hex] <;> rfl) ?_; intro a hA
      replace hA := hA.keepN [2]
      refine wN (nT (wp_ret (rT ?_)))
      refine ret_1 hA 2 rfl rfl ?_
      exact ⟨by rw [hdv], hb3⟩
    case nR =>
      have hyes : 1 ≤ d.length ∧ d.length ≤ 6 ∧ d.all digitB = true := by
        cases hall : d.all digitB with
        | false => rw [hall] at hq2; simp at hq2
        | true =>
          rw [hall] at hq2
          simp at hq2
          exact ⟨by omega, by omega, rfl⟩
      rw [if_pos hyes] at hdv
      have hdsz : (St d).size = d.length := rfl
      refine wp_skip (nT (wS (wR ?_)))
      revert a; refine wo rfl rfl (by decide) (fun ev e h => by simp [go_sem, h, hw1, i1, i2, i3, i4, hex] <;> rfl) ?_; intro a hA
      refine wl_call hA rfl rfl (by decide) (fun ev h => exec_call Tryd.func53 (by kernel_rfl) rfl (h.f _) (by first | (simp only [mL, h.get 41 rfl, h.c] <;> rfl) | (simp [mL, h.get 41 rfl, h.c, hw1, i1, i2, i3, i4, hex] <;> rfl))) (Tryd.strconv_Atoi (St d) ((valB d : Nat) : Int) (by rw [hdsz]; omega) (atoi_digits hyes.1 hyes.2.2) _) ?_
      rintro e w4 ⟨rfl, tb, rfl⟩
      refine ⟨_, rfl, fun a hA => ?_⟩
      revert a; (iterate 5 refine wo rfl rfl (by decide) (fun ev e h => by simp [go_sem, h, hw1, i1, i2, i3, i4, hex] <;> rfl) ?_); intro a hA
      replace hA := hA.keepN [7]
      refine wN (nT (wS (wR ?_)))
      revert a; (iterate 2 refine wo rfl rfl (by decide) (fun ev e h => by simp [go_sem, h, hw1, i1, i2, i3, i4, hex] <;> rfl) ?_); intro a hA
      replace hA := hA.keepN [2]
      refine wN (nT (wp_ret ?_))
      refine ret_1 hA 2 rfl rfl ?_
      exact ⟨by rw [hdv], hb3.trans (Go.Joins.below_bytesWorld _ _ _ _ hb3.size)⟩
set_option maxRecDepth 100000 in
theorem some_any (A : Option Addr) (n c : Nat) (l : List UInt8) (hl : l.length = n) (hc : n ≤ c) (hn : n ≤ 1000000000) (w : World) (hr : Reads w w.heap.size 1 A n (u8s l)) :
    Calls Tryd.prog 35 #[.slice A n c] w fun ev w' => ∃ v, ev = .returned v ∧ Own8 w.heap.size w' v (l.take 100) ∧ Below w.heap.size w w' := by
  have i0 : (0 : Int) ≤ min (n : Int) 100 := by omega
  have i1 : min (n : Int) 100 ≤ (c : Int) := by omega
  have i2 : (min (n : Int) 100).toNat = min n 100 := by omega
  have hlt : (l.take 100).length = min n 100 := by rw [List.length_take, hl]; omega
  have hrt : Reads w w.heap.size 1 A (min n 100) (u8s (l.take 100)) := by
    have := Reads.take8 (k := min n 100) hr (by omega)
    rwa [show l.take (min n 100) = l.take 100 by rcases Nat.le_total n 100 with h | h; rw [Nat.min_eq_left h, List.take_of_length_le (by omega), List.take_of_length_le (by omega)]; rw [Nat.min_eq_right h]] at this
  refine calls_at 9 Tryd.func35 rfl rfl (Nat.le_of_ble_eq_true rfl) ?_
  intro a hA; replace hA := hA.norm
  refine wS (wR ?_)
  revert a; refine wo rfl rfl (by decide) (fun ev e h => by simp [go_sem, h, i0, i1, i2] <;> rfl) ?_; intro a hA
  replace hA := hA.keepN [0]
  refine wN (nT (wS (wR ?_)))
  revert a; (iterate 5 refine wo rfl rfl (by decide) (fun ev e h => by simp [go_sem, h, i0, i1, i2] <;> rfl) ?_); intro a hA
  refine wl_call hA rfl rfl (by decide) (fun ev h => exec_call Tryd.func36 (by kernel_rfl) rfl (h.f _) (by first | (simp only [mL, h.get 7 rfl, h.c] <;> rfl) | (simp [mL, h.get 7 rfl, h.c, i0, i1, i2] <;> rfl))) (clone_any A (min n 100) c (l.take 100) _ hlt (by omega) hrt) ?_
  rintro e w1 ⟨v, rfl, ho, hb⟩
  refine ⟨_, rfl, fun a hA => ?_⟩
  revert a; refine wo rfl rfl (by decide) (fun ev e h => by simp [go_sem, h, i0, i1, i2] <;> rfl) ?_; intro a hA
  replace hA := hA.keepN [2]
  refine wN (nT (wp_ret ?_))
  refine ret_1 hA 2 rfl rfl ?_
  exact ⟨v, rfl, by unfold Own8; rw [hlt]; exact ho, hb⟩
end Go.Proofs.YtaljodmhalodhaaDoor
/-
  Walk: what a line's end completes ((*lex.Chunk).end).
-/
namespace Go.Proofs.YtaljodmhalodhaaDoor
open Go.RowKit
set_option linter.unusedSimpArgs false
set_option linter.unusedVariables false
theorem OwnX.reads {B n c : Nat} {w : World} {A : Option Addr} {l : List UInt8} (h : OwnX B w (.slice A n c) l) : Reads w w.heap.size 1 A l.length (u8s l) := by
  obtain ⟨A', c', e, hr⟩ := h.took
  injection e with e1
  subst e1
  exact hr
/-- what a chunk's method may turn -/
abbrev TurnC (pc : Nat) (vd vl : Value) (w w' : World) : Prop := Apart (fun i => i = pc ∨ vd.ownBlock = some i ∨ vl.ownBlock = some i) w w'
/-- a row is an older one's block, or new -/
def FromV (w : World) (v v' : Value) : Prop := ∀ g, v'.ownBlock = some g → v.ownBlock = some g ∨ w.heap.size ≤ g
theorem FromV.nil (w : World) (v : Value) : FromV w v (.slice none 0 0) := fun _ h => by cases h
structure UnitsOut (w : World) (v : Value) (us : List UnitV) (vd vl : Value) : Prop where
  row : ∃ A c, v = .slice A us.length c ∧ RowR unitSh w A us
  blk : ∀ u ∈ us, ∀ ad, u.a = some ad → ∃ cs, Blk w ad.block 5 cs
  d : ∀ u ∈ us, ∀ ad, u.a = some ad → vd.ownBlock ≠ some ad.block
  l : ∀ u ∈ us, ∀ ad, u.a = some ad → vl.ownBlock ≠ some ad.block
structure ChunkEnd (B pc : Nat) (w w' : World) (vd vl : Value) (p : ChunkS × List UnitB) (v : Value) : Prop where
  ex : ∃ us vd' vl' va', UnitsOut w' v us vd' vl' ∧ us.map unitB = p.2 ∧ ChunkAt B w' pc p.1 vd' vl' va' ∧ FromV w vd vd' ∧ FromV w vl vl'
  turn : TurnC pc vd vl w w'
theorem unit_one {w : World} {g n : Nat} {u : UnitV} (K : Blk w g 29 #[.int .i64 (u.k : Nat), .slice u.a n u.c]) (hn : u.b.length = n) (ho : ReadsP w (u.a, u.b)) (hb : ∀ ad, u.a = some ad → ∃ cs, Blk w ad.block 5 cs) : UnitsOut w (.slice (some ⟨g, 0, none⟩) 1 1) [u] (.slice none 0 0) (.slice none 0 0) :=
  ⟨⟨_, _, rfl, rowR_blk (s := unitSh) (x := u) (by subst hn; exact K) fun p hp => by rw [List.mem_singleton.1 hp]; exact ho⟩, fun x hx => by rw [List.mem_singleton.1 hx]; exact hb, fun _ _ _ _ h => (by cases h), fun _ _ _ _ h => (by cases h)⟩
theorem OwnX.u8blk {B n c : Nat} {w : World} {A : Option Addr} {l : List UInt8} (h : OwnX B w (.slice A n c) l) : ∀ ad, A = some ad → ∃ cs, Blk w ad.block 5 cs := fun ad e => by
  subst e
  exact h.kind rfl
theorem blk_below8 {w w' : World} {ad : Addr} (h : ∃ cs, Blk w ad.block 5 cs) (hb : Below w.heap.size w w') : ∃ cs, Blk w' ad.block 5 cs := by
  obtain ⟨cs, K⟩ := h
  exact ⟨cs, K.below hb K.lt⟩
theorem chunk_zero {B pc : Nat} {w : World} (K : Blk w pc 43 #[.slice none 0 0, .slice none 0 0, .int .i64 0, .bool false, .slice none 0 0]) : ChunkAt B w pc chunk0 (.slice none 0 0) (.slice none 0 0) (.slice none 0 0) :=
  ⟨K, OwnX.nil _, OwnX.nil _, OwnX.nil _, nil_sepV _, nil_sepV _, nil_sepV _⟩
theorem endS_lost {s : ChunkS} (h : s.lost = true) : endS s = (chunk0, [(2, s.ahead)]) := by unfold endS; rw [if_pos h]
theorem endS_great {s : ChunkS} (h : s.lost = false) (h2 : 20000 < litV s.line) : endS s = (chunk0, [(3, (s.done ++ s.line).take 100)]) := by
  unfold endS litV at *
  rw [h, if_neg (by decide)]
  cases hl : litP s.line with
  | none => rw [hl] at h2; exact absurd h2 (by decide)
  | some n =>
    rw [hl] at h2
    simp only [] at h2 ⊢
    rw [if_pos (by omega)]
theorem endS_ask {s : ChunkS} (h : s.lost = false) (h2 : ¬ 20000 < litV s.line) (h3 : 0 ≤ litV s.line) : endS s = (⟨s.done ++ s.line ++ [13, 10], [], (litV s.line).toNat, false, s.ahead⟩, [(4, [])]) := by
  unfold endS litV at *
  rw [h, if_neg (by decide)]
  cases hl : litP s.line with
  | none => rw [hl] at h3; exact absurd h3 (by decide)
  | some n =>
    rw [hl] at h2 h3
    simp only [] at h2 h3 ⊢
    rw [if_neg (by omega)]
    rfl
theorem endS_plain {s : ChunkS} (h : s.lost = false) (h3 : ¬ 0 ≤ litV s.line) : endS s = (chunk0, [(1, s.done ++ s.line)]) := by
  unfold endS litV at *
  rw [h, if_neg (by decide)]
  cases hl : litP s.line with
  | none => rfl
  | some n => rw [hl] at h3; simp only [] at h3; omega
set_option maxRecDepth 100000 in
set_option maxHeartbeats 4000000 in
theorem end_any (pc B : Nat) (s : ChunkS) (vd vl va : Value) (w : World) (hpc : pc < B) (hB : B ≤ w.heap.size) (hc : ChunkAt B w pc s vd vl va) (hd : s.done.length ≤ 100000000) (hln : s.line.length ≤ 1000000) (hz : s.left = 0) :
    Calls Tryd.prog 34 #[.pointer (some ⟨pc, 0, none⟩)] w fun ev w' => ∃ v, ev = .returned v ∧ ChunkEnd B pc w w' vd vl (endS s) v := by
  obtain ⟨K, od, ol, oa, hdl, hda, hla⟩ := hc
  obtain ⟨Ad, cd, rfl, hcd⟩ := od.form
  obtain ⟨Al, cl, rfl, hcl⟩ := ol.form
  obtain ⟨Aa, ca, rfl, hca⟩ := oa.form
  have hpcw : pc < w.heap.size := K.lt
  have T0 : TurnC pc (.slice Ad s.done.length cd) (.slice Al s.line.length cl) w w := Apart.refl _ _
  rw [hz] at K
  refine calls_at 79 Tryd.func34 rfl rfl (Nat.le_of_ble_eq_true rfl) ?_
  intro a hA; replace hA := hA.norm
  refine wS (wR ?_)
  revert a; refine wo rfl rfl (by decide) (fun ev e h => by simp [go_sem, h, K.cell] <;> rfl) ?_; intro a hA
  replace hA := hA.keepN [0]
  refine wN (nT (wS (wR ?_)))
  revert a; (iterate 5 refine wo rfl rfl (by decide) (fun ev e h => by simp [go_sem, h, K.cell] <;> rfl) ?_); intro a hA
  replace hA := hA.keepN [0, 3]
  refine wN (nT (wS (wR ?_)))
  revert a; (iterate 3 refine wo rfl rfl (by decide) (fun ev e h => by simp [go_sem, h, K.cell] <;> rfl) ?_); intro a hA
  have K0 := K
  refine wl_setf ([.slice Ad s.done.length cd, .slice none 0 0, .int .i64 0, .bool s.lost, .slice Aa s.ahead.length ca]) _ hA rfl rfl K (j := 1) (by rfl) (fun ev h => by simp [go_sem, h.c, h.get 14 rfl, K.cell, K.cell, K.frozen]; try first | exact ⟨rfl, rfl⟩ | rfl) fun w1 (K : Blk _ _ _ _) hs1 => ?_
  have T1 := T0.only hs1 (.inr (.inl rfl))
  have od1 := od.only hs1 (od.ne K0 (by decide))
  have ol1 := ol.only hs1 (ol.ne K0 (by decide))
  have oa1 := oa.only hs1 (oa.ne K0 (by decide))
  clear od ol oa
  replace hA := hA.keepN [0, 3]
  refine wN (nT (wS (wS (wR ?_))))
  revert a; refine wo rfl rfl (by decide) (fun ev e h => by simp [go_sem, h, K.cell] <;> rfl) ?_; intro a hA
  refine wl_call hA rfl rfl (by decide) (fun ev h => exec_call Tryd.func38 (by kernel_rfl) rfl (h.f _) (by first | (simp only [mL, h.get 15 rfl, h.c] <;> rfl) | (simp [mL, h.get 15 rfl, h.c, K.cell] <;> rfl))) (literal_any Al _ cl s.line rfl hln _ ol1.reads) ?_
  rintro e w2 ⟨rfl, hb2⟩
  refine ⟨_, rfl, fun a hA => ?_⟩
  replace K := K.below hb2 K.lt
  replace od1 := od1.below hb2
  replace ol1 := ol1.below hb2
  replace oa1 := oa1.below hb2
  have T2 := T1.below hb2
  have hBw : B ≤ w2.heap.size := by have := hb2.size; have := hs1.size; omega
  revert a; refine wo rfl rfl (by decide) (fun ev e h => by simp [go_sem, h, K.cell] <;> rfl) ?_; intro a hA
  replace hA := hA.keepN [0, 3, 4]
  refine wN (nT (wB (wS (wR ?_))))
  revert a; (iterate 5 refine wo rfl rfl (by decide) (fun ev e h => by simp [go_sem, h, K.cell] <;> rfl) ?_); intro a hA
  replace hA := hA.keepN [0, 3, 4, 17]
  refine wN (nT ?_)
  refine wp_if hA 17 _ rfl (fun hq => ?yL) (fun hq => ?nL)
  case yL =>
    have hE := endS_lost hq
    rw [hE]
    refine wS (wR ?_)
    revert a; (iterate 5 refine wo rfl rfl (by decide) (fun ev e h => by simp [go_sem, h, K.cell] <;> rfl) ?_); intro a hA
    refine wl_local [.int .i64 2, .slice Aa s.ahead.length ca] hA rfl rfl (by decide) (fun ev h => by simp [go_sem, K.cell]; try first | exact ⟨rfl, rfl⟩ | rfl) rfl rfl (by rfl) (fun w1 g ev hb h => by simp [go_sem, h.get 5 rfl, h.get 26 rfl, K.cell, setAll, hb.cell, hb.frozen]) fun w3 a (K5 : Blk _ _ _ _) hz5 hb5 hA => ?_
    replace K := K.below hb5 K.lt
    replace oa1 := oa1.below hb5
    have T3 := T2.below hb5
    replace hA := hA.keepN [0, 5]
    refine wN (nT (wS (wR ?_)))
    revert a; (iterate 3 refine wo rfl rfl (by decide) (fun ev e h => by simp [go_sem, h, K.cell] <;> rfl) ?_); intro a hA
    have K00 := K
    refine wl_set [.slice none 0 0, .slice none 0 0, .int .i64 0, .bool false, .slice none 0 0] hA rfl rfl K (by rfl) (fun ev h => by simp [go_sem, h.get 29 rfl, h.get 28 rfl, K.cell, setAll, K.cell, K.frozen]) fun w4 (K : Blk _ _ _ _) hs4 => ?_
    have T4 := T3.only hs4 (.inr (.inl rfl))
    replace K5 := hs4.blk K5 (by have := K00.lt; have := hb2.size; have := hs1.size; omega)
    have oa4 := oa1.only hs4 (oa1.ne K00 (by decide))
    replace hA := hA.keepN [5]
    refine wN (nT (wS (wR ?_)))
    revert a; refine wo rfl rfl (by decide) (fun ev e h => by simp [go_sem, h, K5.cell] <;> rfl) ?_; intro a hA
    refine wl_new hA rfl rfl (by decide) (fun ev h => by simp [go_sem, h.get 30 rfl, K5.cell]; try first | exact ⟨rfl, rfl⟩ | rfl) fun w5 a (K7 : Blk _ _ _ _) hz7 hb7 hA => ?_
    replace K := K.below hb7 K.lt
    replace oa4 := oa4.below hb7
    have T5 := T4.below hb7
    revert a; refine wo rfl rfl (by decide) (fun ev e h => by simp [go_sem, h, K5.cell] <;> rfl) ?_; intro a hA
    replace hA := hA.keepN [2]
    refine wN (nT (wp_ret (rB (rT ?_))))
    refine ret_1 hA 2 rfl rfl ?_
    exact ⟨_, rfl, ⟨_, _, _, _, unit_one (u := ⟨2, Aa, ca, s.ahead⟩) K7 rfl oa4.reads oa4.u8blk, rfl, chunk_zero K, FromV.nil _ _, FromV.nil _ _⟩, T5⟩
  case nL =>
    have hlost : s.lost = false := by simpa using hq
    refine wS (wR ?_)
    revert a; (iterate 3 refine wo rfl rfl (by decide) (fun ev e h => by simp [go_sem, h, K.cell] <;> rfl) ?_); intro a hA
    replace hA := hA.keepN [0, 3, 4, 32]
    refine wN (nT ?_)
    refine wp_if hA 32 _ rfl (fun hq2 => ?yG) (fun hq2 => ?nG)
    case yG =>
      have hg : 20000 < litV s.line := by simpa using hq2
      rw [endS_great hlost hg]
      refine wS (wR ?_)
      revert a; (iterate 5 refine wo rfl rfl (by decide) (fun ev e h => by simp [go_sem, h, K.cell] <;> rfl) ?_); intro a hA
      obtain ⟨r, w3, hr3, ho3, hg3, hf3⟩ := run_appX od1 ol1.reads (by omega) hBw
      refine wl_op hA rfl rfl (by decide) (fun ev h => exec_append rfl (h.get 38 rfl) (h.get 39 rfl) hr3) fun a hA => ?_
      have T3 := T2.grown hg3 (fun g e => .inr (.inr (.inl e)))
      replace K := K.grown hg3 (fun e => by have := od1.ne K (by decide) pc e.symm; exact this rfl)
      obtain ⟨Ar, cr, rfl, hcr⟩ := ho3.form
      refine wl_call hA rfl rfl (by decide) (fun ev h => exec_call Tryd.func35 (by kernel_rfl) rfl (h.f _) (by first | (simp only [mL, h.get 40 rfl, h.c] <;> rfl) | (simp [mL, h.get 40 rfl, h.c, K.cell] <;> rfl))) (some_any Ar _ cr (s.done ++ s.line) rfl hcr (by rw [List.length_append]; omega) _ ho3.reads) ?_
      rintro e w4 ⟨v4, rfl, ho4, hb4⟩
      refine ⟨_, rfl, fun a hA => ?_⟩
      replace K := K.below hb4 K.lt
      have T4 := T3.below hb4
      have ox4 := ho4.x
      obtain ⟨A4, c4, rfl, _⟩ := ox4.form
      revert a; refine wo rfl rfl (by decide) (fun ev e h => by simp [go_sem, h, K.cell] <;> rfl) ?_; intro a hA
      refine wl_local [.int .i64 3, .slice A4 ((s.done ++ s.line).take 100).length c4] hA rfl rfl (by decide) (fun ev h => by simp [go_sem, K.cell]; try first | exact ⟨rfl, rfl⟩ | rfl) rfl rfl (by rfl) (fun w1 g ev hb h => by simp [go_sem, h.get 6 rfl, h.get 42 rfl, K.cell, setAll, hb.cell, hb.frozen]) fun w5 a (K6 : Blk _ _ _ _) hz6 hb6 hA => ?_
      replace K := K.below hb6 K.lt
      replace ox4 := ox4.below hb6
      have T5 := T4.below hb6
      replace hA := hA.keepN [0, 6]
      refine wN (nT (wS (wR ?_)))
      revert a; (iterate 3 refine wo rfl rfl (by decide) (fun ev e h => by simp [go_sem, h, K.cell] <;> rfl) ?_); intro a hA
      have K00 := K
      refine wl_set [.slice none 0 0, .slice none 0 0, .int .i64 0, .bool false, .slice none 0 0] hA rfl rfl K (by rfl) (fun ev h => by simp [go_sem, h.get 45 rfl, h.get 44 rfl, K.cell, setAll, K.cell, K.frozen]) fun w6 (K : Blk _ _ _ _) hs6 => ?_
      have T6 := T5.only hs6 (.inr (.inl rfl))
      replace K6 := hs6.blk K6 (by have := hb4.size; have := hg3.size; have := hb2.size; have := hs1.size; omega)
      have ox6 := ox4.only hs6 (ox4.ne K00 (by decide))
      replace hA := hA.keepN [6]
      refine wN (nT (wS (wR ?_)))
      revert a; refine wo rfl rfl (by decide) (fun ev e h => by simp [go_sem, h, K6.cell] <;> rfl) ?_; intro a hA
      refine wl_new hA rfl rfl (by decide) (fun ev h => by simp [go_sem, h.get 46 rfl, K6.cell]; try first | exact ⟨rfl, rfl⟩ | rfl) fun w7 a (K7 : Blk _ _ _ _) hz7 hb7 hA => ?_
      replace K := K.below hb7 K.lt
      replace ox6 := ox6.below hb7
      have T7 := T6.below hb7
      revert a; refine wo rfl rfl (by decide) (fun ev e h => by simp [go_sem, h, K6.cell] <;> rfl) ?_; intro a hA
      replace hA := hA.keepN [2]
      refine wN (nT (wp_ret (rB (rT ?_))))
      refine ret_1 hA 2 rfl rfl ?_
      exact ⟨_, rfl, ⟨_, _, _, _, unit_one (u := ⟨3, A4, c4, (s.done ++ s.line).take 100⟩) K7 (by simp only [List.length_take, List.length_append]) ox6.reads ox6.u8blk, rfl, chunk_zero K, FromV.nil _ _, FromV.nil _ _⟩, T7⟩
    case nG =>
      have hg : ¬ 20000 < litV s.line := by simpa using hq2
      refine wS (wR ?_)
      revert a; (iterate 3 refine wo rfl rfl (by decide) (fun ev e h => by simp [go_sem, h, K.cell] <;> rfl) ?_); intro a hA
      replace hA := hA.keepN [0, 3, 4, 48]
      refine wN (nT ?_)
      refine wp_if hA 48 _ rfl (fun hq3 => ?yH) (fun hq3 => ?nH)
      case yH =>
        have h0 : 0 ≤ litV s.line := by simpa using hq3
        rw [endS_ask hlost hg h0]
        refine wS (wR ?_)
        revert a; (iterate 6 refine wo rfl rfl (by decide) (fun ev e h => by simp [go_sem, h, K.cell] <;> rfl) ?_); intro a hA
        obtain ⟨r, w3, hr3, ho3, hg3, hf3⟩ := run_appX od1 ol1.reads (by omega) hBw
        refine wl_op hA rfl rfl (by decide) (fun ev h => exec_append rfl (h.get 55 rfl) (h.get 56 rfl) hr3) fun a hA => ?_
        have T3 := T2.grown hg3 (fun g e => .inr (.inr (.inl e)))
        replace K := K.grown hg3 (fun e => by have := od1.ne K (by decide) pc e.symm; exact this rfl)
        have oa3 := oa1.grown hg3 hda.symm
        have hsa3 := sepV_grown oa1 hda.symm hf3
        have hBw3 : B ≤ w3.heap.size := Nat.le_trans hBw hg3.size
        obtain ⟨r4, w4, hr4, ho4, hg4, hf4⟩ := run_appXs (s := ⟨#[13, 10]⟩) (m := [13, 10]) ho3 rfl (by rw [List.length_append]; simp; omega) hBw3
        refine wl_op hA rfl rfl (by decide) (fun ev h => exec_append rfl (h.get 57 rfl) (h.c _) hr4) fun a hA => ?_
        have hfr : ∀ g, r4.ownBlock = some g → (Value.slice Ad s.done.length cd).ownBlock = some g ∨ w.heap.size ≤ g := fun g e => by
          have hw2 : w.heap.size ≤ w2.heap.size := T2.size
          have hw3 := hg3.size
          rcases hf4 with e2 | e2
          · rw [e2] at e
            rcases hf3 with e3 | e3
            · rw [e3] at e; exact .inl e
            · rw [e3] at e; injection e with e; exact .inr (by omega)
          · rw [e2] at e; injection e with e; exact .inr (by omega)
        have T4 := T3.grown hg4 (fun g e => by
          rcases hf3 with e3 | e3
          · rw [e3] at e; exact .inr (.inr (.inl e))
          · rw [e3] at e; injection e with e; exact .inl (by have := T2.size; omega))
        replace K := K.grown hg4 (fun e => by have := ho3.ne K (by decide) pc e.symm; exact this rfl)
        have oa4 := oa3.grown hg4 hsa3
        have hsa4 := sepV_grown oa3 hsa3 hf4
        obtain ⟨A4, c4, rfl, _⟩ := ho4.form
        have K00 := K
        revert a; (iterate 2 refine wo rfl rfl (by decide) (fun ev e h => by simp [go_sem, h, K.cell] <;> rfl) ?_); intro a hA
        refine wl_setf ([.slice A4 (s.done ++ s.line ++ [13, 10]).length c4, .slice none 0 0, .int .i64 0, .bool s.lost, .slice Aa s.ahead.length ca]) _ hA rfl rfl K (j := 0) (by rfl) (fun ev h => by simp [go_sem, h.get 60 rfl, h.get 58 rfl, K.cell, K.cell, K.frozen]; try first | exact ⟨rfl, rfl⟩ | rfl) fun w5 (K : Blk _ _ _ _) hs5 => ?_
        have T5 := T4.only hs5 (.inr (.inl rfl))
        have ox5 := ho4.only hs5 (ho4.ne K00 (by decide))
        have oa5 := oa4.only hs5 (oa4.ne K00 (by decide))
        have K01 := K
        replace hA := hA.keepN [0, 4]
        refine wN (nT (wS (wR ?_)))
        revert a; (iterate 4 refine wo rfl rfl (by decide) (fun ev e h => by simp [go_sem, h, K.cell] <;> rfl) ?_); intro a hA
        refine wl_setf ([.slice A4 (s.done ++ s.line ++ [13, 10]).length c4, .slice none 0 0, .int .i64 (litV s.line), .bool s.lost, .slice Aa s.ahead.length ca]) _ hA rfl rfl K (j := 2) (by rfl) (fun ev h => by simp [go_sem, h.get 64 rfl, h.get 62 rfl, K.cell, K.cell, K.frozen]; try first | exact ⟨rfl, rfl⟩ | rfl) fun w6 (K : Blk _ _ _ _) hs6 => ?_
        have T6 := T5.only hs6 (.inr (.inl rfl))
        have ox6 := ox5.only hs6 (ox5.ne K01 (by decide))
        have oa6 := oa5.only hs6 (oa5.ne K01 (by decide))
        replace hA := hA.keepN []
        refine wN (nT (wS (wR ?_)))
        revert a; refine wo rfl rfl (by decide) (fun ev e h => by simp [go_sem, h, K.cell] <;> rfl) ?_; intro a hA
        refine wl_new hA rfl rfl (by decide) (fun ev h => by simp [go_sem, h.get 65 rfl, K.cell]; try first | exact ⟨rfl, rfl⟩ | rfl) fun w7 a (K7 : Blk _ _ _ _) hz7 hb7 hA => ?_
        replace K := K.below hb7 K.lt
        replace ox6 := ox6.below hb7
        replace oa6 := oa6.below hb7
        have T7 := T6.below hb7
        revert a; refine wo rfl rfl (by decide) (fun ev e h => by simp [go_sem, h, K.cell] <;> rfl) ?_; intro a hA
        replace hA := hA.keepN [2]
        refine wN (nT (wp_ret (rB (rT ?_))))
        refine ret_1 hA 2 rfl rfl ?_
        refine ⟨_, rfl, ⟨[⟨4, none, 0, []⟩], _, _, _, ⟨⟨_, _, rfl, rowR_blk (s := unitSh) (x := ⟨4, none, 0, []⟩) K7 fun p hp => by rw [List.mem_singleton.1 hp]; exact Reads.none8⟩, fun u hu ad e => ?_, fun u hu ad e => ?_, fun u hu ad e => ?_⟩, rfl, ⟨?_, ox6, OwnX.nil _, oa6, sepV_nil _, hsa4.symm, nil_sepV _⟩, hfr, FromV.nil _ _⟩, T7⟩
        · rw [List.mem_singleton.1 hu] at e; cases e
        · rw [List.mem_singleton.1 hu] at e; cases e
        · rw [List.mem_singleton.1 hu] at e; cases e
        · show Blk _ _ _ #[_, _, .int .i64 ((litV s.line).toNat : Nat), .bool false, _]
          rw [Int.toNat_of_nonneg h0, ← hlost]
          exact K
      case nH =>
        have h0 : ¬ 0 ≤ litV s.line := by simpa using hq3
        rw [endS_plain hlost h0]
        refine wp_skip (nB (nT (wS (wR ?_))))
        revert a; (iterate 5 refine wo rfl rfl (by decide) (fun ev e h => by simp [go_sem, h, K.cell] <;> rfl) ?_); intro a hA
        obtain ⟨r, w3, hr3, ho3, hg3, hf3⟩ := run_appX od1 ol1.reads (by omega) hBw
        refine wl_op hA rfl rfl (by decide) (fun ev h => exec_append rfl (h.get 70 rfl) (h.get 71 rfl) hr3) fun a hA => ?_
        have T3 := T2.grown hg3 (fun g e => .inr (.inr (.inl e)))
        replace K := K.grown hg3 (fun e => by have := od1.ne K (by decide) pc e.symm; exact this rfl)
        obtain ⟨A4, c4, rfl, _⟩ := ho3.form
        revert a; refine wo rfl rfl (by decide) (fun ev e h => by simp [go_sem, h, K.cell] <;> rfl) ?_; intro a hA
        refine wl_local [.int .i64 1, .slice A4 (s.done ++ s.line).length c4] hA rfl rfl (by decide) (fun ev h => by simp [go_sem, K.cell]; try first | exact ⟨rfl, rfl⟩ | rfl) rfl rfl (by rfl) (fun w1 g ev hb h => by simp [go_sem, h.get 7 rfl, h.get 73 rfl, K.cell, setAll, hb.cell, hb.frozen]) fun w5 a (K6 : Blk _ _ _ _) hz6 hb6 hA => ?_
        replace K := K.below hb6 K.lt
        replace ho3 := ho3.below hb6
        have T5 := T3.below hb6
        replace hA := hA.keepN [0, 7]
        refine wN (nT (wS (wR ?_)))
        revert a; (iterate 3 refine wo rfl rfl (by decide) (fun ev e h => by simp [go_sem, h, K.cell] <;> rfl) ?_); intro a hA
        have K00 := K
        refine wl_set [.slice none 0 0, .slice none 0 0, .int .i64 0, .bool false, .slice none 0 0] hA rfl rfl K (by rfl) (fun ev h => by simp [go_sem, h.get 76 rfl, h.get 75 rfl, K.cell, setAll, K.cell, K.frozen]) fun w6 (K : Blk _ _ _ _) hs6 => ?_
        have T6 := T5.only hs6 (.inr (.inl rfl))
        replace K6 := hs6.blk K6 (by have := hg3.size; have := hb2.size; have := hs1.size; omega)
        have ox6 := ho3.only hs6 (ho3.ne K00 (by decide))
        replace hA := hA.keepN [7]
        refine wN (nT (wS (wR ?_)))
        revert a; refine wo rfl rfl (by decide) (fun ev e h => by simp [go_sem, h, K6.cell] <;> rfl) ?_; intro a hA
        refine wl_new hA rfl rfl (by decide) (fun ev h => by simp [go_sem, h.get 77 rfl, K6.cell]; try first | exact ⟨rfl, rfl⟩ | rfl) fun w7 a (K7 : Blk _ _ _ _) hz7 hb7 hA => ?_
        replace K := K.below hb7 K.lt
        replace ox6 := ox6.below hb7
        have T7 := T6.below hb7
        revert a; refine wo rfl rfl (by decide) (fun ev e h => by simp [go_sem, h, K6.cell] <;> rfl) ?_; intro a hA
        replace hA := hA.keepN [2]
        refine wN (nT (wp_ret ?_))
        refine ret_1 hA 2 rfl rfl ?_
        exact ⟨_, rfl, ⟨_, _, _, _, unit_one (u := ⟨1, A4, c4, s.done ++ s.line⟩) K7 List.length_append ox6.reads ox6.u8blk, rfl, chunk_zero K, FromV.nil _ _, FromV.nil _ _⟩, T7⟩
end Go.Proofs.YtaljodmhalodhaaDoor
/-
  A region that draws its order, whose last operations wait, each, for all that stand ahead: these come in the text's order.
-/
namespace Go.Proofs.YtaljodmhalodhaaDoor
open Go Go.RowKit
/-- an operation waits for j, or for one of the tail behind j, or for one that waits for j -/
def waitsB (L : List Oper) (m : Nat) (o : Oper) (i j : Nat) : Bool := onB o j || ((List.range i).any fun k => Nat.ble m k && Nat.blt j k && onB o k) || o.after.any fun e => Region.binds .any e && blk L j L.length e.on
/-- from place k on each operation waits for all ahead -/
def seqFrom (L : List Oper) (m : Nat) : Nat → List Oper → Bool
  | _, [] => true
  | k, o :: r => (List.range k).all (fun j => waitsB L m o k j) && seqFrom L m (k + 1) r
theorem seqFrom_at {L : List Oper} {m : Nat} : ∀ {r : List Oper} {k : Nat}, seqFrom L m k r = true → ∀ i o, r[i]? = some o → ∀ j, j < k + i → onB o j = true ∨ (∃ k', m ≤ k' ∧ j < k' ∧ onB o k' = true) ∨ ∃ e ∈ o.after, Region.binds .any e = true ∧ blk L j L.length e.on = true := by
  intro r
  induction r with
  | nil => intro k _ i o ho; simp at ho
  | cons x r ih =>
    intro k h i o ho j hj
    unfold seqFrom at h
    rw [Bool.and_eq_true] at h
    cases i with
    | zero =>
      have e : x = o := by simpa using ho
      subst e
      have h2 := List.all_eq_true.1 h.1 j (List.mem_range.2 hj)
      unfold waitsB at h2
      rw [Bool.or_eq_true, Bool.or_eq_true] at h2
      rcases h2 with (h2 | h2) | h2
      · exact .inl h2
      · obtain ⟨k', _, hk⟩ := List.any_eq_true.1 h2
        simp only [Bool.and_eq_true] at hk
        exact .inr (.inl ⟨k', Nat.le_of_ble_eq_true hk.1.1, by simpa [Nat.blt_eq] using hk.1.2, hk.2⟩)
      · obtain ⟨e, he, hb⟩ := Array.any_eq_true'.1 h2
        simp only [Bool.and_eq_true] at hb
        exact .inr (.inr ⟨e, he, hb.1, hb.2⟩)
    | succ i => exact ih h.2 i o (by simpa using ho) j (by omega)
/-- each operation waits for those ahead alone -/
def backFrom : Nat → List Oper → Bool
  | _, [] => true
  | k, o :: r => (o.after.all fun e => !Region.binds .any e || decide (e.on < k)) && backFrom (k + 1) r
theorem backFrom_at : ∀ {r : List Oper} {k : Nat}, backFrom k r = true → ∀ i o, r[i]? = some o → ∀ e ∈ o.after, Region.binds .any e = true → e.on < k + i := by
  intro r
  induction r with
  | nil => intro k _ i o ho; simp at ho
  | cons x r ih =>
    intro k h i o ho e he hb
    unfold backFrom at h
    rw [Bool.and_eq_true] at h
    cases i with
    | zero =>
      have e2 : x = o := by simpa using ho
      subst e2
      have := Array.all_eq_true'.1 h.1 e he
      rw [hb] at this
      simpa using this
    | succ i =>
      have := ih h.2 i o (by simpa using ho) e he hb
      omega
section
variable {P : Program} {Q : Exit → Act → World → Prop} {l1 l2 : List Oper}
theorem wpOp_get {ops : Array Oper} {K : Act → World → Prop} {i : Nat} {o : Oper} {a : Act} {w : World} (h : ops[i]? = some o) : wpOp P ops Q i K a w = (if Region.wanted o (yielded ops a.tmps) then o.wp P a w K Q ∨ (o.asks P a w ∧ LetsOut Q) else K (a.put o.dst undef) w) := by
  unfold wpOp; rw [h]
/-- the tail -/
theorem wpAny_tail (hseq : seqFrom (l1 ++ l2) l1.length l1.length l2 = true) (hback : backFrom l1.length l2 = true) (hback1 : backFrom 0 l1 = true) : ∀ (r : List Oper) (k : Nat) (fuel : Nat) (listed : Array Bool) (a : Act) (w : World), l2.drop k = r → k ≤ l2.length → r.length ≤ fuel → listed.size = (l1 ++ l2).length →
    (∀ i, i < l1.length + k → listed.getD i false = true) → (∀ i, l1.length + k ≤ i → listed.getD i false = false) → wpList P (l1 ++ l2).toArray Q r a w → wpAny P .any (l1 ++ l2).toArray Q fuel listed a w := by
  intro r
  induction r with
  | nil =>
    intro k fuel listed a w hr hk hf hs h1 h2 hwp
    have hkl : l2.length ≤ k := List.drop_eq_nil_iff.1 hr
    have hready : Region.ready .any (l1 ++ l2).toArray listed = [] := by
      rw [List.eq_nil_iff_forall_not_mem]
      intro i hi
      obtain ⟨hun, o, ho, _⟩ := mem_ready.1 hi
      rw [List.getElem?_toArray] at ho
      have hlt := (List.getElem?_eq_some_iff.1 ho).1
      rw [List.length_append] at hlt
      have := h1 i (by omega)
      rw [getD_two hun] at this
      cases this
    cases fuel with
    | zero => exact ⟨hready, hwp⟩
    | succ f => exact ⟨fun _ => hwp, fun i hi => by rw [hready] at hi; cases hi⟩
  | cons o r ih =>
    intro k fuel listed a w hr hk hf hs h1 h2 hwp
    cases fuel with
    | zero => simp at hf
    | succ f =>
      have hkl : k < l2.length := by
        rcases Nat.lt_or_ge k l2.length with h | h
        · exact h
        · rw [List.drop_eq_nil_of_le h] at hr; cases hr
      have ho2 : l2[k]? = some o := by
        have := congrArg List.head? hr
        rwa [List.head?_drop] at this
      have hr2 : l2.drop (k + 1) = r := by
        rw [← List.tail_drop, hr]; rfl
      have hget : (l1 ++ l2).toArray[l1.length + k]? = some o := by
        rw [List.getElem?_toArray, List.getElem?_append_right (by omega), Nat.add_sub_cancel_left, ho2]
      have hmem : l1.length + k ∈ Region.ready .any (l1 ++ l2).toArray listed := by
        refine mem_ready.2 ⟨getD_inn (by rw [hs, List.length_append]; omega) (h2 _ (Nat.le_refl _)), o, hget, fun e he hb => h1 _ ?_⟩
        exact backFrom_at hback k o ho2 e he hb
      refine ⟨fun hn => ?_, fun i hi => ?_⟩
      · rw [hn] at hmem; cases hmem
      · obtain ⟨hun, oi, hoi, hall⟩ := mem_ready.1 hi
        have hgi : l1.length + k ≤ i := by
          rcases Nat.lt_or_ge i (l1.length + k) with h | h
          · have := h1 i h
            rw [getD_two hun] at this
            cases this
          · exact h
        have hik : i = l1.length + k := by
          rcases Nat.eq_or_lt_of_le hgi with h | h
          · exact h.symm
          · exfalso
            rw [List.getElem?_toArray, List.getElem?_append_right (by omega)] at hoi
            rcases seqFrom_at hseq (i - l1.length) oi hoi (l1.length + k) (by omega) with hon | ⟨k', _, hk', hon⟩ | ⟨e, he, hb, hbl⟩
            · obtain ⟨e, he, hb, heq⟩ := onB_spec hon
              have := hall e he hb
              rw [heq, h2 _ (Nat.le_refl _)] at this
              cases this
            · obtain ⟨e, he, hb, heq⟩ := onB_spec hon
              have := hall e he hb
              rw [heq, h2 _ (by omega)] at this
              cases this
            · have hcl : ∀ j oj, (l1 ++ l2)[j]? = some oj → listed.getD j false = true → ∀ e ∈ oj.after, Region.binds .any e = true → listed.getD e.on false = true := fun j oj hj hlj e he hb => by
                have hjk : j < l1.length + k := by
                  rcases Nat.lt_or_ge j (l1.length + k) with h | h
                  · exact h
                  · rw [h2 j h] at hlj; cases hlj
                refine h1 _ ?_
                rcases Nat.lt_or_ge j l1.length with h | h
                · rw [List.getElem?_append_left h] at hj
                  have := backFrom_at hback1 j oj hj e he hb
                  omega
                · rw [List.getElem?_append_right h] at hj
                  have := backFrom_at hback (j - l1.length) oj hj e he hb
                  omega
              have := blk_listed hcl (l1.length + k) _ e.on hbl (hall e he hb)
              rw [h2 _ (Nat.le_refl _)] at this
              cases this
        subst hik
        rw [hget] at hoi
        injection hoi with hoi
        subst hoi
        rw [wpOp_get hget]
        have hset : ∀ i, i < l1.length + (k + 1) → (listed.setIfInBounds (l1.length + k) true).getD i false = true := fun i hi => by
          by_cases e : l1.length + k = i
          · subst e
            have : l1.length + k < listed.size := by rw [hs, List.length_append]; omega
            simp [this]
          · rw [getD_set_ne false e]; exact h1 i (by omega)
        have hset2 : ∀ i, l1.length + (k + 1) ≤ i → (listed.setIfInBounds (l1.length + k) true).getD i false = false := fun i hi => by
          rw [getD_set_ne false (by omega)]; exact h2 i (by omega)
        unfold wpList at hwp
        have next : ∀ a w, wpList P (l1 ++ l2).toArray Q r a w → wpAny P .any (l1 ++ l2).toArray Q f (listed.setIfInBounds (l1.length + k) true) a w := fun a w h =>
          ih (k + 1) f _ a w hr2 (by omega) (by simp at hf; omega) (by simpa using hs) hset hset2 h
        by_cases hw : Region.wanted o (yielded (l1 ++ l2).toArray a.tmps) = true
        · rw [if_pos hw] at hwp ⊢
          exact hwp.imp (Oper.wp_mono next) id
        · rw [if_neg hw] at hwp ⊢
          exact next _ _ hwp
theorem then_wp {next : Act → World → Prop} {o : Oper} {a : Act} {w : World} {K : Act → World → Prop} (h : o.wp P a w K (Exit.then next Q)) : o.wp P a w K Q := by
  unfold Oper.wp at *
  generalize (execOp a.eval o).run P w = r at *
  cases r with
  | ok n w' => cases n <;> exact h
  | halt x w' => cases x <;> exact h
theorem then_lets {next : Act → World → Prop} (h : LetsOut (Exit.then next Q)) : LetsOut Q := h
/-- the part ahead -/
theorem wpAny_split (hseq : seqFrom (l1 ++ l2) l1.length l1.length l2 = true) (hback : backFrom l1.length l2 = true) (hback1 : backFrom 0 l1 = true) (hg : (l1.all fun o => match o.guard with | some (g, _) => decide (g < l1.length) | none => true) = true) :
    ∀ (fuel1 fuel : Nat) (listed1 listed : Array Bool) (a : Act) (w : World), fuel1 + l2.length ≤ fuel → listed1.size = l1.length → listed.size = (l1 ++ l2).length → (∀ i, i < l1.length → listed.getD i false = listed1.getD i false) → (∀ i, l1.length ≤ i → listed.getD i false = false) → (∀ j oj, l1[j]? = some oj → listed1.getD j false = true → ∀ e ∈ oj.after, Region.binds .any e = true → listed1.getD e.on false = true) →
      wpAny P .any l1.toArray (Exit.then (wpList P (l1 ++ l2).toArray Q l2) Q) fuel1 listed1 a w → wpAny P .any (l1 ++ l2).toArray Q fuel listed a w := by
  have allOf : ∀ (listed1 : Array Bool), listed1.size = l1.length → Region.ready .any l1.toArray listed1 = [] → ∀ j, j < l1.length → listed1.getD j false = true := by
    intro listed1 hs hr j
    induction j using Nat.strongRecOn with
    | _ j jh =>
      intro hj
      cases hl : listed1.getD j false with
      | true => rfl
      | false =>
        exfalso
        have hnr : j ∉ Region.ready .any l1.toArray listed1 := by rw [hr]; simp
        refine hnr (mem_ready.2 ⟨getD_inn (by rw [hs]; exact hj) hl, l1[j], by rw [List.getElem?_toArray, List.getElem?_eq_getElem hj], fun e he hb => ?_⟩)
        have hlt := backFrom_at hback1 j l1[j] (List.getElem?_eq_getElem hj) e he hb
        exact jh e.on (by omega) (by omega)
  have fin : ∀ (fuel : Nat) (listed1 listed : Array Bool) (a : Act) (w : World), l2.length ≤ fuel → listed1.size = l1.length → listed.size = (l1 ++ l2).length → (∀ i, i < l1.length → listed.getD i false = listed1.getD i false) → (∀ i, l1.length ≤ i → listed.getD i false = false) →
      Region.ready .any l1.toArray listed1 = [] → wpList P (l1 ++ l2).toArray Q l2 a w → wpAny P .any (l1 ++ l2).toArray Q fuel listed a w := fun fuel listed1 listed a w hf h1 h2 h3 h4 hr hwp =>
    wpAny_tail hseq hback hback1 l2 0 fuel listed a w rfl (Nat.zero_le _) hf h2 (fun i hi => by rw [h3 i hi]; exact allOf listed1 h1 hr i hi) h4 hwp
  intro fuel1
  induction fuel1 with
  | zero =>
    intro fuel listed1 listed a w hf h1 h2 h3 h4 _ hwp
    exact fin fuel listed1 listed a w (by omega) h1 h2 h3 h4 hwp.1 hwp.2
  | succ fuel1 ih =>
    intro fuel listed1 listed a w hf h1 h2 h3 h4 hcl hwp
    by_cases hr : Region.ready .any l1.toArray listed1 = []
    · exact fin fuel listed1 listed a w (by omega) h1 h2 h3 h4 hr (hwp.1 hr)
    · obtain ⟨fuel, rfl⟩ : ∃ f, fuel = f + 1 := ⟨fuel - 1, by omega⟩
      have hto : ∀ i, i ∈ Region.ready .any l1.toArray listed1 → i ∈ Region.ready .any (l1 ++ l2).toArray listed := fun i hi => by
        obtain ⟨hun, o, ho, hall⟩ := mem_ready.1 hi
        rw [List.getElem?_toArray] at ho
        have hlt := (List.getElem?_eq_some_iff.1 ho).1
        refine mem_ready.2 ⟨getD_inn (by rw [h2, List.length_append]; omega) (by rw [h3 i hlt]; exact getD_two hun), o, by rw [List.getElem?_toArray, List.getElem?_append_left hlt]; exact ho, fun e he hb => ?_⟩
        have hlt2 := backFrom_at hback1 i o ho e he hb
        rw [h3 _ (by omega)]
        exact hall e he hb
      refine ⟨fun hn => ?_, fun i hi => ?_⟩
      · obtain ⟨i, hi⟩ := List.exists_mem_of_ne_nil _ hr
        have := hto i hi
        rw [hn] at this
        cases this
      · obtain ⟨hun, o, ho, hall⟩ := mem_ready.1 hi
        have hget := ho
        rw [List.getElem?_toArray] at ho
        have hlt : i < l1.length := by
          rcases Nat.lt_or_ge i l1.length with h | h
          · exact h
          · exfalso
            rw [List.getElem?_append_right h] at ho
            obtain ⟨j, hj⟩ := List.exists_mem_of_ne_nil _ hr
            obtain ⟨hun2, oj, hoj, _⟩ := mem_ready.1 hj
            rw [List.getElem?_toArray] at hoj
            have hjl := (List.getElem?_eq_some_iff.1 hoj).1
            rcases seqFrom_at hseq (i - l1.length) o ho j (by omega) with hon | ⟨k', hk', _, hon⟩ | ⟨e, he, hb, hbl⟩
            · obtain ⟨e, he, hb, heq⟩ := onB_spec hon
              have := hall e he hb
              rw [heq, h3 j hjl, getD_two hun2] at this
              cases this
            · obtain ⟨e, he, hb, heq⟩ := onB_spec hon
              have := hall e he hb
              rw [heq, h4 _ hk'] at this
              cases this
            · have hcl2 : ∀ j oj, (l1 ++ l2)[j]? = some oj → listed.getD j false = true → ∀ e ∈ oj.after, Region.binds .any e = true → listed.getD e.on false = true := fun j oj hj hlj e he hb => by
                rcases Nat.lt_or_ge j l1.length with h | h
                · rw [List.getElem?_append_left h] at hj
                  have hlt := backFrom_at hback1 j oj hj e he hb
                  rw [h3 _ (by omega)]
                  exact hcl j oj hj (by rw [← h3 j h]; exact hlj) e he hb
                · rw [h4 j h] at hlj; cases hlj
              have := blk_listed hcl2 j _ e.on hbl (hall e he hb)
              rw [h3 j hjl, getD_two hun2] at this
              cases this
        rw [List.getElem?_append_left hlt] at ho
        have hi1 : i ∈ Region.ready .any l1.toArray listed1 := by
          refine mem_ready.2 ⟨getD_inn (by rw [h1]; exact hlt) (by rw [← h3 i hlt]; exact getD_two hun), o, by rw [List.getElem?_toArray]; exact ho, fun e he hb => ?_⟩
          have hlt2 := backFrom_at hback1 i o ho e he hb
          rw [← h3 _ (by omega)]
          exact hall e he hb
        have hst := hwp.2 i hi1
        have hget1 : l1.toArray[i]? = some o := by rw [List.getElem?_toArray]; exact ho
        rw [wpOp_get hget1] at hst
        rw [wpOp_get hget]
        have next : ∀ a w, wpAny P .any l1.toArray (Exit.then (wpList P (l1 ++ l2).toArray Q l2) Q) fuel1 (listed1.setIfInBounds i true) a w → wpAny P .any (l1 ++ l2).toArray Q fuel (listed.setIfInBounds i true) a w := fun a w h => by
          refine ih fuel _ _ a w (by omega) (by simpa using h1) (by simpa using h2) (fun j hj => ?_) (fun j hj => ?_) ?_ h
          · by_cases e : i = j
            · subst e
              have q1 : i < listed.size := by rw [h2, List.length_append]; omega
              have q2 : i < listed1.size := by omega
              simp [q1, q2]
            · rw [getD_set_ne false e, getD_set_ne false e]; exact h3 j hj
          · rw [getD_set_ne false (by omega)]; exact h4 j hj
          · intro j oj hj hlj e he hb
            by_cases hij : i = j
            · subst hij
              have : oj = o := Option.some.inj (hj.symm.trans ho)
              subst this
              have hlt2 := backFrom_at hback1 i oj ho e he hb
              have h5 := hall e he hb
              rw [h3 _ (by omega)] at h5
              exact getD_set_true h5
            · rw [getD_set_ne false hij] at hlj
              exact getD_set_true (hcl j oj hj hlj e he hb)
        have hwt : Region.wanted o (yielded (l1 ++ l2).toArray a.tmps) = Region.wanted o (yielded l1.toArray a.tmps) := by
          rw [wanted_eq, wanted_eq]
          unfold wantedBy
          have hgo := List.all_eq_true.1 hg o (List.mem_of_getElem? ho)
          cases hgd : o.guard with
          | none => rfl
          | some gb =>
            obtain ⟨g, b⟩ := gb
            rw [hgd] at hgo
            simp only [decide_eq_true_eq] at hgo
            simp only [List.getElem?_append_left hgo]
        rw [hwt]
        by_cases hw : Region.wanted o (yielded l1.toArray a.tmps) = true
        · rw [if_pos hw] at hst ⊢
          exact hst.imp (fun h => Oper.wp_mono next (then_wp h)) fun h => ⟨h.1, then_lets h.2⟩
        · rw [if_neg hw] at hst ⊢
          exact next _ _ hst
theorem wp_region_split {id : Nat} {d : Bool} {l : List Oper} {a : Act} {w : World} (m : Nat) (h : (Code.region id (l.take m ++ l.drop m).toArray d).wp P Q a w) : (Code.region id l.toArray d).wp P Q a w := by
  rwa [List.take_append_drop] at h
theorem wp_any_split_at {id : Nat} {d : Bool} {a : Act} {w : World} {n : Nat} {Γ : Env} (hA : At n Γ a) (F : List Fact) (Ph : List Phase) (C : World → Prop) (T : Nat → World → World → Prop) (hm : P.follows .mixedOrders = true) (hdr : d = true) (hB : checkB l1 n = true) (hdB : dstsB l1 n = true) (hFl : F.length = l1.length)
    (hseq : seqFrom (l1 ++ l2) l1.length l1.length l2 = true) (hback : backFrom l1.length l2 = true) (hback1 : backFrom 0 l1 = true) (hg : (l1.all fun o => match o.guard with | some (g, _) => decide (g < l1.length) | none => true) = true) (hC : C { w with drawn := w.drawn + 1 })
    (hstab : ∀ i j x w w', needB l1 F i j = true → i ≠ j → C w → (F.getD j (.det undef)).says x w → T i w w' → (F.getD j (.det undef)).says x w')
    (hph0 : ∀ ph ∈ Ph, ph.start = none → ph.p (sig a.eval) { w with drawn := w.drawn + 1 })
    (hph : ∀ i (ph : Phase) σ w w', ph ∈ Ph → ph.start ≠ some i → ph.upto ≠ some i → liveB l1 i ph.start ph.upto = true → C w → ph.p σ w → T i w w' → ph.p σ w')
    (hpl : ∀ ph ∈ Ph, ∀ a, ph.start = some a → a < l1.length)
    (hob : ObAll P l1 F Ph C T a.tmps 0 l1)
    (hlk : lkB l1 (Ph.map fun ph => (ph.start, ph.looks)) = true)
    (hfin : ∀ σ w', C w' → (∀ ph ∈ Ph, ph.upto = none → ph.p σ w') → FinE σ (fun Γ => ∀ a', At n Γ a' → wpList P (l1 ++ l2).toArray Q l2 a' w') w' (l1.zip F) Γ) : (Code.region id (l1 ++ l2).toArray d).wp P Q a w := by
  subst hdr
  have h1 := wpAny_facts (P := P) (l := l1) (Q := Exit.then (wpList P (l1 ++ l2).toArray Q l2) Q) (a := a) (w := w) n F Ph C T hA.size hB hFl hC hstab hph0 hph hpl (ob_all hob) hlk fun σ w' hC' hp' => by
    refine fin_env (Q := Exit.then (wpList P (l1 ++ l2).toArray Q l2) Q) hA.defers _ _ Γ (fun p hp t ht => ?_) hA (hfin σ w' hC' hp')
    have hpl := (List.of_mem_zip (a := p.1) (b := p.2) hp).1
    unfold dstsB at hdB
    have := List.all_eq_true.1 hdB p.1 hpl
    rw [ht] at this
    simpa using this
  refine wp_region_any hm (wpAny_split hseq hback hback1 hg _ _ _ _ a _ ?_ ?_ ?_ (fun i hi => ?_) (fun i hi => ?_) (fun j oj _ hl => ?_) h1)
  · simp
  · simp
  · simp
  · rw [Array.getD_eq_getD_getElem?, Array.getD_eq_getD_getElem?, Array.getElem?_replicate, Array.getElem?_replicate]
    split <;> split <;> rfl
  · rw [Array.getD_eq_getD_getElem?, Array.getElem?_replicate]
    split <;> rfl
  · exfalso
    rw [Array.getD_eq_getD_getElem?, Array.getElem?_replicate] at hl
    split at hl <;> cases hl
end
end Go.Proofs.YtaljodmhalodhaaDoor
/-
  Walk: a byte of a line ((*lex.Chunk).add).
-/
namespace Go.Proofs.YtaljodmhalodhaaDoor
open Go.RowKit
set_option linter.unusedSimpArgs false
set_option linter.unusedVariables false
theorem FromV.trans {w w2 : World} {v v2 v3 : Value} (h : FromV w v v2) (h2 : FromV w2 v2 v3) (hs : w.heap.size ≤ w2.heap.size) : FromV w v v3 := fun g e => by
  rcases h2 g e with e2 | e2
  · exact h g e2
  · exact .inr (Nat.le_trans hs e2)
theorem FromV.refl (w : World) (v : Value) : FromV w v v := fun _ e => .inl e
theorem TurnC.tr {pc : Nat} {vd vl vd2 vl2 : Value} {w w2 w3 : World} (h : TurnC pc vd vl w w2) (h2 : TurnC pc vd2 vl2 w2 w3) (hd : FromV w vd vd2) (hl : FromV w vl vl2) : TurnC pc vd vl w w3 :=
  h.trans h2 fun i hi hs => by
    rcases hs with e | e | e
    · exact .inl e
    · rcases hd i e with e2 | e2
      · exact .inr (.inl e2)
      · omega
    · rcases hl i e with e2 | e2
      · exact .inr (.inr e2)
      · omega
theorem ChunkEnd.of {B pc : Nat} {w w2 w3 : World} {vd vl vd2 vl2 : Value} {p : ChunkS × List UnitB} {v : Value} (T : TurnC pc vd vl w w2) (hd : FromV w vd vd2) (hl : FromV w vl vl2) (h : ChunkEnd B pc w2 w3 vd2 vl2 p v) : ChunkEnd B pc w w3 vd vl p v := by
  obtain ⟨⟨us, vd', vl', va', h1, h2, h3, h4, h5⟩, h6⟩ := h
  exact ⟨⟨us, vd', vl', va', h1, h2, h3, hd.trans h4 T.size, hl.trans h5 T.size⟩, T.tr h6 hd hl⟩
theorem OwnX.some {B : Nat} {w : World} {v : Value} {l : List UInt8} (h : OwnX B w v l) (hl : 0 < l.length) : ∃ g off c, v = .slice (some ⟨g, off, none⟩) l.length c ∧ l.length ≤ c := by
  rcases h with ⟨_, h2⟩ | ⟨g, off, cap, cur, h1, h2, h3, h4, _⟩
  · rw [h2] at hl; cases hl
  · exact ⟨_, _, _, h1, h4⟩
/-- a row of bytes turned to its own type: its block is marked -/
theorem conv_same {w : World} {g : Nat} {l : List UInt8} (K : Blk w g 5 (u8s l).toArray) (n c : Nat) : ∃ w', (convert 22 22 (.slice (some ⟨g, 0, none⟩) n c)).run Tryd.prog w = .ok (.slice (some ⟨g, 0, none⟩) n c) w' ∧ w.grownBy w' (some g) ∧ Reads w' w'.heap.size 1 (some ⟨g, 0, none⟩) l.length (u8s l) := by
  have hsh : w.shape? g = some (5, (u8s l).toArray.size) := by unfold World.shape?; rw [show w.heap[g]? = _ from K]
  obtain ⟨f, hf, hfv⟩ : ∃ f : Obj → Obj, w.freeze ⟨g, (u8s l).toArray.size, none⟩ 1 = { w with heap := w.heap.modify g f } ∧ f (.cells (u8s l).toArray 5 (0, 0)) = .cells (u8s l).toArray 5 ((u8s l).toArray.size, (u8s l).toArray.size + 1) := by
    unfold World.freeze
    rw [if_neg (by decide)]
    exact ⟨_, rfl, rfl⟩
  have hg : (w.freeze ⟨g, (u8s l).toArray.size, none⟩ 1).heap[g]? = some (.cells (u8s l).toArray 5 ((u8s l).toArray.size, (u8s l).toArray.size + 1)) := by
    rw [hf]
    simp only [Array.getElem?_modify, if_pos]
    rw [show w.heap[g]? = _ from K]
    exact congrArg some hfv
  refine ⟨w.freeze ⟨g, (u8s l).toArray.size, none⟩ 1, ?_, ?_, ?_⟩
  · simp [convert, run_underlying Tryd.underlying22, run_underlying Tryd.underlying5, markStringish, hsh]
  · rw [hf]
    refine ⟨rfl, rfl, rfl, by simp, fun i hi hn => ?_⟩
    simp only [Array.getElem?_modify]
    rw [if_neg fun e => hn (by rw [e])]
  · refine ⟨by rw [u8s_length]; omega, fun _ => ⟨_, rfl, ?_, fun j u hu => ?_⟩⟩
    · rw [hf]; simp only [Array.size_modify]; exact K.lt
    · rw [add0]
      unfold World.cell?
      simp only []
      rw [hg]
      simpa using hu
/-- a new row of bytes -/
theorem blk_x {B g : Nat} {w : World} {l : List UInt8} {n : Nat} (K : Blk w g 5 (u8s l).toArray) (hB : B ≤ g) (hn : n = l.length) (hm : n ≤ 1000000) : OwnX B w (.slice (some ⟨g, 0, none⟩) n n) l := by
  subst hn
  exact .inr ⟨g, 0, l.length, u8s l, rfl, hB, K, Nat.le_refl _, Nat.le_trans hm (by decide), by rw [Nat.zero_add, u8s_length]; exact Nat.le_refl _, by rw [List.drop_zero, ← u8s_length l, List.take_length]⟩
theorem suffix_any (A1 A2 : Option Addr) (n c m d : Nat) (l1 l2 : List UInt8) (w : World) (h1 : l1.length = n) (h2 : l2.length = m) (hc : n ≤ c) (hn : n ≤ 1000000000) (r1 : Reads w w.heap.size 1 A1 n (u8s l1)) (r2 : Reads w w.heap.size 1 A2 m (u8s l2)) :
    Calls Tryd.prog 33 #[.slice A1 n c, .slice A2 m d] w fun e w' => e = .returned (.bool (Lib.hasSuffix l1 l2)) ∧ w' = w := by
  have h := Tryd.bytes_HasSuffix_all A1 A2 n c m d (ints8 l1) (ints8 l2) w (by simpa [ints8] using h1) (by simpa [ints8] using h2) hc (by omega) (bytesIn8 h1 r1) (bytesIn8 h2 r2)
  rw [bytesOf_ints8, bytesOf_ints8] at h
  exact h
theorem suffix_crlf {l : List UInt8} : Lib.hasSuffix l [13, 10] = true ↔ l.drop (l.length - 2) = [13, 10] := by
  unfold Lib.hasSuffix
  rw [List.isSuffixOf_iff_suffix]
  constructor
  · rintro ⟨t, rfl⟩
    simp
  · intro h
    exact ⟨l.take (l.length - 2), by rw [← h]; exact List.take_append_drop _ _⟩
theorem addS_end {s : ChunkS} {x : UInt8} (h : (s.line ++ [x]).drop ((s.line ++ [x]).length - 2) = [13, 10]) : addS s x = endS ⟨s.done, (s.line ++ [x]).take ((s.line ++ [x]).length - 2), s.left, s.lost, s.ahead⟩ := by
  unfold addS; rw [if_pos h]
theorem addS_keep {s : ChunkS} {x : UInt8} (h : ¬ (s.line ++ [x]).drop ((s.line ++ [x]).length - 2) = [13, 10]) : addS s x = (keepS s x (s.line ++ [x]), []) := by
  unfold addS; rw [if_neg h]
theorem long_eq (b : Bool) (n : Nat) (x : UInt8) : (!b && (decide ((2001 : Int) < (n : Int)) || decide ((2000 : Int) < (n : Int)) && ((x.toNat : Nat) : Int) != 13)) = (!b && longL n x) := by
  have e1 : decide ((2001 : Int) < (n : Int)) = decide (2001 < n) := decide_eq_decide.2 (by omega)
  have e2 : decide ((2000 : Int) < (n : Int)) = decide (2000 < n) := decide_eq_decide.2 (by omega)
  have e3 : (((x.toNat : Nat) : Int) != 13) = !(x == 13) := by
    by_cases h : x = 13
    · subst h; rfl
    · have h2 : x.toNat ≠ 13 := fun e => h (UInt8.toNat_inj.1 e)
      have h1 : (x == 13) = false := by simpa using h
      rw [h1]
      simp
      omega
  rw [e1, e2, e3]
  rfl
theorem units_nil {w : World} {vd vl : Value} : UnitsOut w (.slice none 0 0) [] vd vl := ⟨⟨none, 0, rfl, RowR.nil none⟩, fun _ h => (by cases h), fun _ h => (by cases h), fun _ h => (by cases h)⟩
theorem keepS_long {s : ChunkS} {x : UInt8} {l : List UInt8} (h : s.lost = false) (h2 : longL l.length x = true) : keepS s x l = ⟨s.done, [x], s.left, true, (s.done ++ l).take 100⟩ := by unfold keepS; rw [h, h2]; rfl
theorem keepS_lost {s : ChunkS} {x : UInt8} {l : List UInt8} (h : s.lost = true) : keepS s x l = ⟨s.done, [x], s.left, true, s.ahead⟩ := by unfold keepS; rw [if_pos h]
theorem keepS_same {s : ChunkS} {x : UInt8} {l : List UInt8} (h : s.lost = false) (h2 : longL l.length x = false) : keepS s x l = ⟨s.done, l, s.left, false, s.ahead⟩ := by unfold keepS; rw [h, h2]; rfl
set_option maxRecDepth 100000 in
set_option maxHeartbeats 4000000 in
theorem add_any (pc B : Nat) (x : UInt8) (s : ChunkS) (vd vl va : Value) (w : World) (hpc : pc < B) (hB : B ≤ w.heap.size) (hc : ChunkAt B w pc s vd vl va) (hd : s.done.length ≤ 90000000) (hln : s.line.length ≤ 900000) (hz : s.left = 0) :
    Calls Tryd.prog 26 #[.pointer (some ⟨pc, 0, none⟩), .int .u8 ((x.toNat : Nat) : Int)] w fun ev w' => ∃ v, ev = .returned v ∧ ChunkEnd B pc w w' vd vl (addS s x) v := by
  obtain ⟨K, od, ol, oa, hdl, hda, hla⟩ := hc
  obtain ⟨Ad, cd, rfl, hcd⟩ := od.form
  obtain ⟨Al, cl, rfl, hcl⟩ := ol.form
  obtain ⟨Aa, ca, rfl, hca⟩ := oa.form
  have hpcw : pc < w.heap.size := K.lt
  have T0 : TurnC pc (.slice Ad s.done.length cd) (.slice Al s.line.length cl) w w := Apart.refl _ _
  rw [hz] at K
  refine calls_at 96 Tryd.func26 rfl rfl (Nat.le_of_ble_eq_true rfl) ?_
  intro a hA; replace hA := hA.norm
  refine wS (wR ?_)
  revert a; refine wo rfl rfl (by decide) (fun ev e h => by simp [go_sem, h, K.cell] <;> rfl) ?_; intro a hA
  replace hA := hA.keepN [0, 1]
  refine wN (nT (wS (wR ?_)))
  revert a; (iterate 6 refine wo rfl rfl (by decide) (fun ev e h => by simp [go_sem, h, K.cell] <;> rfl) ?_); intro a hA
  refine wl_new hA rfl rfl (by decide) (fun ev h => by simp [go_sem, h.get 11 rfl, K.cell]; try first | exact ⟨rfl, rfl⟩ | rfl) fun w1 a (KX : Blk _ _ _ _) hz1 hb1 hA => ?_
  replace K := K.below hb1 K.lt
  replace od := od.below hb1
  replace ol := ol.below hb1
  replace oa := oa.below hb1
  have T1 := T0.below hb1
  have hB1 : B ≤ w1.heap.size := Nat.le_trans hB hb1.size
  have ox : OwnX B w1 _ [x] := blk_x KX hB rfl (by simp)
  obtain ⟨r, w2, hr2, ho2, hg2, hf2⟩ := run_appX ol ox.reads (by simp; omega) hB1
  refine wl_op hA rfl rfl (by decide) (fun ev h => exec_append rfl (h.get 10 rfl) (h.get 12 rfl) hr2) fun a hA => ?_
  have T2 := T1.grown hg2 (fun g e => .inr (.inr (.inr e)))
  replace K := K.grown hg2 (fun e => by have := ol.ne K (by decide) pc e.symm; exact this rfl)
  have od2 := od.grown hg2 hdl
  have oa2 := oa.grown hg2 hla.symm
  have hsd2 := sepV_grown od hdl hf2
  have hsa2 := sepV_grown oa hla.symm hf2
  have hFr : FromV w (.slice Al s.line.length cl) r := fun g e => by
    rcases hf2 with e1 | e1
    · rw [e1] at e; exact .inl e
    · rw [e1] at e; injection e with e; exact .inr (by have := hb1.size; omega)
  obtain ⟨gr, off, cr, rfl, hcr⟩ := ho2.some (by simp)
  have hn1 : (s.line ++ [x]).length = s.line.length + 1 := by simp
  obtain ⟨n, hn⟩ : ∃ n, (s.line ++ [x]).length = n := ⟨_, rfl⟩
  rw [hn] at hA ho2 hcr hsd2 hsa2 hFr hn1
  obtain ⟨L, hL⟩ : ∃ L, s.line ++ [x] = L := ⟨_, rfl⟩
  rw [hL] at hn ho2
  have K0 := K
  revert a; (iterate 2 refine wo rfl rfl (by decide) (fun ev e h => by simp [go_sem, h, K.cell] <;> rfl) ?_); intro a hA
  refine wl_setf ([.slice Ad s.done.length cd, .slice (some ⟨gr, off, none⟩) n cr, .int .i64 0, .bool s.lost, .slice Aa s.ahead.length ca]) _ hA rfl rfl K (j := 1) (by rfl) (fun ev h => by simp [go_sem, h.get 15 rfl, h.get 13 rfl, K.cell, K.cell, K.frozen]; try first | exact ⟨rfl, rfl⟩ | rfl) fun w3 (K : Blk _ _ _ _) hs3 => ?_
  have T3 := T2.only hs3 (.inr (.inl rfl))
  replace od2 := od2.only hs3 (od2.ne K0 (by decide))
  replace oa2 := oa2.only hs3 (oa2.ne K0 (by decide))
  replace ho2 := ho2.only hs3 (ho2.ne K0 (by decide))
  clear od ol oa ox KX
  replace hA := hA.keepN [0, 1]
  refine wN (nT (wS (wS (wR ?_))))
  revert a; (iterate 4 refine wo rfl rfl (by decide) (fun ev e h => by simp [go_sem, h, K.cell] <;> rfl) ?_); intro a hA
  refine wl_new hA rfl rfl (by decide) (fun ev h => by simp [go_sem, h.c, K.cell]; try first | exact ⟨rfl, rfl⟩ | rfl) fun w4 a (KY : Blk _ _ _ _) hz4 hb4 hA => ?_
  obtain ⟨w5, hr5, hg5, ry⟩ := conv_same (l := [13, 10]) KY 2 2
  have hb5 : Below w3.heap.size w3 w5 := ⟨hg5.os.trans hb4.os, hg5.tape.trans hb4.tape, hg5.output.trans hb4.output, Nat.le_trans hb4.size hg5.size, fun i hi => (hg5.block i (Nat.lt_of_lt_of_le hi hb4.size) fun e => by injection e; omega).trans (hb4.block i hi)⟩
  refine wl_op hA rfl rfl (by decide) (fun ev h => by simp [go_sem, h.get 20 rfl, K.cell, hr5]; try first | exact ⟨rfl, rfl⟩ | rfl) fun a hA => ?_
  clear KY
  replace K := K.below hb5 K.lt
  replace od2 := od2.below hb5
  replace oa2 := oa2.below hb5
  replace ho2 := ho2.below hb5
  have T4 := T3.below hb5
  refine wl_call hA rfl rfl (by decide) (fun ev h => exec_call Tryd.func33 (by kernel_rfl) rfl (h.f _) (by first | (simp only [mL, h.get 19 rfl, h.get 21 rfl, h.c] <;> rfl) | (simp [mL, h.get 19 rfl, h.get 21 rfl, h.c, K.cell] <;> rfl))) (suffix_any _ _ _ _ _ _ L [13, 10] _ hn rfl hcr (by omega) (hn ▸ ho2.reads) ry) ?_
  rintro e w6 ⟨rfl, rfl⟩
  refine ⟨_, rfl, fun a hA => ?_⟩
  clear hr5 ry
  have j2 : ((n : Int) - 2).toNat = n - 2 := by omega
  have hw6 : B ≤ w6.heap.size := Nat.le_trans hB T4.size
  replace hA := hA.keepN [0, 1, 22]
  refine wN (nT ?_)
  refine wp_if hA 22 _ rfl (fun hq => ?yL) (fun hq => ?nL)
  case yL =>
    have h2 : (s.line ++ [x]).drop ((s.line ++ [x]).length - 2) = [13, 10] := by rw [hL]; exact suffix_crlf.1 hq
    rw [addS_end h2]
    rw [hL, hn]
    have hn2 : 2 ≤ n := by
      have := congrArg List.length h2
      rw [hL, hn, List.length_drop, hn] at this
      simp at this
      omega
    have j0 : (0 : Int) ≤ (n : Int) - 2 := by omega
    have j4 : (2 : Int) ≤ (n : Int) := by omega
    have j1 : (n : Int) - 2 ≤ (cr : Int) := by omega
    have j3 : IntKind.i64.wrap ((n : Int) - 2) = (n : Int) - 2 := IntWalk.i64_in _ (by omega)
    have pS := fun (wo : World) (hC : (fun wy => Below w6.heap.size w6 wy) wo) => have Kx := K.below hC K.lt; (Kx.cell)
    refine wS ?_
    refine wp_region_split 14 ?_
    simp only [List.take_succ_cons, List.take_zero, List.drop_succ_cons, List.drop_zero]
    refine wp_any_split_at hA [(.det ?dS0), (.det ?dS1), (.det ?dS2), (.det ?dS3), (.det ?dS4), (.det ?dS5), (.det ?dS6), (.det ?dS7), (.det ?dS8), (.det ?dS9), (.det ?dS10), (.det ?dS11), (.det ?dS12), (.det ?dS13)] [] (fun wy => Below w6.heap.size w6 wy) (TSp [] Grows) (by kernel_rfl) rfl (by kernel_rfl) (by kernel_rfl) rfl (by kernel_rfl) (by kernel_rfl) (by kernel_rfl) (by kernel_rfl) ((Below.refl _ _).drew) (stab_sp [] [true, true, true, true, true, true, true, true, true, true, true, true, true, true] [true, true, true, true, true, true, true, true, true, true, true, true, true, true] [] rfl rfl rfl (by kernel_rfl) ⟨trivial, trivial, trivial, trivial, trivial, trivial, trivial, trivial, trivial, trivial, trivial, trivial, trivial, trivial, trivial⟩ trivial) (fun _ h => by cases h) (fun _ _ _ _ _ h => by cases h) (fun _ h => by cases h) ⟨?oS0, ?oS1, ?oS2, ?oS3, ?oS4, ?oS5, ?oS6, ?oS7, ?oS8, ?oS9, ?oS10, ?oS11, ?oS12, ?oS13, trivial⟩ (by kernel_rfl) ?fS
    case oS0 => intro ev wo hev hC hs hph; have x0 := se hA hs 0; exact od rfl rfl (by kernel_rfl) hC (TSp.of rfl (Grows.refl _)) (by simp [go_sem, x0, j0, j1, j2, j3, j4] <;> rfl)
    case oS1 => intro ev wo hev hC hs hph; have x0 := se hA hs 0; exact od rfl rfl (by kernel_rfl) hC (TSp.of rfl (Grows.refl _)) (by simp [go_sem, x0, j0, j1, j2, j3, j4] <;> rfl)
    case oS2 => intro ev wo hev hC hs hph; have x0 := sd hs 24 1; exact od rfl rfl (by kernel_rfl) hC (TSp.of rfl (Grows.refl _)) (by simp [go_sem, x0, j0, j1, j2, j3, j4] <;> rfl)
    case oS3 => intro ev wo hev hC hs hph; have x0 := sd hs 25 2; exact od rfl rfl (by kernel_rfl) hC (TSp.of rfl (Grows.refl _)) (by simp [go_sem, x0, j0, j1, j2, j3, j4] <;> rfl)
    case oS4 => intro ev wo hev hC hs hph; have x0 := sd hs 26 3; exact od rfl rfl (by kernel_rfl) hC (TSp.of rfl (Grows.refl _)) (by simp [go_sem, x0, pS _ hC, K.cell, j0, j1, j2, j3, j4] <;> rfl)
    case oS5 => intro ev wo hev hC hs hph; have x0 := se hA hs 0; exact od rfl rfl (by kernel_rfl) hC (TSp.of rfl (Grows.refl _)) (by simp [go_sem, x0, j0, j1, j2, j3, j4] <;> rfl)
    case oS6 => intro ev wo hev hC hs hph; have x0 := sd hs 28 5; exact od rfl rfl (by kernel_rfl) hC (TSp.of rfl (Grows.refl _)) (by simp [go_sem, x0, j0, j1, j2, j3, j4] <;> rfl)
    case oS7 => intro ev wo hev hC hs hph; have x0 := sd hs 29 6; exact od rfl rfl (by kernel_rfl) hC (TSp.of rfl (Grows.refl _)) (by simp [go_sem, x0, j0, j1, j2, j3, j4] <;> rfl)
    case oS8 => intro ev wo hev hC hs hph; have x0 := sd hs 30 7; exact od rfl rfl (by kernel_rfl) hC (TSp.of rfl (Grows.refl _)) (by simp [go_sem, x0, pS _ hC, K.cell, j0, j1, j2, j3, j4] <;> rfl)
    case oS9 => intro ev wo hev hC hs hph; have x0 := sd hs 31 8; exact od rfl rfl (by kernel_rfl) hC (TSp.of rfl (Grows.refl _)) (by simp [go_sem, x0, j0, j1, j2, j3, j4] <;> rfl)
    case oS10 => intro ev wo hev hC hs hph; have x0 := sd hs 32 9; exact od rfl rfl (by kernel_rfl) hC (TSp.of rfl (Grows.refl _)) (by simp [go_sem, x0, hev.const, j0, j1, j2, j3, j4] <;> rfl)
    case oS11 => intro ev wo hev hC hs hph; have x0 := sd hs 27 4; have x1 := sd hs 33 10; exact od rfl rfl (by kernel_rfl) hC (TSp.of rfl (Grows.refl _)) (by simp [go_sem, x0, x1, j0, j1, j2, j3, j4] <;> rfl)
    case oS12 => intro ev wo hev hC hs hph; have x0 := sd hs 23 0; exact od rfl rfl (by kernel_rfl) hC (TSp.of rfl (Grows.refl _)) (by simp [go_sem, x0, j0, j1, j2, j3, j4] <;> rfl)
    case oS13 => intro ev wo hev hC hs hph; have x0 := sd hs 35 12; exact od rfl rfl (by kernel_rfl) hC (TSp.of rfl (Grows.refl _)) (by simp [go_sem, x0, j0, j1, j2, j3, j4] <;> rfl)
    intro sg wf hC hph
    intro a hA
    replace hA := hA.keepN [0, 34, 36]
    replace K := K.below hC K.lt
    replace od2 := od2.below hC
    replace oa2 := oa2.below hC
    replace ho2 := (ho2.cut (show n - 2 ≤ n by omega)).below hC
    have T5 := T4.below hC
    have K1 := K
    refine wl_setf ([.slice Ad s.done.length cd, .slice (some ⟨gr, off, none⟩) (n - 2) cr, .int .i64 0, .bool s.lost, .slice Aa s.ahead.length ca]) _ hA rfl rfl K (j := 1) (by rfl) (fun ev h => by simp [go_sem, h.get 36 rfl, h.get 34 rfl, K.cell, K.cell, K.frozen]; try first | exact ⟨rfl, rfl⟩ | rfl) fun w7 (K : Blk _ _ _ _) hs7 => ?_
    have T7 := T5.only hs7 (.inr (.inl rfl))
    have od7 := od2.only hs7 (od2.ne K1 (by decide))
    have oa7 := oa2.only hs7 (oa2.ne K1 (by decide))
    have ol7 := ho2.only hs7 (ho2.ne K1 (by decide))
    have hc7 : ChunkAt B w7 pc ⟨s.done, L.take (n - 2), s.left, s.lost, s.ahead⟩ (.slice Ad s.done.length cd) (.slice (some ⟨gr, off, none⟩) (n - 2) cr) (.slice Aa s.ahead.length ca) := ⟨by rw [hz]; exact K, od7, ol7, oa7, fun g e => hsd2 g e, hda, fun g e e2 => hsa2 g e2 e⟩
    replace hA := hA.keepN [0]
    refine wN (nT (wS (wR ?_)))
    revert a; refine wo rfl rfl (by decide) (fun ev e h => by simp [go_sem, h, K.cell] <;> rfl) ?_; intro a hA
    refine wl_call hA rfl rfl (by decide) (fun ev h => exec_call Tryd.func34 (by kernel_rfl) rfl (h.f _) (by first | (simp only [mL, h.get 37 rfl, h.c] <;> rfl) | (simp [mL, h.get 37 rfl, h.c, K.cell] <;> rfl))) (end_any pc B ⟨s.done, L.take (n - 2), s.left, s.lost, s.ahead⟩ _ _ _ _ hpc (Nat.le_trans hB T7.size) hc7 (by simp only []; omega) (by simp only [List.length_take]; omega) hz) ?_
    rintro e w8 ⟨v, rfl, he⟩
    refine ⟨_, rfl, fun a hA => ?_⟩
    revert a; refine wo rfl rfl (by decide) (fun ev e h => by simp [go_sem, h, K.cell] <;> rfl) ?_; intro a hA
    replace hA := hA.keepN [4]
    refine wN (nT (wp_ret (rT ?_)))
    refine ret_1 hA 4 rfl rfl ?_
    have hl7 : FromV w (.slice Al s.line.length cl) (.slice (some ⟨gr, off, none⟩) (n - 2) cr) := fun g e => hFr g e
    exact ⟨v, rfl, he.of T7 (FromV.refl _ _) hl7⟩
  case nL =>
    have h2 : ¬ (s.line ++ [x]).drop ((s.line ++ [x]).length - 2) = [13, 10] := by rw [hL]; intro e; rw [suffix_crlf.2 e] at hq; cases hq
    rw [addS_keep h2]
    rw [hL]
    obtain ⟨k, hk⟩ : ∃ k, k = s.line.length := ⟨_, rfl⟩
    have hLk : L.drop k = [x] := by rw [← hL, hk]; simp
    have j6 : IntKind.i64.wrap ((n : Int) - 1) = (k : Int) := by rw [IntWalk.i64_in _ (by omega)]; omega
    have j7 : k ≤ n := by omega
    have j8 : ¬ (cr = k) := by omega
    have j9 : n - k = 1 := by omega
    refine wp_skip (nT (wS (wS (wR ?_))))
    revert a; (iterate 6 refine wo rfl rfl (by decide) (fun ev e h => by simp [go_sem, h, K.cell] <;> rfl) ?_); intro a hA
    replace hA := hA.keepN [0, 1, 5]
    refine wN (nT (wS (wR ?_)))
    revert a; (iterate 6 refine wo rfl rfl (by decide) (fun ev e h => by simp [go_sem, h, K.cell] <;> rfl) ?_); (iterate 3 refine wg _ rfl rfl rfl rfl (by decide) (fun hq ev e h => by simp [go_sem, h, ↓gw_t (beq_t hq), K.cell] <;> rfl) ?_); refine wg2 _ _ rfl rfl rfl rfl (by decide) (fun hq hr ev e h => by simp [go_sem, h, ↓gw_t (and_beq hq hr), ↓gw_t hq, K.cell] <;> rfl) ?_; intro a hA
    replace hA := hA.keepN [0, 1, 49, 52, 53]
    revert a; (iterate 2 refine wg2 _ _ rfl rfl rfl rfl (by decide) (fun hq hr ev e h => by simp [go_sem, h, ↓gw_t (and_beq hq hr), ↓gw_t hq, K.cell] <;> rfl) ?_); (iterate 2 refine wg2 _ _ rfl rfl rfl rfl (by decide) (fun hq hr ev e h => by simp [go_sem, h, ↓gw_t (and_beq hq hr), ↓gw_t hq, ↓gw_t (and_l hq), K.cell] <;> rfl) ?_); intro a hA
    refine wl_guard2 _ _ hA rfl rfl rfl rfl (by decide) (fun hq hr ev h => by exact pick_and rfl (((h.get 55 rfl).trans (gw_t (and_beq hq hr)))) (((h.get 57 rfl).trans (gw_a (and_beq hq hr)))) (h.c _)) fun a hA => ?_
    refine wl_guard _ hA rfl rfl rfl rfl (by decide) (fun hq ev h => by exact pick_or rfl (((h.get 52 rfl).trans (gw_t (beq_t hq)))) (h.c _) (((h.get 58 rfl).trans (gw_a (beq_t hq))))) fun a hA => ?_
    revert a; refine wka rfl rfl (by decide) rfl rfl rfl ?_; intro a hA
    replace hA := hA.keepN [0, 60]
    refine wN (nT ?_)
    refine wp_if hA 60 _ rfl (fun hq2 => ?yG) (fun hq2 => ?nG)
    case yG =>
      rw [long_eq] at hq2
      obtain ⟨hq3, hlong⟩ := Bool.and_eq_true_iff.1 hq2
      have hlost : s.lost = false := by simpa using hq3
      have hpc6 : pc < w6.heap.size := K.lt
      have K6 := K
      have hdw := fun g e => (od2.lt g e).2
      have hlw := fun g e => (ho2.lt g e).2
      have pQ := fun (wo : World) (hC : (fun wy => Apart (fun i => i = pc) w6 wy ∧ ∃ b, Blk wy pc 43 #[.slice Ad s.done.length cd, .slice (some ⟨gr, off, none⟩) n cr, .int .i64 0, .bool b, .slice Aa s.ahead.length ca]) wo) => have Kx := hC.2.choose_spec; (Kx.cell)
      refine wp_region_split 16 ?_
      simp only [List.take_succ_cons, List.take_zero, List.drop_succ_cons, List.drop_zero]
      refine wp_any_split_at hA [(.det ?dQ0), (.det ?dQ1), (.det ?dQ2), (.det ?dQ3), (.det ?dQ4), (.det ?dQ5), (.used (fun v wy => Own8 w6.heap.size wy v s.done)), (.det ?dQ7), (.det ?dQ8), (.det ?dQ9), (.det ?dQ10), (.used (fun v wy => Own8 w6.heap.size wy v (s.done ++ L))), (.held (fun v wy => Own8 w6.heap.size wy v ((s.done ++ L).take 100))), (.det ?dQ13), (.det ?dQ14), (.det undef)] [⟨(some 15), none, [], fun _ => (fun wy => Blk wy pc 43 #[.slice Ad s.done.length cd, .slice (some ⟨gr, off, none⟩) n cr, .int .i64 0, .bool true, .slice Aa s.ahead.length ca]), fun _ _ _ _ h => h⟩] (fun wy => Apart (fun i => i = pc) w6 wy ∧ ∃ b, Blk wy pc 43 #[.slice Ad s.done.length cd, .slice (some ⟨gr, off, none⟩) n cr, .int .i64 0, .bool b, .slice Aa s.ahead.length ca]) (TSp [(11, fun _ _ => True), (15, (fun wy wz => Only pc wy wz))] Grows) (by kernel_rfl) rfl (by kernel_rfl) (by kernel_rfl) rfl (by kernel_rfl) (by kernel_rfl) (by kernel_rfl) (by kernel_rfl) (⟨⟨rfl, rfl, rfl, Nat.le_refl _, fun _ _ _ => rfl⟩, _, K⟩) (stab_sp [(11, fun _ _ => True), (15, (fun wy wz => Only pc wy wz))] [true, true, true, true, true, true, false, true, true, true, true, false, false, true, true, true] [true, true, true, true, true, true, false, true, true, true, true, false, true, true, true, true] [(15, 12)] rfl rfl rfl (by kernel_rfl) ⟨trivial, trivial, trivial, trivial, trivial, trivial, (fun _ _ _ _ hp hb => hp.below hb), trivial, trivial, trivial, trivial, (fun _ _ _ _ hp hb => hp.below hb), (fun _ _ _ _ hp hb => hp.below hb), trivial, trivial, trivial, trivial⟩ ⟨(fun _ _ _ _ hp h => hp.keep fun g hg => h.block g (by have := (hp.x.lt g hg).1; omega)), trivial⟩) (List.forall_mem_cons.2 ⟨(fun hn => by cases hn), (fun _ h => by cases h)⟩) (phase_sp [(11, fun _ _ => True), (15, (fun wy wz => Only pc wy wz))] [((some 15), none)] [] rfl (by kernel_rfl) (List.forall_mem_cons.2 ⟨fun _ => fun _ _ _ hp hb => hp.below hb hp.lt, (fun _ h => by cases h)⟩) trivial) (List.forall_mem_cons.2 ⟨(fun a h => by first | (exact (no_1 h).elim) | (injection h with h; subst h; exact Nat.le_of_ble_eq_true rfl)), (fun _ h => by cases h)⟩) ⟨?oQ0, ?oQ1, ?oQ2, ?oQ3, ?oQ4, ?oQ5, ?oQ6, ?oQ7, ?oQ8, ?oQ9, ?oQ10, ?oQ11, ?oQ12, ?oQ13, ?oQ14, ?oQ15, trivial⟩ (by kernel_rfl) ?fQ
      case oQ0 => intro ev wo hev hC hs hph; have x0 := se hA hs 0; exact od rfl rfl (by kernel_rfl) hC (TSp.of rfl (Grows.refl _)) (by simp [go_sem, x0] <;> rfl)
      case oQ1 => intro ev wo hev hC hs hph; have x0 := se hA hs 0; exact od rfl rfl (by kernel_rfl) hC (TSp.of rfl (Grows.refl _)) (by simp [go_sem, x0] <;> rfl)
      case oQ2 => intro ev wo hev hC hs hph; have x0 := se hA hs 0; exact od rfl rfl (by kernel_rfl) hC (TSp.of rfl (Grows.refl _)) (by simp [go_sem, x0] <;> rfl)
      case oQ3 => intro ev wo hev hC hs hph; have x0 := sd hs 63 2; exact od rfl rfl (by kernel_rfl) hC (TSp.of rfl (Grows.refl _)) (by simp [go_sem, x0] <;> rfl)
      case oQ4 => intro ev wo hev hC hs hph; have x0 := sd hs 64 3; exact od rfl rfl (by kernel_rfl) hC (TSp.of rfl (Grows.refl _)) (by simp [go_sem, x0] <;> rfl)
      case oQ5 => intro ev wo hev hC hs hph; have x0 := sd hs 65 4; exact od rfl rfl (by kernel_rfl) hC (TSp.of rfl (Grows.refl _)) (by simp [go_sem, x0, pQ _ hC, K.cell] <;> rfl)
      case oQ6 =>
        intro ev wo hev hC hs hph
        have e66 := sd hs 66 5
        have Kx := hC.2.choose_spec
        have ux := od2.keep fun g hg => hC.1.block g (od2.lt g hg).2 (od2.ne K6 (by decide) g hg)
        exact ob_yes (wanted_none rfl) (does_enter (exec_call Tryd.func36 (by kernel_rfl) rfl (hev.func _) (by simp [e66])) (Calls.mono (clone_any Ad s.done.length cd s.done wo rfl (by omega) ux.reads) (by
          rintro ev2 w3 ⟨r, rfl, ho, hb3⟩
          exact ⟨r, rfl, ⟨hC.1.below hb3, _, Kx.below hb3 Kx.lt⟩, TSp.of rfl hb3, (Own8.of ho).mono hC.1.size, no_start (by kernel_rfl)⟩)))
      case oQ7 => intro ev wo hev hC hs hph; have x0 := se hA hs 0; exact od rfl rfl (by kernel_rfl) hC (TSp.of rfl (Grows.refl _)) (by simp [go_sem, x0] <;> rfl)
      case oQ8 => intro ev wo hev hC hs hph; have x0 := sd hs 68 7; exact od rfl rfl (by kernel_rfl) hC (TSp.of rfl (Grows.refl _)) (by simp [go_sem, x0] <;> rfl)
      case oQ9 => intro ev wo hev hC hs hph; have x0 := sd hs 69 8; exact od rfl rfl (by kernel_rfl) hC (TSp.of rfl (Grows.refl _)) (by simp [go_sem, x0] <;> rfl)
      case oQ10 => intro ev wo hev hC hs hph; have x0 := sd hs 70 9; exact od rfl rfl (by kernel_rfl) hC (TSp.of rfl (Grows.refl _)) (by simp [go_sem, x0, pQ _ hC, K.cell] <;> rfl)
      case oQ11 =>
        intro ev wo hev hC hs hph
        have u67 := su hs 67 6
        have e71 := sd hs 71 10
        have Kx := hC.2.choose_spec
        have ux := (ho2.keep fun g hg => hC.1.block g (ho2.lt g hg).2 (ho2.ne K6 (by decide) g hg)).took
        obtain ⟨r, w3, hr, ho, hgr⟩ := run_app8 u67 ux (by omega) hC.1.size
        exact ob_yes (wanted_none rfl) (does_value (exec_append rfl rfl e71 hr) ⟨⟨hC.1.grown hgr fun g e => .inl (u67.x.lt g e).1, _, Kx.grown hgr fun e => by have := (u67.x.lt pc e.symm).1; omega⟩, TSp.sp rfl trivial, ho, no_start (by kernel_rfl)⟩)
      case oQ12 =>
        intro ev wo hev hC hs hph
        have u72 := su hs 72 11
        have Kx := hC.2.choose_spec
        obtain ⟨A4, c4, e72, hc4⟩ := u72.x.form
        have ux := u72.x
        rw [e72] at ux
        exact ob_yes (wanted_none rfl) (does_enter (exec_call Tryd.func35 (by kernel_rfl) rfl (hev.func _) (by simp [e72])) (Calls.mono (some_any A4 _ c4 (s.done ++ L) rfl hc4 (by rw [List.length_append]; omega) wo ux.reads) (by
          rintro ev2 w3 ⟨r, rfl, ho, hb3⟩
          exact ⟨r, rfl, ⟨hC.1.below hb3, _, Kx.below hb3 Kx.lt⟩, TSp.of rfl hb3, ho.mono hC.1.size, no_start (by kernel_rfl)⟩)))
      case oQ13 => intro ev wo hev hC hs hph; have x0 := sd hs 61 0; exact od rfl rfl (by kernel_rfl) hC (TSp.of rfl (Grows.refl _)) (by simp [go_sem, x0] <;> rfl)
      case oQ14 => intro ev wo hev hC hs hph; have x0 := sd hs 74 13; exact od rfl rfl (by kernel_rfl) hC (TSp.of rfl (Grows.refl _)) (by simp [go_sem, x0] <;> rfl)
      case oQ15 =>
        intro ev wo hev hC hs hph
        have e75 := sd hs 75 14
        have Kx := hC.2.choose_spec
        have hs9 : Only pc wo (wo.setCell ⟨pc, 3, none⟩ (.bool true)) := Only.set
        have hK2 : Blk (wo.setCell ⟨pc, 3, none⟩ (.bool true)) pc 43 #[.slice Ad s.done.length cd, .slice (some ⟨gr, off, none⟩) n cr, .int .i64 0, .bool true, .slice Aa s.ahead.length ca] := by simpa using Kx.set_ 3 (.bool true)
        exact ob_yes (wanted_none rfl) (does_skip (w' := wo.setCell ⟨pc, 3, none⟩ (.bool true)) (by simp [go_sem, e75, hev.const, Kx.cell, Kx.frozen]) ⟨⟨hC.1.only hs9 (.inr rfl), _, hK2⟩, TSp.sp rfl hs9, rfl, (List.forall_mem_cons.2 ⟨fun _ => hK2, (fun _ h => by cases h)⟩)⟩)
      intro sg wf hC hph
      intro x67 hx67
      intro x72 hx72
      intro x73 hx73 h73
      intro a hA
      replace hA := hA.keepN [0, 62, 73]
      replace K := (hph _ List.mem_cons_self rfl)
      replace od2 := od2.keep fun g hg => hC.1.block g (od2.lt g hg).2 (od2.ne K6 (by decide) g hg)
      replace ho2 := ho2.keep fun g hg => hC.1.block g (ho2.lt g hg).2 (ho2.ne K6 (by decide) g hg)
      have T6 := T4.trans hC.1 fun i hi h => .inl h
      have o7 := (Own8.mono h73 hw6).x
      have hs7 : ∀ g, x73.ownBlock = some g → w6.heap.size ≤ g := fun g e => (h73.x.lt g e).1
      obtain ⟨A7, c7, rfl, hc7⟩ := o7.form
      revert a; (iterate 2 refine wo rfl rfl (by decide) (fun ev e h => by simp [go_sem, h, K.cell] <;> rfl) ?_); intro a hA
      have K2 := K
      refine wl_setf ([.slice Ad s.done.length cd, .slice (some ⟨gr, off, none⟩) n cr, .int .i64 0, .bool true, .slice A7 ((s.done ++ L).take 100).length c7]) _ hA rfl rfl K (j := 4) (by rfl) (fun ev h => by simp [go_sem, h.get 77 rfl, h.get 73 rfl, K.cell, K.cell, K.frozen]; try first | exact ⟨rfl, rfl⟩ | rfl) fun w8 (K : Blk _ _ _ _) hs8 => ?_
      have T7 := T6.only hs8 (.inr (.inl rfl))
      replace od2 := od2.only hs8 (od2.ne K2 (by decide))
      replace ho2 := ho2.only hs8 (ho2.ne K2 (by decide))
      replace o7 := o7.only hs8 (o7.ne K2 (by decide))
      have ed : sepV (.slice Ad s.done.length cd) (.slice A7 ((s.done ++ L).take 100).length c7) := fun g e1 e2 => by have h1 := hdw g e1; have h2 := hs7 g e2; omega
      have el : sepV (.slice (some ⟨gr, off, none⟩) n cr) (.slice A7 ((s.done ++ L).take 100).length c7) := fun g e1 e2 => by have h1 := hlw g e1; have h2 := hs7 g e2; omega
      replace hA := hA.keepN [0]
      refine wN (nT (wS (wS (wR ?_))))
      revert a; (iterate 4 refine wo rfl rfl (by decide) (fun ev e h => by simp [go_sem, h, K.cell] <;> rfl) ?_); intro a hA
      replace hA := hA.keepN [0, 81]
      refine wN (nT ?_)
      refine wp_if hA 81 _ rfl (fun hq4 => ?yM) (fun hq4 => ?nM)
      case nM =>
        cases hq4
      case yM =>
        have pV := fun (wo : World) (hC : (fun wy => Below w8.heap.size w8 wy) wo) => have Kx := K.below hC K.lt; (Kx.cell)
        refine wp_region_split 14 ?_
        simp only [List.take_succ_cons, List.take_zero, List.drop_succ_cons, List.drop_zero]
        refine wp_any_split_at hA [(.det ?dV0), (.det ?dV1), (.det ?dV2), (.det ?dV3), (.det ?dV4), (.det ?dV5), (.det ?dV6), (.det ?dV7), (.det ?dV8), (.det ?dV9), (.det ?dV10), (.det ?dV11), (.det ?dV12), (.det ?dV13)] [] (fun wy => Below w8.heap.size w8 wy) (TSp [] Grows) (by kernel_rfl) rfl (by kernel_rfl) (by kernel_rfl) rfl (by kernel_rfl) (by kernel_rfl) (by kernel_rfl) (by kernel_rfl) ((Below.refl _ _).drew) (stab_sp [] [true, true, true, true, true, true, true, true, true, true, true, true, true, true] [true, true, true, true, true, true, true, true, true, true, true, true, true, true] [] rfl rfl rfl (by kernel_rfl) ⟨trivial, trivial, trivial, trivial, trivial, trivial, trivial, trivial, trivial, trivial, trivial, trivial, trivial, trivial, trivial⟩ trivial) (fun _ h => by cases h) (fun _ _ _ _ _ h => by cases h) (fun _ h => by cases h) ⟨?oV0, ?oV1, ?oV2, ?oV3, ?oV4, ?oV5, ?oV6, ?oV7, ?oV8, ?oV9, ?oV10, ?oV11, ?oV12, ?oV13, trivial⟩ (by kernel_rfl) ?fV
        case oV0 => intro ev wo hev hC hs hph; have x0 := se hA hs 0; exact od rfl rfl (by kernel_rfl) hC (TSp.of rfl (Grows.refl _)) (by simp [go_sem, x0, j6, j7, j8, j9] <;> rfl)
        case oV1 => intro ev wo hev hC hs hph; have x0 := se hA hs 0; exact od rfl rfl (by kernel_rfl) hC (TSp.of rfl (Grows.refl _)) (by simp [go_sem, x0, j6, j7, j8, j9] <;> rfl)
        case oV2 => intro ev wo hev hC hs hph; have x0 := sd hs 83 1; exact od rfl rfl (by kernel_rfl) hC (TSp.of rfl (Grows.refl _)) (by simp [go_sem, x0, j6, j7, j8, j9] <;> rfl)
        case oV3 => intro ev wo hev hC hs hph; have x0 := sd hs 84 2; exact od rfl rfl (by kernel_rfl) hC (TSp.of rfl (Grows.refl _)) (by simp [go_sem, x0, j6, j7, j8, j9] <;> rfl)
        case oV4 => intro ev wo hev hC hs hph; have x0 := sd hs 85 3; exact od rfl rfl (by kernel_rfl) hC (TSp.of rfl (Grows.refl _)) (by simp [go_sem, x0, pV _ hC, K.cell, j6, j7, j8, j9] <;> rfl)
        case oV5 => intro ev wo hev hC hs hph; have x0 := se hA hs 0; exact od rfl rfl (by kernel_rfl) hC (TSp.of rfl (Grows.refl _)) (by simp [go_sem, x0, j6, j7, j8, j9] <;> rfl)
        case oV6 => intro ev wo hev hC hs hph; have x0 := sd hs 87 5; exact od rfl rfl (by kernel_rfl) hC (TSp.of rfl (Grows.refl _)) (by simp [go_sem, x0, j6, j7, j8, j9] <;> rfl)
        case oV7 => intro ev wo hev hC hs hph; have x0 := sd hs 88 6; exact od rfl rfl (by kernel_rfl) hC (TSp.of rfl (Grows.refl _)) (by simp [go_sem, x0, j6, j7, j8, j9] <;> rfl)
        case oV8 => intro ev wo hev hC hs hph; have x0 := sd hs 89 7; exact od rfl rfl (by kernel_rfl) hC (TSp.of rfl (Grows.refl _)) (by simp [go_sem, x0, pV _ hC, K.cell, j6, j7, j8, j9] <;> rfl)
        case oV9 => intro ev wo hev hC hs hph; have x0 := sd hs 90 8; exact od rfl rfl (by kernel_rfl) hC (TSp.of rfl (Grows.refl _)) (by simp [go_sem, x0, j6, j7, j8, j9] <;> rfl)
        case oV10 => intro ev wo hev hC hs hph; have x0 := sd hs 91 9; exact od rfl rfl (by kernel_rfl) hC (TSp.of rfl (Grows.refl _)) (by simp [go_sem, x0, hev.const, j6, j7, j8, j9] <;> rfl)
        case oV11 => intro ev wo hev hC hs hph; have x0 := sd hs 86 4; have x1 := sd hs 92 10; exact od rfl rfl (by kernel_rfl) hC (TSp.of rfl (Grows.refl _)) (by simp [go_sem, x0, x1, j6, j7, j8, j9] <;> rfl)
        case oV12 => intro ev wo hev hC hs hph; have x0 := sd hs 82 0; exact od rfl rfl (by kernel_rfl) hC (TSp.of rfl (Grows.refl _)) (by simp [go_sem, x0, j6, j7, j8, j9] <;> rfl)
        case oV13 => intro ev wo hev hC hs hph; have x0 := sd hs 94 12; exact od rfl rfl (by kernel_rfl) hC (TSp.of rfl (Grows.refl _)) (by simp [go_sem, x0, j6, j7, j8, j9] <;> rfl)
        intro sg wf hC hph
        intro a hA
        replace hA := hA.keepN [93, 95]
        replace K := K.below hC K.lt
        replace od2 := od2.below hC
        replace o7 := o7.below hC
        replace ho2 := (ho2.tail (show k < n by omega)).below hC
        have T8 := T7.below hC
        rw [j9, hLk] at ho2
        have K3 := K
        refine wl_setf ([.slice Ad s.done.length cd, .slice (some ⟨gr, off + k, none⟩) 1 (cr - k), .int .i64 0, .bool true, .slice A7 ((s.done ++ L).take 100).length c7]) _ hA rfl rfl K (j := 1) (by rfl) (fun ev h => by simp [go_sem, h.get 95 rfl, h.get 93 rfl, K.cell, K.cell, K.frozen]; try first | exact ⟨rfl, rfl⟩ | rfl) fun w9 (K : Blk _ _ _ _) hs9 => ?_
        have T9 := T8.only hs9 (.inr (.inl rfl))
        replace od2 := od2.only hs9 (od2.ne K3 (by decide))
        replace ho2 := ho2.only hs9 (ho2.ne K3 (by decide))
        replace o7 := o7.only hs9 (o7.ne K3 (by decide))
        replace hA := hA.keepN []
        refine wN (nT (wS (wR ?_)))
        revert a; refine wo rfl rfl (by decide) (fun ev e h => by simp [go_sem, h, K.cell] <;> rfl) ?_; intro a hA
        replace hA := hA.keepN [4]
        refine wN (nT (wp_ret ?_))
        refine ret_1 hA 4 rfl rfl ?_
        rw [keepS_long hlost (by rw [hn]; exact hlong)]
        exact ⟨_, rfl, ⟨[], _, _, _, units_nil, rfl, ⟨by rw [hz]; exact K, od2, ho2, o7, fun g e => hsd2 g e, ed, fun g e => el g e⟩, FromV.refl _ _, fun g e => hFr g e⟩, T9⟩
    case nG =>
      rw [long_eq] at hq2
      refine wp_skip (nT (wS (wS (wR ?_))))
      revert a; (iterate 4 refine wo rfl rfl (by decide) (fun ev e h => by simp [go_sem, h, K.cell] <;> rfl) ?_); intro a hA
      replace hA := hA.keepN [0, 81]
      refine wN (nT ?_)
      refine wp_if hA 81 _ rfl (fun hq4 => ?yM) (fun hq4 => ?nM)
      case yM =>
        have pU := fun (wo : World) (hC : (fun wy => Below w6.heap.size w6 wy) wo) => have Kx := K.below hC K.lt; (Kx.cell)
        refine wp_region_split 14 ?_
        simp only [List.take_succ_cons, List.take_zero, List.drop_succ_cons, List.drop_zero]
        refine wp_any_split_at hA [(.det ?dU0), (.det ?dU1), (.det ?dU2), (.det ?dU3), (.det ?dU4), (.det ?dU5), (.det ?dU6), (.det ?dU7), (.det ?dU8), (.det ?dU9), (.det ?dU10), (.det ?dU11), (.det ?dU12), (.det ?dU13)] [] (fun wy => Below w6.heap.size w6 wy) (TSp [] Grows) (by kernel_rfl) rfl (by kernel_rfl) (by kernel_rfl) rfl (by kernel_rfl) (by kernel_rfl) (by kernel_rfl) (by kernel_rfl) ((Below.refl _ _).drew) (stab_sp [] [true, true, true, true, true, true, true, true, true, true, true, true, true, true] [true, true, true, true, true, true, true, true, true, true, true, true, true, true] [] rfl rfl rfl (by kernel_rfl) ⟨trivial, trivial, trivial, trivial, trivial, trivial, trivial, trivial, trivial, trivial, trivial, trivial, trivial, trivial, trivial⟩ trivial) (fun _ h => by cases h) (fun _ _ _ _ _ h => by cases h) (fun _ h => by cases h) ⟨?oU0, ?oU1, ?oU2, ?oU3, ?oU4, ?oU5, ?oU6, ?oU7, ?oU8, ?oU9, ?oU10, ?oU11, ?oU12, ?oU13, trivial⟩ (by kernel_rfl) ?fU
        case oU0 => intro ev wo hev hC hs hph; have x0 := se hA hs 0; exact od rfl rfl (by kernel_rfl) hC (TSp.of rfl (Grows.refl _)) (by simp [go_sem, x0, j6, j7, j8, j9] <;> rfl)
        case oU1 => intro ev wo hev hC hs hph; have x0 := se hA hs 0; exact od rfl rfl (by kernel_rfl) hC (TSp.of rfl (Grows.refl _)) (by simp [go_sem, x0, j6, j7, j8, j9] <;> rfl)
        case oU2 => intro ev wo hev hC hs hph; have x0 := sd hs 83 1; exact od rfl rfl (by kernel_rfl) hC (TSp.of rfl (Grows.refl _)) (by simp [go_sem, x0, j6, j7, j8, j9] <;> rfl)
        case oU3 => intro ev wo hev hC hs hph; have x0 := sd hs 84 2; exact od rfl rfl (by kernel_rfl) hC (TSp.of rfl (Grows.refl _)) (by simp [go_sem, x0, j6, j7, j8, j9] <;> rfl)
        case oU4 => intro ev wo hev hC hs hph; have x0 := sd hs 85 3; exact od rfl rfl (by kernel_rfl) hC (TSp.of rfl (Grows.refl _)) (by simp [go_sem, x0, pU _ hC, K.cell, j6, j7, j8, j9] <;> rfl)
        case oU5 => intro ev wo hev hC hs hph; have x0 := se hA hs 0; exact od rfl rfl (by kernel_rfl) hC (TSp.of rfl (Grows.refl _)) (by simp [go_sem, x0, j6, j7, j8, j9] <;> rfl)
        case oU6 => intro ev wo hev hC hs hph; have x0 := sd hs 87 5; exact od rfl rfl (by kernel_rfl) hC (TSp.of rfl (Grows.refl _)) (by simp [go_sem, x0, j6, j7, j8, j9] <;> rfl)
        case oU7 => intro ev wo hev hC hs hph; have x0 := sd hs 88 6; exact od rfl rfl (by kernel_rfl) hC (TSp.of rfl (Grows.refl _)) (by simp [go_sem, x0, j6, j7, j8, j9] <;> rfl)
        case oU8 => intro ev wo hev hC hs hph; have x0 := sd hs 89 7; exact od rfl rfl (by kernel_rfl) hC (TSp.of rfl (Grows.refl _)) (by simp [go_sem, x0, pU _ hC, K.cell, j6, j7, j8, j9] <;> rfl)
        case oU9 => intro ev wo hev hC hs hph; have x0 := sd hs 90 8; exact od rfl rfl (by kernel_rfl) hC (TSp.of rfl (Grows.refl _)) (by simp [go_sem, x0, j6, j7, j8, j9] <;> rfl)
        case oU10 => intro ev wo hev hC hs hph; have x0 := sd hs 91 9; exact od rfl rfl (by kernel_rfl) hC (TSp.of rfl (Grows.refl _)) (by simp [go_sem, x0, hev.const, j6, j7, j8, j9] <;> rfl)
        case oU11 => intro ev wo hev hC hs hph; have x0 := sd hs 86 4; have x1 := sd hs 92 10; exact od rfl rfl (by kernel_rfl) hC (TSp.of rfl (Grows.refl _)) (by simp [go_sem, x0, x1, j6, j7, j8, j9] <;> rfl)
        case oU12 => intro ev wo hev hC hs hph; have x0 := sd hs 82 0; exact od rfl rfl (by kernel_rfl) hC (TSp.of rfl (Grows.refl _)) (by simp [go_sem, x0, j6, j7, j8, j9] <;> rfl)
        case oU13 => intro ev wo hev hC hs hph; have x0 := sd hs 94 12; exact od rfl rfl (by kernel_rfl) hC (TSp.of rfl (Grows.refl _)) (by simp [go_sem, x0, j6, j7, j8, j9] <;> rfl)
        intro sg wf hC hph
        intro a hA
        replace hA := hA.keepN [93, 95]
        replace K := K.below hC K.lt
        replace od2 := od2.below hC
        replace oa2 := oa2.below hC
        replace ho2 := (ho2.tail (show k < n by omega)).below hC
        have T8 := T4.below hC
        rw [j9, hLk] at ho2
        have K3 := K
        refine wl_setf ([.slice Ad s.done.length cd, .slice (some ⟨gr, off + k, none⟩) 1 (cr - k), .int .i64 0, .bool s.lost, .slice Aa s.ahead.length ca]) _ hA rfl rfl K (j := 1) (by rfl) (fun ev h => by simp [go_sem, h.get 95 rfl, h.get 93 rfl, K.cell, K.cell, K.frozen]; try first | exact ⟨rfl, rfl⟩ | rfl) fun w9 (K : Blk _ _ _ _) hs9 => ?_
        have T9 := T8.only hs9 (.inr (.inl rfl))
        replace od2 := od2.only hs9 (od2.ne K3 (by decide))
        replace ho2 := ho2.only hs9 (ho2.ne K3 (by decide))
        replace oa2 := oa2.only hs9 (oa2.ne K3 (by decide))
        replace hA := hA.keepN []
        refine wN (nT (wS (wR ?_)))
        revert a; refine wo rfl rfl (by decide) (fun ev e h => by simp [go_sem, h, K.cell] <;> rfl) ?_; intro a hA
        replace hA := hA.keepN [4]
        refine wN (nT (wp_ret ?_))
        refine ret_1 hA 4 rfl rfl ?_
        rw [keepS_lost hq4]
        rw [hq4] at K
        exact ⟨_, rfl, ⟨[], _, _, _, units_nil, rfl, ⟨by rw [hz]; exact K, od2, ho2, oa2, fun g e => hsd2 g e, hda, fun g e e2 => hsa2 g e2 e⟩, FromV.refl _ _, fun g e => hFr g e⟩, T9⟩
      case nM =>
        have hlost : s.lost = false := by simpa using hq4
        rw [hlost] at hq2
        rw [keepS_same hlost (by rw [hn]; simpa using hq2)]
        refine wp_skip (nT (wS (wR ?_)))
        revert a; refine wo rfl rfl (by decide) (fun ev e h => by simp [go_sem, h, K.cell] <;> rfl) ?_; intro a hA
        replace hA := hA.keepN [4]
        refine wN (nT (wp_ret ?_))
        refine ret_1 hA 4 rfl rfl ?_
        exact ⟨_, rfl, ⟨[], _, _, _, units_nil, rfl, ⟨by rw [hz, ← hlost]; exact K, od2, hn ▸ ho2, oa2, fun g e => hsd2 g e, hda, fun g e e2 => hsa2 g e2 e⟩, FromV.refl _ _, fun g e => hFr g e⟩, T4⟩
end Go.Proofs.YtaljodmhalodhaaDoor
/-
  What a chunk has given so far: its units in a row, and the chunk (plain memory).
-/
namespace Go.Proofs.YtaljodmhalodhaaDoor
open Go.RowKit
/-- a unit's bytes lie apart from a chunk's rows -/
def UFree (w : World) (u : UnitV) (vd vl : Value) : Prop := ∀ ad, u.a = some ad → (∃ cs, Blk w ad.block 5 cs) ∧ vd.ownBlock ≠ some ad.block ∧ vl.ownBlock ≠ some ad.block
structure FedAt (B pc : Nat) (w0 w : World) (vd0 vl0 : Value) (p : ChunkS × List UnitB) (v : Value) : Prop where
  ex : ∃ us vd vl va, OwnR unitSh w0.heap.size w v us ∧ us.map unitB = p.2 ∧ (∀ u ∈ us, UFree w u vd vl) ∧ ChunkAt B w pc p.1 vd vl va ∧ FromV w0 vd0 vd ∧ FromV w0 vl0 vl
  turn : TurnC pc vd0 vl0 w0 w
theorem blk_kinds {w : World} {g : Nat} {t1 t2 : TypeId} {c1 c2 : Array Value} (h1 : Blk w g t1 c1) (h2 : Blk w g t2 c2) (h : t1 ≠ t2) : False := by
  have e : some (Obj.cells c1 t1 (0, 0)) = some (Obj.cells c2 t2 (0, 0)) := h1.symm.trans h2
  injection e with e
  injection e with _ e
  exact h e
theorem UFree.step {w w' : World} {u : UnitV} {vd vl vd' vl' : Value} (h : UFree w u vd vl) (hk : ∀ ad, u.a = some ad → w'.heap[ad.block]? = w.heap[ad.block]?) (hd : FromV w vd vd') (hl : FromV w vl vl') : UFree w' u vd' vl' := fun ad e => by
  obtain ⟨⟨cs, K⟩, h1, h2⟩ := h ad e
  refine ⟨⟨cs, (hk ad e).trans K⟩, fun e2 => ?_, fun e2 => ?_⟩
  · rcases hd _ e2 with e3 | e3
    · exact h1 e3
    · have := K.lt; omega
  · rcases hl _ e2 with e3 | e3
    · exact h2 e3
    · have := K.lt; omega
theorem turn_not {B pc : Nat} {w : World} {s : ChunkS} {vd vl va : Value} {u : UnitV} (hc : ChunkAt B w pc s vd vl va) (hu : UFree w u vd vl) : ∀ ad, u.a = some ad → ¬ (ad.block = pc ∨ vd.ownBlock = some ad.block ∨ vl.ownBlock = some ad.block) := fun ad e hs => by
  obtain ⟨⟨cs, K⟩, h1, h2⟩ := hu ad e
  rcases hs with e1 | e1 | e1
  · rw [e1] at K; exact blk_kinds K hc.blk (by decide)
  · exact h1 e1
  · exact h2 e1
theorem own_turn {B B0 pc : Nat} {w w' : World} {s : ChunkS} {vd vl va v : Value} {us : List UnitV} (h : OwnR unitSh B0 w v us) (hu : ∀ u ∈ us, UFree w u vd vl) (hc : ChunkAt B w pc s vd vl va) (T : TurnC pc vd vl w w') : OwnR unitSh B0 w' v us := by
  refine ⟨own_keep h.row fun g hg => T.block g (World.ownsRow.lt h.row g hg).2 fun hs => ?_, fun u hm p hp => ?_, h.off⟩
  · obtain ⟨cs, K⟩ := own_kind h.row hg
    rcases hs with e | e | e
    · rw [e] at K; exact blk_kinds K hc.blk (by decide)
    · obtain ⟨c2, K2⟩ := hc.d.kind e; exact blk_kinds K K2 (by decide)
    · obtain ⟨c2, K2⟩ := hc.l.kind e; exact blk_kinds K K2 (by decide)
  · have hr := h.octs u hm p hp
    have hp' : p = (u.a, u.b) := List.mem_singleton.1 hp
    subst hp'
    exact T.reads hr fun _ ad e => turn_not hc (hu u hm) ad e
/-- a step of the chunk, its units behind the older ones -/
theorem fed_step {B pc : Nat} {w0 w w1 : World} {vd0 vl0 v r : Value} {s : ChunkS} {o : List UnitB} {q : ChunkS × List UnitB} {us : List UnitV} {vd vl va : Value} (hB : w0.heap.size ≤ w.heap.size)
    (hv : OwnR unitSh w0.heap.size w v us) (ho : us.map unitB = o) (hu : ∀ u ∈ us, UFree w u vd vl) (hc : ChunkAt B w pc s vd vl va) (hd0 : FromV w0 vd0 vd) (hl0 : FromV w0 vl0 vl) (T0 : TurnC pc vd0 vl0 w0 w)
    (h : ChunkEnd B pc w w1 vd vl q r) (hlen : us.length + q.2.length ≤ 100000000) :
    ∃ r2 w2, (Builtin.append_ #[24, 24] 24 #[v, r]).run Tryd.prog w1 = .ok r2 w2 ∧ FedAt B pc w0 w2 vd0 vl0 (q.1, o ++ q.2) r2 := by
  obtain ⟨⟨us2, vd2, vl2, va2, ⟨⟨A, c, rfl, hr⟩, hb2, hud2, hul2⟩, h2, hc2, hd2, hl2⟩, T⟩ := h
  have hv1 := own_turn hv hu hc T
  have hu1 : ∀ u ∈ us, UFree w1 u vd2 vl2 := fun u hm => (hu u hm).step (fun ad e => by
    obtain ⟨⟨cs, K⟩, _⟩ := hu u hm ad e
    exact T.block _ K.lt (turn_not hc (hu u hm) ad e)) hd2 hl2
  have hu2 : ∀ u ∈ us2, UFree w1 u vd2 vl2 := fun u hm ad e => ⟨hb2 u hm ad e, hud2 u hm ad e, hul2 u hm ad e⟩
  have hk : ∀ g, v.ownBlock = some g → ∃ cs, Blk w1 g 29 cs := fun g hg => own_kind hv1.row hg
  have hlt : ∀ g, v.ownBlock = some g → w0.heap.size ≤ g := fun g hg => (World.ownsRow.lt hv1.row g hg).1
  have hlen2 : us2.length = q.2.length := by rw [← h2, List.length_map]
  obtain ⟨r2, w2, hr2, ho2, hg2, hf2⟩ := run_appR (c := c) hv1 hr (fun g hg u hm p hp => by
    have hp' : p = (u.a, u.b) := List.mem_singleton.1 hp
    subst hp'
    intro _ ad e e2
    obtain ⟨⟨cs, K⟩, _⟩ := hu2 u hm ad e
    obtain ⟨c3, K3⟩ := hk g hg
    rw [e2] at K
    exact blk_kinds K K3 (by decide)) (by omega) (Nat.le_trans hB T.size)
  have hsep : ∀ (x : Value) (l : List UInt8), OwnX B w1 x l → sepV x v := fun x l hx g e e2 => by
    obtain ⟨c3, K3⟩ := hx.kind e
    obtain ⟨c4, K4⟩ := hk g e2
    exact blk_kinds K3 K4 (by decide)
  have huf : ∀ u, UFree w1 u vd2 vl2 → UFree w2 u vd2 vl2 := fun u h => h.step (fun ad e => by
    obtain ⟨⟨cs, K⟩, _⟩ := h ad e
    exact hg2.block _ K.lt fun e2 => by
      obtain ⟨c4, K4⟩ := hk _ e2.symm
      exact blk_kinds K K4 (by decide)) (FromV.refl _ _) (FromV.refl _ _)
  refine ⟨r2, w2, hr2, ⟨us ++ us2, vd2, vl2, va2, ho2, by rw [List.map_append, ho, h2], fun u hm => ?_, ⟨hc2.blk.grown hg2 fun e => ?_, hc2.d.grown hg2 (hsep _ _ hc2.d), hc2.l.grown hg2 (hsep _ _ hc2.l), hc2.a.grown hg2 (hsep _ _ hc2.a), hc2.dl, hc2.da, hc2.la⟩, hd0.trans hd2 T0.size, hl0.trans hl2 T0.size⟩, (T0.tr T hd0 hl0).grown hg2 fun g e => .inl (hlt g e)⟩
  · rcases List.mem_append.1 hm with h | h
    · exact huf u (hu1 u h)
    · exact huf u (hu2 u h)
  · obtain ⟨c4, K4⟩ := hk pc e.symm
    exact blk_kinds hc2.blk K4 (by decide)
end Go.Proofs.YtaljodmhalodhaaDoor
/-
  Walk: bytes to a chunk ((*lex.Chunk).Feed).
-/
namespace Go.Proofs.YtaljodmhalodhaaDoor
open Go.RowKit
set_option linter.unusedSimpArgs false
set_option linter.unusedVariables false
theorem endS_len (s : ChunkS) : (endS s).1.done.length + (endS s).1.line.length ≤ s.done.length + s.line.length + 2 ∧ (endS s).2.length ≤ 1 := by
  unfold endS
  split
  · simp [chunk0]
  · split
    · split
      · simp [chunk0]
      · simp; omega
    · simp [chunk0]
theorem stepS_len (s : ChunkS) (x : UInt8) : (stepS s x).1.done.length + (stepS s x).1.line.length ≤ s.done.length + s.line.length + 1 ∧ (stepS s x).2.length ≤ 1 := by
  unfold stepS
  split
  · simp; omega
  · unfold addS
    split
    · rename_i h
      have h1 := congrArg List.length h
      simp at h1
      obtain ⟨h2, h3⟩ := endS_len ⟨s.done, (s.line ++ [x]).take ((s.line ++ [x]).length - 2), s.left, s.lost, s.ahead⟩
      refine ⟨Nat.le_trans h2 ?_, h3⟩
      simp
      omega
    · unfold keepS
      split
      · simp
      · split
        · simp
        · simp; omega
theorem feedS_len : ∀ (l : List UInt8) (s : ChunkS), (feedS s l).1.done.length + (feedS s l).1.line.length ≤ s.done.length + s.line.length + l.length ∧ (feedS s l).2.length ≤ l.length
  | [], s => by rw [feed_nil]; simp
  | x :: r, s => by
    rw [feed_cons]
    have h1 := stepS_len s x
    have h2 := feedS_len r (stepS s x).1
    simp only [List.length_append, List.length_cons]
    omega
theorem endS_left (s : ChunkS) : (endS s).1.left ≤ 20000 := by
  unfold endS
  split
  · simp [chunk0]
  · split
    · split
      · simp [chunk0]
      · simp; omega
    · simp [chunk0]
theorem stepS_left (s : ChunkS) (x : UInt8) (h : s.left ≤ 20000) : (stepS s x).1.left ≤ 20000 := by
  unfold stepS
  split
  · simp; omega
  · unfold addS
    split
    · exact endS_left _
    · unfold keepS
      split
      · exact h
      · split
        · exact h
        · exact h
theorem feedS_left : ∀ (l : List UInt8) (s : ChunkS), s.left ≤ 20000 → (feedS s l).1.left ≤ 20000
  | [], s, h => h
  | x :: r, s, h => by rw [feed_cons]; exact feedS_left r _ (stepS_left s x h)
theorem Reads.turnB {B n : Nat} {S : Nat → Prop} {w w' : World} {A : Option Addr} {xs : List Value} (hr : Reads w B 1 A n xs) (T : Apart S w w') (hB : B ≤ w.heap.size) (hn : 0 < n → ∀ ad, A = some ad → ad.block < B → ¬ S ad.block) : Reads w' B 1 A n xs := by
  refine ⟨hr.1, fun h0 => ?_⟩
  obtain ⟨ad, e, hlt, hc⟩ := hr.2 h0
  refine ⟨ad, e, hlt, fun j u hu => ?_⟩
  rw [World.cell?_of_block (w := w) (T.block _ (by rw [block_of_add]; omega) (by rw [block_of_add]; exact hn h0 ad e hlt))]
  exact hc j u hu
theorem fed_quiet {B pc : Nat} {w0 w w1 : World} {vd0 vl0 v : Value} {s s2 : ChunkS} {o : List UnitB} {us : List UnitV} {vd vl va vd2 vl2 va2 : Value}
    (hv : OwnR unitSh w0.heap.size w v us) (ho : us.map unitB = o) (hu : ∀ u ∈ us, UFree w u vd vl) (hc : ChunkAt B w pc s vd vl va) (hd0 : FromV w0 vd0 vd) (hl0 : FromV w0 vl0 vl) (T0 : TurnC pc vd0 vl0 w0 w)
    (T : TurnC pc vd vl w w1) (hc2 : ChunkAt B w1 pc s2 vd2 vl2 va2) (hd2 : FromV w vd vd2) (hl2 : FromV w vl vl2) : FedAt B pc w0 w1 vd0 vl0 (s2, o) v :=
  ⟨⟨us, vd2, vl2, va2, own_turn hv hu hc T, ho, fun u hm => (hu u hm).step (fun ad e => by
    obtain ⟨⟨cs, K⟩, _⟩ := hu u hm ad e
    exact T.block _ K.lt (turn_not hc (hu u hm) ad e)) hd2 hl2, hc2, hd0.trans hd2 T0.size, hl0.trans hl2 T0.size⟩, T0.tr T hd0 hl0⟩
set_option maxRecDepth 100000 in
set_option maxHeartbeats 4000000 in
theorem feed_any (pc B n c : Nat) (A : Option Addr) (l : List UInt8) (s : ChunkS) (vd vl va : Value) (w : World) (hpc : pc < B) (hB : B ≤ w.heap.size) (hc : ChunkAt B w pc s vd vl va) (hl : l.length = n) (hnc : n ≤ c) (hr : Reads w B 1 A n (u8s l)) (hs : s.done.length + s.line.length + n ≤ 900000) (hleft : s.left ≤ 20000) :
    Calls Tryd.prog 15 #[.pointer (some ⟨pc, 0, none⟩), .slice A n c] w fun ev w' => ∃ v, ev = .returned v ∧ FedAt B pc w w' vd vl (feedS s l) v := by
  obtain ⟨Ad, cd, rfl, _⟩ := hc.d.form
  obtain ⟨Al, cl, rfl, _⟩ := hc.l.form
  obtain ⟨Aa, ca, rfl, _⟩ := hc.a.form
  refine calls_at 56 Tryd.func15 rfl rfl (Nat.le_of_ble_eq_true rfl) ?_
  intro a hA; replace hA := hA.norm
  refine wS (wR ?_)
  revert a; refine wo rfl rfl (by decide) (fun ev e h => by simp [go_sem, h] <;> rfl) ?_; intro a hA
  replace hA := hA.keepN [0, 1]
  refine wN (nT (wS (wS (wR ?_))))
  revert a; (iterate 2 refine wo rfl rfl (by decide) (fun ev e h => by simp [go_sem, h] <;> rfl) ?_); intro a hA
  replace hA := hA.keepN [0, 1, 8]
  refine wN (nT ?_)
  refine wp_if hA 8 _ rfl (fun hq0 => ?yN) (fun hq0 => ?nN)
  case yN =>
    cases hq0
  case nN =>
    refine wp_skip (nT (wS (wR ?_)))
    revert a; refine wo rfl rfl (by decide) (fun ev e h => by simp [go_sem, h] <;> rfl) ?_; intro a hA
    replace hA := hA.keepN [0, 1, 5]
    refine wN (nT (wS (wB ?_)))
    refine wp_loop_at (fun k a wx => ∃ (l1 l2 : List UInt8) (A2 : Option Addr) (c2 : Nat) (v : Value), l = l1 ++ l2 ∧ l2.length = k ∧ k ≤ c2 ∧ Reads w B 1 A2 k (u8s l2) ∧ FedAt B pc w wx (.slice Ad s.done.length cd) (.slice Al s.line.length cl) (feedS s l1) v ∧ At 56 [(0, .pointer (some ⟨pc, 0, none⟩)), (1, .slice A2 k c2), (5, v)] a) (n) ?_ ?_
    · exact ⟨[], l, A, c, _, rfl, hl, hnc, hr, ⟨⟨[], _, _, _, OwnR.nil _ _, rfl, fun _ h => (by cases h), hc, FromV.refl _ _, FromV.refl _ _⟩, Apart.refl _ _⟩, hA⟩
    clear hA
    rintro k a wx ⟨l1, l2, A2, c2, v, hl12, hk, hkc, hr2, hF, hA⟩
    refine wS (wS (wR ?_))
    revert a; (iterate 3 refine wo rfl rfl (by decide) (fun ev e h => by simp [go_sem, h] <;> rfl) ?_); intro a hA
    replace hA := hA.keepN [0, 1, 5, 11]
    refine wN (nT ?_)
    refine wp_if hA 11 _ rfl (fun hq => ?yL) (fun hq => ?nL)
    case nL =>
      have hk0 : k = 0 := by simp at hq; omega
      have : l2 = [] := List.length_eq_zero_iff.1 (by omega)
      subst this
      rw [List.append_nil] at hl12
      replace hA := hA.keepN [5]
      refine wp_exit (xT (xT (xB (nT (wS (wR ?_))))))
      revert a; (iterate 2 refine wo rfl rfl (by decide) (fun ev e h => by simp [go_sem, h] <;> rfl) ?_); intro a hA
      replace hA := hA.keepN [4]
      refine wN (nT (wp_ret ?_))
      refine ret_1 hA 4 rfl rfl ?_
      exact ⟨v, rfl, hl12 ▸ hF⟩
    case yL =>
      have hk0 : 0 < k := by simp at hq; omega
      have hlen := feedS_len l1 s
      have hln : l1.length + k = n := by rw [← hl, hl12, List.length_append, hk]
      have hlf := feedS_left l1 s hleft
      have hwx : B ≤ wx.heap.size := Nat.le_trans hB hF.turn.size
      have hrx : Reads wx B 1 A2 k (u8s l2) := hr2.turnB hF.turn hB fun _ ad e hlt hs2 => by
        rcases hs2 with e2 | e2 | e2
        · exact readsP_blk (p := (A2, l2)) (show Reads _ _ _ _ _ _ from hk.symm ▸ hr2.more hB) hc.blk rfl (by simp only []; omega) ad e e2
        · have := (hc.d.lt _ e2).1; omega
        · have := (hc.l.lt _ e2).1; omega
      obtain ⟨s1, hs1⟩ : ∃ s1, (feedS s l1).1 = s1 := ⟨_, rfl⟩
      obtain ⟨o1, ho1⟩ : ∃ o1, (feedS s l1).2 = o1 := ⟨_, rfl⟩
      have hws := hF.turn.size
      obtain ⟨⟨us, vd1, vl1, va1, hv1, hm1, hu1, hc1, hd1, hl1⟩, T1⟩ := hF
      rw [hs1] at hc1 hlen hlf
      rw [ho1] at hm1 hlen
      have K := hc1.blk
      obtain ⟨ad, rfl, hadl, hcell⟩ := hrx.2 hk0
      refine wp_skip (nT (wB (wS (wS (wR ?_)))))
      revert a; (iterate 5 refine wo rfl rfl (by decide) (fun ev e h => by simp [go_sem, h, K.cell] <;> rfl) ?_); intro a hA
      replace hA := hA.keepN [0, 1, 5, 16]
      refine wN (nT ?_)
      refine wp_if hA 16 _ rfl (fun hq2 => ?yM) (fun hq2 => ?nM)
      case yM =>
        have hpos : 0 < s1.left := by simpa using hq2
        obtain ⟨Ad1, cd1, rfl, hcd1⟩ := hc1.d.form
        obtain ⟨Al1, cl1, rfl, hcl1⟩ := hc1.l.form
        obtain ⟨Aa1, ca1, rfl, hca1⟩ := hc1.a.form
        obtain ⟨m, hm⟩ : ∃ m, min s1.left k = m := ⟨_, rfl⟩
        have hmk : m ≤ k := by omega
        have hml : m ≤ s1.left := by omega
        have hm0 : 0 < m := by omega
        have i1 : min ((s1.left : Nat) : Int) ((k : Nat) : Int) = ((m : Nat) : Int) := by omega
        have i2 : (m : Int) ≤ (c2 : Int) := by omega
        have hlm : (l2.take m).length = m := by rw [List.length_take]; omega
        refine wS (wR ?_)
        revert a; (iterate 8 refine wo rfl rfl (by decide) (fun ev e h => by simp [go_sem, h, K.cell, i1] <;> rfl) ?_); intro a hA
        replace hA := hA.keepN [0, 1, 5, 6]
        refine wN (nT (wS ?_))
        have hpcx : pc < wx.heap.size := K.lt
        have pQ := fun (wo : World) (hC : (fun wy => wx.grownBy wy (Value.slice Ad1 s1.done.length cd1).ownBlock) wo) => have Kx := K.grown hC (fun e => absurd rfl (hc1.d.ne K (by decide) pc e.symm)); (Kx.cell)
        refine wp_region_split 9 ?_
        simp only [List.take_succ_cons, List.take_zero, List.drop_succ_cons, List.drop_zero]
        refine wp_any_split_at hA [(.det ?dQ0), (.det ?dQ1), (.det ?dQ2), (.det ?dQ3), (.det ?dQ4), (.det ?dQ5), (.det ?dQ6), (.det ?dQ7), (.held (fun v wy => OwnX B wy v (s1.done ++ l2.take m) ∧ (v.ownBlock = (Value.slice Ad1 s1.done.length cd1).ownBlock ∨ ∃ g, v.ownBlock = some g ∧ wx.heap.size ≤ g)))] [⟨none, (some 8), [], fun _ => (fun wy => OwnX B wy (.slice Ad1 s1.done.length cd1) s1.done), fun _ _ _ _ h => h⟩] (fun wy => wx.grownBy wy (Value.slice Ad1 s1.done.length cd1).ownBlock) (TSp [(8, fun _ _ => True)] Grows) (by kernel_rfl) rfl (by kernel_rfl) (by kernel_rfl) rfl (by kernel_rfl) (by kernel_rfl) (by kernel_rfl) (by kernel_rfl) (⟨rfl, rfl, rfl, Nat.le_refl _, fun _ _ _ => rfl⟩) (stab_sp [(8, fun _ _ => True)] [true, true, true, true, true, true, true, true, false] [true, true, true, true, true, true, true, true, true] [] rfl rfl rfl (by kernel_rfl) ⟨trivial, trivial, trivial, trivial, trivial, trivial, trivial, trivial, (fun _ _ _ _ hp hb => ⟨hp.1.below hb, hp.2⟩), trivial⟩ trivial) (List.forall_mem_cons.2 ⟨(fun hn => hc1.d), (fun _ h => by cases h)⟩) (phase_sp [(8, fun _ _ => True)] [(none, (some 8))] [] rfl (by kernel_rfl) (List.forall_mem_cons.2 ⟨fun _ => fun _ _ _ hp hb => hp.below hb, (fun _ h => by cases h)⟩) trivial) (List.forall_mem_cons.2 ⟨(fun a h => by first | (exact (no_1 h).elim) | (injection h with h; subst h; exact Nat.le_of_ble_eq_true rfl)), (fun _ h => by cases h)⟩) ⟨?oQ0, ?oQ1, ?oQ2, ?oQ3, ?oQ4, ?oQ5, ?oQ6, ?oQ7, ?oQ8, trivial⟩ (by kernel_rfl) ?fQ
        case oQ0 => intro ev wo hev hC hs hph; have x0 := se hA hs 0; exact od rfl rfl (by kernel_rfl) hC (TSp.of rfl (Grows.refl _)) (by simp [go_sem, x0, i2] <;> rfl)
        case oQ1 => intro ev wo hev hC hs hph; have x0 := se hA hs 0; exact od rfl rfl (by kernel_rfl) hC (TSp.of rfl (Grows.refl _)) (by simp [go_sem, x0, i2] <;> rfl)
        case oQ2 => intro ev wo hev hC hs hph; have x0 := sd hs 25 1; exact od rfl rfl (by kernel_rfl) hC (TSp.of rfl (Grows.refl _)) (by simp [go_sem, x0, i2] <;> rfl)
        case oQ3 => intro ev wo hev hC hs hph; have x0 := sd hs 26 2; exact od rfl rfl (by kernel_rfl) hC (TSp.of rfl (Grows.refl _)) (by simp [go_sem, x0, i2] <;> rfl)
        case oQ4 => intro ev wo hev hC hs hph; have x0 := sd hs 27 3; exact od rfl rfl (by kernel_rfl) hC (TSp.of rfl (Grows.refl _)) (by simp [go_sem, x0, pQ _ hC, K.cell, i1, i2] <;> rfl)
        case oQ5 => intro ev wo hev hC hs hph; have x0 := se hA hs 1; exact od rfl rfl (by kernel_rfl) hC (TSp.of rfl (Grows.refl _)) (by simp [go_sem, x0, i2] <;> rfl)
        case oQ6 => intro ev wo hev hC hs hph; have x0 := se hA hs 6; exact od rfl rfl (by kernel_rfl) hC (TSp.of rfl (Grows.refl _)) (by simp [go_sem, x0, i2] <;> rfl)
        case oQ7 => intro ev wo hev hC hs hph; have x0 := sd hs 29 5; have x1 := sd hs 30 6; exact od rfl rfl (by kernel_rfl) hC (TSp.of rfl (Grows.refl _)) (by simp [go_sem, x0, x1, i2] <;> rfl)
        case oQ8 =>
          intro ev wo hev hC hs hph
          have e28 := sd hs 28 4
          have e31 := sd hs 31 7
          have Kx := K.grown hC (fun e => absurd rfl (hc1.d.ne K (by decide) pc e.symm))
          have od := (hph _ List.mem_cons_self (by kernel_rfl))
          have rb := (((hrx.grown hC hwx fun g e => (hc1.d.lt g e).1).more (Nat.le_trans hwx hC.size)).take8 hmk)
          obtain ⟨r, w3, hr, ho, hg, hf⟩ := run_appX (m := l2.take m) (A := some ad) (c := c2) od (hlm.symm ▸ rb) (by omega) (Nat.le_trans hwx hC.size)
          rw [hlm] at hr
          exact ob_yes (wanted_none rfl) (does_value (exec_append rfl e28 e31 hr) ⟨grown_tr hC hg, TSp.sp rfl trivial, ⟨ho, hf.imp id fun e => ⟨_, e, hC.size⟩⟩, no_start (by kernel_rfl)⟩)
        intro sg wf hC hph
        intro x32 hx32 h32
        intro a hA
        replace hA := hA.keepN [0, 1, 5, 6, 24, 32]
        obtain ⟨ho3, hf3⟩ := h32
        have K0 := K
        replace K := K.grown hC fun e => by have := hc1.d.ne K (by decide) pc e.symm; exact this rfl
        have ol3 := hc1.l.grown hC hc1.dl.symm
        have oa3 := hc1.a.grown hC hc1.da.symm
        have hfr : FromV wx (.slice Ad1 s1.done.length cd1) x32 := fun g e => by
          rcases hf3 with e1 | ⟨g1, e1, h1⟩
          · rw [e1] at e; exact .inl e
          · rw [e1] at e; injection e with e; exact .inr (e ▸ h1)
        have hsl : sepV x32 (.slice Al1 s1.line.length cl1) := fun g e e2 => by
          rcases hfr g e with e1 | e1
          · exact hc1.dl g e1 e2
          · have := (hc1.l.lt g e2).2; omega
        have hsa : sepV x32 (.slice Aa1 s1.ahead.length ca1) := fun g e e2 => by
          rcases hfr g e with e1 | e1
          · exact hc1.da g e1 e2
          · have := (hc1.a.lt g e2).2; omega
        have U3 : TurnC pc (.slice Ad1 s1.done.length cd1) (.slice Al1 s1.line.length cl1) wx _ := (Apart.refl _ wx).grown hC fun g e => .inr (.inr (.inl e))
        obtain ⟨A3, c3, rfl, hc3⟩ := ho3.form
        have K1 := K
        revert a; (iterate 2 refine wo rfl rfl (by decide) (fun ev e h => by simp [go_sem, h, K.cell] <;> rfl) ?_); intro a hA
        refine wl_setf ([.slice A3 (s1.done ++ l2.take m).length c3, .slice Al1 s1.line.length cl1, .int .i64 (s1.left : Nat), .bool s1.lost, .slice Aa1 s1.ahead.length ca1]) _ hA rfl rfl K (j := 0) (by rfl) (fun ev h => by simp [go_sem, h.get 34 rfl, h.get 32 rfl, K.cell, K.cell, K.frozen]; try first | exact ⟨rfl, rfl⟩ | rfl) fun w4 (K : Blk _ _ _ _) hs4 => ?_
        have U4 := U3.only hs4 (.inr (.inl rfl))
        have od4 := ho3.only hs4 (ho3.ne K1 (by decide))
        have ol4 := ol3.only hs4 (ol3.ne K1 (by decide))
        have oa4 := oa3.only hs4 (oa3.ne K1 (by decide))
        have K2 := K
        have i3 : IntKind.i64.wrap ((s1.left : Int) - (m : Int)) = ((s1.left - m : Nat) : Int) := by rw [IntWalk.i64_in _ (by omega)]; omega
        replace hA := hA.keepN [0, 1, 5, 6]
        refine wN (nT (wS (wR ?_)))
        revert a; (iterate 8 refine wo rfl rfl (by decide) (fun ev e h => by simp [go_sem, h, K.cell, i3] <;> rfl) ?_); intro a hA
        refine wl_setf ([.slice A3 (s1.done ++ l2.take m).length c3, .slice Al1 s1.line.length cl1, .int .i64 (s1.left - m : Nat), .bool s1.lost, .slice Aa1 s1.ahead.length ca1]) _ hA rfl rfl K (j := 2) (by rfl) (fun ev h => by simp [go_sem, h.get 42 rfl, h.get 40 rfl, K.cell, i3, K.cell, K.frozen]; try first | exact ⟨rfl, rfl⟩ | rfl) fun w5 (K : Blk _ _ _ _) hs5 => ?_
        have U5 := U4.only hs5 (.inr (.inl rfl))
        have od5 := od4.only hs5 (od4.ne K2 (by decide))
        have ol5 := ol4.only hs5 (ol4.ne K2 (by decide))
        have oa5 := oa4.only hs5 (oa4.ne K2 (by decide))
        have i4 : (m : Int) ≤ (k : Int) := by omega
        replace hA := hA.keepN [0, 1, 5, 6]
        refine wN (nT (wS (wR ?_)))
        revert a; (iterate 4 refine wo rfl rfl (by decide) (fun ev e h => by simp [go_sem, h, i4, hmk] <;> rfl) ?_); intro a hA
        replace hA := hA.keepN [0, 1, 5]
        replace hA := hA.keepN [0, 1, 5]
        refine wN (nT (wp_exit (xT (xB (nT ?_)))))
        have hfs : feedS s (l1 ++ l2.take m) = (⟨s1.done ++ l2.take m, s1.line, s1.left - m, s1.lost, s1.ahead⟩, o1) := by rw [feed_append, hs1, ho1, feed_left _ _ (by omega), hlm, List.append_nil]
        exact ⟨k - m, by omega, l1 ++ l2.take m, l2.drop m, _, c2 - m, v, by rw [List.append_assoc, List.take_append_drop]; exact hl12, by rw [List.length_drop]; omega, by omega, hr2.drop8 (k := m) hmk hkc, hfs ▸ fed_quiet hv1 hm1 hu1 hc1 hd1 hl1 T1 U5 ⟨K, od5, ol5, oa5, hsl, hsa, hc1.la⟩ hfr (FromV.refl _ _), hA⟩
      case nM =>
        have hz : s1.left = 0 := by simpa using hq2
        match l2, hk with
        | [], hk =>
          exact absurd hk (by simp; omega)
        | x :: r, hk =>
          have hx : wx.cell? ad = some (.int .u8 ((x.toNat : Nat) : Int)) := by
            have h0 := hcell 0 _ rfl
            rwa [show ad.add 0 = ad by cases ad; simp [Addr.add]] at h0
          have hst : stepS s1 x = addS s1 x := by unfold stepS; rw [if_neg (by omega)]
          have hadl := (stepS_len s1 x).2
          rw [hst] at hadl
          have hul : us.length = o1.length := by rw [← hm1, List.length_map]
          refine wp_skip (nT (wS (wR ?_)))
          revert a; (iterate 5 refine wo rfl rfl (by decide) (fun ev e h => by simp [go_sem, h, hx, hk0] <;> rfl) ?_); intro a hA
          refine wl_call hA rfl rfl (by decide) (fun ev h => exec_call Tryd.func26 (by kernel_rfl) rfl (h.f _) (by first | (simp only [mL, h.get 47 rfl, h.get 50 rfl, h.c] <;> rfl) | (simp [mL, h.get 47 rfl, h.get 50 rfl, h.c, hx, hk0] <;> rfl))) (add_any pc B x s1 _ _ _ _ hpc hwx hc1 (by omega) (by omega) hz) ?_
          rintro e w2 ⟨r1, rfl, he⟩
          refine ⟨_, rfl, fun a hA => ?_⟩
          obtain ⟨v2, w3, hr3, hF3⟩ := fed_step hws hv1 hm1 hu1 hc1 hd1 hl1 T1 he (by omega)
          refine wl_op hA rfl rfl (by decide) (fun ev h => exec_append rfl (h.get 46 rfl) (h.get 51 rfl) hr3) fun a hA => ?_
          have hfs : feedS s (l1 ++ [x]) = ((addS s1 x).1, o1 ++ (addS s1 x).2) := by rw [feed_append, hs1, ho1, feed_cons, feed_nil, hst]; simp
          have i1 : (1 : Int) ≤ (k : Int) := by omega
          revert a; refine wo rfl rfl (by decide) (fun ev e h => by simp [go_sem, h, i1, hk0] <;> rfl) ?_; intro a hA
          replace hA := hA.keepN [0, 1, 5]
          refine wN (nT (wR ?_))
          revert a; (iterate 3 refine wo rfl rfl (by decide) (fun ev e h => by simp [go_sem, h, i1, hk0] <;> rfl) ?_); intro a hA
          replace hA := hA.keepN [0, 1, 5]
          refine wN (nB (nT ?_))
          exact ⟨k - 1, by omega, l1 ++ [x], r, _, c2 - 1, v2, by rw [hl12, List.append_assoc]; rfl, by rw [List.length_cons] at hk; omega, by omega, hr2.drop8 (k := 1) hk0 hkc, hfs ▸ hF3, hA⟩
end Go.Proofs.YtaljodmhalodhaaDoor
/-
  Walk: cubbylaw15.awake.
-/
namespace Go.Proofs.YtaljodmhalodhaaDoor
open Go.RowKit
set_option linter.unusedSimpArgs false
set_option linter.unusedVariables false
def noop : List UInt8 := [65, 49, 32, 78, 79, 79, 80, 13, 10]
theorem feed_noop : feedS chunk0 noop = (chunk0, [(1, [65, 49, 32, 78, 79, 79, 80])]) := by rfl
set_option maxRecDepth 100000 in
set_option maxHeartbeats 4000000 in
theorem awake15_any (w : World) : Calls Tryd.prog 7 #[] w fun ev w' => ev = .returned (.bool true) ∧ Below w.heap.size w w' := by
  refine calls_at 24 Tryd.func7 rfl rfl (Nat.le_of_ble_eq_true rfl) ?_
  intro a hA; replace hA := hA.norm
  refine wS (wR ?_)
  revert a; refine wo rfl rfl (by decide) (fun ev e h => by simp [go_sem, h] <;> rfl) ?_; intro a hA
  replace hA := hA.keepN []
  refine wN (nT (wS (wR ?_)))
  refine wl_new hA rfl rfl (by decide) (fun ev h => by simp [go_sem]; try first | exact ⟨rfl, rfl⟩ | rfl) fun w1 a (K : Blk _ _ _ _) hz1 hb1 hA => ?_
  replace hA := hA.keepN [1]
  refine wN (nT (wS (wR ?_)))
  refine wl_new hA rfl rfl (by decide) (fun ev h => by simp [go_sem, h.c]; try first | exact ⟨rfl, rfl⟩ | rfl) fun w2 a (KY : Blk _ _ _ _) hz2 hb2 hA => ?_
  obtain ⟨w3, hr3, hg3, ry⟩ := conv_same (l := noop) KY 9 9
  refine wl_op hA rfl rfl (by decide) (fun ev h => by simp [go_sem, h.get 3 rfl, hr3]; try first | exact ⟨rfl, rfl⟩ | rfl) fun a hA => ?_
  have hb3 : Below w1.heap.size w1 w3 := ⟨hg3.os.trans hb2.os, hg3.tape.trans hb2.tape, hg3.output.trans hb2.output, Nat.le_trans hb2.size hg3.size, fun i hi => (hg3.block i (Nat.lt_of_lt_of_le hi hb2.size) fun e => by injection e; omega).trans (hb2.block i hi)⟩
  replace K := K.below hb3 K.lt
  have hpc : w.heap.size < w3.heap.size := by have := hb3.size; omega
  refine wl_call hA rfl rfl (by decide) (fun ev h => exec_call Tryd.func15 (by kernel_rfl) rfl (h.f _) (by first | (simp only [mL, h.get 1 rfl, h.get 4 rfl, h.c] <;> rfl) | (simp [mL, h.get 1 rfl, h.get 4 rfl, h.c] <;> rfl))) (feed_any w.heap.size w3.heap.size 9 9 _ noop chunk0 _ _ _ _ hpc (Nat.le_refl _) (chunk_zero K) rfl (Nat.le_refl _) ry (by decide) (by decide)) ?_
  rintro e w4 ⟨v, rfl, hF⟩
  refine ⟨_, rfl, fun a hA => ?_⟩
  rw [feed_noop] at hF
  obtain ⟨⟨us, vd, vl, va, hv, hm, hu, _⟩, T⟩ := hF
  have HB : Below w.heap.size w w4 := (hb1.trans (hb3.mono hb1.size)).trans (T.toBelow (fun i hi => by
    rcases hi with e | e | e
    · omega
    · cases e
    · cases e) (Nat.le_of_lt hpc))
  obtain ⟨u, r, rfl, h1, h2⟩ := List.map_eq_cons_iff.1 hm
  have h3 : r = [] := List.map_eq_nil_iff.1 h2
  subst h3
  obtain ⟨k, Au, cu, b⟩ := u
  injection h1 with hm1 hm2
  have hm1 : k = 1 := hm1
  have hm2 : b = [65, 49, 32, 78, 79, 79, 80] := hm2
  subst hm1 hm2
  obtain ⟨g, cg, rfl, hBg, hgl⟩ := hv.at_ (by simp)
  have x0 : w4.cell? ⟨g, 0, none⟩ = some (.int .i64 1) := hv.cellAt (i := 0) (j := 0) rfl rfl
  have x1 : w4.cell? ⟨g, 1, none⟩ = some (.slice Au 7 cu) := hv.cellAt (i := 0) (j := 1) rfl rfl
  have hcv : (convert 22 9 (.slice Au 7 cu)).run Tryd.prog w4 = .ok (.string ⟨#[65, 49, 32, 78, 79, 79, 80]⟩) w4 := conv_reads (c := cu) (l := [65, 49, 32, 78, 79, 79, 80]) rfl (hv.octs _ (List.mem_singleton.2 rfl) _ (List.mem_singleton.2 rfl))
  revert a; refine wo rfl rfl (by decide) (fun ev e h => by simp [go_sem, h, x0, x1, hcv] <;> rfl) ?_; intro a hA
  replace hA := hA.keepN [2]
  refine wN (nT (wS (wR ?_)))
  revert a; (iterate 4 refine wo rfl rfl (by decide) (fun ev e h => by simp [go_sem, h, x0, x1, hcv] <;> rfl) ?_); (iterate 5 refine wg _ rfl rfl rfl rfl (by decide) (fun hq ev e h => by simp [go_sem, h, ↓gw_t (beq_t hq), x0, x1, hcv] <;> rfl) ?_); refine wka rfl rfl (by decide) rfl rfl rfl ?_; intro a hA
  replace hA := hA.keepN [2, 15]
  revert a; refine wo rfl rfl (by decide) (fun ev e h => by simp [go_sem, h, x0, x1, hcv] <;> rfl) ?_; (iterate 4 refine wg _ rfl rfl rfl rfl (by decide) (fun hq ev e h => by simp [go_sem, h, ↓gw_t (beq_t hq), x0, x1, hcv] <;> rfl) ?_); intro a hA
  refine wl_guard _ hA rfl rfl rfl rfl (by decide) (fun hq ev h => by simp [go_sem, ((h.get 20 rfl).trans (gw_t (beq_t hq))), x0, x1, hcv]; try first | exact ⟨rfl, rfl⟩ | rfl) fun a hA => ?_
  revert a; refine wg _ rfl rfl rfl rfl (by decide) (fun hq ev e h => by simp [go_sem, h, ↓gw_t (beq_t hq), x0, x1, hcv] <;> rfl) ?_; refine wka rfl rfl (by decide) rfl rfl rfl ?_; refine wo rfl rfl (by decide) (fun ev e h => by simp [go_sem, h, x0, x1, hcv] <;> rfl) ?_; intro a hA
  replace hA := hA.keepN [0]
  refine wN (nT (wp_ret ?_))
  refine ret_1 hA 0 rfl rfl ?_
  exact ⟨ret_bool (by simp), HB⟩
end Go.Proofs.YtaljodmhalodhaaDoor
/-
  Walk: bytes in parts to a chunk (cubbylaw15.Fed).
-/
namespace Go.Proofs.YtaljodmhalodhaaDoor
open Go.RowKit
set_option linter.unusedSimpArgs false
set_option linter.unusedVariables false
theorem FedAt.end {B pc : Nat} {w w' : World} {vd vl v : Value} {p : ChunkS × List UnitB} (h : FedAt B pc w w' vd vl p v) : ChunkEnd B pc w w' vd vl p v := by
  obtain ⟨⟨us, vd2, vl2, va2, hv, hm, hu, hc, hd, hl⟩, T⟩ := h
  obtain ⟨A, c, e, hr, _⟩ := hv.reads
  exact ⟨⟨us, vd2, vl2, va2, ⟨⟨A, c, e, hr⟩, fun u hx ad e => (hu u hx ad e).1, fun u hx ad e => (hu u hx ad e).2.1, fun u hx ad e => (hu u hx ad e).2.2⟩, hm, hc, hd, hl⟩, T⟩
set_option maxRecDepth 100000 in
set_option maxHeartbeats 4000000 in
theorem waits_any {B pc : Nat} {s : ChunkS} {vd vl va : Value} (w : World) (hc : ChunkAt B w pc s vd vl va) : Calls Tryd.prog 16 #[.pointer (some ⟨pc, 0, none⟩)] w fun ev w' => ev = .returned (.bool (decide (0 < s.left))) ∧ w' = w := by
  obtain ⟨Ad, cd, rfl, _⟩ := hc.d.form
  obtain ⟨Al, cl, rfl, _⟩ := hc.l.form
  obtain ⟨Aa, ca, rfl, _⟩ := hc.a.form
  have K := hc.blk
  refine calls_at 12 Tryd.func16 rfl rfl (Nat.le_of_ble_eq_true rfl) ?_
  intro a hA; replace hA := hA.norm
  refine wS (wR ?_)
  revert a; refine wo rfl rfl (by decide) (fun ev e h => by simp [go_sem, h, K.cell] <;> rfl) ?_; intro a hA
  replace hA := hA.keepN [0]
  refine wN (nT (wS (wR ?_)))
  revert a; (iterate 3 refine wo rfl rfl (by decide) (fun ev e h => by simp [go_sem, h, K.cell] <;> rfl) ?_); (iterate 5 refine wg _ rfl rfl rfl rfl (by decide) (fun hq ev e h => by simp [go_sem, h, ↓gw_t (beq_t hq), K.cell] <;> rfl) ?_); refine wka rfl rfl (by decide) rfl rfl rfl ?_; refine wo rfl rfl (by decide) (fun ev e h => by simp [go_sem, h, K.cell] <;> rfl) ?_; intro a hA
  replace hA := hA.keepN [2]
  refine wN (nT (wp_ret ?_))
  refine ret_1 hA 2 rfl rfl ?_
  exact ⟨ret_bool (by simp), rfl⟩
set_option maxRecDepth 100000 in
set_option maxHeartbeats 4000000 in
theorem fed_any (A P : Option Addr) (n c np cp : Nat) (b ps : List UInt8) (w : World) (hl : b.length = n) (hn : n ≤ 20000) (hnc : n ≤ c) (hr : Reads w w.heap.size 1 A n (u8s b)) (hp : ps.length = np) (hnp : np ≤ 100) (hrp : Reads w w.heap.size 1 P np (u8s ps)) :
    Calls Tryd.prog 8 #[.slice A n c, .slice P np cp] w fun ev w' => ∃ v us, ev = .returned (.tuple #[v, .bool (decide (0 < (feedS chunk0 b).1.left))]) ∧ OwnR unitSh w.heap.size w' v us ∧ us.map unitB = (feedS chunk0 b).2 ∧ Below w.heap.size w w' := by
  refine calls_at 49 Tryd.func8 rfl rfl (Nat.le_of_ble_eq_true rfl) ?_
  intro a hA; replace hA := hA.norm
  refine wS (wR ?_)
  revert a; (iterate 2 refine wo rfl rfl (by decide) (fun ev e h => by simp [go_sem, h] <;> rfl) ?_); intro a hA
  replace hA := hA.keepN [0, 1]
  refine wN (nT (wS (wR ?_)))
  refine wl_new hA rfl rfl (by decide) (fun ev h => by simp [go_sem]; try first | exact ⟨rfl, rfl⟩ | rfl) fun w1 a (K : Blk _ _ _ _) hz1 hb1 hA => ?_
  replace hA := hA.keepN [0, 1, 6]
  refine wN (nT (wS (wR ?_)))
  revert a; refine wo rfl rfl (by decide) (fun ev e h => by simp [go_sem, h] <;> rfl) ?_; intro a hA
  replace hA := hA.keepN [0, 1, 6, 7]
  refine wN (nT (wS (wR ?_)))
  revert a; refine wo rfl rfl (by decide) (fun ev e h => by simp [go_sem, h] <;> rfl) ?_; intro a hA
  replace hA := hA.keepN [0, 1, 6, 7, 8]
  refine wN (nT (wS (wS (wR ?_))))
  revert a; refine wo rfl rfl (by decide) (fun ev e h => by simp [go_sem, h] <;> rfl) ?_; intro a hA
  replace hA := hA.keepN [0, 1, 6, 7, 8, 9]
  refine wN (nT (wB ?_))
  have F0 : FedAt w1.heap.size w.heap.size w1 w1 (.slice none 0 0) (.slice none 0 0) (chunk0, []) (.slice none 0 0) := ⟨⟨[], _, _, _, OwnR.nil _ _, rfl, fun _ h => (by cases h), chunk_zero K, FromV.refl _ _, FromV.refl _ _⟩, Apart.refl _ _⟩
  refine wp_loop_at (fun k a wx => ∃ (i j : Nat) (v : Value), i + k = n ∧ j ≤ i ∧ FedAt w1.heap.size w.heap.size w1 wx (.slice none 0 0) (.slice none 0 0) (feedS chunk0 (b.take i)) v ∧ At 49 [(0, .slice A n c), (1, .slice P np cp), (6, .pointer (some ⟨w.heap.size, 0, none⟩)), (7, v), (8, .int .i64 (j : Nat)), (9, .int .i64 (i : Nat))] a) (n) ?_ ?_
  · exact ⟨0, 0, _, by omega, Nat.le_refl _, F0, hA⟩
  clear hA
  rintro k a wx ⟨i, j, v, hik, hji, hF, hA⟩
  refine wS (wS (wR ?_))
  revert a; (iterate 4 refine wo rfl rfl (by decide) (fun ev e h => by simp [go_sem, h] <;> rfl) ?_); intro a hA
  replace hA := hA.keepN [0, 1, 6, 7, 8, 9, 14]
  refine wN (nT ?_)
  refine wp_if hA 14 _ rfl (fun hq => ?yL) (fun hq => ?nL)
  case nL =>
    have hin : i = n := by simp at hq; omega
    rw [hin, List.take_of_length_le (by omega)] at hF
    obtain ⟨⟨us, vd, vl, va, hv, hm, hu, hc, hd1, hl1⟩, T⟩ := hF
    have HB : Below w.heap.size w wx := hb1.trans (T.toBelow (fun i hi => by
      rcases hi with e | e | e
      · omega
      · cases e
      · cases e) (by omega))
    replace hA := hA.keepN [6, 7]
    refine wp_exit (xT (xT (xB (nT (wS (wR ?_))))))
    revert a; refine wo rfl rfl (by decide) (fun ev e h => by simp [go_sem, h] <;> rfl) ?_; intro a hA
    refine wl_call hA rfl rfl (by decide) (fun ev h => exec_call Tryd.func16 (by kernel_rfl) rfl (h.f _) (by first | (simp only [mL, h.get 6 rfl, h.c] <;> rfl) | (simp [mL, h.get 6 rfl, h.c] <;> rfl))) (waits_any _ hc) ?_
    rintro e w2 ⟨rfl, rfl⟩
    refine ⟨_, rfl, fun a hA => ?_⟩
    revert a; (iterate 2 refine wo rfl rfl (by decide) (fun ev e h => by simp [go_sem, h] <;> rfl) ?_); intro a hA
    replace hA := hA.keepN [4, 5]
    refine wN (nT (wp_ret ?_))
    refine ret_2 hA 4 5 rfl rfl rfl ?_
    exact ⟨v, us, rfl, hv.mono (by omega), hm, HB⟩
  case yL =>
    have hin : i < n := by simp at hq; omega
    have HB : Below w.heap.size w wx := hb1.trans (hF.turn.toBelow (fun i hi => by
      rcases hi with e | e | e
      · omega
      · cases e
      · cases e) (by omega))
    have e1 : IntKind.i64.wrap ((n : Int) - (i : Int)) = ((n - i : Nat) : Int) := by rw [IntWalk.i64_in _ (by omega)]; omega
    refine wp_skip (nT (wS (wB (wS (wR ?_)))))
    revert a; (iterate 5 refine wo rfl rfl (by decide) (fun ev e h => by simp [go_sem, h, e1] <;> rfl) ?_); intro a hA
    replace hA := hA.keepN [0, 1, 6, 7, 8, 9, 10]
    refine wN (nT (wS (wS (wR ?_))))
    revert a; (iterate 3 refine wo rfl rfl (by decide) (fun ev e h => by simp [go_sem, h, e1] <;> rfl) ?_); intro a hA
    replace hA := hA.keepN [0, 1, 6, 7, 8, 9, 10, 23]
    refine wN (nT ?_)
    refine wp_join (fun a w2 => ∃ m : Nat, 0 < m ∧ i + m ≤ n ∧ w2 = wx ∧ At 49 [(0, .slice A n c), (1, .slice P np cp), (6, .pointer (some ⟨w.heap.size, 0, none⟩)), (7, v), (8, .int .i64 (j : Nat)), (9, .int .i64 (i : Nat)), (10, .int .i64 (m : Nat))] a) ?jfJ ?jrJ
    case jfJ =>
      refine wp_if hA 23 _ rfl (fun hq2 => ?yM) (fun hq2 => ?nM)
      case nM =>
        replace hA := hA.keepN [0, 1, 6, 7, 8, 9, 10]
        refine wp_skip (nT ?_)
        exact ⟨n - i, by omega, by omega, rfl, hA⟩
      case yM =>
        have hnp0 : 0 < np := by simpa using hq2
        obtain ⟨ap, rfl, hapl, hcp⟩ := (hrp.below HB).2 hnp0
        have hjm : j % np < np := Nat.mod_lt _ hnp0
        obtain ⟨y, hy⟩ : ∃ y, ps[j % np]? = some y := ⟨_, List.getElem?_eq_getElem (by omega)⟩
        have hx : wx.cell? (ap.add (j % np)) = some (.int .u8 ((y.toNat : Nat) : Int)) := hcp _ _ (by simp [u8s, hy])
        have e2 : (j : Int).tmod (np : Int) = ((j % np : Nat) : Int) := by rw [Int.tmod_eq_emod_of_nonneg (by omega)]; rfl
        have hy2 : y.toNat < 256 := UInt8.toNat_lt y
        have e3 : IntKind.i64.wrap (1 + ((y.toNat : Nat) : Int)) = ((1 + y.toNat : Nat) : Int) := by rw [IntWalk.i64_in _ (by omega)]; omega
        have e4 : IntKind.i64.wrap ((y.toNat : Nat) : Int) = ((y.toNat : Nat) : Int) := IntWalk.i64_in _ (by omega)
        have e5 : IntKind.i64.wrap ((j % np : Nat) : Int) = ((j % np : Nat) : Int) := IntWalk.i64_in _ (by omega)
        have hnz : ¬ np = 0 := by omega
        obtain ⟨q, hqe⟩ : ∃ q, j % np = q := ⟨_, rfl⟩
        rw [hqe] at hjm hx e2 e5
        obtain ⟨m, hm⟩ : ∃ m, min (n - i) (1 + y.toNat) = m := ⟨_, rfl⟩
        have e6 : min ((n - i : Nat) : Int) ((1 + y.toNat : Nat) : Int) = ((m : Nat) : Int) := by omega
        refine wR ?_
        revert a; (iterate 8 refine wo rfl rfl (by decide) (fun ev e h => by simp [go_sem, h, e2, e5, hnz, hjm, hx, e4, e3, e6] <;> rfl) ?_); intro a hA
        refine wl_op hA rfl rfl (by decide) (fun ev h => by simp [go_sem, h.get 31 rfl, e2, e5, hnz, hjm, hx, e4, e3, e6]; try first | exact ⟨rfl, rfl⟩ | rfl) fun a hA => ?_
        revert a; refine wo rfl rfl (by decide) (fun ev e h => by simp [go_sem, h, e2, e5, hnz, hjm, hx, e4, e3, e6] <;> rfl) ?_; intro a hA
        replace hA := hA.keepN [0, 1, 6, 7, 8, 9, 24, 33]
        revert a; (iterate 2 refine wo rfl rfl (by decide) (fun ev e h => by simp [go_sem, h, e2, e5, hnz, hjm, hx, e4, e3, e6] <;> rfl) ?_); intro a hA
        replace hA := hA.keepN [0, 1, 6, 7, 8, 9, 10]
        refine wN (nT ?_)
        rw [show min ((n - i : Nat) : Int) (1 + ((y.toNat : Nat) : Int)) = ((m : Nat) : Int) by omega] at hA
        exact ⟨m, by omega, by omega, rfl, hA⟩
    case jrJ =>
      clear hA
      rintro a w2 ⟨m, hm0, him, rfl, hA⟩
      obtain ⟨ad, rfl, hadl, _⟩ := hr.2 (by omega)
      obtain ⟨t, ht⟩ : ∃ t, i + m = t := ⟨_, rfl⟩
      have f1 : IntKind.i64.wrap ((i : Int) + (m : Int)) = ((t : Nat) : Int) := by rw [IntWalk.i64_in _ (by omega)]; omega
      have f3 : (t : Int) ≤ (c : Int) := by omega
      have f3b : t ≤ c := by omega
      have f4 : (i : Int) ≤ (t : Int) := by omega
      have f4b : i ≤ t := by omega
      have f5 : t - i = m := by omega
      have f6 : ¬ (c = i) := by omega
      have f7 : IntKind.i64.wrap ((j : Int) + 1) = ((j + 1 : Nat) : Int) := by rw [IntWalk.i64_in _ (by omega)]; omega
      have hrs := (((hr.below HB).more hb1.size).drop8 (k := i) (by omega) hnc).take8 (k := m) (by omega)
      rw [if_neg f6] at hrs
      have hpl : ((b.drop i).take m).length = m := by rw [List.length_take, List.length_drop]; omega
      have hlen := feedS_len (b.take i) chunk0
      have hlf := feedS_left (b.take i) chunk0 (by decide)
      have hli : (b.take i).length = i := by rw [List.length_take]; omega
      have hws := hF.turn.size
      obtain ⟨s1, hs1⟩ : ∃ s1, (feedS chunk0 (b.take i)).1 = s1 := ⟨_, rfl⟩
      obtain ⟨o1, ho1⟩ : ∃ o1, (feedS chunk0 (b.take i)).2 = o1 := ⟨_, rfl⟩
      obtain ⟨⟨us, vd1, vl1, va1, hv1, hm1, hu1, hc1, hd1, hl1⟩, T1⟩ := hF
      rw [hs1] at hc1 hlen hlf
      rw [ho1] at hm1 hlen
      have h00 : chunk0.done.length + chunk0.line.length = 0 := rfl
      have hl2 := feedS_len ((b.drop i).take m) s1
      have hul : us.length = o1.length := by rw [← hm1, List.length_map]
      refine wS (wR ?_)
      revert a; (iterate 7 refine wo rfl rfl (by decide) (fun ev e h => by simp [go_sem, h, f1, f3, f3b, f4, f4b, f5, f6] <;> rfl) ?_); intro a hA
      refine wl_call hA rfl rfl (by decide) (fun ev h => exec_call Tryd.func15 (by kernel_rfl) rfl (h.f _) (by first | (simp only [mL, h.get 6 rfl, h.get 41 rfl, h.c] <;> rfl) | (simp [mL, h.get 6 rfl, h.get 41 rfl, h.c, f1, f3, f3b, f4, f4b, f5, f6] <;> rfl))) (feed_any w.heap.size w1.heap.size m (c - i) (some (ad.add i)) ((b.drop i).take m) s1 _ _ _ _ (by omega) hws hc1 hpl (by omega) hrs (by omega) hlf) ?_
      rintro e w3 ⟨r1, rfl, hF2⟩
      refine ⟨_, rfl, fun a hA => ?_⟩
      obtain ⟨v3, w4, hr3, hF3⟩ := fed_step hws hv1 hm1 hu1 hc1 hd1 hl1 T1 hF2.end (by omega)
      refine wl_op hA rfl rfl (by decide) (fun ev h => exec_append rfl (h.get 35 rfl) (h.get 42 rfl) hr3) fun a hA => ?_
      have hfs : feedS chunk0 (b.take t) = ((feedS s1 ((b.drop i).take m)).1, o1 ++ (feedS s1 ((b.drop i).take m)).2) := by rw [← ht, List.take_add, feed_append, hs1, ho1]
      revert a; refine wo rfl rfl (by decide) (fun ev e h => by simp [go_sem, h, f1, f7] <;> rfl) ?_; intro a hA
      replace hA := hA.keepN [0, 1, 6, 7, 8, 9, 10]
      refine wN (nT (wR ?_))
      revert a; (iterate 4 refine wo rfl rfl (by decide) (fun ev e h => by simp [go_sem, h, f1, f7] <;> rfl) ?_); intro a hA
      replace hA := hA.keepN [0, 1, 6, 7, 8, 9]
      refine wN (nB (nT (wR ?_)))
      revert a; (iterate 3 refine wo rfl rfl (by decide) (fun ev e h => by simp [go_sem, h, f1, f7] <;> rfl) ?_); intro a hA
      replace hA := hA.keepN [0, 1, 6, 7, 8, 9]
      refine wN (nT ?_)
      exact ⟨k - m, by omega, t, j + 1, v3, by omega, by omega, hfs ▸ hF3, hA⟩
end Go.Proofs.YtaljodmhalodhaaDoor
/-
  Walk: cubbylaw15.some.
-/
namespace Go.Proofs.YtaljodmhalodhaaDoor
open Go.RowKit
set_option linter.unusedSimpArgs false
set_option linter.unusedVariables false
set_option maxRecDepth 100000 in
set_option maxHeartbeats 4000000 in
theorem some15_any (l : List UInt8) (w : World) (hl : l.length ≤ 1000000) : Calls Tryd.prog 18 #[.string (St l)] w fun ev w' => ev = .returned (.string (St (l.take 100))) ∧ w' = w := by
  obtain ⟨m, hm⟩ : ∃ m, min l.length 100 = m := ⟨_, rfl⟩
  have h1 : (St l).size = l.length := rfl
  have h2 : min ((l.length : Nat) : Int) 100 = ((m : Nat) : Int) := by omega
  have h3 : (m : Int) ≤ ((l.length : Nat) : Int) := by omega
  have h4 : (St l).extract 0 m = St (l.take 100) := by
    rw [extract_take]
    congr 1
    rcases Nat.le_total l.length 100 with h | h
    · rw [List.take_of_length_le (by omega), List.take_of_length_le (by omega)]
    · rw [show m = 100 by omega]
  refine calls_at 8 Tryd.func18 rfl rfl (Nat.le_of_ble_eq_true rfl) ?_
  intro a hA; replace hA := hA.norm
  refine wS (wR ?_)
  revert a; refine wo rfl rfl (by decide) (fun ev e h => by simp [go_sem, h, h1, h2, h3, h4] <;> rfl) ?_; intro a hA
  replace hA := hA.keepN [0]
  refine wN (nT (wS (wR ?_)))
  revert a; (iterate 6 refine wo rfl rfl (by decide) (fun ev e h => by simp [go_sem, h, h1, h2, h3, h4] <;> rfl) ?_); intro a hA
  replace hA := hA.keepN [2]
  refine wN (nT (wp_ret ?_))
  refine ret_1 hA 2 rfl rfl ?_
  exact ⟨ret_str (by simp), rfl⟩
end Go.Proofs.YtaljodmhalodhaaDoor
/-
  Walk: cubbylaw15.wants.
-/
namespace Go.Proofs.YtaljodmhalodhaaDoor
open Go.RowKit
set_option linter.unusedSimpArgs false
set_option linter.unusedVariables false
theorem litV_none {l : List UInt8} (h : litP l = none) : litV l = -1 := by unfold litV; rw [h]
theorem litV_some {l : List UInt8} {n : Nat} (h : litP l = some n) : litV l = (n : Nat) := by unfold litV; rw [h]
theorem valB_go (t : List UInt8) : ∀ a : Nat, t.foldl (fun n b => n * 10 + (b.toNat - 48)) a = a * 10 ^ t.length + valB t := by
  induction t with
  | nil => intro a; simp [valB]
  | cons x t ih =>
    intro a
    unfold valB
    rw [List.foldl_cons, List.foldl_cons, ih, ih]
    rw [List.length_cons, Nat.pow_succ, Nat.add_mul, Nat.zero_mul, Nat.zero_add, Nat.mul_assoc, Nat.mul_comm 10, Nat.add_assoc]
theorem valB_cons (x : UInt8) (t : List UInt8) : valB (x :: t) = (x.toNat - 48) * 10 ^ t.length + valB t := by
  show (x :: t).foldl _ 0 = _
  rw [List.foldl_cons, valB_go, Nat.zero_mul, Nat.zero_add]
set_option maxRecDepth 100000 in
set_option maxHeartbeats 4000000 in
theorem wants_any (l : List UInt8) (w : World) (hl : l.length ≤ 1000000) : Calls Tryd.prog 17 #[.string (St l)] w fun ev w' => ev = .returned (.int .i64 (litV l)) ∧ w' = w := by
  rcases List.eq_nil_or_concat l with e | ⟨s, y, e⟩
  · subst e
    refine calls_at 70 Tryd.func17 rfl rfl (Nat.le_of_ble_eq_true rfl) ?_
    intro a hA; replace hA := hA.norm
    refine wS (wR ?_)
    refine wl_op hA rfl rfl (by decide) (fun ev h => by simp [go_sem, h.c]; try first | exact ⟨rfl, rfl⟩ | rfl) fun a hA => ?_
    replace hA := hA.keepN [0]
    refine wN (nT (wS (wS (wR ?_))))
    refine wl_op hA rfl rfl (by decide) (fun ev h => by simp [go_sem, h.get 0 rfl]; try first | exact ⟨rfl, rfl⟩ | rfl) fun a hA => ?_
    refine wl_op hA rfl rfl (by decide) (fun ev h => by simp [go_sem, h.c, h.get 7 rfl]; try first | exact ⟨rfl, rfl⟩ | rfl) fun a hA => ?_
    refine wl_op hA rfl rfl (by decide) (fun ev h => by simp [go_sem, h.get 8 rfl]; try first | exact ⟨rfl, rfl⟩ | rfl) fun a hA => ?_
    refine wl_guard _ (v := .bool false) hA rfl rfl rfl rfl (by decide) (fun hq ev h => by first | (cases hq; done) | (cases hr; done)) fun a hA => ?_
    refine wl_guard _ (v := .bool false) hA rfl rfl rfl rfl (by decide) (fun hq ev h => by first | (cases hq; done) | (cases hr; done)) fun a hA => ?_
    refine wl_guard _ (v := .bool false) hA rfl rfl rfl rfl (by decide) (fun hq ev h => by first | (cases hq; done) | (cases hr; done)) fun a hA => ?_
    refine wl_guard _ (v := .bool false) hA rfl rfl rfl rfl (by decide) (fun hq ev h => by first | (cases hq; done) | (cases hr; done)) fun a hA => ?_
    refine wl_guard _ (v := .bool false) hA rfl rfl rfl rfl (by decide) (fun hq ev h => by first | (cases hq; done) | (cases hr; done)) fun a hA => ?_
    refine wl_guard _ (v := .bool false) hA rfl rfl rfl rfl (by decide) (fun hq ev h => by first | (cases hq; done) | (cases hr; done)) fun a hA => ?_
    revert a; (first | refine wko rfl rfl (by decide) rfl rfl rfl ?_ | refine wo rfl rfl (by decide) (fun ev e h => by simp [go_sem, h, gv_or, gv_and] <;> rfl) ?_); intro a hA
    replace hA := hA.keepN [0, 16]
    refine wN (nT ?_)
    refine wp_if hA 16 _ rfl (fun hq => ?yL) (fun hq => ?nL)
    case nL =>
      cases hq
    case yL =>
      refine wS (wR ?_)
      revert a; refine wo rfl rfl (by decide) (fun ev e h => by simp [go_sem, h] <;> rfl) ?_; intro a hA
      replace hA := hA.keepN [2]
      refine wN (nT (wp_ret (rT ?_)))
      refine ret_1 hA 2 rfl rfl ?_
      exact ⟨rfl, rfl⟩
  · rw [List.concat_eq_append] at e
    subst e
    have h1 : (St (s ++ [y])).size = s.length + 1 := by show (s ++ [y]).length = _; rw [List.length_append]; rfl
    have h2 : (St (s ++ [y]) == (⟨#[]⟩ : ByteArray)) = false := by
      show ((s ++ [y]).toArray == #[]) = false
      refine beq_eq_false_iff_ne.2 fun e => ?_
      have := congrArg Array.size e
      simp at this
    rw [List.length_append] at hl
    have h3 : IntKind.i64.wrap (((s.length + 1 : Nat) : Int) - 1) = ((s.length : Nat) : Int) := by rw [IntWalk.i64_in _ (by simp at hl; omega)]; omega
    refine calls_at 70 Tryd.func17 rfl rfl (Nat.le_of_ble_eq_true rfl) ?_
    intro a hA; replace hA := hA.norm
    have h4 : IntKind.i64.wrap ((s.length : Nat) : Int) = ((s.length : Nat) : Int) := IntWalk.i64_in _ (by simp at hl; omega)
    have h5 : ((s.length : Nat) : Int) < ((s.length : Nat) : Int) + 1 := by omega
    have h6 : ∀ h : s.length < (St (s ++ [y])).size, (St (s ++ [y]))[s.length] = y := fun h => get_snoc s y _ rfl h
    refine wS (wR ?_)
    revert a; refine wo rfl rfl (by decide) (fun ev e h => by simp [go_sem, h, h1, h2, h3, h4, h5, h6] <;> rfl) ?_; intro a hA
    replace hA := hA.keepN [0]
    refine wN (nT (wS (wS (wR ?_))))
    revert a; (iterate 3 refine wo rfl rfl (by decide) (fun ev e h => by simp [go_sem, h, h1, h2, h3, h4, h5, h6] <;> rfl) ?_); (iterate 6 refine wg _ rfl rfl rfl rfl (by decide) (fun hq ev e h => by simp [go_sem, h, ↓gw_t (beq_t hq), h1, h2, h3, h4, h5, h6] <;> rfl) ?_); (first | refine wko rfl rfl (by decide) rfl rfl rfl ?_ | refine wo rfl rfl (by decide) (fun ev e h => by simp [go_sem, h, gv_or, gv_and, h1, h2, h3, h4, h5, h6] <;> rfl) ?_); intro a hA
    replace hA := hA.keepN [0, 16]
    refine wN (nT ?_)
    refine wp_if hA 16 _ rfl (fun hq => ?yL) (fun hq => ?nL)
    case yL =>
      have hy : (s ++ [y]).getLast? ≠ some 125 := by
        rw [List.getLast?_concat]
        intro e
        injection e with e
        rw [e] at hq
        simp at hq
      refine wS (wR ?_)
      revert a; refine wo rfl rfl (by decide) (fun ev e h => by simp [go_sem, h, h1, h2, h3, h4, h5, h6] <;> rfl) ?_; intro a hA
      replace hA := hA.keepN [2]
      refine wN (nT (wp_ret (rT ?_)))
      refine ret_1 hA 2 rfl rfl ?_
      exact ⟨by rw [litV_none (lit_end hy)], rfl⟩
    case nL =>
      have hy : y = 125 := by
        have h7 : y.toNat = 125 := by simp at hq; omega
        exact UInt8.toNat_inj.1 h7
      subst hy
      have hl2 : s.length ≤ 1000000 := by simp at hl; omega
      have h7 : IntKind.i64.wrap (((s.length : Nat) : Int) + 1 - 2) = ((s.length : Nat) : Int) - 1 := by rw [IntWalk.i64_in _ (by omega)]; omega
      refine wp_skip (nT (wS (wR ?_)))
      revert a; (iterate 4 refine wo rfl rfl (by decide) (fun ev e h => by simp [go_sem, h, h1, h7] <;> rfl) ?_); intro a hA
      replace hA := hA.keepN [0, 3]
      refine wN (nT (wS (wR ?_)))
      revert a; (iterate 3 refine wo rfl rfl (by decide) (fun ev e h => by simp [go_sem, h, h1, h7] <;> rfl) ?_); intro a hA
      replace hA := hA.keepN [0, 3, 4, 5, 6]
      refine wN (nT (wS (wB ?_)))
      refine wp_loop_at (fun f a wx => ∃ k : Nat, k + f = 7 ∧ k ≤ s.length ∧ (∀ x ∈ s.reverse.take k, digitB x = true) ∧ valB (s.drop (s.length - k)) < 10 ^ k ∧ wx = w ∧ At 70 [(0, .string (St (s ++ [125]))), (3, .int .i64 (((s.length : Nat) : Int) - 1 - ((k : Nat) : Int))), (4, .int .i64 (valB (s.drop (s.length - k)) : Nat)), (5, .int .i64 (10 ^ k : Nat)), (6, .int .i64 (k : Nat))] a) (7) ?_ ?_
      · refine ⟨0, rfl, Nat.zero_le _, by simp, by simp [valB], rfl, ?_⟩
        rw [show ((s.length : Nat) : Int) - 1 - ((0 : Nat) : Int) = ((s.length : Nat) : Int) - 1 by omega, show valB (s.drop (s.length - 0)) = 0 by simp [valB]]
        exact hA
      clear hA
      rintro f a wx ⟨k, hkf, hks, hdig, hVp, rfl, hA⟩
      rcases Nat.lt_or_ge k s.length with hlt | hge
      · obtain ⟨j, hj⟩ : ∃ j, s.length - 1 - k = j := ⟨_, rfl⟩
        have e1 : ((s.length : Nat) : Int) - 1 - ((k : Nat) : Int) = ((j : Nat) : Int) := by omega
        have hjl : j < s.length := by omega
        obtain ⟨x, hx⟩ : ∃ x, s[j]? = some x := ⟨_, List.getElem?_eq_getElem hjl⟩
        have hxr : s.reverse[k]? = some x := by rw [List.getElem?_reverse hlt, hj, hx]
        have g1 : ∀ h : j < (St (s ++ [125])).size, (St (s ++ [125]))[j] = x := fun h => by
          show (s ++ [125])[j]'_ = x
          rw [List.getElem_append_left hjl]
          exact (List.getElem?_eq_some_iff.1 hx).2
        have g2 : IntKind.i64.wrap ((j : Nat) : Int) = ((j : Nat) : Int) := IntWalk.i64_in _ (by omega)
        have g3 : ((j : Nat) : Int) < ((s.length : Nat) : Int) + 1 := by omega
        have g4 : j < s.length + 1 := by omega
        rw [e1] at hA
        refine wS (wS (wR ?_))
        revert a; (iterate 3 refine wo rfl rfl (by decide) (fun ev e h => by simp [go_sem, h, h1, g1, g2, g3, g4] <;> rfl) ?_); (iterate 4 refine wg _ rfl rfl rfl rfl (by decide) (fun hq ev e h => by simp [go_sem, h, ↓gw_t (beq_t hq), h1, g1, g2, g3, g4] <;> rfl) ?_); (first | refine wka rfl rfl (by decide) rfl rfl rfl ?_ | refine wo rfl rfl (by decide) (fun ev e h => by simp [go_sem, h, gv_or, gv_and, h1, g1, g2, g3, g4] <;> rfl) ?_); refine wo rfl rfl (by decide) (fun ev e h => by simp [go_sem, h, h1, g1, g2, g3, g4] <;> rfl) ?_; refine wg _ rfl rfl rfl rfl (by decide) (fun hq ev e h => by simp [go_sem, h, ↓gw_t (beq_t hq), h1, g1, g2, g3, g4] <;> rfl) ?_; intro a hA
        replace hA := hA.keepN [0, 3, 4, 5, 6, 28, 29]
        revert a; (iterate 3 refine wg _ rfl rfl rfl rfl (by decide) (fun hq ev e h => by simp [go_sem, h, ↓gw_t (beq_t hq), h1, g1, g2, g3, g4] <;> rfl) ?_); (first | refine wka rfl rfl (by decide) rfl rfl rfl ?_ | refine wo rfl rfl (by decide) (fun ev e h => by simp [go_sem, h, gv_or, gv_and, h1, g1, g2, g3, g4] <;> rfl) ?_); refine wo rfl rfl (by decide) (fun ev e h => by simp [go_sem, h, h1, g1, g2, g3, g4] <;> rfl) ?_; (iterate 2 refine wg _ rfl rfl rfl rfl (by decide) (fun hq ev e h => by simp [go_sem, h, ↓gw_t (beq_t hq), h1, g1, g2, g3, g4] <;> rfl) ?_); (first | refine wka rfl rfl (by decide) rfl rfl rfl ?_ | refine wo rfl rfl (by decide) (fun ev e h => by simp [go_sem, h, gv_or, gv_and, h1, g1, g2, g3, g4] <;> rfl) ?_); intro a hA
        replace hA := hA.keepN [0, 3, 4, 5, 6, 37]
        refine wN (nT ?_)
        refine wp_if hA 37 _ rfl (fun hq3 => ?yM) (fun hq3 => ?nM)
        case yM =>
          simp only [Bool.and_eq_true, decide_eq_true_eq] at hq3
          have hk7 : k < 7 := by omega
          have hp6 : 10 ^ k ≤ 1000000 := Nat.le_trans (Nat.pow_le_pow_right (by decide) (show k ≤ 6 by omega)) (by decide)
          have hdr : s.drop (s.length - (k + 1)) = x :: s.drop (s.length - k) := by
            rw [show s.length - (k + 1) = j by omega, show s.length - k = j + 1 by omega, ← (List.getElem?_eq_some_iff.1 hx).2]
            exact List.drop_eq_getElem_cons hjl
          have hvl : valB (s.drop (s.length - (k + 1))) = (x.toNat - 48) * 10 ^ k + valB (s.drop (s.length - k)) := by
            rw [hdr, valB_cons, List.length_drop, show s.length - (s.length - k) = k by omega]
          have hpk : 10 ^ (k + 1) = 10 ^ k * 10 := Nat.pow_succ ..
          have hdig2 : ∀ z ∈ s.reverse.take (k + 1), digitB z = true := fun z hz => by
            rw [List.take_add_one, hxr] at hz
            rcases List.mem_append.1 hz with h | h
            · exact hdig z h
            · rw [List.mem_singleton.1 h]; unfold digitB; simp; omega
          obtain ⟨V, hV⟩ : ∃ V, valB (s.drop (s.length - k)) = V := ⟨_, rfl⟩
          obtain ⟨p, hp⟩ : ∃ p, 10 ^ k = p := ⟨_, rfl⟩
          obtain ⟨d, hd⟩ : ∃ d, x.toNat - 48 = d := ⟨_, rfl⟩
          rw [hV, hp] at hA hVp
          rw [hp] at hp6
          rw [hd, hp, hV] at hvl
          rw [hp] at hpk
          obtain ⟨pd, hpd⟩ : ∃ pd, p * d = pd := ⟨_, rfl⟩
          have hpd9 : pd ≤ p * 9 := hpd ▸ Nat.mul_le_mul_left p (by omega)
          have m1 : IntKind.u8.wrap (((x.toNat : Nat) : Int) - 48) = ((d : Nat) : Int) := by
            rw [show ((x.toNat : Nat) : Int) - 48 = ((d : Nat) : Int) by omega]
            exact IntWalk.u8_in _ (by omega)
          have m2 : IntKind.i64.wrap ((d : Nat) : Int) = ((d : Nat) : Int) := IntWalk.i64_in _ (by omega)
          have m3 : ((p : Nat) : Int) * ((d : Nat) : Int) = ((pd : Nat) : Int) := by rw [← hpd]; exact (Int.natCast_mul p d).symm
          have m3b : IntKind.i64.wrap ((pd : Nat) : Int) = ((pd : Nat) : Int) := IntWalk.i64_in _ (by omega)
          have m4 : IntKind.i64.wrap (((V : Nat) : Int) + ((pd : Nat) : Int)) = ((V + pd : Nat) : Int) := by rw [IntWalk.i64_in _ (by omega)]; omega
          have m5 : IntKind.i64.wrap (((p : Nat) : Int) * 10) = ((p * 10 : Nat) : Int) := by rw [IntWalk.i64_in _ (by omega)]; omega
          have m6 : IntKind.i64.wrap (((k : Nat) : Int) + 1) = ((k + 1 : Nat) : Int) := by rw [IntWalk.i64_in _ (by omega)]; omega
          have m7 : IntKind.i64.wrap (((j : Nat) : Int) - 1) = ((s.length : Nat) : Int) - 1 - ((k + 1 : Nat) : Int) := by rw [IntWalk.i64_in _ (by omega)]; omega
          refine wp_skip (nT (wB (wS (wR ?_))))
          revert a; (iterate 6 refine wo rfl rfl (by decide) (fun ev e h => by simp [go_sem, h, h1, g1, g2, g3, g4, m1, m2, m3, m3b, m4, m5, m6, m7] <;> rfl) ?_); intro a hA
          refine wl_op hA rfl rfl (by decide) (fun ev h => by simp [go_sem, h.get 43 rfl, h1, g1, g2, g3, g4, m1, m2, m3, m3b, m4, m5, m6, m7]; try first | exact ⟨rfl, rfl⟩ | rfl) fun a hA => ?_
          revert a; (iterate 3 refine wo rfl rfl (by decide) (fun ev e h => by simp [go_sem, h, h1, g1, g2, g3, g4, m1, m2, m3, m3b, m4, m5, m6, m7] <;> rfl) ?_); intro a hA
          replace hA := hA.keepN [0, 3, 4, 5, 6]
          refine wN (nT (wS (wR ?_)))
          revert a; (iterate 3 refine wo rfl rfl (by decide) (fun ev e h => by simp [go_sem, h, h1, g1, g2, g3, g4, m1, m2, m3, m3b, m4, m5, m6, m7] <;> rfl) ?_); intro a hA
          replace hA := hA.keepN [0, 3, 4, 5, 6]
          refine wN (nT (wS (wR ?_)))
          revert a; (iterate 3 refine wo rfl rfl (by decide) (fun ev e h => by simp [go_sem, h, h1, g1, g2, g3, g4, m1, m2, m3, m3b, m4, m5, m6, m7] <;> rfl) ?_); intro a hA
          replace hA := hA.keepN [0, 3, 4, 5, 6]
          refine wN (nT (wR ?_))
          revert a; (iterate 3 refine wo rfl rfl (by decide) (fun ev e h => by simp [go_sem, h, h1, g1, g2, g3, g4, m1, m2, m3, m3b, m4, m5, m6, m7] <;> rfl) ?_); intro a hA
          replace hA := hA.keepN [0, 3, 4, 5, 6]
          refine wN (nB (nT ?_))
          have n1 : ((V : Nat) : Int) + ((pd : Nat) : Int) = ((valB (s.drop (s.length - (k + 1))) : Nat) : Int) := by
            rw [hvl, Nat.mul_comm d p, hpd]; omega
          have n2 : ((p : Nat) : Int) * 10 = ((10 ^ (k + 1) : Nat) : Int) := by rw [hpk]; omega
          have n3 : ((k : Nat) : Int) + 1 = ((k + 1 : Nat) : Int) := by omega
          rw [n1, n2, n3] at hA
          exact ⟨f - 1, by omega, k + 1, by omega, by omega, hdig2, by rw [hvl, hpk, Nat.mul_comm d p, hpd]; omega, rfl, hA⟩
        case nM =>
          replace hA := hA.keepN [0, 3, 4, 6]
          refine wp_exit (xT (xT (xB (nT (wS (wS (wR ?_)))))))
          revert a; (iterate 3 refine wo rfl rfl (by decide) (fun ev e h => by simp [go_sem, h, h1, g1, g2, g3, g4] <;> rfl) ?_); (iterate 4 refine wg _ rfl rfl rfl rfl (by decide) (fun hq ev e h => by simp [go_sem, h, ↓gw_t (beq_t hq), h1, g1, g2, g3, g4] <;> rfl) ?_); (first | refine wko rfl rfl (by decide) rfl rfl rfl ?_ | refine wo rfl rfl (by decide) (fun ev e h => by simp [go_sem, h, gv_or, gv_and, h1, g1, g2, g3, g4] <;> rfl) ?_); refine wo rfl rfl (by decide) (fun ev e h => by simp [go_sem, h, h1, g1, g2, g3, g4] <;> rfl) ?_; refine wg _ rfl rfl rfl rfl (by decide) (fun hq ev e h => by simp [go_sem, h, ↓gw_t (beq_t hq), h1, g1, g2, g3, g4] <;> rfl) ?_; intro a hA
          replace hA := hA.keepN [4, 6, 61, 62]
          revert a; refine wg _ rfl rfl rfl rfl (by decide) (fun hq ev e h => by simp [go_sem, h, ↓gw_t (beq_t hq), h1, g1, g2, g3, g4] <;> rfl) ?_; (first | refine wko rfl rfl (by decide) rfl rfl rfl ?_ | refine wo rfl rfl (by decide) (fun ev e h => by simp [go_sem, h, gv_or, gv_and, h1, g1, g2, g3, g4] <;> rfl) ?_); refine wo rfl rfl (by decide) (fun ev e h => by simp [go_sem, h, h1, g1, g2, g3, g4] <;> rfl) ?_; (iterate 2 refine wg _ rfl rfl rfl rfl (by decide) (fun hq ev e h => by simp [go_sem, h, ↓gw_t (beq_t hq), h1, g1, g2, g3, g4] <;> rfl) ?_); (first | refine wko rfl rfl (by decide) rfl rfl rfl ?_ | refine wo rfl rfl (by decide) (fun ev e h => by simp [go_sem, h, gv_or, gv_and, h1, g1, g2, g3, g4] <;> rfl) ?_); intro a hA
          replace hA := hA.keepN [4, 68]
          refine wN (nT ?_)
          have hstop : 6 < k ∨ ∀ z, s.reverse[k]? = some z → digitB z = false := by
            rcases Nat.lt_or_ge 6 k with h | h
            · exact .inl h
            · refine .inr fun z hz => ?_
              rw [hxr] at hz
              injection hz with hz
              subst hz
              unfold digitB
              simp at hq3 ⊢
              omega
          refine wp_if hA 68 _ rfl (fun hq4 => ?yT2) (fun hq4 => ?nT2)
          case yT2 =>
            refine wS (wR ?_)
            revert a; refine wo rfl rfl (by decide) (fun ev e h => by simp [go_sem, h, h1, g1, g2, g3, g4] <;> rfl) ?_; intro a hA
            replace hA := hA.keepN [2]
            refine wN (nT (wp_ret (rT ?_)))
            refine ret_1 hA 2 rfl rfl ?_
            refine ⟨?_, rfl⟩
            rw [litV_none]
            rw [lit_digits (k := k) hks hdig hstop, if_neg]
            rintro ⟨h8, h9, h10⟩
            rw [hxr] at h8
            injection h8 with h8
            subst h8
            simp at hq4
            omega
          case nT2 =>
            have hx3 : x = 123 ∧ 1 ≤ k ∧ k ≤ 6 := by
              simp at hq4
              exact ⟨UInt8.toNat_inj.1 (by show x.toNat = 123; omega), by omega, by omega⟩
            refine wp_skip (nT (wS (wR ?_)))
            revert a; (iterate 2 refine wo rfl rfl (by decide) (fun ev e h => by simp [go_sem, h, h1, g1, g2, g3, g4] <;> rfl) ?_); intro a hA
            replace hA := hA.keepN [2]
            refine wN (nT (wp_ret ?_))
            refine ret_1 hA 2 rfl rfl ?_
            refine ⟨?_, rfl⟩
            rw [litV_some (n := valB (s.drop (s.length - k)))]
            rw [lit_digits (k := k) hks hdig hstop, if_pos ⟨by rw [hxr, hx3.1], hx3.2⟩]
      · have hk : k = s.length := by omega
        have e1 : ((s.length : Nat) : Int) - 1 - ((k : Nat) : Int) = -1 := by omega
        rw [e1] at hA
        refine wS (wS (wR ?_))
        refine wl_op hA rfl rfl (by decide) (fun ev h => by simp [go_sem, h.get 3 rfl]; try first | exact ⟨rfl, rfl⟩ | rfl) fun a hA => ?_
        refine wl_op hA rfl rfl (by decide) (fun ev h => by simp [go_sem, h.c, h.get 20 rfl]; try first | exact ⟨rfl, rfl⟩ | rfl) fun a hA => ?_
        refine wl_op hA rfl rfl (by decide) (fun ev h => by simp [go_sem, h.get 21 rfl]; try first | exact ⟨rfl, rfl⟩ | rfl) fun a hA => ?_
        refine wl_guard _ (v := .bool false) hA rfl rfl rfl rfl (by decide) (fun hq ev h => by first | (cases hq; done) | (cases hr; done)) fun a hA => ?_
        refine wl_guard _ (v := .bool false) hA rfl rfl rfl rfl (by decide) (fun hq ev h => by first | (cases hq; done) | (cases hr; done)) fun a hA => ?_
        refine wl_guard _ (v := .bool false) hA rfl rfl rfl rfl (by decide) (fun hq ev h => by first | (cases hq; done) | (cases hr; done)) fun a hA => ?_
        refine wl_guard _ (v := .bool false) hA rfl rfl rfl rfl (by decide) (fun hq ev h => by first | (cases hq; done) | (cases hr; done)) fun a hA => ?_
        revert a; (first | refine wka rfl rfl (by decide) rfl rfl rfl ?_ | refine wo rfl rfl (by decide) (fun ev e h => by simp [go_sem, h, gv_or, gv_and] <;> rfl) ?_); intro a hA
        refine wl_op hA rfl rfl (by decide) (fun ev h => by simp [go_sem, h.get 27 rfl]; try first | exact ⟨rfl, rfl⟩ | rfl) fun a hA => ?_
        refine wl_guard _ (v := .bool false) hA rfl rfl rfl rfl (by decide) (fun hq ev h => by first | (cases hq; done) | (cases hr; done)) fun a hA => ?_
        replace hA := hA.keepN [0, 3, 4, 5, 6, 28, 29]
        refine wl_guard _ (v := .bool false) hA rfl rfl rfl rfl (by decide) (fun hq ev h => by first | (cases hq; done) | (cases hr; done)) fun a hA => ?_
        refine wl_guard _ (v := .bool false) hA rfl rfl rfl rfl (by decide) (fun hq ev h => by first | (cases hq; done) | (cases hr; done)) fun a hA => ?_
        refine wl_guard _ (v := .bool false) hA rfl rfl rfl rfl (by decide) (fun hq ev h => by first | (cases hq; done) | (cases hr; done)) fun a hA => ?_
        revert a; (first | refine wka rfl rfl (by decide) rfl rfl rfl ?_ | refine wo rfl rfl (by decide) (fun ev e h => by simp [go_sem, h, gv_or, gv_and] <;> rfl) ?_); intro a hA
        refine wl_op hA rfl rfl (by decide) (fun ev h => by simp [go_sem, h.get 33 rfl]; try first | exact ⟨rfl, rfl⟩ | rfl) fun a hA => ?_
        refine wl_guard _ (v := .bool false) hA rfl rfl rfl rfl (by decide) (fun hq ev h => by first | (cases hq; done) | (cases hr; done)) fun a hA => ?_
        refine wl_guard _ (v := .bool false) hA rfl rfl rfl rfl (by decide) (fun hq ev h => by first | (cases hq; done) | (cases hr; done)) fun a hA => ?_
        revert a; (first | refine wka rfl rfl (by decide) rfl rfl rfl ?_ | refine wo rfl rfl (by decide) (fun ev e h => by simp [go_sem, h, gv_or, gv_and] <;> rfl) ?_); intro a hA
        replace hA := hA.keepN [0, 3, 4, 5, 6, 37]
        refine wN (nT ?_)
        refine wp_if hA 37 _ rfl (fun hq3 => ?yM) (fun hq3 => ?nM)
        case yM =>
          cases hq3
        case nM =>
          replace hA := hA.keepN [0, 3, 4, 6]
          refine wp_exit (xT (xT (xB (nT (wS (wS (wR ?_)))))))
          refine wl_op hA rfl rfl (by decide) (fun ev h => by simp [go_sem, h.get 3 rfl]; try first | exact ⟨rfl, rfl⟩ | rfl) fun a hA => ?_
          refine wl_op hA rfl rfl (by decide) (fun ev h => by simp [go_sem, h.c, h.get 53 rfl]; try first | exact ⟨rfl, rfl⟩ | rfl) fun a hA => ?_
          refine wl_op hA rfl rfl (by decide) (fun ev h => by simp [go_sem, h.get 54 rfl]; try first | exact ⟨rfl, rfl⟩ | rfl) fun a hA => ?_
          refine wl_guard _ (v := .bool false) hA rfl rfl rfl rfl (by decide) (fun hq ev h => by first | (cases hq; done) | (cases hr; done)) fun a hA => ?_
          refine wl_guard _ (v := .bool false) hA rfl rfl rfl rfl (by decide) (fun hq ev h => by first | (cases hq; done) | (cases hr; done)) fun a hA => ?_
          refine wl_guard _ (v := .bool false) hA rfl rfl rfl rfl (by decide) (fun hq ev h => by first | (cases hq; done) | (cases hr; done)) fun a hA => ?_
          refine wl_guard _ (v := .bool false) hA rfl rfl rfl rfl (by decide) (fun hq ev h => by first | (cases hq; done) | (cases hr; done)) fun a hA => ?_
          revert a; (first | refine wko rfl rfl (by decide) rfl rfl rfl ?_ | refine wo rfl rfl (by decide) (fun ev e h => by simp [go_sem, h, gv_or, gv_and] <;> rfl) ?_); intro a hA
          refine wl_op hA rfl rfl (by decide) (fun ev h => by simp [go_sem, h.get 60 rfl]; try first | exact ⟨rfl, rfl⟩ | rfl) fun a hA => ?_
          refine wl_guard _ (v := .bool false) hA rfl rfl rfl rfl (by decide) (fun hq ev h => by first | (cases hq; done) | (cases hr; done)) fun a hA => ?_
          replace hA := hA.keepN [4, 6, 61, 62]
          refine wl_guard _ (v := .bool false) hA rfl rfl rfl rfl (by decide) (fun hq ev h => by first | (cases hq; done) | (cases hr; done)) fun a hA => ?_
          revert a; (first | refine wko rfl rfl (by decide) rfl rfl rfl ?_ | refine wo rfl rfl (by decide) (fun ev e h => by simp [go_sem, h, gv_or, gv_and] <;> rfl) ?_); intro a hA
          refine wl_op hA rfl rfl (by decide) (fun ev h => by simp [go_sem, h.get 64 rfl]; try first | exact ⟨rfl, rfl⟩ | rfl) fun a hA => ?_
          refine wl_guard _ (v := .bool false) hA rfl rfl rfl rfl (by decide) (fun hq ev h => by first | (cases hq; done) | (cases hr; done)) fun a hA => ?_
          refine wl_guard _ (v := .bool false) hA rfl rfl rfl rfl (by decide) (fun hq ev h => by first | (cases hq; done) | (cases hr; done)) fun a hA => ?_
          revert a; (first | refine wko rfl rfl (by decide) rfl rfl rfl ?_ | refine wo rfl rfl (by decide) (fun ev e h => by simp [go_sem, h, gv_or, gv_and] <;> rfl) ?_); intro a hA
          replace hA := hA.keepN [4, 68]
          refine wN (nT ?_)
          refine wp_if hA 68 _ rfl (fun hq4 => ?yM2) (fun hq4 => ?nM2)
          case nM2 =>
            cases hq4
          case yM2 =>
            refine wS (wR ?_)
            revert a; refine wo rfl rfl (by decide) (fun ev e h => by simp [go_sem, h] <;> rfl) ?_; intro a hA
            replace hA := hA.keepN [2]
            refine wN (nT (wp_ret (rT ?_)))
            refine ret_1 hA 2 rfl rfl ?_
            refine ⟨?_, rfl⟩
            rw [litV_none]
            rw [lit_digits (k := k) hks hdig (.inr fun x hx => by rw [List.getElem?_eq_none (by rw [List.length_reverse]; omega)] at hx; cases hx), if_neg]
            rintro ⟨h8, _⟩
            rw [List.getElem?_eq_none (by rw [List.length_reverse]; omega)] at h8
            cases h8
end Go.Proofs.YtaljodmhalodhaaDoor
