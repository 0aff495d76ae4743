/-
  The document's disk in memory: its record, its row of files, their bytes.
-/
import Derived.Test.YtplbclbeccoegaaDiskMem2
import Derived.Test.YtplbclbeccoegaaConcat
namespace Go.Proofs.Ytplbclbeccoegaa
open Go.RowKit Go.Maps
def rcell (x : Key × FV) : List Value := [.string ⟨x.1.toArray⟩, .slice x.2.a x.2.m.b.length x.2.c, .int .i64 (x.2.m.safe : Nat), .bool x.2.m.ever]
def rcells (l : List (Key × FV)) : List Value := l.flatMap rcell
theorem rcells_length : ∀ l : List (Key × FV), (rcells l).length = l.length * 4
  | [] => rfl
  | x :: r => by
    have := rcells_length r
    unfold rcells at this ⊢
    rw [List.flatMap_cons, List.length_append, this, List.length_cons]
    show 4 + _ = _
    omega
theorem rcells_at : ∀ (l : List (Key × FV)) (i : Nat) (x : Key × FV), l[i]? = some x → ∀ j, j < 4 → (rcells l)[i * 4 + j]? = (rcell x)[j]?
  | y :: r, 0, x, h, j, hj => by
    injection h with h
    subst h
    unfold rcells
    rw [List.flatMap_cons, List.getElem?_append_left (by show 0 * 4 + j < 4; omega), Nat.zero_mul, Nat.zero_add]
  | y :: r, i + 1, x, h, j, hj => by
    have ih := rcells_at r i x h j hj
    unfold rcells at ih ⊢
    rw [List.flatMap_cons, List.getElem?_append_right (by show 4 ≤ _; omega)]
    have e : (i + 1) * 4 + j - (rcell y).length = i * 4 + j := by show (i + 1) * 4 + j - 4 = _; omega
    rw [e]
    exact ih
theorem rcells_append (l m : List (Key × FV)) : rcells (l ++ m) = rcells l ++ rcells m := List.flatMap_append
theorem rcells_one (l : List (Key × FV)) : ∀ u ∈ rcells l, u.oneCell' = true := by
  intro u hu
  simp only [rcells, List.mem_flatMap] at hu
  obtain ⟨x, _, hx⟩ := hu
  simp only [rcell, List.mem_cons, List.not_mem_nil, or_false] at hx
  rcases hx with rfl | rfl | rfl | rfl <;> rfl
theorem rcells_no8 (l : List (Key × FV)) (k : Int) : ∀ u ∈ rcells l, u ≠ .int .u8 k := by
  intro u hu e
  simp only [rcells, List.mem_flatMap] at hu
  obtain ⟨x, _, hx⟩ := hu
  simp only [rcell, List.mem_cons, List.not_mem_nil, or_false] at hx
  subst e
  rcases hx with h | h | h | h <;> simp at h
theorem rcells_take (l : List (Key × FV)) (k : Nat) : rcells (l.take k) = (rcells l).take (k * 4) := by
  rcases Nat.lt_or_ge k l.length with h | h
  · have e : rcells l = rcells (l.take k) ++ rcells (l.drop k) := by rw [← rcells_append, List.take_append_drop]
    have hl : (rcells (l.take k)).length = k * 4 := by rw [rcells_length, List.length_take]; congr 1; omega
    rw [e, ← hl, List.take_left']
    rfl
  · rw [List.take_of_length_le h, List.take_of_length_le (by rw [rcells_length]; omega)]
theorem rcells_drop (l : List (Key × FV)) (k : Nat) : rcells (l.drop k) = (rcells l).drop (k * 4) := by
  rcases Nat.lt_or_ge k l.length with h | h
  · have e : rcells l = rcells (l.take k) ++ rcells (l.drop k) := by rw [← rcells_append, List.take_append_drop]
    have hl : (rcells (l.take k)).length = k * 4 := by rw [rcells_length, List.length_take]; congr 1; omega
    rw [e, ← hl, List.drop_left']
    rfl
  · rw [List.drop_of_length_le h, List.drop_of_length_le (by rw [rcells_length]; omega)]; rfl
/-- a block of files, without a byte in it -/
def FileRow (w : World) (g : Nat) : Prop := ∃ cur p, w.heap[g]? = some (.cells cur 61 p) ∧ ∀ (j : Nat) (k : Int), cur[j]? ≠ some (.int .u8 k)
theorem FileRow.same {w w' : World} {g : Nat} (h : FileRow w g) (e : w'.heap[g]? = w.heap[g]?) : FileRow w' g := by
  obtain ⟨cur, p, hg, hn⟩ := h
  exact ⟨cur, p, e.trans hg, hn⟩
theorem FileRow.lt {w : World} {g : Nat} (h : FileRow w g) : g < w.heap.size := by
  obtain ⟨cur, p, hg, _⟩ := h
  rcases Nat.lt_or_ge g w.heap.size with h | h
  · exact h
  · rw [Array.getElem?_eq_none h] at hg; cases hg
theorem FileRow.no8 {w : World} {ad : Addr} {k : Int} (hc : w.cell? ad = some (.int .u8 k)) : ¬ FileRow w ad.block := by
  rintro ⟨cur, p, hg, hn⟩
  unfold World.cell? at hc
  rw [hg] at hc
  simp only at hc
  split at hc
  · cases hc
  · exact hn _ _ hc
theorem FileRow.set_ {w : World} {g : Nat} (h : FileRow w g) (g' i : Nat) (v : Value) (hv : ∀ k, v ≠ .int .u8 k) : FileRow (w.setCell ⟨g', i, none⟩ v) g := by
  by_cases e : g = g'
  · subst e
    obtain ⟨cur, p, hg, hn⟩ := h
    refine ⟨cur.setIfInBounds i v, p, ?_, fun j k hj => ?_⟩
    · simp [World.setCell, Array.getElem?_modify, hg]
    · rw [Array.getElem?_setIfInBounds] at hj
      split at hj
      · split at hj
        · injection hj with hj; exact hv _ hj
        · cases hj
      · exact hn _ _ hj
  · exact h.same (Below.heap_setCell _ _ _ _ e)
/-- but for one block and for rows of files that are not older than B nothing has turned -/
structure TBut (B q : Nat) (w w' : World) : Prop where
  os : w'.os = w.os
  tape : w'.tape = w.tape
  output : w'.output = w.output
  size : w.heap.size ≤ w'.heap.size
  block : ∀ i, i < w.heap.size → i ≠ q → (i < B ∨ ¬ FileRow w i) → w'.heap[i]? = w.heap[i]?
section
variable {B q : Nat} {w w' w'' : World}
theorem TBut.refl (B q : Nat) (w : World) : TBut B q w w := ⟨rfl, rfl, rfl, Nat.le_refl _, fun _ _ _ _ => rfl⟩
theorem TBut.trans (h : TBut B q w w') (k : TBut B q w' w'') : TBut B q w w'' := by
  refine ⟨k.os.trans h.os, k.tape.trans h.tape, k.output.trans h.output, Nat.le_trans h.size k.size, fun i hi h1 h2 => ?_⟩
  have e := h.block i hi h1 h2
  refine (k.block i (Nat.lt_of_lt_of_le hi h.size) h1 ?_).trans e
  rcases h2 with h2 | h2
  · exact .inl h2
  · exact .inr fun hf => h2 (hf.same e.symm)
theorem TBut.of_below (k : Below w.heap.size w w') : TBut B q w w' := ⟨k.os, k.tape, k.output, k.size, fun i hi _ _ => k.block i hi⟩
theorem TBut.below (h : TBut B q w w') (k : Below w'.heap.size w' w'') : TBut B q w w'' := h.trans (.of_below k)
theorem TBut.drew (h : TBut B q w w') : TBut B q w w'.drew := ⟨h.os, h.tape, h.output, h.size, h.block⟩
theorem TBut.alloc (h : TBut B q w w') (o : Obj) : TBut B q w (w'.alloc o) := h.below ((Below.refl _ _).alloc (Nat.le_refl _) o)
theorem TBut.set_ (h : TBut B q w w') (i : Nat) (u : Value) : TBut B q w (w'.setCell ⟨q, i, none⟩ u) :=
  h.trans ⟨rfl, rfl, rfl, by simp [World.setCell], fun j _ h1 _ => Below.heap_setCell _ _ _ _ h1⟩
theorem TBut.setRow (h : TBut B q w w') {g : Nat} (hg : FileRow w' g) (hB : B ≤ g) (i : Nat) (u : Value) : TBut B q w (w'.setCell ⟨g, i, none⟩ u) :=
  h.trans ⟨rfl, rfl, rfl, by simp [World.setCell], fun j _ _ h2 => Below.heap_setCell _ _ _ _ (fun e => by
    subst e
    rcases h2 with h2 | h2
    · exact absurd h2 (Nat.not_lt.2 hB)
    · exact h2 hg)⟩
theorem TBut.setNew (h : TBut B q w w') {ad : Addr} (hq : w.heap.size ≤ ad.block) (u : Value) : TBut B q w (w'.setCell ad u) :=
  ⟨h.os, h.tape, h.output, by simpa [World.setCell] using h.size, fun j hj h1 h2 => (Below.heap_setCell _ _ _ _ (by omega)).trans (h.block j hj h1 h2)⟩
theorem TBut.grown (h : TBut B q w w') {row : Option Nat} (g : w'.grownBy w'' row) (hr : ∀ k, row = some k → w.heap.size ≤ k) : TBut B q w w'' :=
  ⟨g.os.trans h.os, g.tape.trans h.tape, g.output.trans h.output, Nat.le_trans h.size g.size, fun i hi h1 h2 => (g.block i (Nat.lt_of_lt_of_le hi h.size) (fun e => by have := hr i e.symm; omega)).trans (h.block i hi h1 h2)⟩
theorem TBut.toBelow (h : TBut B q w w') {C : Nat} (hC : C ≤ w.heap.size) (hB : C ≤ B) (hq : C ≤ q) : Below C w w' :=
  ⟨h.os, h.tape, h.output, h.size, fun i hi => h.block i (by omega) (by omega) (.inl (by omega))⟩
end
/-- the row of a value is one of files, no byte in it -/
def Pure (w : World) (v : Value) : Prop := ∀ g, v.ownBlock = some g → FileRow w g
/-- a row of files that is owned -/
structure FRow (w : World) (B : Nat) (v : Value) (l : List (Key × FV)) : Prop where
  own : w.ownsRow B 61 4 v l.length (rcells l)
  pure : Pure w v
/-- bytes that are owned -/
def Bytes8 (w : World) (f : FV) : Prop := w.ownsRow 0 5 1 (.slice f.a f.m.b.length f.c) f.m.b.length (u8s f.m.b)
def refCells (cap : Nat) (v : Value) (fuse : Int) (lost : Bool) : Array Value := #[.int .i64 (cap : Nat), v, .int .i64 fuse, .bool lost]
structure RefAt (w : World) (B q : Nat) (v : Value) (es : List (Key × FV)) (cap : Nat) (fuse : Int) (lost : Bool) : Prop where
  le : B ≤ q
  cells : Blk w q 32 (refCells cap v fuse lost)
  row : FRow w B v es
  up : Up es
  bytes : ∀ x ∈ es, Bytes8 w x.2
def Ref (w : World) (B q : Nat) (d : DiskM) : Prop := ∃ v es, d.files = fmap FV.m es ∧ RefAt w B q v es d.cap d.fuse d.lost
section
variable {w w' : World} {B q cap : Nat} {v : Value} {es : List (Key × FV)} {fuse : Int} {lost : Bool}
theorem own_keep {base : Nat} {e : TypeId} {size n : Nat} {xs : List Value} (h : w.ownsRow base e size v n xs) (hk : ∀ g, v.ownBlock = some g → w'.heap[g]? = w.heap[g]?) : w'.ownsRow base e size v n xs := by
  refine ⟨h.1, ?_⟩
  rcases h.2 with h0 | ⟨g, cap, cur, rfl, hb, hg, hr⟩
  · exact .inl h0
  · exact .inr ⟨g, cap, cur, rfl, hb, (hk g rfl).trans hg, hr⟩
theorem own_type {base : Nat} {e : TypeId} {size n g : Nat} {xs : List Value} (h : w.ownsRow base e size v n xs) (hv : v.ownBlock = some g) : ∃ cur, w.heap[g]? = some (Obj.cells cur e (0, 0)) := by
  rcases h.2 with ⟨rfl, _⟩ | ⟨g', cap, cur, rfl, hb, hg, hr⟩
  · cases hv
  · injection hv with hv; subst hv; exact ⟨cur, hg⟩
theorem FRow.keep {l : List (Key × FV)} (h : FRow w B v l) (hk : ∀ g, v.ownBlock = some g → w'.heap[g]? = w.heap[g]?) : FRow w' B v l :=
  ⟨own_keep h.own hk, fun g hg => (h.pure g hg).same (hk g hg)⟩
theorem FRow.below {l : List (Key × FV)} (h : FRow w B v l) (hb : Below w.heap.size w w') : FRow w' B v l := h.keep fun g hg => hb.block g (h.pure g hg).lt
theorem FRow.alloc {l : List (Key × FV)} (h : FRow w B v l) (o : Obj) : FRow (w.alloc o) B v l := h.below ((Below.refl _ _).alloc (Nat.le_refl _) o)
theorem FRow.drew {l : List (Key × FV)} (h : FRow w B v l) : FRow w.drew B v l := ⟨h.own, h.pure⟩
theorem FRow.reads {l : List (Key × FV)} (h : FRow w B v l) : ∃ A c, v = .slice A l.length c ∧ Reads w w.heap.size 4 A l.length (rcells l) ∧ l.length ≤ c := own_reads h.own
theorem FRow.nil (w : World) (B : Nat) : FRow w B (.slice none 0 0) [] := ⟨World.ownsRow_nil _ _ _ _, fun g hg => by cases hg⟩
theorem FRow.empty (w : World) (B : Nat) (hB : B ≤ w.heap.size) : FRow (w.alloc (.cells #[] 61)) B (.slice (some ⟨w.heap.size, 0, none⟩) 0 0) [] :=
  ⟨World.ownsRow_lit w #[] 0 hB (by unfold maxLen; omega) rfl, fun g hg => by
    injection hg with hg
    subst hg
    exact ⟨#[], _, heap_alloc_new w _, fun j k h => by simp at h⟩⟩
theorem Bytes8.reads {f : FV} (h : Bytes8 w f) : Reads w w.heap.size 1 f.a f.m.b.length (u8s f.m.b) ∧ f.m.b.length ≤ f.c := by
  obtain ⟨A, c, e, hr, hc⟩ := own_reads h
  injection e with e1 e2 e3
  subst e1 e3
  exact ⟨hr, hc⟩
theorem Bytes8.keep {f : FV} (h : Bytes8 w f) (hk : ∀ (g : Nat) cur p, w.heap[g]? = some (Obj.cells cur 5 p) → w'.heap[g]? = w.heap[g]?) : Bytes8 w' f :=
  own_keep h fun g hg => by
    obtain ⟨cur, hc⟩ := own_type h hg
    exact hk g cur _ hc
theorem Bytes8.below {f : FV} (h : Bytes8 w f) (hb : Below w.heap.size w w') : Bytes8 w' f := h.keep fun g cur p hg => hb.block g (by
    rcases Nat.lt_or_ge g w.heap.size with h | h
    · exact h
    · rw [Array.getElem?_eq_none h] at hg; cases hg)
theorem lt_of_get {w : World} {g : Nat} {o : Obj} (h : w.heap[g]? = some o) : g < w.heap.size := by
  rcases Nat.lt_or_ge g w.heap.size with h' | h'
  · exact h'
  · rw [Array.getElem?_eq_none h'] at h; cases h
theorem Bytes8.tbut {f : FV} (h : Bytes8 w f) {t : TypeId} {cs : Array Value} (ht : t ≠ 5) (hq : Blk w q t cs) (hb : TBut B q w w') : Bytes8 w' f := h.keep fun g cur p hg => by
  refine hb.block g (lt_of_get hg) (fun e => ?_) (.inr ?_)
  · subst e
    unfold Blk at hq
    rw [hq] at hg
    injection hg with hg
    injection hg with _ hg
    exact ht hg
  · rintro ⟨cur', p', h', _⟩
    rw [hg] at h'
    injection h' with h'
    injection h' with _ h'
    exact absurd h' (by decide)
theorem RefAt.keep (h : RefAt w B q v es cap fuse lost) (hk : ∀ (g : Nat) cur t p, w.heap[g]? = some (Obj.cells cur t p) → t = 32 ∨ t = 61 ∨ t = 5 → w'.heap[g]? = w.heap[g]?) : RefAt w' B q v es cap fuse lost :=
  ⟨h.le, (hk q _ _ _ h.cells (.inl rfl)).trans h.cells, h.row.keep fun g hg => by
    obtain ⟨cur, p, hc, _⟩ := h.row.pure g hg
    exact hk g _ _ _ hc (.inr (.inl rfl)), h.up, fun x hx => (h.bytes x hx).keep fun g cur p hg => hk g cur _ p hg (.inr (.inr rfl))⟩
theorem RefAt.below (h : RefAt w B q v es cap fuse lost) (hb : Below w.heap.size w w') : RefAt w' B q v es cap fuse lost := h.keep fun g _ _ _ hg _ => hb.block g (lt_of_get hg)
/-- while a disk turns -/
theorem RefAt.but (h : RefAt w B q v es cap fuse lost) {p mb cap2 : Nat} {es2 : List (Key × FV)} {fuse2 : Int} {lost2 : Bool} (hd : DiskAt w p mb es2 cap2 fuse2 lost2) (hb : But p mb w w') : RefAt w' B q v es cap fuse lost :=
  h.keep fun g cur t p' hg ht => by
    refine hb.block g (lt_of_get hg) (fun e => ?_) (fun e => ?_)
    · subst e
      have hc := hd.cells
      unfold Blk at hc
      rw [hc] at hg
      injection hg with hg
      injection hg with _ hg
      subst hg
      exact absurd ht (by decide)
    · subst e
      obtain ⟨es, clock, hm, _⟩ := hd.map
      rw [hm] at hg
      cases hg
/-- a disk, while this one turns -/
theorem DiskAt.tbut {p mb cap2 : Nat} {es2 : List (Key × FV)} {fuse2 : Int} {lost2 : Bool} (hd : DiskAt w p mb es2 cap2 fuse2 lost2) {v1 : Value} (hq : Blk w q 32 (refCells cap v1 fuse lost)) (hv1 : ∀ k, v1 ≠ .int .u8 k) (hb : TBut B q w w') : DiskAt w' p mb es2 cap2 fuse2 lost2 := by
  have hmem : w'.heap[mb]? = w.heap[mb]? := by
    obtain ⟨es, clock, hm, _⟩ := hd.map
    refine hb.block mb (lt_of_get hm) (fun e => ?_) (.inr ?_)
    · subst e; unfold Blk at hq; rw [hq] at hm; cases hm
    · rintro ⟨cur', p', h', _⟩; rw [hm] at h'; cases h'
  refine ⟨?_, ?_, hd.up, fun x hx => ⟨?_, (hd.bytes x hx).2⟩⟩
  · refine (hb.block p hd.cells.lt (fun e => ?_) (.inr ?_)).trans hd.cells
    · subst e
      have hc := hd.cells
      unfold Blk at hc hq
      rw [hc] at hq
      injection hq with hq
      injection hq with _ hq
      exact absurd hq (by decide)
    · rintro ⟨cur', p', h', _⟩
      have hc := hd.cells
      unfold Blk at hc
      rw [hc] at h'
      injection h' with h'
      injection h' with _ h'
      exact absurd h' (by decide)
  · obtain ⟨a, c, hh, r⟩ := hd.map
    exact ⟨a, c, hmem.trans hh, r⟩
  · have h := (hd.bytes x hx).1
    refine ⟨h.1, fun hn => ?_⟩
    obtain ⟨ad, e, hlt, hc⟩ := h.2 hn
    have hl : 0 < x.2.m.b.length := hn
    have h0 := hc 0 _ (by rw [u8s_get, List.getElem?_eq_getElem hl]; rfl)
    have a1 := FileRow.no8 h0
    rw [block_of_add] at a1
    have a2 : ad.block ≠ q := by
      intro e
      have hcell := h0
      unfold World.cell? at hcell
      rw [block_of_add, e] at hcell
      unfold Blk at hq
      rw [hq] at hcell
      simp only [refCells] at hcell
      split at hcell
      · cases hcell
      · rcases ho : (ad.add 0).off with _ | _ | _ | _ | n <;> rw [ho] at hcell <;> simp at hcell
        exact hv1 _ hcell
    refine ⟨ad, e, Nat.lt_of_lt_of_le hlt hb.size, fun j u hu => ?_⟩
    have hk := hb.block ad.block hlt a2 (.inr a1)
    exact (World.cell?_of_block (by rw [block_of_add]; exact hk)).trans (hc j u hu)
/-- this one has turned -/
theorem RefAt.turn {es' : List (Key × FV)} {v' : Value} {cap' : Nat} {fuse' : Int} {lost' : Bool} (h : RefAt w B q v es cap fuse lost) (hb : TBut B q w w') (hc : Blk w' q 32 (refCells cap' v' fuse' lost'))
    (hr : FRow w' B v' es') (hup : Up es') (hnew : ∀ x ∈ es', (∃ y ∈ es, y.2 = x.2) ∨ Bytes8 w' x.2) : RefAt w' B q v' es' cap' fuse' lost' :=
  ⟨h.le, hc, hr, hup, fun x hx => by
    rcases hnew x hx with ⟨y, hy, e⟩ | hn
    · rw [← e]; exact (h.bytes y hy).tbut (by decide) h.cells hb
    · exact hn⟩
theorem RefAt.c0 (h : RefAt w B q v es cap fuse lost) : w.cell? ⟨q, 0, none⟩ = some (.int .i64 (cap : Nat)) := by rw [h.cells.cell]; rfl
theorem RefAt.c1 (h : RefAt w B q v es cap fuse lost) : w.cell? ⟨q, 1, none⟩ = some v := by rw [h.cells.cell]; rfl
theorem RefAt.c2 (h : RefAt w B q v es cap fuse lost) : w.cell? ⟨q, 2, none⟩ = some (.int .i64 fuse) := by rw [h.cells.cell]; rfl
theorem RefAt.c3 (h : RefAt w B q v es cap fuse lost) : w.cell? ⟨q, 3, none⟩ = some (.bool lost) := by rw [h.cells.cell]; rfl
end
theorem add_k4 (ad : Addr) (j k : Nat) (hk : 0 < k) : ad.add (j + k) = ⟨(ad.add j).block, (ad.add j).off + k, none⟩ := by
  unfold Addr.add; by_cases h : j = 0 <;> simp [h] <;> omega
theorem file_at {w : World} {k : Nat} {ad : Addr} {l : List (Key × FV)} {x : Key × FV} (hc : ∀ j u, (rcells l)[j]? = some u → w.cell? (ad.add j) = some u) (hx : l[k]? = some x) :
    w.cell? (ad.add (k * 4)) = some (.string ⟨x.1.toArray⟩) ∧ w.cell? ⟨(ad.add (k * 4)).block, (ad.add (k * 4)).off + 1, none⟩ = some (.slice x.2.a x.2.m.b.length x.2.c) ∧ w.cell? ⟨(ad.add (k * 4)).block, (ad.add (k * 4)).off + 2, none⟩ = some (.int .i64 (x.2.m.safe : Nat)) ∧ w.cell? ⟨(ad.add (k * 4)).block, (ad.add (k * 4)).off + 3, none⟩ = some (.bool x.2.m.ever) := by
  have h : ∀ j u, j < 4 → (rcell x)[j]? = some u → w.cell? (ad.add (k * 4 + j)) = some u := fun j u hj hu => hc _ u (by rw [rcells_at l k x hx j hj]; exact hu)
  have h0 := h 0 _ (by omega) rfl
  have h1 := h 1 _ (by omega) rfl
  have h2 := h 2 _ (by omega) rfl
  have h3 := h 3 _ (by omega) rfl
  rw [add_k4 _ _ _ (by omega)] at h1 h2 h3
  exact ⟨h0, h1, h2, h3⟩
end Go.Proofs.Ytplbclbeccoegaa
