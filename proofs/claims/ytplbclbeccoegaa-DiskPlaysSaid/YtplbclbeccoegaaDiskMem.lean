/-
  The disk in memory: its record, its map, its files' bytes.
-/
import Derived.Test.YtplbclbeccoegaaReads
import Derived.Test.YtplbclbeccoegaaMem
import Derived.Test.YtplbclbeccoegaaDiskAct
import Derived.StringKeys
import Derived.Test.YtplbclbeccoegaaChecked
namespace Go.Proofs.Ytplbclbeccoegaa
open Go.RowKit Go.Maps
structure FV where
  m : FileM
  a : Option Addr
  c : Nat
def FV.val (v : FV) : Value := .agg #[.slice v.a v.m.b.length v.c, .int .i64 (v.m.safe : Nat), .bool v.m.ever]
def zeroF : Value := .agg #[.slice none 0 0, .int .i64 0, .bool false]
def optF : Option FV → Value
  | some v => v.val
  | none => zeroF
def heldR (v : Value) : Option (DataW Value × List MemPlace) := some (.held v, [])
def heldF (v : FV) : DataW Value := .held v.val
def u8s (l : List UInt8) : List Value := l.map fun b => Value.int .u8 ((b.toNat : Nat) : Int)
theorem u8s_length (l : List UInt8) : (u8s l).length = l.length := by simp [u8s]
theorem u8s_get (l : List UInt8) (j : Nat) : (u8s l)[j]? = (l[j]?).map fun b => Value.int .u8 ((b.toNat : Nat) : Int) := by simp [u8s]

/-- but for two blocks nothing has turned -/
structure But (p m : Nat) (w w' : World) : Prop where
  os : w'.os = w.os
  tape : w'.tape = w.tape
  output : w'.output = w.output
  size : w.heap.size ≤ w'.heap.size
  block : ∀ i, i < w.heap.size → i ≠ p → i ≠ m → w'.heap[i]? = w.heap[i]?
section
variable {p m : Nat} {w w' w'' : World}
theorem But.refl (p m : Nat) (w : World) : But p m w w := ⟨rfl, rfl, rfl, Nat.le_refl _, fun _ _ _ _ => rfl⟩
theorem But.trans (h : But p m w w') (k : But p m w' w'') : But p m w w'' :=
  ⟨k.os.trans h.os, k.tape.trans h.tape, k.output.trans h.output, Nat.le_trans h.size k.size, fun i hi h1 h2 => (k.block i (Nat.lt_of_lt_of_le hi h.size) h1 h2).trans (h.block i hi h1 h2)⟩
theorem But.drew (h : But p m w w') : But p m w w'.drew := ⟨h.os, h.tape, h.output, h.size, h.block⟩
theorem But.drewN (h : But p m w w') (n : Nat) : But p m w (w'.drewN n) := ⟨h.os, h.tape, h.output, h.size, h.block⟩
theorem But.below (h : But p m w w') (k : Below w'.heap.size w' w'') : But p m w w'' :=
  h.trans ⟨k.os, k.tape, k.output, k.size, fun i hi _ _ => k.block i hi⟩
theorem But.of_below (k : Below w.heap.size w w') : But p m w w' := (But.refl p m w).below k
theorem But.alloc (h : But p m w w') (o : Obj) : But p m w (w'.alloc o) := h.below ((Below.refl _ _).alloc (Nat.le_refl _) o)
theorem But.set_ (h : But p m w w') (i : Nat) (u : Value) : But p m w (w'.setCell ⟨p, i, none⟩ u) :=
  h.trans ⟨rfl, rfl, rfl, by simp [World.setCell], fun j _ h1 _ => Below.heap_setCell _ _ _ _ h1⟩
theorem But.setNew (h : But p m w w') {q : Addr} (hq : w.heap.size ≤ q.block) (u : Value) : But p m w (w'.setCell q u) :=
  ⟨h.os, h.tape, h.output, by simpa [World.setCell] using h.size, fun j hj h1 h2 => (Below.heap_setCell _ _ _ _ (by omega)).trans (h.block j hj h1 h2)⟩
theorem But.turned (h : But p m w w') (k : w'.mapTurned w'' m) : But p m w w'' := by
  have g := k.grown
  exact h.trans ⟨g.os, g.tape, g.output, g.size, fun i hi _ h2 => g.block i hi (fun e => h2 (by injection e))⟩
theorem But.grown (h : But p m w w') {row : Option Nat} (g : w'.grownBy w'' row) (hr : ∀ k, row = some k → w.heap.size ≤ k) : But p m w w'' :=
  ⟨g.os.trans h.os, g.tape.trans h.tape, g.output.trans h.output, Nat.le_trans h.size g.size, fun i hi h1 h2 => (g.block i (Nat.lt_of_lt_of_le hi h.size) (fun e => by have := hr i e.symm; omega)).trans (h.block i hi h1 h2)⟩
theorem But.toBelow (h : But p m w w') {B : Nat} (hB : B ≤ w.heap.size) (hp : B ≤ p) (hm : B ≤ m) : Below B w w' :=
  ⟨h.os, h.tape, h.output, h.size, fun i hi => h.block i (by omega) (by omega) (by omega)⟩
end

/-- the disk's record -/
def dcells (mb cap : Nat) (fuse : Int) (lost : Bool) : Array Value := #[.int .i64 (cap : Nat), .map (some mb), .int .i64 fuse, .bool lost]
structure DiskAt (w : World) (p mb : Nat) (es : List (Key × FV)) (cap : Nat) (fuse : Int) (lost : Bool) : Prop where
  cells : Blk w p 55 (dcells mb cap fuse lost)
  map : w.ownsMap Try.prog 9 heldR mb es.length (dmap heldF es)
  up : Up es
  bytes : ∀ q ∈ es, Reads w w.heap.size 1 q.2.a q.2.m.b.length (u8s q.2.m.b) ∧ q.2.m.b.length ≤ q.2.c
def Disk (w : World) (p mb : Nat) (d : DiskM) : Prop := ∃ es, d.files = fmap FV.m es ∧ DiskAt w p mb es d.cap d.fuse d.lost

theorem string_key : Keyed Try.prog 9 := string_keyed Try.underlying9
theorem zero_file (w : World) : (zeroValue 65).run Try.prog w = .ok zeroF w := by kernel_rfl
theorem key_of (s : ByteArray) (hs : s.size ≤ maxLen) : keyOf Try.prog 9 (.string s) = some (.string s.data.toList) := Go.WideMaps.keyOf_string_mk Try.underlying9 hs

theorem u8_away {w : World} {p mb cap : Nat} {fuse : Int} {lost : Bool} {t : TypeId} (h : Blk w p t (dcells mb cap fuse lost)) {ad : Addr} {x : Int} (hc : w.cell? ad = some (.int .u8 x)) : ad.block ≠ p := by
  intro e
  unfold Blk at h
  unfold World.cell? at hc
  rw [e, h] at hc
  simp only [dcells] at hc
  split at hc
  · cases hc
  · rcases ho : ad.off with _ | _ | _ | _ | n <;> rw [ho] at hc <;> simp at hc
theorem map_away {w : World} {mb n : Nat} {D : DataW Value} {P : Program} {k : TypeId} {R : Value → Option (DataW Value × List MemPlace)} (h : w.ownsMap P k R mb n D) {ad : Addr} {x : Value} (hc : w.cell? ad = some x) : ad.block ≠ mb := by
  intro e
  obtain ⟨es, clock, hb, _⟩ := h
  unfold World.cell? at hc
  rw [e, hb] at hc
  cases hc
theorem blk_away {w : World} {mb n p : Nat} {D : DataW Value} {P : Program} {k t : TypeId} {R : Value → Option (DataW Value × List MemPlace)} (h : w.ownsMap P k R mb n D) {cs : Array Value} (hc : Blk w p t cs) : p ≠ mb := by
  intro e
  obtain ⟨es, clock, hb, _⟩ := h
  unfold Blk at hc
  rw [e, hb] at hc
  cases hc
section
variable {w w' : World} {p mb cap : Nat} {es : List (Key × FV)} {fuse : Int} {lost : Bool}
theorem DiskAt.ne (h : DiskAt w p mb es cap fuse lost) : p ≠ mb := blk_away h.map h.cells
theorem DiskAt.reads_but (hd : DiskAt w p mb es cap fuse lost) (hb : But p mb w w') {A : Option Addr} {n : Nat} {l : List UInt8} (h : Reads w w.heap.size 1 A n (u8s l)) : Reads w' w'.heap.size 1 A n (u8s l) := by
  refine ⟨h.1, fun hn => ?_⟩
  obtain ⟨ad, rfl, hlt, hc⟩ := h.2 hn
  have hl : 0 < l.length := by have := h.1; rw [u8s_length] at this; omega
  have h0 := hc 0 _ (by rw [u8s_get, List.getElem?_eq_getElem hl]; rfl)
  have a1 := u8_away hd.cells h0
  have a2 := map_away hd.map h0
  rw [block_of_add] at a1 a2
  refine ⟨ad, rfl, Nat.lt_of_lt_of_le hlt hb.size, fun j u hu => ?_⟩
  have hk := hb.block ad.block hlt a1 a2
  exact (World.cell?_of_block (by rw [block_of_add]; exact hk)).trans (hc j u hu)
/-- another disk, while this one turns -/
theorem DiskAt.other {q m2 : Nat} {es2 : List (Key × FV)} {cap2 : Nat} {fuse2 : Int} {lost2 : Bool} (hd : DiskAt w p mb es cap fuse lost) (h : DiskAt w q m2 es2 cap2 fuse2 lost2) (hb : But p mb w w') (hq : q ≠ p) (hm : m2 ≠ mb) : DiskAt w' q m2 es2 cap2 fuse2 lost2 := by
  have n1 : q ≠ mb := blk_away hd.map h.cells
  have n2 : p ≠ m2 := blk_away h.map hd.cells
  refine ⟨(hb.block q h.cells.lt hq n1).trans h.cells, ?_, h.up, fun x hx => ⟨hd.reads_but hb (h.bytes x hx).1, (h.bytes x hx).2⟩⟩
  have hlt := h.map.lt
  obtain ⟨a, c, hh, r⟩ := h.map
  exact ⟨a, c, (hb.block m2 hlt (fun e => n2 e.symm) hm).trans hh, r⟩
theorem DiskAt.below (h : DiskAt w p mb es cap fuse lost) (hb : Below w.heap.size w w') : DiskAt w' p mb es cap fuse lost := by
  refine ⟨h.cells.below hb h.cells.lt, ?_, h.up, fun x hx => ⟨((h.bytes x hx).1.below hb).more hb.size, (h.bytes x hx).2⟩⟩
  have hlt := h.map.lt
  obtain ⟨a, c, hh, r⟩ := h.map
  exact ⟨a, c, (hb.block mb hlt).trans hh, r⟩
/-- this one has turned -/
theorem DiskAt.turn {es' : List (Key × FV)} {cap' : Nat} {fuse' : Int} {lost' : Bool} {n : Nat} (hd : DiskAt w p mb es cap fuse lost) (hb : But p mb w w') (hc : Blk w' p 55 (dcells mb cap' fuse' lost'))
    (hm : w'.ownsMap Try.prog 9 heldR mb n (dmap heldF es')) (hup : Up es') (hnew : ∀ q ∈ es', q ∈ es ∨ Reads w' w'.heap.size 1 q.2.a q.2.m.b.length (u8s q.2.m.b) ∧ q.2.m.b.length ≤ q.2.c) : DiskAt w' p mb es' cap' fuse' lost' := by
  refine ⟨hc, ?_, hup, fun q hq => ?_⟩
  · obtain ⟨a, c, hh, F, hs, hD⟩ := hm
    refine ⟨a, c, hh, F, ?_, hD⟩
    have e1 : Maps.size (dmap heldF es') = a.size := by rw [hD]; simp [Maps.size, length_sorted]
    rw [dmap_size] at e1
    omega
  · rcases hnew q hq with h | h
    · exact ⟨hd.reads_but hb (hd.bytes q h).1, (hd.bytes q h).2⟩
    · exact h
end
/-! the map's operations -/
section
variable {w : World} {mb n : Nat} {es : List (Key × FV)}
theorem look_run (h : w.ownsMap Try.prog 9 heldR mb n (dmap heldF es)) (s : ByteArray) (hs : s.size ≤ maxLen) :
    (Instr.lookup 53 (.map (some mb)) (.string s) true).run Try.prog w = .ok (.tuple #[optF (fget s.data.toList es), .bool (fget s.data.toList es).isSome]) w := by
  obtain ⟨v, ps, hrun, hv⟩ := h.look_ok string_key Try.underlying53 (zero_file w) (zd := .held zeroF) (zp := []) rfl (key_of s hs)
  rw [hrun, dmap_has]
  rw [dmap_at] at hv
  have : v = optF (fget s.data.toList es) := by
    cases hg : fget s.data.toList es with
    | none => rw [hg] at hv; simp [heldR] at hv; rw [hv.1]; rfl
    | some f => rw [hg] at hv; simp [heldR, heldF] at hv; rw [hv.1]; rfl
  rw [this]
theorem look_run1 (h : w.ownsMap Try.prog 9 heldR mb n (dmap heldF es)) (s : ByteArray) (hs : s.size ≤ maxLen) :
    (Instr.lookup 53 (.map (some mb)) (.string s) false).run Try.prog w = .ok (optF (fget s.data.toList es)) w := by
  obtain ⟨v, ps, hrun, hv⟩ := h.lookup string_key Try.underlying53 (zero_file w) (zd := .held zeroF) (zp := []) rfl (key_of s hs)
  rw [hrun]
  rw [dmap_at] at hv
  have : v = optF (fget s.data.toList es) := by
    cases hg : fget s.data.toList es with
    | none => rw [hg] at hv; simp [heldR] at hv; rw [hv.1]; rfl
    | some f => rw [hg] at hv; simp [heldR, heldF] at hv; rw [hv.1]; rfl
  rw [this]
theorem store_run (h : w.ownsMap Try.prog 9 heldR mb n (dmap heldF es)) (hup : Up es) (hn : n < maxLen) (s : ByteArray) (hs : s.size ≤ maxLen) (v : FV) :
    ∃ w', (Instr.mapUpdate 53 (.map (some mb)) (.string s) v.val).run Try.prog w = .ok () w' ∧ w'.ownsMap Try.prog 9 heldR mb (n + 1) (dmap heldF (fput s.data.toList v es)) ∧ w.mapTurned w' mb := by
  obtain ⟨w', h1, h2, h3⟩ := h.store string_key Try.underlying53 hn (key_of s hs) (val := v.val) (d := heldF v) (ps := []) rfl
  rw [dmap_put heldF hup] at h2
  exact ⟨w', h1, h2, h3⟩
theorem drop_run (h : w.ownsMap Try.prog 9 heldR mb n (dmap heldF es)) (s : ByteArray) (hs : s.size ≤ maxLen) (ty : TypeId) :
    ∃ w', (Builtin.delete_ #[53, 9] ty #[.map (some mb), .string s]).run Try.prog w = .ok (.tuple #[]) w' ∧ w'.ownsMap Try.prog 9 heldR mb n (dmap heldF (fdel s.data.toList es)) ∧ w.mapTurned w' mb := by
  obtain ⟨w', h1, h2, h3⟩ := h.drop string_key Try.underlying53 (key_of s hs) ty
  rw [dmap_del heldF] at h2
  exact ⟨w', h1, h2, h3⟩
end
end Go.Proofs.Ytplbclbeccoegaa
