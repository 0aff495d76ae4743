/-
  Numbers, texts and bytes that are put: the program's codec.Out.
-/
import Derived.Test.YtmjikfeaopmejaaDoorRefBytes
import Derived.Test.YtmjikfeaopmejaaDoorBytesM
import Derived.BigRegion
import Derived.Deep.RegionLaw
namespace Go.Proofs.YtmjikfeaopmejaaDoor
open Go.RowKit
/-- a block of bytes -/
def U8Row (w : World) (g : Nat) : Prop := ∃ cs p, w.heap[g]? = some (.cells cs 5 p)
theorem U8Row.same {w w' : World} {g : Nat} (h : U8Row w g) (e : w'.heap[g]? = w.heap[g]?) : U8Row w' g := by
  obtain ⟨cs, p, hg⟩ := h
  exact ⟨cs, p, e.trans hg⟩
theorem lt_of_get {w : World} {g : Nat} {o : Obj} (h : w.heap[g]? = some o) : g < w.heap.size := by
  rcases Nat.lt_or_ge g w.heap.size with h' | h'
  · exact h'
  · rw [Array.getElem?_eq_none h'] at h; cases h
theorem U8Row.lt {w : World} {g : Nat} (h : U8Row w g) : g < w.heap.size := by
  obtain ⟨cs, p, hg⟩ := h
  exact lt_of_get hg
/-- but for one block and for rows of bytes that are not older than B nothing has turned -/
structure OBut (B o : Nat) (w w' : World) : Prop where
  os : w'.os = w.os
  tape : w'.tape = w.tape
  output : w'.output = w.output
  size : w.heap.size ≤ w'.heap.size
  block : ∀ i, i < w.heap.size → i ≠ o → (i < B ∨ ¬ U8Row w i) → w'.heap[i]? = w.heap[i]?
section
variable {B o : Nat} {w w' w'' : World}
theorem OBut.refl (B o : Nat) (w : World) : OBut B o w w := ⟨rfl, rfl, rfl, Nat.le_refl _, fun _ _ _ _ => rfl⟩
theorem OBut.trans (h : OBut B o w w') (k : OBut B o w' w'') : OBut B o w w'' := by
  refine ⟨k.os.trans h.os, k.tape.trans h.tape, k.output.trans h.output, Nat.le_trans h.size k.size, fun i hi h1 h2 => ?_⟩
  have e := h.block i hi h1 h2
  refine (k.block i (Nat.lt_of_lt_of_le hi h.size) h1 ?_).trans e
  rcases h2 with h2 | h2
  · exact .inl h2
  · exact .inr fun hf => h2 (hf.same e.symm)
theorem OBut.of_below (k : Below w.heap.size w w') : OBut B o w w' := ⟨k.os, k.tape, k.output, k.size, fun i hi _ _ => k.block i hi⟩
theorem OBut.below (h : OBut B o w w') (k : Below w'.heap.size w' w'') : OBut B o w w'' := h.trans (.of_below k)
theorem OBut.drew (h : OBut B o w w') : OBut B o w w'.drew := ⟨h.os, h.tape, h.output, h.size, h.block⟩
theorem OBut.alloc (h : OBut B o w w') (x : Obj) : OBut B o w (w'.alloc x) := h.below ((Below.refl _ _).alloc (Nat.le_refl _) x)
theorem OBut.set_ (h : OBut B o w w') (i : Nat) (u : Value) : OBut B o w (w'.setCell ⟨o, i, none⟩ u) :=
  h.trans ⟨rfl, rfl, rfl, by simp [World.setCell], fun j _ h1 _ => Below.heap_setCell _ _ _ _ h1⟩
theorem OBut.grown (h : OBut B o w w') {base : Nat} {v : Value} {n : Nat} {xs : List Value} (hv : w'.ownsRow base 5 1 v n xs) (hB : B ≤ base) (g : w'.grownBy w'' v.ownBlock) : OBut B o w w'' := by
  refine h.trans ⟨g.os, g.tape, g.output, g.size, fun i hi _ h2 => g.block i hi (fun e => ?_)⟩
  have hlt := hv.lt i e.symm
  rcases h2 with h2 | h2
  · omega
  · refine h2 ?_
    rcases hv.2 with ⟨rfl, _⟩ | ⟨g', cap, cur, rfl, _, hg, _⟩
    · cases e
    · injection e with e
      subst e
      exact ⟨cur, _, hg⟩
theorem OBut.toBelow (h : OBut B o w w') {C : Nat} (hC : C ≤ w.heap.size) (hB : C ≤ B) (ho : C ≤ o) : Below C w w' :=
  ⟨h.os, h.tape, h.output, h.size, fun i hi => h.block i (by omega) (by omega) (.inl (by omega))⟩
theorem Blk.obut {g : Nat} {t : TypeId} {cs : Array Value} (h : Blk w g t cs) (hb : OBut B o w w') (hg : g ≠ o) (ht : t ≠ 5) : Blk w' g t cs := by
  refine (hb.block g h.lt hg (.inr ?_)).trans h
  rintro ⟨cs', p, h'⟩
  unfold Blk at h
  rw [h] at h'
  injection h' with h'
  injection h' with _ h'
  exact ht h'
end
structure OutAt (w : World) (B o : Nat) (l : List UInt8) (sp : Bool) (v : Value) : Prop where
  le : B ≤ o
  cells : Blk w o 52 #[v, .bool sp]
  own : w.ownsRow B 5 1 v l.length (u8s l)
theorem OutAt.below {w w' : World} {B o : Nat} {l : List UInt8} {sp : Bool} {v : Value} (h : OutAt w B o l sp v) (hb : Below w.heap.size w w') : OutAt w' B o l sp v :=
  ⟨h.le, h.cells.below hb h.cells.lt, own_below h.own hb⟩
theorem OutAt.c0 {w : World} {B o : Nat} {l : List UInt8} {sp : Bool} {v : Value} (h : OutAt w B o l sp v) : w.cell? ⟨o, 0, none⟩ = some v := by rw [h.cells.cell]; rfl
theorem OutAt.c1 {w : World} {B o : Nat} {l : List UInt8} {sp : Bool} {v : Value} (h : OutAt w B o l sp v) : w.cell? ⟨o, 1, none⟩ = some (.bool sp) := by rw [h.cells.cell]; rfl
theorem out_new {w : World} {B : Nat} (hB : B ≤ w.heap.size) : OutAt (w.alloc (.cells #[.slice none 0 0, .bool false] 52)) B w.heap.size [] false (.slice none 0 0) :=
  ⟨hB, Blk.new w _ _, World.ownsRow_nil _ _ _ _⟩
/-- append of bytes, shut: so that a run equation serves the walk -/
def append8S (args : Array Value) : Sem Next := do pure (.value (← Builtin.append_ #[22, 22] 22 args))
theorem builtin_append8 (cs : Array Bool) (args : Array Value) : builtin .append #[22, 22] 22 cs args = append8S args := rfl
theorem run_append8 {w : World} {B : Nat} {v : Value} {l m : List UInt8} (h : w.ownsRow B 5 1 v l.length (u8s l)) {A : Option Addr} {n : Nat} (c : Nat) {Bd : Nat} (hn : n = m.length) (hr : Reads w Bd 1 A n (u8s m)) (hlen : l.length + m.length ≤ 1000000000) (hB : B ≤ w.heap.size) :
    ∃ A' c' w', (append8S #[v, .slice A n c]).run Tryd.prog w = .ok (.value (.slice A' (l ++ m).length c')) w' ∧ w'.ownsRow B 5 1 (.slice A' (l ++ m).length c') (l ++ m).length (u8s (l ++ m)) ∧ w.grownBy w' v.ownBlock := by
  subst hn
  obtain ⟨i0, hi0, hz0, hz1, hz2⟩ := info_parts u8_info
  obtain ⟨v', w', hrun, ho, hg⟩ := run_append_any (P := Tryd.prog) w B 22 22 5 i0 _ 1 1 Tryd.underlying22 hi0 hz0 hz1 hz2 rfl (by omega) v l.length (u8s l) h A m.length c (u8s m) (Gives.of_reads hr (u8s_one m)) (by unfold maxLen; omega) (by omega) hB
  rw [← u8s_append, ← List.length_append] at ho
  obtain ⟨A', c', rfl, _, _⟩ := own_reads ho
  exact ⟨A', c', w', by unfold append8S; simp only [Sem.run_bind, hrun, Result.andThen_ok, Sem.run_pure], ho, hg⟩
theorem out_ne {w : World} {B o : Nat} {l : List UInt8} {sp : Bool} {v : Value} (h : OutAt w B o l sp v) : some o ≠ v.ownBlock := fun e => by
  rcases h.own.2 with ⟨rfl, _⟩ | ⟨g', cap, cur, rfl, _, hgg, _⟩
  · cases e
  · injection e with e
    subst e
    have := h.cells
    unfold Blk at this
    rw [this] at hgg
    injection hgg with hgg
    injection hgg with _ hgg
    exact absurd hgg (by decide)
theorem out_push {X w2 : World} {B o : Nat} {l l2 : List UInt8} {sp : Bool} {v v2 : Value} (h : OutAt X B o l sp v) (hg : X.grownBy w2 v.ownBlock) (hown : w2.ownsRow B 5 1 v2 l2.length (u8s l2)) :
    Blk w2 o 52 #[v, .bool sp] ∧ OutAt (w2.setCell ⟨o, 0, none⟩ v2) B o l2 sp v2 ∧ OBut B o X (w2.setCell ⟨o, 0, none⟩ v2) := by
  have ho2 := h.cells.grown hg (out_ne h)
  refine ⟨ho2, ⟨h.le, ho2.set_ 0 _, own_keep hown fun g hgg => Below.heap_setCell _ _ _ _ (fun e => ?_)⟩, ((OBut.refl B o X).grown h.own (Nat.le_refl B) hg).set_ 0 _⟩
  rcases hown.2 with ⟨h0, _⟩ | ⟨g', cap, cur, h0, _, hgg', _⟩
  · rw [h0] at hgg; cases hgg
  · rw [h0] at hgg
    injection hgg with hgg
    subst hgg
    simp only at e
    subst e
    unfold Blk at ho2
    rw [ho2] at hgg'
    injection hgg' with hgg'
    injection hgg' with _ hgg'
    exact absurd hgg' (by decide)
theorem shr_bytes (v m : Nat) : (v : Int) / 2 ^ (8 * m) = ((v / 256 ^ m : Nat) : Int) := by
  have e : (256 : Nat) ^ m = 2 ^ (8 * m) := by rw [Nat.pow_mul]
  rw [e, Int.natCast_ediv, Int.natCast_pow]; rfl
section
attribute [local go_sem ↓ 100000] builtin_append8
set_option maxRecDepth 100000 in
theorem out_N {w : World} {B o : Nat} {l : List UInt8} {sp : Bool} {v0 : Value} (h : OutAt w B o l sp v0) (hB : B ≤ w.heap.size) (hl : l.length ≤ 900000000) (v n : Nat) (hn : 1 ≤ n ∧ n ≤ 7) (hv : v < 256 ^ n) :
    Calls Tryd.prog 21 #[.pointer (some ⟨o, 0, none⟩), .int .i64 (v : Nat), .int .i64 (n : Nat)] w fun e w' => e = .returned (.tuple #[]) ∧ (∃ v', OutAt w' B o (l ++ be n v) sp v') ∧ OBut B o w w' := by
  have hv7 : v < 72057594037927936 := Nat.lt_of_lt_of_le hv (Nat.le_trans (Nat.pow_le_pow_right (by omega) hn.2) (by decide))
  have H := Lib.hid h
  have n1 : decide ((n : Int) < 1) = false := by simp; omega
  have n2 : decide (7 < (n : Int)) = false := by simp; omega
  have n3 : decide ((v : Int) < 0) = false := by simp
  have hz : (v : Int) / 2 ^ (8 * n) = 0 := by
    rw [shr_bytes, Nat.div_eq_of_lt hv]; rfl
  go_enter Tryd.func21, Tryd.ntmps21
  go_wp2
  go_loopw [6] (fun i wr => ∃ (m : Nat) (l1 : List UInt8) (v1 : Value), i = .int .i64 ((m : Int) - 1) ∧ m ≤ n ∧ Hid (l1 ++ be m v = l ++ be n v) ∧ Hid (OutAt wr B o l1 sp v1) ∧ Hid (OBut B o w wr)) (fun i _ => (intOf i + 1).toNat)
  case atStart => exact ⟨n, l, v0, by go_num, Nat.le_refl _, rfl, H, OBut.refl _ _ _⟩
  case round =>
    obtain ⟨m, l1, v1, rfl, hm, hl1, ho, hb⟩ := hrel
    rcases m with _ | m
    · go_wp2
      go_end0
      have h1 := ho.out
      have h2 := hl1.out
      rw [be, List.append_nil] at h2
      rw [h2] at h1
      exact ⟨rfl, ⟨v1, h1⟩, hb.out⟩
    · have e : (((m + 1 : Nat) : Int) - 1) = (m : Int) := by omega
      rw [e]
      obtain ⟨qm, hqm⟩ : ∃ qm, v / 256 ^ m = qm := ⟨_, rfl⟩
      have hq : (v : Int) / 2 ^ (8 * m) = (qm : Int) := by rw [shr_bytes, hqm]
      have hs8 : (((UInt8.ofNat qm).toNat : Nat) : Int) = (qm : Int) % 256 := by simp
      have hll : l1.length ≤ 900000010 := by
        have := congrArg List.length hl1.out
        rw [List.length_append, List.length_append, be_length, be_length] at this
        omega
      have hbx := ((Below.refl wr.heap.size wr).alloc (Nat.le_refl _) (.cells #[.int .u8 (((UInt8.ofNat qm).toNat : Nat) : Int)] 5)).drew
      have hox := ho.out.below hbx
      obtain ⟨A2, c2, w2, E1, hown, hg⟩ := run_append8 (n := 1) (m := [UInt8.ofNat qm]) hox.own 1 rfl (lit_one wr (UInt8.ofNat qm)).drew (by simp; omega) (Nat.le_trans (Nat.le_trans hB hb.out.size) hbx.size)
      have hl2 : (l1 ++ [UInt8.ofNat qm]) ++ be m v = l ++ be n v := by rw [List.append_assoc, ← hl1.out, ← hqm]; rfl
      obtain ⟨l2, hl2e⟩ : ∃ l2, l1 ++ [UInt8.ofNat qm] = l2 := ⟨_, rfl⟩
      rw [hl2e] at E1 hown hl2
      obtain ⟨ho2, p1, p2⟩ := out_push hox hg hown
      have HFIN : Hid (OutAt (w2.setCell ⟨o, 0, none⟩ (.slice A2 l2.length c2)) B o l2 sp (.slice A2 l2.length c2) ∧ OBut B o w (w2.setCell ⟨o, 0, none⟩ (.slice A2 l2.length c2))) := ⟨p1, (hb.out.below hbx).trans p2⟩
      rw [hs8] at E1
      have c0 := ho.out.c0
      have hol := ho.out.cells.lt
      have z0 : w2.cell? ⟨o, 0, none⟩ = some v1 := by rw [ho2.cell]; rfl
      have zf := ho2.frozen 0
      have m0 : (0 : Int) ≤ (m : Int) := by omega
      have hm7 : m ≤ 7 := by omega
      have HL2 := Lib.hid hl2
      clear hbx hox hown hg ho2 p1 p2 hl2 hl2e hs8 e hqm hll hl1
      go_wp2
      go_region
      all_goals (try go_wp2)
      go_roundw
      case rel => exact ⟨m, l2, _, by go_num, by omega, HL2, HFIN.out.1, HFIN.out.2⟩
      case measure => simp [intOf]
end
end Go.Proofs.YtmjikfeaopmejaaDoor
