/-
  Arguments, opened: numbers, truths, bytes.
-/
import Derived.Test.YtmjikfeaopmejaaGreatDoorLge
import Derived.LaidSub
import Derived.Lib.LaidTab
import Derived.MakeChecks
import Derived.Test.YtmjikfeaopmejaaGreatDoorCards
import Derived.Test.YtmjikfeaopmejaaGreatDoorTie
import Derived.SevenTiedAt
namespace Go.Proofs.YtmjikfeaopmejaaGreatDoor
open Go.RowKit Go.ChangeShapes Go.WideShapes
theorem u32_range {n : Int} (h : (Lit.int .u32 n).wf = true) : ∃ k : Nat, n = (k : Nat) ∧ k < 4294967296 := by
  simp [Lit.wf, IntKind.min, IntKind.max, IntKind.signed, IntKind.bits] at h
  exact ⟨n.toNat, by omega, by omega⟩
theorem u8_range {n : Int} (h : (Lit.int .u8 n).wf = true) : ∃ k : UInt8, n = (k.toNat : Nat) := by
  simp [Lit.wf, IntKind.min, IntKind.max, IntKind.signed, IntKind.bits] at h
  refine ⟨UInt8.ofNat n.toNat, ?_⟩
  rw [UInt8.toNat_ofNat']
  omega
theorem i64_range {n : Int} (h : (Lit.int .i64 n).wf = true) : -9223372036854775808 ≤ n ∧ n ≤ 9223372036854775807 := by
  simp [Lit.wf, IntKind.min, IntKind.max, IntKind.signed, IntKind.bits] at h
  omega
theorem map_flat {M : Type} (f : M → List Value) (l : List M) : (l.map f).flatten = l.flatMap f := by
  induction l with
  | nil => rfl
  | cons x r ih => rw [List.map_cons, List.flatten_cons, List.flatMap_cons, ih]
theorem flat_one {M : Type} (f : M → Value) (l : List M) : (l.map fun x => [f x]).flatten = l.map f := by
  induction l with
  | nil => rfl
  | cons x r ih => rw [List.map_cons, List.flatten_cons, ih]; rfl
theorem list1 {α : Type} {x : List α} (h : x.length = 1) : ∃ a, x = [a] := by
  match x, h with
  | [a], _ => exact ⟨a, rfl⟩
theorem list4 {α : Type} {x : List α} (h : x.length = 4) : ∃ a b c d, x = [a, b, c, d] := by
  match x, h with
  | [a, b, c, d], _ => exact ⟨a, b, c, d, rfl⟩
theorem array4 {α : Type} {x : Array α} (h : x.toList.length = 4) : ∃ a b c d, x = #[a, b, c, d] := by
  obtain ⟨l⟩ := x
  obtain ⟨a, b, c, d, e⟩ := list4 (show l.length = 4 from h)
  exact ⟨a, b, c, d, by rw [e]⟩
section
variable {H : Type} {enc : TypeId × Value → H} {w : World} {R : Nat}
theorem open_bytesZ {c1 : Value} (h : FitsZ R enc Tryz.prog w 23 [c1]) : ∃ (A : Option Addr) (c : Nat) (l : List UInt8), c1 = .slice A l.length c ∧ l.length ≤ c ∧ c ≤ maxLen ∧ l.length ≤ R ∧ Reads w w.heap.size 1 A l.length (u8s l) := by
  have hk : Tryz.prog.cellsOf 5 = 1 := by kernel_rfl
  obtain ⟨A, n, c, L, hcs, hn, hc, hR, hl, hL, hr⟩ := fitsZ_slice h Tryz.underlying23 (by rw [hk]; omega) (Nat.le_of_ble_eq_true (by kernel_rfl))
  rw [hk] at hr
  obtain ⟨l, rfl, _⟩ := choose_list (f := fun b : UInt8 => [.int .u8 ((b.toNat : Nat) : Int)]) (Q := fun _ => True) fun x hx => by
    obtain ⟨hx1, hx2⟩ := hL x hx
    rw [hk] at hx1
    obtain ⟨a, rfl⟩ := list1 hx1
    obtain ⟨u, e0, hu⟩ := fits_int hx2.fits Tryz.underlying5
    obtain ⟨k, rfl⟩ := u8_range hu
    exact ⟨k, e0, trivial⟩
  rw [List.length_map] at hl
  rw [flat_one (fun b : UInt8 => .int .u8 ((b.toNat : Nat) : Int))] at hr
  subst hl
  simp only [List.cons.injEq, and_true] at hcs
  exact ⟨A, c, l, hcs, hn, hc, hR, hr⟩
theorem fitsZ_part {t : TypeId} {cs : List Value} {fs : Array Field} (h : FitsZ R enc Tryz.prog w t cs) (ht : Tryz.prog.underlying t = some (.struct fs)) : cs.length = Tryz.prog.cellsOf t ∧ ∀ (j : Nat) (f : Field), fs[j]? = some f → FitsZ R enc Tryz.prog w f.type ((cs.drop f.offset).take (Tryz.prog.cellsOf f.type)) := by
  obtain ⟨base, spare, held, fuel, d, ps, h, hz⟩ := h
  obtain ⟨ys, n, _, hx, hl, hyl, hat⟩ := DataW.trod_struct ht h
  refine ⟨hl, fun j f hf => ?_⟩
  have h1 := hat j f hf
  have hj := (Array.getElem?_eq_some_iff.1 hf).1
  have hy : ys[j]? = some (ys[j]'(by omega)) := List.getElem?_eq_getElem (by omega)
  rw [hy] at h1
  refine ⟨base, spare, held, n, _, _, h1, fun k hk => hz k ?_⟩
  rw [(Prod.mk.inj hx).1]
  unfold DataW.weights
  rw [ht]
  refine DataW.weights_mem_each (j := j) (t := f.type) (d := (ys[j]'(by omega)).1) ?_ ?_ k hk
  · rw [List.getElem?_map, Array.getElem?_toList, hf]; rfl
  · rw [List.getElem?_map, hy]; rfl
end
theorem tab_met {l : List (String × DataW Unit)} {W : World} (h : laidMetH Tryz.prog l W) (hl : l.filter (fun x => x.1 == "internal/strconv.uint64pow10") = [("internal/strconv.uint64pow10", Lib.tabData .u64 Lib.pow10Tab)]) :
    Lib.TabIs Tryz.prog W "internal/strconv.uint64pow10" .u64 Lib.pow10Tab := by
  have h1 := laidMetH.filter (fun x => x.1 == "internal/strconv.uint64pow10") h
  rw [hl, MakeChecks.laidMetH_plain _ _ _ (by kernel_rfl)] at h1
  exact Lib.tabIs_of_head (g := 2) (t := 194) (e := 88) (n := 20) (by kernel_rfl) (by kernel_rfl) Tryz.underlying194 Tryz.underlying88 (by kernel_rfl) (by kernel_rfl) h1
section
variable {H : Type} {enc : TypeId × Value → H} {W : World} {base0 b0 : Nat} {spare : Nat → Bool} {held : Bool} {r : Reach} {R : Nat}
set_option maxRecDepth 100000 in
theorem i64_arg {v : Value} {d : DataW H} {ps : List MemPlace} (hv : Value.okWide Tryz.prog W r b0 3 v) (h : DataW.Trod enc Tryz.prog W base0 spare held 3 v d ps) : ∃ k : Int, v = .int .i64 k ∧ -9223372036854775808 ≤ k ∧ k ≤ 9223372036854775807 := by
  obtain ⟨x0, rfl, _, _, h0⟩ := open_int Tryz.underlying3 hv h
  exact ⟨x0, rfl, i64_range h0⟩
set_option maxRecDepth 100000 in
theorem bytes_arg {v : Value} {d : DataW H} {ps : List MemPlace} (hv : Value.okWide Tryz.prog W r b0 23 v) (h : DataW.Trod enc Tryz.prog W base0 spare held 23 v d ps) (hz : ∀ k ∈ d.weights Tryz.prog 23, k ≤ R) :
    ∃ (A : Option Addr) (c : Nat) (l : List UInt8), v = .slice A l.length c ∧ l.length ≤ c ∧ c ≤ maxLen ∧ l.length ≤ R ∧ Reads W W.heap.size 1 A l.length (u8s l) := by
  obtain ⟨A, n, c, rfl⟩ := okWide_slice Tryz.underlying23 hv
  obtain ⟨A', c', l, e, b⟩ := open_bytesZ (fitsZ_plain h rfl hz)
  exact ⟨A', c', l, e, b⟩
set_option maxRecDepth 100000 in
theorem u32_arg {v : Value} {d : DataW H} {ps : List MemPlace} (hv : Value.okWide Tryz.prog W r b0 22 v) (h : DataW.Trod enc Tryz.prog W base0 spare held 22 v d ps) : ∃ k : Nat, v = .int .u32 (k : Nat) ∧ k < 4294967296 := by
  obtain ⟨x0, rfl, _, _, h0⟩ := open_int Tryz.underlying22 hv h
  obtain ⟨k, rfl, hk⟩ := u32_range h0
  exact ⟨k, rfl, hk⟩
set_option maxRecDepth 100000 in
theorem bool_arg {v : Value} {d : DataW H} {ps : List MemPlace} (hv : Value.okWide Tryz.prog W r b0 4 v) (h : DataW.Trod enc Tryz.prog W base0 spare held 4 v d ps) : ∃ b : Bool, v = .bool b := by
  obtain ⟨b, rfl, _⟩ := open_bool Tryz.underlying4 hv h
  exact ⟨b, rfl⟩
end
end Go.Proofs.YtmjikfeaopmejaaGreatDoor
/-
  Arguments, opened: messages, mailboxes, notes.
-/
namespace Go.Proofs.YtmjikfeaopmejaaGreatDoor
open Go.RowKit Go.ChangeShapes Go.WideShapes
theorem list7 {α : Type} {x : List α} (h : x.length = 7) : ∃ a b c d e f g, x = [a, b, c, d, e, f, g] := by
  match x, h with
  | [a, b, c, d, e, f, g], _ => exact ⟨a, b, c, d, e, f, g, rfl⟩
section
variable {H : Type} {enc : TypeId × Value → H} {w : World} {R : Nat}
/-- a message whose octets read -/
structure MsgOk (R : Nat) (w : World) (m : MsgV) : Prop where
  octs : Reads w w.heap.size 1 m.a m.b.length (u8s m.b)
  uid : m.uid < 4294967296
  cap : m.b.length ≤ m.c ∧ m.c ≤ 9223372036854775807
  size : m.b.length ≤ R
  date : -9223372036854775808 ≤ m.date ∧ m.date ≤ 9223372036854775807
  flags : -9223372036854775808 ≤ m.flags ∧ m.flags ≤ 9223372036854775807
set_option maxRecDepth 100000 in
theorem open_msgZ {x : List Value} (h : FitsZ R enc Tryz.prog w 25 x) : ∃ m : MsgV, x = msgC m ∧ MsgOk R w m := by
  obtain ⟨hx3, hx4⟩ := fitsZ_fields h Tryz.underlying25 (by kernel_rfl) (by kernel_rfl)
  obtain ⟨a0, a1, a2, a3, rfl⟩ := list4 hx3
  obtain ⟨u, e0, hu⟩ := fits_int (hx4 0 _ a0 rfl rfl).fits Tryz.underlying22
  obtain ⟨d, e1, hd⟩ := fits_int (hx4 1 _ a1 rfl rfl).fits Tryz.underlying2
  obtain ⟨f, e2, hf⟩ := fits_int (hx4 2 _ a2 rfl rfl).fits Tryz.underlying3
  obtain ⟨k, rfl, hk⟩ := u32_range hu
  obtain ⟨A, c, l, rfl, h1, h2, h3, h4⟩ := open_bytesZ (hx4 3 _ a3 rfl rfl)
  simp only [List.cons.injEq, and_true] at e0 e1 e2
  subst e0 e1 e2
  exact ⟨⟨k, d, f, A, c, l⟩, rfl, h4, hk, ⟨h1, by unfold maxLen at h2; exact h2⟩, h3, i64_range hd, i64_range hf⟩
set_option maxRecDepth 100000 in
theorem open_msgsZ {c1 : Value} (h : FitsZ R enc Tryz.prog w 48 [c1]) : ∃ (A : Option Addr) (c : Nat) (l : List MsgV), c1 = .slice A l.length c ∧ l.length ≤ c ∧ c ≤ maxLen ∧ l.length ≤ R ∧ Msgs w A l.length l ∧ ∀ m ∈ l, MsgOk R w m := by
  have hk : Tryz.prog.cellsOf 25 = 4 := by kernel_rfl
  obtain ⟨A, n, c, L, hcs, hn, hc, hR, hl, hL, hr⟩ := fitsZ_slice h Tryz.underlying48 (by rw [hk]; omega) (Nat.le_of_ble_eq_true (by kernel_rfl))
  rw [hk] at hr
  obtain ⟨l, rfl, hq⟩ := choose_list (f := msgC) (Q := MsgOk R w) fun x hx => open_msgZ (hL x hx).2
  rw [List.length_map] at hl
  rw [map_flat] at hr
  subst hl
  simp only [List.cons.injEq, and_true] at hcs
  exact ⟨A, c, l, hcs, hn, hc, hR, ⟨rfl, hr, fun m hm => (hq m hm).octs, fun m hm => (hq m hm).uid, fun m hm => (hq m hm).cap⟩, hq⟩
set_option maxRecDepth 100000 in
theorem open_boxZ {cs : Array Value} (h : FitsZ R enc Tryz.prog w 50 cs.toList) : ∃ (nm : ByteArray) (e nx : Nat) (A : Option Addr) (c : Nat) (l : List MsgV), cs = boxC nm e nx A l.length c ∧ nm.size ≤ maxLen ∧ nm.size ≤ R ∧ e < 4294967296 ∧ nx < 4294967296 ∧ l.length ≤ c ∧ c ≤ maxLen ∧ l.length ≤ R ∧ Msgs w A l.length l ∧ ∀ m ∈ l, MsgOk R w m := by
  obtain ⟨hx3, hx4⟩ := fitsZ_fields h Tryz.underlying50 (by kernel_rfl) (by kernel_rfl)
  obtain ⟨a0, a1, a2, a3, rfl⟩ := array4 (show cs.toList.length = 4 from hx3)
  obtain ⟨s, e0, hs, hsR⟩ := fitsZ_string (hx4 0 _ a0 rfl rfl) Tryz.underlying9
  obtain ⟨u1, e1, hu1⟩ := fits_int (hx4 1 _ a1 rfl rfl).fits Tryz.underlying22
  obtain ⟨u2, e2, hu2⟩ := fits_int (hx4 2 _ a2 rfl rfl).fits Tryz.underlying22
  obtain ⟨k1, rfl, hk1⟩ := u32_range hu1
  obtain ⟨k2, rfl, hk2⟩ := u32_range hu2
  obtain ⟨A, c, l, rfl, h1, h2, h3, h4, h5⟩ := open_msgsZ (hx4 3 _ a3 rfl rfl)
  simp only [List.cons.injEq, and_true] at e0 e1 e2
  subst e0 e1 e2
  exact ⟨s, k1, k2, A, c, l, rfl, hs, hsR, hk1, hk2, h1, h2, h3, h4, h5⟩
structure NoteOk (R : Nat) (w : World) (e : Nat) (nm : ByteArray) (m : MsgV) : Prop where
  ep : e < 4294967296
  name : nm.size ≤ maxLen
  msg : MsgOk R w m
set_option maxRecDepth 100000 in
theorem open_noteZ {x : List Value} (h : FitsZ R enc Tryz.prog w 27 x) : ∃ (k : Int) (e : Nat) (nm : ByteArray) (m : MsgV), x = (noteC k e nm m).toList ∧ NoteOk R w e nm m := by
  obtain ⟨hl, hx⟩ := fitsZ_part h Tryz.underlying27
  rw [show Tryz.prog.cellsOf 27 = 7 by kernel_rfl] at hl
  obtain ⟨a0, a1, a2, a3, a4, a5, a6, rfl⟩ := list7 hl
  have c0 : FitsZ R enc Tryz.prog w 3 [a0] := hx 0 _ rfl
  have c1 : FitsZ R enc Tryz.prog w 22 [a1] := hx 1 _ rfl
  have c2 : FitsZ R enc Tryz.prog w 9 [a2] := hx 2 _ rfl
  have h4 : Tryz.prog.cellsOf 25 = 4 := by kernel_rfl
  have c3 : FitsZ R enc Tryz.prog w 25 (List.take (Tryz.prog.cellsOf 25) (List.drop 3 [a0, a1, a2, a3, a4, a5, a6])) := hx 3 _ rfl
  rw [h4] at c3
  replace c3 : FitsZ R enc Tryz.prog w 25 [a3, a4, a5, a6] := c3
  obtain ⟨k, e0, _⟩ := fits_int c0.fits Tryz.underlying3
  obtain ⟨u, e1, hu⟩ := fits_int c1.fits Tryz.underlying22
  obtain ⟨s, e2, hs, _⟩ := fitsZ_string c2 Tryz.underlying9
  obtain ⟨m, e3, hm⟩ := open_msgZ c3
  obtain ⟨q, rfl, hq⟩ := u32_range hu
  simp only [List.cons.injEq, and_true] at e0 e1 e2
  subst e0 e1 e2
  refine ⟨k, q, s, m, ?_, hq, hs, hm⟩
  unfold noteC
  unfold msgC at e3
  simp only [List.cons.injEq, and_true] at e3
  obtain ⟨rfl, rfl, rfl, rfl⟩ := e3
  rfl
end
section
variable {H : Type} {enc : TypeId × Value → H} {W : World} {base0 b0 : Nat} {spare : Nat → Bool} {held : Bool} {r : Reach} {R : Nat}
set_option maxRecDepth 100000 in
theorem box_arg {v : Value} {d : DataW H} {ps : List MemPlace} (hv : Value.okWide Tryz.prog W r b0 50 v) (h : DataW.Trod enc Tryz.prog W base0 spare held 50 v d ps) (hz : ∀ k ∈ d.weights Tryz.prog 50, k ≤ R) :
    ∃ (nm : ByteArray) (e nx : Nat) (A : Option Addr) (c : Nat) (l : List MsgV), v = .agg (boxC nm e nx A l.length c) ∧ nm.size ≤ maxLen ∧ nm.size ≤ R ∧ e < 4294967296 ∧ nx < 4294967296 ∧ l.length ≤ c ∧ c ≤ maxLen ∧ l.length ≤ R ∧ Msgs W A l.length l ∧ ∀ m ∈ l, MsgOk R W m := by
  obtain ⟨cs, rfl, hf⟩ := fitsZ_struct hv Tryz.underlying50 h hz
  obtain ⟨nm, e, nx, A, c, l, rfl, b⟩ := open_boxZ hf
  exact ⟨nm, e, nx, A, c, l, rfl, b⟩
set_option maxRecDepth 100000 in
theorem msg_arg {v : Value} {d : DataW H} {ps : List MemPlace} (hv : Value.okWide Tryz.prog W r b0 25 v) (h : DataW.Trod enc Tryz.prog W base0 spare held 25 v d ps) (hz : ∀ k ∈ d.weights Tryz.prog 25, k ≤ R) :
    ∃ m : MsgV, v = .agg #[.int .u32 (m.uid : Nat), .int .i64 m.date, .int .i64 m.flags, .slice m.a m.b.length m.c] ∧ MsgOk R W m := by
  obtain ⟨cs, rfl, hf⟩ := fitsZ_struct hv Tryz.underlying25 h hz
  obtain ⟨m, e, hm⟩ := open_msgZ hf
  exact ⟨m, by congr 1; exact Array.ext' e, hm⟩
set_option maxRecDepth 100000 in
theorem note_arg {v : Value} {d : DataW H} {ps : List MemPlace} (hv : Value.okWide Tryz.prog W r b0 27 v) (h : DataW.Trod enc Tryz.prog W base0 spare held 27 v d ps) (hz : ∀ k ∈ d.weights Tryz.prog 27, k ≤ R) :
    ∃ (k : Int) (e : Nat) (nm : ByteArray) (m : MsgV), v = .agg (noteC k e nm m) ∧ NoteOk R W e nm m := by
  obtain ⟨cs, rfl, hf⟩ := fitsZ_struct hv Tryz.underlying27 h hz
  obtain ⟨k, e, nm, m, hx, hm⟩ := open_noteZ hf
  exact ⟨k, e, nm, m, by congr 1; exact Array.ext' hx, hm⟩
end
end Go.Proofs.YtmjikfeaopmejaaGreatDoor
/-
  Walk: a note's frame, by the document (cubbyref09.Frame); notes as arguments.
-/
namespace Go.Proofs.YtmjikfeaopmejaaGreatDoor
open Go.RowKit Go.ChangeShapes Go.WideShapes
set_option maxRecDepth 100000 in
theorem refNFrame_any (n : NoteV) (w : World) (hv : formedV n.kind n.ep n.nm n.m = true) (he : n.ep < 4294967296) (hu : n.m.uid < 4294967296) (hr : Reads w w.heap.size 1 n.m.a n.m.b.length (u8s n.m.b)) :
    Calls Tryz.prog 24 #[.agg n.C] w fun ev w' => ∃ r, ev = .returned r ∧ Own8 w.heap.size w' r (frameV n.kind n.ep n.nm n.m) ∧ Below w.heap.size w w' := by
  obtain ⟨q, hq, h1, h3⟩ := formed_kind hv
  have hlen := encV_len hv
  have hfr : frameB q (encV n.kind n.ep n.nm n.m) = frameV n.kind n.ep n.nm n.m := by unfold frameV; rw [hq]; rfl
  refine calls_at 8 Tryz.func24 rfl rfl (Nat.le_of_ble_eq_true rfl) ?_
  intro a hA; replace hA := hA.norm
  refine wS (wR ?_)
  refine wl_new hA rfl rfl (by decide) (fun ev h => by simp [go_sem, h.get 0 rfl]; try first | exact ⟨rfl, rfl⟩ | rfl) fun w1 a (K : Blk _ _ _ _) hz hb0 hA => ?_
  unfold NoteV.C noteC at K
  have hr1 := (hr.below hb0).more hb0.size
  revert a; refine wo rfl rfl (by decide) (fun ev e h => by simp [go_sem, h] <;> rfl) ?_; intro a hA
  replace hA := hA.keepN [1]
  have pD := fun (wo : World) (hC : (fun wy => Below w1.heap.size w1 wy) wo) => have Kx := K.below hC K.lt; (Kx.cell)
  refine wN (nT (wS ?_))
  refine wp_region_split 5 ?_
  simp only [List.take_succ_cons, List.take_zero, List.drop_succ_cons, List.drop_zero]
  refine wp_any_split_at hA [(.det ?dD0), (.det ?dD1), (.det ?dD2), (.used (fun v wy => Took wy v (encV n.kind n.ep n.nm n.m))), (.held (fun v wy => Own8 w1.heap.size wy v (frameV n.kind n.ep n.nm n.m)))] [] (fun wy => Below w1.heap.size w1 wy) (TSp [] Grows) (by kernel_rfl) rfl (by kernel_rfl) (by kernel_rfl) rfl (by kernel_rfl) (by kernel_rfl) (by kernel_rfl) (by kernel_rfl) ((Below.refl _ _).drew) (stab_sp [] [true, true, true, false, false] [true, true, true, false, true] [] rfl rfl rfl (by kernel_rfl) ⟨trivial, trivial, trivial, (fun _ _ _ _ hp hb => hp.below hb), (fun _ _ _ _ hp hb => hp.below hb), trivial⟩ trivial) (fun _ h => by cases h) (fun _ _ _ _ _ h => by cases h) (fun _ h => by cases h) ⟨?oD0, ?oD1, ?oD2, ?oD3, ?oD4, trivial⟩ (by kernel_rfl) ?fD
  case oD0 => intro ev wo hev hC hs hph; have x0 := se hA hs 1; exact od rfl rfl (by kernel_rfl) hC (TSp.of rfl (Grows.refl _)) (by simp [go_sem, x0] <;> rfl)
  case oD1 => intro ev wo hev hC hs hph; have x0 := sd hs 3 0; exact od rfl rfl (by kernel_rfl) hC (TSp.of rfl (Grows.refl _)) (by simp [go_sem, x0, pD _ hC] <;> rfl)
  case oD2 => intro ev wo hev hC hs hph; have x0 := se hA hs 1; exact od rfl rfl (by kernel_rfl) hC (TSp.of rfl (Grows.refl _)) (by simp [go_sem, x0, pD _ hC] <;> rfl)
  case oD3 =>
    intro ev wo hev hC hs hph
    have e5 := sd hs 5 2
    have Kx := K.below hC K.lt
    exact ob_yes (wanted_none rfl) (does_enter (exec_call Tryz.func15 (by kernel_rfl) rfl (hev.func _) (by simp [e5]; try rfl)) (Calls.mono (refNote_any n.kind n.ep n.nm n.m wo hv he hu ((hr1.below hC).more hC.size)) (by
      rintro ev' w7 ⟨r, rfl, ho, hb7⟩
      exact ⟨r, rfl, hC.trans (hb7.mono hC.size), TSp.of rfl hb7, ho.took, no_start (by kernel_rfl)⟩)))
  case oD4 =>
    intro ev wo hev hC hs hph
    have e4 := sd hs 4 1
    have u6 := su hs 6 3
    have Kx := K.below hC K.lt
    obtain ⟨A1, c1, e1, hr1⟩ := u6
    exact ob_yes (wanted_none rfl) (does_enter (exec_call Tryz.func16 (by kernel_rfl) rfl (hev.func _) (by simp [e4, e1, hq]; try rfl)) (Calls.mono (refFrame_any q h1 h3 A1 _ c1 (encV n.kind n.ep n.nm n.m) rfl (by omega) wo hr1) (by
      rintro ev' w7 ⟨r, rfl, ho, hb7⟩
      rw [hfr] at ho
      exact ⟨r, rfl, hC.trans (hb7.mono hC.size), TSp.of rfl hb7, ho.mono hC.size, no_start (by kernel_rfl)⟩)))
  intro sg wf hC hph
  intro x6 hx6
  intro x7 hx7 h7
  intro a hA
  replace hA := hA.keepN [7]
  revert a; refine wo rfl rfl (by decide) (fun ev e h => by simp [go_sem, h] <;> rfl) ?_; intro a hA
  replace hA := hA.keepN [2]
  refine wN (nT (wp_ret ?_))
  refine ret_1 hA 2 rfl rfl ?_
  exact ⟨_, rfl, h7.mono hb0.size, hb0.trans (hC.mono hb0.size)⟩
section
variable {H : Type} {enc : TypeId × Value → H} {w W : World} {base0 b0 : Nat} {spare : Nat → Bool} {held : Bool} {r : Reach} {R : Nat}
set_option maxRecDepth 100000 in
theorem open_notesZ {c1 : Value} (h : FitsZ R enc Tryz.prog w 44 [c1]) : ∃ (A : Option Addr) (c : Nat) (l : List NoteV), c1 = .slice A l.length c ∧ l.length ≤ c ∧ c ≤ maxLen ∧ l.length ≤ R ∧ RowR refNoteSh w A l ∧ ∀ n ∈ l, NoteOk R w n.ep n.nm n.m := by
  have hk : Tryz.prog.cellsOf 27 = 7 := by kernel_rfl
  obtain ⟨A, n, c, L, hcs, hn, hc, hR, hl, hL, hr⟩ := fitsZ_slice h Tryz.underlying44 (by rw [hk]; omega) (Nat.le_of_ble_eq_true (by kernel_rfl))
  rw [hk] at hr
  obtain ⟨l, rfl, hq⟩ := choose_list (f := noteL7) (Q := fun n => NoteOk R w n.ep n.nm n.m) fun x hx => by
    obtain ⟨k, e, nm, m, h1, h2⟩ := open_noteZ (hL x hx).2
    exact ⟨⟨k, e, nm, m⟩, h1, h2⟩
  rw [List.length_map] at hl
  rw [map_flat] at hr
  subst hl
  simp only [List.cons.injEq, and_true] at hcs
  exact ⟨A, c, l, hcs, hn, hc, hR, ⟨hr, fun m hm p hp => by rw [List.mem_singleton.1 hp]; exact (hq m hm).msg.octs⟩, hq⟩
set_option maxRecDepth 100000 in
theorem notes_arg {v : Value} {d : DataW H} {ps : List MemPlace} (hv : Value.okWide Tryz.prog W r b0 44 v) (h : DataW.Trod enc Tryz.prog W base0 spare held 44 v d ps) (hz : ∀ k ∈ d.weights Tryz.prog 44, k ≤ R) :
    ∃ (A : Option Addr) (c : Nat) (l : List NoteV), v = .slice A l.length c ∧ l.length ≤ c ∧ c ≤ maxLen ∧ l.length ≤ R ∧ RowR refNoteSh W A l ∧ ∀ n ∈ l, NoteOk R W n.ep n.nm n.m := by
  obtain ⟨A, n, c, rfl⟩ := okWide_slice Tryz.underlying44 hv
  obtain ⟨A', c', l, e, b⟩ := open_notesZ (fitsZ_plain h rfl hz)
  exact ⟨A', c', l, e, b⟩
set_option maxRecDepth 100000 in
theorem u8_arg {v : Value} {d : DataW H} {ps : List MemPlace} (hv : Value.okWide Tryz.prog W r b0 5 v) (h : DataW.Trod enc Tryz.prog W base0 spare held 5 v d ps) : ∃ k : UInt8, v = .int .u8 (k.toNat : Nat) := by
  obtain ⟨x0, rfl, _, _, h0⟩ := open_int Tryz.underlying5 hv h
  obtain ⟨k, rfl⟩ := u8_range h0
  exact ⟨k, rfl⟩
end
end Go.Proofs.YtmjikfeaopmejaaGreatDoor
/-
  Walk of the law: notes that come behind a log, one by one, say what all of them say; what is torn behind them nothing.
-/
namespace Go.Proofs.YtmjikfeaopmejaaGreatDoor
open Go.RowKit
set_option linter.unusedSimpArgs false
set_option linter.unusedVariables false
theorem framesB_snoc (l : List NoteV) (n : NoteV) : framesB (l ++ [n]) = framesB l ++ n.frame := by unfold framesB; rw [List.flatMap_append]; simp
theorem frame_le {n : NoteV} (h : FormedN n) : n.frame.length ≤ 20144 := by
  have := encV_len h.ok
  rw [frame_len]
  omega
theorem framesB_le : ∀ {l : List NoteV}, (∀ n ∈ l, FormedN n) → (framesB l).length ≤ l.length * 20144
  | [], _ => Nat.le_refl _
  | n :: l, h => by
    have h1 := framesB_le (l := l) fun m hm => h m (List.mem_cons_of_mem _ hm)
    have h2 := frame_le (h n List.mem_cons_self)
    unfold framesB at h1 ⊢
    rw [List.flatMap_cons, List.length_append, List.length_cons]
    omega
theorem map_at0 (l : List NoteV) : l.map NoteV.b = (notesAt 0 l).map z0 := (notesAt_z0 0 l).symm
/-- what is read of the frames of notes -/
theorem read_frames {l : List NoteV} (h : ∀ n ∈ l, FormedN n) {b : List UInt8} (hb : notesB b = notesAt 0 l) : boxS (ofAll (notesB b)) = boxS (ofAll (l.map NoteV.b)) ∧ cleanS (ofAll (notesB b)) = cleanS (ofAll (l.map NoteV.b)) := by
  rw [map_at0, boxS_z0, cleanS_z0, hb]
  exact ⟨rfl, rfl⟩
theorem OwnR.ne8 {M : Type} {s : Sh M} {B B2 : Nat} {w : World} {v u : Value} {l : List M} {b : List UInt8} (h : OwnR s B w v l) (h8 : Own8 B2 w u b) (hT : 5 ≠ s.T) {g : Nat} (hg : v.ownBlock = some g) : u.ownBlock ≠ some g := fun hg2 => by
  obtain ⟨cs, hc⟩ := own_kind h.row hg
  obtain ⟨cs2, hc2⟩ := own_kind h8 hg2
  rw [hc] at hc2
  injection hc2 with hc2
  injection hc2 with _ hc2
  exact hT hc2.symm
def tornN : NoteV := ⟨3, 4294967295, ⟨#[]⟩, ⟨1, 0, 0, none, 0, []⟩⟩
theorem torn_formed : FormedN tornN := ⟨by unfold tornN formedV bareV; simp [ByteArray.toList_eq], by decide, by decide⟩
theorem torn_len : tornN.frame.length = 52 := by
  rw [frame_len]
  unfold tornN encV enc1 enc2 enc3
  simp [be_length]
set_option maxRecDepth 100000 in
set_option maxHeartbeats 8000000 in
theorem logGrows_law (A : Option Addr) (n c : Nat) (N : List NoteV) (tt : UInt8) (hl : N.length = n) (hc : n ≤ c) (w : World) (hm : MaxCell w) (hg : 0 < w.heap.size) (htab : Lib.TabIs Tryz.prog w "internal/strconv.uint64pow10" .u64 Lib.pow10Tab) (hr : RowR refNoteSh w A N)
    (hok : ∀ x ∈ N, x.nm.size ≤ 9223372036854775807 ∧ x.ep < 4294967296 ∧ x.m.uid < 4294967296) :
    Calls Tryz.prog 5 #[.slice A n c, .int .u8 (tt.toNat : Nat)] w fun ev w' => ev = .returned (.bool true) ∧ Below w.heap.size w w' := by
  have Ht := Lib.tabBelow_of_tabIs htab
  refine calls_at 101 Tryz.func5 rfl rfl (Nat.le_of_ble_eq_true rfl) ?_
  intro a hA; replace hA := hA.norm
  refine wS (wR ?_)
  revert a; refine wo rfl rfl (by decide) (fun ev e h => by simp [go_sem, h] <;> rfl) ?_; intro a hA
  replace hA := hA.keepN [0, 1]
  refine wN (nT (wS (wS (wR ?_))))
  refine wl_call hA rfl rfl (by decide) (fun ev h => exec_call Tryz.func18 (by kernel_rfl) rfl (h.f _) (by first | (simp only [mL, h.c] <;> rfl) | (simp [mL, h.c] <;> rfl))) (logAwake_any w hm hg htab) ?_
  rintro e w1 ⟨rfl, HB⟩
  refine ⟨_, rfl, fun a hA => ?_⟩
  revert a; (iterate 2 refine wo rfl rfl (by decide) (fun ev e h => by simp [go_sem, h] <;> rfl) ?_); (iterate 3 refine wg _ rfl rfl rfl rfl (by decide) (fun hq ev e h => by simp [go_sem, h, ↓gw_t (beq_t hq)] <;> rfl) ?_); refine wko rfl rfl (by decide) rfl rfl rfl ?_; intro a hA
  replace hA := hA.keepN [0, 1, 20]
  refine wN (nT ?_)
  refine wp_if hA 20 _ rfl (fun hq => ?yA) (fun hq => ?nA)
  case yA =>
    refine wS (wR ?_)
    refine wl_call hA rfl rfl (by decide) (fun ev h => exec_call Tryz.func18 (by kernel_rfl) rfl (h.f _) (by first | (simp only [mL, h.c] <;> rfl) | (simp [mL, h.c] <;> rfl))) (logAwake_any _ (hm.below hg HB) (Nat.lt_of_lt_of_le hg HB.size) (Ht _ HB)) ?_
    rintro e w4 ⟨rfl, hb4⟩
    refine ⟨_, rfl, fun a hA => ?_⟩
    replace HB := HB.trans (hb4.mono HB.size)
    revert a; refine wo rfl rfl (by decide) (fun ev e h => by simp [go_sem, h] <;> rfl) ?_; intro a hA
    replace hA := hA.keepN [4]
    refine wN (nT (wp_ret (rT ?_)))
    refine ret_1 hA 4 rfl rfl ?_
    exact ⟨rfl, HB⟩
  case nA =>
    have hn : n ≤ 30 := by simp at hq; omega
    refine wp_skip (nT (wS (wR ?_)))
    revert a; refine wo rfl rfl (by decide) (fun ev e h => by simp [go_sem, h] <;> rfl) ?_; intro a hA
    replace hA := hA.keepN [0, 1, 5]
    refine wN (nT (wS (wS (wR ?_))))
    revert a; (iterate 3 refine wo rfl rfl (by decide) (fun ev e h => by simp [go_sem, h] <;> rfl) ?_); intro a hA
    replace hA := hA.keepN [0, 1, 5, 23, 24]
    refine wN (nT (wB ?_))
    refine wp_loop_at (fun kk a wx => ∃ (j : Nat) (v : Value), j + kk = n ∧ At 101 [(0, .slice A n c), (1, .int .u8 (tt.toNat : Nat)), (5, v), (23, .int .i64 (n : Nat)), (24, .int .i64 (j : Nat))] a ∧ Own8 w.heap.size wx v (framesB (N.take j)) ∧ (∀ x ∈ N.take j, FormedN x) ∧ Below w.heap.size w wx) (n) ?_ ?_
    · exact ⟨0, _, by omega, hA, Own8.nil _, fun _ h => (by cases h), HB⟩
    clear HB
    rintro kk a wx ⟨j, v, hjk, hA, ho, hF, HB⟩
    refine wS (wR ?_)
    revert a; refine wo rfl rfl (by decide) (fun ev e h => by simp [go_sem, h] <;> rfl) ?_; intro a hA
    replace hA := hA.keepN [0, 1, 5, 23, 24, 25]
    refine wN (nT (wS ?_))
    refine wp_if hA 25 _ rfl (fun hq2 => ?yL) (fun hq2 => ?nL)
    case yL =>
      have hlt : j < n := by simp at hq2; omega
      obtain ⟨x, hx⟩ : ∃ x, N[j]? = some x := ⟨_, List.getElem?_eq_getElem (by omega)⟩
      obtain ⟨hxs, hxe, hxu⟩ := hok x (List.mem_of_getElem? hx)
      have hxr0 := hr.octs x (List.mem_of_getElem? hx) (x.m.a, x.m.b) (List.mem_singleton.2 rfl)
      obtain ⟨ad, rfl, hadl, kz, kk'⟩ := hr.cell hx
      have cz : ∀ {wy : World}, Below w.heap.size w wy → wy.cell? (ad.add (j * 7)) = some (.int .i64 x.kind) ∧ wy.cell? ⟨(ad.add (j * 7)).block, (ad.add (j * 7)).off + 1, none⟩ = some (.int .u32 (x.ep : Nat)) ∧ wy.cell? ⟨(ad.add (j * 7)).block, (ad.add (j * 7)).off + 2, none⟩ = some (.string x.nm) ∧ wy.cell? ⟨(ad.add (j * 7)).block, (ad.add (j * 7)).off + 3, none⟩ = some (.int .u32 (x.m.uid : Nat)) ∧ wy.cell? ⟨(ad.add (j * 7)).block, (ad.add (j * 7)).off + 4, none⟩ = some (.int .i64 x.m.date) ∧ wy.cell? ⟨(ad.add (j * 7)).block, (ad.add (j * 7)).off + 5, none⟩ = some (.int .i64 x.m.flags) ∧ wy.cell? ⟨(ad.add (j * 7)).block, (ad.add (j * 7)).off + 6, none⟩ = some (.slice x.m.a x.m.b.length x.m.c) := fun {wy} hb => by
        have f : ∀ d u, 0 < d → (noteL7 x)[d]? = some u → wy.cell? ⟨(ad.add (j * 7)).block, (ad.add (j * 7)).off + d, none⟩ = some u := fun d u hd hu => (hb.cell (by show (ad.add _).block < _; rw [block_of_add]; exact hadl)).trans (kk' d _ hd hu)
        exact ⟨(hb.cell (by rw [block_of_add]; exact hadl)).trans (kz _ rfl), f 1 _ (by decide) rfl, f 2 _ (by decide) rfl, f 3 _ (by decide) rfl, f 4 _ (by decide) rfl, f 5 _ (by decide) rfl, f 6 _ (by decide) rfl⟩
      have jj0 : (0 : Int) ≤ (j : Int) := by omega
      have jj1 : (j : Int) < (n : Int) := by omega
      have hwj : IntKind.i64.wrap ((j : Int) + 1) = (j : Int) + 1 := IntWalk.i64_in _ (by omega)
      have htk : N.take (j + 1) = N.take j ++ [x] := by rw [List.take_add_one, hx]; rfl
      refine wp_skip (nT (wS (wB (wS (wR ?_)))))
      revert a; (iterate 2 refine wo rfl rfl (by decide) (fun ev e h => by simp [go_sem, h, cz HB, jj0, jj1] <;> rfl) ?_); intro a hA
      replace hA := hA.keepN [0, 1, 5, 6, 23, 24]
      refine wN (nT (wS (wS (wR ?_))))
      revert a; (iterate 4 refine wo rfl rfl (by decide) (fun ev e h => by simp [go_sem, h, cz HB, jj0, jj1] <;> rfl) ?_); intro a hA
      refine wl_call hA rfl rfl (by decide) (fun ev h => exec_call Tryz.func12 (by kernel_rfl) rfl (h.f _) (by first | (simp only [mL, h.get 30 rfl, h.c] <;> rfl) | (simp [mL, h.get 30 rfl, h.c, cz HB, jj0, jj1] <;> rfl))) (refFormed_any x.kind x.ep x.nm x.m _ hxs) ?_
      rintro e w2 ⟨rfl, hb2⟩
      refine ⟨_, rfl, fun a hA => ?_⟩
      replace HB := HB.trans (hb2.mono HB.size)
      replace ho := ho.below hb2
      revert a; (iterate 2 refine wo rfl rfl (by decide) (fun ev e h => by simp [go_sem, h, cz HB, jj0, jj1] <;> rfl) ?_); (iterate 4 refine wg _ rfl rfl rfl rfl (by decide) (fun hq ev e h => by simp [go_sem, h, ↓gw_t (beq_t hq), cz HB, jj0, jj1] <;> rfl) ?_); intro a hA
      replace hA := hA.keepN [0, 1, 5, 6, 23, 24, 33, 37]
      revert a; (iterate 4 refine wg _ rfl rfl rfl rfl (by decide) (fun hq ev e h => by simp [go_sem, h, ↓gw_t (beq_t hq), cz HB, jj0, jj1] <;> rfl) ?_); refine wko rfl rfl (by decide) rfl rfl rfl ?_; intro a hA
      replace hA := hA.keepN [0, 1, 5, 6, 23, 24, 42]
      refine wN (nT ?_)
      refine wp_if hA 42 _ rfl (fun hq3 => ?yF) (fun hq3 => ?nF)
      case yF =>
        refine wS (wR ?_)
        revert a; refine wo rfl rfl (by decide) (fun ev e h => by simp [go_sem, h, cz HB, jj0, jj1] <;> rfl) ?_; intro a hA
        replace hA := hA.keepN [4]
        refine wN (nT (wp_ret (rT (rB (rT (rT (rB (rT ?_))))))))
        refine ret_1 hA 4 rfl rfl ?_
        exact ⟨rfl, HB⟩
      case nF =>
        have hfx : formedV x.kind x.ep x.nm x.m = true := by
          cases hf : formedV x.kind x.ep x.nm x.m with
          | true => rfl
          | false => rw [hf] at hq3; cases hq3
        have hFx : FormedN x := ⟨hfx, hxe, hxu⟩
        have hFs : ∀ y ∈ N.take (j + 1), FormedN y := fun y hy => by
          rw [htk] at hy
          rcases List.mem_append.1 hy with hy | hy
          · exact hF y hy
          · rw [List.mem_singleton.1 hy]; exact hFx
        have hle := framesB_le hFs
        have htl : (N.take (j + 1)).length = j + 1 := by rw [List.length_take]; omega
        have hfs : framesB (N.take (j + 1)) = framesB (N.take j) ++ x.frame := by rw [htk, framesB_snoc]
        have hle1 := hle
        rw [hfs, List.length_append] at hle1
        rw [htl] at hle hle1
        refine wp_skip (nT (wS (wR ?_)))
        revert a; (iterate 5 refine wo rfl rfl (by decide) (fun ev e h => by simp [go_sem, h, cz HB, jj0, jj1] <;> rfl) ?_); intro a hA
        refine wl_call hA rfl rfl (by decide) (fun ev h => exec_call Tryz.func24 (by kernel_rfl) rfl (h.f _) (by first | (simp only [mL, h.get 47 rfl, h.c] <;> rfl) | (simp [mL, h.get 47 rfl, h.c, cz HB, jj0, jj1] <;> rfl))) (refNFrame_any x _ hfx hxe hxu ((hxr0.below HB))) ?_
        rintro e w3 ⟨r3, rfl, ho3, hb3⟩
        refine ⟨_, rfl, fun a hA => ?_⟩
        replace HB := HB.trans (hb3.mono HB.size)
        replace ho := ho.below hb3
        obtain ⟨r, w4, hr4, ho4, hg4⟩ := run_app8 ho ho3.took (by show _ + x.frame.length ≤ _; omega) HB.size
        refine wl_op hA rfl rfl (by decide) (fun ev h => exec_append rfl (h.get 43 rfl) (h.get 48 rfl) hr4) fun a hA => ?_
        have HB := below_app8 HB ho hg4 (Nat.le_refl _) HB.size
        have ho5 : Own8 w.heap.size w4 r (framesB (N.take (j + 1))) := by rw [hfs]; exact ho4
        clear ho ho4 ho3
        have i1 : (0 : Int) ≤ (j : Int) + 1 := by omega
        have i2 : (j : Int) + 1 ≤ (c : Int) := by omega
        have i3 : ((j : Int) + 1).toNat = j + 1 := by omega
        have hrow : ∀ {wy : World}, Below w.heap.size w wy → RowR refNoteSh wy (some ad) (N.take (j + 1)) := fun {wy} hb => by
          have h1 := hr.below hb
          refine ⟨?_, fun m hm => h1.octs m (List.mem_of_mem_take hm)⟩
          rw [htl]
          exact Reads.takeK refNoteSh.len (hl ▸ h1.row) hl (by omega)
        revert a; refine wo rfl rfl (by decide) (fun ev e h => by simp [go_sem, h, hwj, i1, i2, i3] <;> rfl) ?_; intro a hA
        replace hA := hA.keepN [0, 1, 5, 6, 23, 24]
        refine wN (nT (wS (wR ?_)))
        revert a; (iterate 4 refine wo rfl rfl (by decide) (fun ev e h => by simp [go_sem, h, hwj, i1, i2, i3] <;> rfl) ?_); intro a hA
        refine wl_call hA rfl rfl (by decide) (fun ev h => exec_call Tryz.func21 (by kernel_rfl) rfl (h.f _) (by first | (simp only [mL, h.get 54 rfl, h.c] <;> rfl) | (simp [mL, h.get 54 rfl, h.c, hwj, i1, i2, i3] <;> rfl))) (refOf_any (some ad) (j + 1) c (N.take (j + 1)) _ htl (by omega) (hrow HB) (fun m hm => ⟨(hok m (List.mem_of_mem_take hm)).2.2, (hok m (List.mem_of_mem_take hm)).2.1⟩)) ?_
        rintro e w6 ⟨v3, M, rfl, hoM, hM, -, hb6⟩
        refine ⟨_, rfl, fun a hA => ?_⟩
        replace HB := HB.trans (hb6.mono HB.size)
        replace ho5 := ho5.below hb6
        obtain ⟨SL, hSL⟩ : ∃ S, ofAll ((N.take (j + 1)).map NoteV.b) = S := ⟨_, rfl⟩
        rw [hSL] at hA hM
        obtain ⟨Am, cm, rfl, hrM, _⟩ := hoM.reads
        revert a; (iterate 3 refine wo rfl rfl (by decide) (fun ev e h => by simp [go_sem, h, hwj, i1, i2, i3] <;> rfl) ?_); intro a hA
        refine wl_local [.string (boxS SL).nm, .int .u32 ((boxS SL).ep : Nat), .int .u32 ((boxS SL).nx : Nat), .slice Am M.length cm] hA rfl rfl (by decide) (fun ev h => by simp [go_sem, hwj, i1, i2, i3]; try first | exact ⟨rfl, rfl⟩ | rfl) rfl rfl (by rfl) (fun w1 g ev hb h => by simp [go_sem, h.get 7 rfl, h.get 56 rfl, hwj, i1, i2, i3, setAll, hb.cell, hb.frozen]) fun w7 a (K7 : Blk _ _ _ _) hz7 hb7 hA => ?_
        replace HB := HB.trans (hb7.mono HB.size)
        replace ho5 := ho5.below hb7
        replace hrM := hrM.below hb7
        revert a; refine wo rfl rfl (by decide) (fun ev e h => by simp [go_sem, h, hwj, i1, i2, i3] <;> rfl) ?_; intro a hA
        replace hA := hA.keepN [0, 1, 5, 7, 8, 23, 24]
        refine wN (nT (wS (wR ?_)))
        revert a; refine wo rfl rfl (by decide) (fun ev e h => by simp [go_sem, h, hwj, i1, i2, i3] <;> rfl) ?_; intro a hA
        obtain ⟨Aa, ca, rfl, hRa, hca⟩ := own_reads ho5
        refine wl_call hA rfl rfl (by decide) (fun ev h => exec_call Tryz.func19 (by kernel_rfl) rfl (h.f _) (by first | (simp only [mL, h.get 58 rfl, h.c] <;> rfl) | (simp [mL, h.get 58 rfl, h.c, hwj, i1, i2, i3] <;> rfl))) (read_any Aa _ ca (framesB (N.take (j + 1))) rfl hca (by omega) _ (hm.below hg HB) (Nat.lt_of_lt_of_le hg HB.size) (Ht _ HB) hRa) ?_
        rintro e w8 ⟨v8, L, rfl, hoL, hlv, hb8⟩
        refine ⟨_, rfl, fun a hA => ?_⟩
        replace HB := HB.trans (hb8.mono HB.size)
        replace ho5 := ho5.below hb8
        replace hrM := hrM.below hb8
        replace K7 := K7.below hb8 K7.lt
        obtain ⟨hnB, hsB⟩ := scan_all _ hFs
        rw [takeAll_of _ (notesB_kind _)] at hA hlv
        obtain ⟨hLs, hsm, hep⟩ := log_small (by omega) hlv
        obtain ⟨hbx, hcl⟩ := read_frames hFs hnB
        rw [hSL] at hbx hcl
        obtain ⟨S, hS⟩ : ∃ S, ofAll (notesB (framesB (N.take (j + 1)))) = S := ⟨_, rfl⟩
        rw [hS] at hA hlv hep hbx hcl
        obtain ⟨A0, c0, rfl, hrr, _⟩ := hoL.reads
        obtain ⟨T, hT⟩ : ∃ T, (scan (framesB (N.take (j + 1)))).2 = T := ⟨_, rfl⟩
        rw [hT, ← hcl] at hA
        rw [← hbx] at K7 hM
        refine wl_local [.string S.nm, .int .u32 (S.ep : Nat), .int .u32 (S.nx : Nat), .slice A0 L.length c0, .int .i64 (T : Nat), .bool (cleanS S)] hA rfl rfl (by decide) (fun ev h => by simp [go_sem, hwj, i1, i2, i3]; try first | exact ⟨rfl, rfl⟩ | rfl) rfl rfl (by rfl) (fun w1 g ev hb h => by simp [go_sem, h.get 9 rfl, h.get 59 rfl, hwj, i1, i2, i3, setAll, hb.cell, hb.frozen]) fun w9 a (K9 : Blk _ _ _ _) hz9 hb9 hA => ?_
        replace HB := HB.trans (hb9.mono HB.size)
        replace ho5 := ho5.below hb9
        replace hrM := hrM.below hb9
        replace K7 := K7.below hb9 K7.lt
        replace hrr := hrr.below hb9
        replace hA := hA.keepN [0, 1, 5, 7, 8, 9, 23, 24]
        have pD := fun (wo : World) (hC : (fun wy => Below w9.heap.size w9 wy) wo) => have Kx := K9.below hC K9.lt; have Ky := K7.below hC K7.lt; And.intro (Kx.cell) (Ky.cell)
        refine wN (nT (wS ?_))
        refine wp_any_at hA [(.det ?dD0), (.det ?dD1), (.det ?dD2), (.det ?dD3), (.det ?dD4), (.det ?dD5), (.used (fun v wy => ∃ (A4 : Option Addr) (c4 : Nat) (M4 : List MsgV), v = .agg #[.string (boxS S).nm, .int .u32 ((boxS S).ep : Nat), .int .u32 ((boxS S).nx : Nat), .slice A4 M4.length c4] ∧ RowR msgSh wy A4 M4 ∧ M4.map msgB = (boxS S).msgs)), (.det ?dD7), (.det ?dD8), (.det ?dD9), (.det ?dD10)] [] (fun wy => Below w9.heap.size w9 wy) (TSp [] Grows) (by kernel_rfl) rfl (by kernel_rfl) (by kernel_rfl) rfl ((Below.refl _ _).drew) (stab_sp [] [true, true, true, true, true, true, false, true, true, true, true] [true, true, true, true, true, true, false, true, true, true, true] [] rfl rfl rfl (by kernel_rfl) ⟨trivial, trivial, trivial, trivial, trivial, trivial, (fun _ _ _ _ ⟨A4, c4, M4, h1, h2, h3⟩ hb => ⟨A4, c4, M4, h1, h2.below hb, h3⟩), trivial, trivial, trivial, trivial, trivial⟩ trivial) (fun _ h => by cases h) (fun _ _ _ _ _ h => by cases h) (fun _ h => by cases h) ⟨?oD0, ?oD1, ?oD2, ?oD3, ?oD4, ?oD5, ?oD6, ?oD7, ?oD8, ?oD9, ?oD10, trivial⟩ (by kernel_rfl) ?fD
        case oD0 => intro ev wo hev hC hs hph; have x0 := se hA hs 9; exact od rfl rfl (by kernel_rfl) hC (TSp.of rfl (Grows.refl _)) (by simp [go_sem, x0] <;> rfl)
        case oD1 => intro ev wo hev hC hs hph; have x0 := sd hs 60 0; exact od rfl rfl (by kernel_rfl) hC (TSp.of rfl (Grows.refl _)) (by simp [go_sem, x0, pD _ hC, hwj, i1, i2, i3] <;> rfl)
        case oD2 => intro ev wo hev hC hs hph; have x0 := se hA hs 8; exact od rfl rfl (by kernel_rfl) hC (TSp.of rfl (Grows.refl _)) (by simp [go_sem, x0] <;> rfl)
        case oD3 => intro ev wo hev hC hs hph; have x0 := sd hs 61 1; have x1 := sd hs 62 2; exact od rfl rfl (by kernel_rfl) hC (TSp.of rfl (Grows.refl _)) (by simp [go_sem, x0, x1] <;> rfl)
        case oD4 => intro ev wo hev hC hs hph; have x0 := sd hs 63 3; exact od rfl rfl (by kernel_rfl) hC (TSp.of rfl (Grows.refl _)) (by simp [go_sem, x0] <;> rfl)
        case oD5 => intro ev wo hev hC hs hph; have x0 := se hA hs 9; have y := sd hs 64 4; exact ob_gv _ rfl rfl y rfl (by kernel_rfl) hC (TSp.of rfl (Grows.refl _)) (fun hq => by simp [go_sem, x0, pD _ hC, hwj, i1, i2, i3] <;> rfl) (by rfl)
        case oD6 =>
          intro ev wo hev hC hs hph
          have e65 := sd hs 65 5
          have e64 := sd hs 64 4
          have Kx := K9.below hC K9.lt
          have Ky := K7.below hC K7.lt
          exact ob_yes (wanted_bool rfl rfl e64 rfl) (does_enter (exec_call Tryz.func22 (by kernel_rfl) rfl (hev.func _) (by simp [e65, gw]; try rfl)) (Calls.mono (box_any S (T : Int) A0 c0 L.length L wo hLs rfl (hrr.below hC) hsm hlv hep) (by
            rintro ev' w7 ⟨v4, M4, rfl, hoM4, hM4, hb7⟩
            obtain ⟨A4, c4, rfl, hrM4, _⟩ := hoM4.reads
            exact ⟨_, rfl, hC.trans (hb7.mono hC.size), TSp.of rfl hb7, ⟨A4, c4, M4, rfl, hrM4, hM4⟩, no_start (by kernel_rfl)⟩)))
        case oD7 => intro ev wo hev hC hs hph; have x0 := se hA hs 7; have y := sd hs 64 4; exact ob_gv _ rfl rfl y rfl (by kernel_rfl) hC (TSp.of rfl (Grows.refl _)) (fun hq => by simp [go_sem, x0, pD _ hC, hwj, i1, i2, i3] <;> rfl) (by rfl)
        case oD8 =>
          intro ev wo hev hC hs hph
          have u66 := su hs 66 6
          have e67 := sd hs 67 7
          have e64 := sd hs 64 4
          have Kx := K9.below hC K9.lt
          have Ky := K7.below hC K7.lt
          obtain ⟨A4, c4, M4, e66, hr4, hm4⟩ := u66
          have hl4 : M4.length ≤ 140737488355328 := by
            have := congrArg List.length hm4
            rw [List.length_map, boxS_len] at this
            have h9 := congrArg List.length hlv
            rw [List.length_map, List.length_map] at h9
            omega
          exact ob_gcall _ rfl rfl e64 rfl (by kernel_rfl) (by rfl) (fun hq => exec_call Tryz.func23 (by kernel_rfl) rfl (hev.func _) (by simp [e66, e67, gw]; try first | exact ⟨rfl, rfl⟩ | rfl)) (fun hq => (refSameBoxR_any (boxS S).nm (boxS S).nm A4 Am c4 cm M4.length M.length (boxS S).ep (boxS S).ep (boxS S).nx (boxS S).nx M4 M wo hl4 hr4.msgR (hrM.below hC).msgR).mono fun e' w' h => (⟨by rw [h.1, boxSame_msgB (hm4.trans hM.symm)], h.2⟩ : e' = .returned (.bool true) ∧ _)) (fun w3 hb3 => ⟨hC.trans (hb3.mono hC.size), TSp.of rfl hb3⟩)
        case oD9 => intro ev wo hev hC hs hph; have x0 := sd hs 68 8; have y := sd hs 64 4; exact ob_gv _ rfl rfl y rfl (by kernel_rfl) hC (TSp.of rfl (Grows.refl _)) (fun hq => by simp [go_sem, (x0.trans (gw_t (beq_t hq)))] <;> rfl) (by rfl)
        case oD10 => intro ev wo hev hC hs hph; have x0 := sd hs 64 4; have x1 := sd hs 69 9; exact od rfl rfl (by kernel_rfl) hC (TSp.of rfl (Grows.refl _)) (by rw [pick_or rfl x0 (hev.const _) x1] <;> rfl)
        intro sg wf hC hph
        intro x66 hx66
        intro a hA
        replace hA := hA.keepN [0, 1, 5, 23, 24, 70]
        refine nT ?_
        have HB9 := HB.trans (hC.mono HB.size)
        replace ho5 := ho5.below hC
        refine wp_if hA 70 _ rfl (fun hq4 => ?yG) (fun hq4 => ?nG)
        case yG => simp at hq4
        case nG =>
          refine wp_skip (nB (nT (wR ?_)))
          revert a; (iterate 2 refine wo rfl rfl (by decide) (fun ev e h => by simp [go_sem, h, hwj] <;> rfl) ?_); intro a hA
          replace hA := hA.keepN [0, 1, 5, 23, 24]
          refine wN (nT ?_)
          rw [show ((j : Int) + 1) = ((j + 1 : Nat) : Int) by omega] at hA
          exact ⟨kk - 1, by omega, j + 1, _, by omega, hA, ho5, hFs, HB9⟩
    case nL =>
      have hjn : j = n := by simp at hq2; omega
      rw [List.take_of_length_le (by omega)] at ho hF
      obtain ⟨Av, cv, rfl, _⟩ := own_reads ho
      have hle := framesB_le hF
      replace hA := hA.keepN [0, 1, 5]
      refine wp_exit (xT (xT (xB (nT (wS (wR ?_))))))
      revert a; (iterate 2 refine wo rfl rfl (by decide) (fun ev e h => by simp [go_sem, h] <;> rfl) ?_); intro a hA
      refine wl_call hA rfl rfl (by decide) (fun ev h => exec_call Tryz.func24 (by kernel_rfl) rfl (h.f _) (by first | (simp only [mL, h.get 73 rfl, h.c] <;> rfl) | (simp [mL, h.get 73 rfl, h.c] <;> rfl))) (refNFrame_any tornN _ torn_formed.ok torn_formed.ep torn_formed.uid Reads.none8) ?_
      rintro e w2 ⟨r2, rfl, ho2, hb2⟩
      refine ⟨_, rfl, fun a hA => ?_⟩
      replace HB := HB.trans (hb2.mono HB.size)
      replace ho := ho.below hb2
      revert a; refine wo rfl rfl (by decide) (fun ev e h => by simp [go_sem, h] <;> rfl) ?_; intro a hA
      replace hA := hA.keepN [0, 1, 5, 10]
      refine wN (nT (wS (wR ?_)))
      revert a; refine wo rfl rfl (by decide) (fun ev e h => by simp [go_sem, h] <;> rfl) ?_; intro a hA
      refine wl_call hA rfl rfl (by decide) (fun ev h => exec_call Tryz.func21 (by kernel_rfl) rfl (h.f _) (by first | (simp only [mL, h.get 76 rfl, h.c] <;> rfl) | (simp [mL, h.get 76 rfl, h.c] <;> rfl))) (refOf_any A n c N _ hl (by omega) (hr.below HB) (fun m hm => ⟨(hok m hm).2.2, (hok m hm).2.1⟩)) ?_
      rintro e w6 ⟨v3, M, rfl, hoM, hM, hMN, hb6⟩
      refine ⟨_, rfl, fun a hA => ?_⟩
      replace HB := HB.trans (hb6.mono HB.size)
      replace ho := ho.below hb6
      replace ho2 := ho2.below hb6
      obtain ⟨SL, hSL⟩ : ∃ S, ofAll (N.map NoteV.b) = S := ⟨_, rfl⟩
      rw [hSL] at hA hM
      obtain ⟨Am, cm, rfl, _⟩ := hoM.reads
      revert a; (iterate 3 refine wo rfl rfl (by decide) (fun ev e h => by simp [go_sem, h] <;> rfl) ?_); intro a hA
      refine wl_local [.string (boxS SL).nm, .int .u32 ((boxS SL).ep : Nat), .int .u32 ((boxS SL).nx : Nat), .slice Am M.length cm] hA rfl rfl (by decide) (fun ev h => by simp [go_sem]; try first | exact ⟨rfl, rfl⟩ | rfl) rfl rfl (by rfl) (fun w1 g ev hb h => by simp [go_sem, h.get 11 rfl, h.get 78 rfl, setAll, hb.cell, hb.frozen]) fun w7 a (K7 : Blk _ _ _ _) hz7 hb7 hA => ?_
      replace HB := HB.trans (hb7.mono HB.size)
      replace ho := ho.below hb7
      replace ho2 := ho2.below hb7
      replace hoM := hoM.below hb7
      obtain ⟨Ap, cp, rfl, hRp, hcp⟩ := own_reads ho2
      have h52 : (frameV tornN.kind tornN.ep tornN.nm tornN.m).length = 52 := torn_len
      rw [h52] at hRp hcp hA
      have htt : tt.toNat < 256 := tt.toNat_lt
      have hw8 : IntKind.i64.wrap (tt.toNat : Int) = (tt.toNat : Int) := IntWalk.i64_in _ (by omega)
      obtain ⟨k, hk⟩ : ∃ k, tt.toNat % 52 = k := ⟨_, rfl⟩
      have hk52 : k < 52 := by rw [← hk]; exact Nat.mod_lt _ (by decide)
      have hrem : Int.tmod (tt.toNat : Int) 52 = (k : Int) := by rw [← hk]; rfl
      have hwk : IntKind.i64.wrap (k : Int) = (k : Int) := IntWalk.i64_in _ (by omega)
      have i1 : (0 : Int) ≤ (k : Int) := by omega
      have i2 : (k : Int) ≤ (cp : Int) := by omega
      revert a; refine wo rfl rfl (by decide) (fun ev e h => by simp [go_sem, h, hw8, hrem, hwk, i1, i2] <;> rfl) ?_; intro a hA
      replace hA := hA.keepN [1, 5, 10, 11]
      refine wN (nT (wS (wR ?_)))
      revert a; (iterate 3 refine wo rfl rfl (by decide) (fun ev e h => by simp [go_sem, h, hw8, hrem, hwk, i1, i2] <;> rfl) ?_); intro a hA
      refine wl_op hA rfl rfl (by decide) (fun ev h => by simp [go_sem, h.get 82 rfl, hw8, hrem, hwk, i1, i2]; try first | exact ⟨rfl, rfl⟩ | rfl) fun a hA => ?_
      revert a; (iterate 4 refine wo rfl rfl (by decide) (fun ev e h => by simp [go_sem, h, hw8, hrem, hwk, i1, i2] <;> rfl) ?_); intro a hA
      obtain ⟨Fr, hFr⟩ : ∃ F : List UInt8, tornN.frame.take k = F := ⟨_, rfl⟩
      have hFl : Fr.length = k := by rw [← hFr, List.length_take, torn_len]; omega
      obtain ⟨r, w8, hr8, ho8, hg8⟩ := run_app8 ho (u := .slice Ap k cp) (m := Fr) ⟨Ap, cp, by rw [hFl], by rw [hFl, ← hFr]; exact Reads.take8 hRp (by omega)⟩ (by omega) HB.size
      refine wl_op hA rfl rfl (by decide) (fun ev h => exec_append rfl (h.get 80 rfl) (h.get 87 rfl) hr8) fun a hA => ?_
      have HB := below_app8 HB ho hg8 (Nat.le_refl _) HB.size
      have hoM8 := hoM.grown hg8 (fun g h => hoM.ne8 ho (by decide) h) (fun g hg' m hm p hp => by
        rw [List.mem_singleton.1 hp]
        intro hn' ad ha e
        obtain ⟨x, hx, h1, h2⟩ := hMN m hm
        have h3 := hr.octs x hx (x.m.a, x.m.b) (List.mem_singleton.2 rfl)
        have hn2 : 0 < x.m.b.length := by rw [← h2]; exact hn'
        obtain ⟨ad2, e2, hlt2, _⟩ := h3.2 hn2
        have ha' : m.a = some ad := ha
        have e3 : x.m.a = some ad2 := e2
        rw [h1, e3] at ha'
        injection ha' with ha'
        subst ha'
        have := (World.ownsRow.lt ho g hg').1
        omega)
      obtain ⟨Am', cm', eM, hrM8, _⟩ := hoM8.reads
      injection eM with eM1 _ eM2
      subst eM1 eM2
      have K78 := K7.grown hg8 (fun e => by
        have := own_ne ho K7 (by decide) _ e.symm
        exact this rfl)
      obtain ⟨Aa, ca, rfl, hRa, hca⟩ := own_reads ho8
      have hll : (framesB N ++ Fr).length ≤ 16000000 := by rw [List.length_append]; omega
      refine wl_call hA rfl rfl (by decide) (fun ev h => exec_call Tryz.func19 (by kernel_rfl) rfl (h.f _) (by first | (simp only [mL, h.get 88 rfl, h.c] <;> rfl) | (simp [mL, h.get 88 rfl, h.c, hw8, hrem, hwk, i1, i2] <;> rfl))) (read_any Aa _ ca (framesB N ++ Fr) rfl hca hll _ (hm.below hg HB) (Nat.lt_of_lt_of_le hg HB.size) (Ht _ HB) hRa) ?_
      rintro e w9 ⟨v8, L, rfl, hoL, hlv, hb9⟩
      refine ⟨_, rfl, fun a hA => ?_⟩
      replace HB := HB.trans (hb9.mono HB.size)
      replace K78 := K78.below hb9 K78.lt
      replace hrM8 := hrM8.below hb9
      obtain ⟨hnB, hsB⟩ := scan_torn_part N hF tornN torn_formed k (by rw [torn_len]; exact hk52)
      rw [hFr] at hnB hsB
      rw [takeAll_of _ (notesB_kind _)] at hA hlv
      obtain ⟨hLs, hsm, hep⟩ := log_small hll hlv
      obtain ⟨hbx, hcl⟩ := read_frames hF hnB
      rw [hSL] at hbx hcl
      obtain ⟨S, hS⟩ : ∃ S, ofAll (notesB (framesB N ++ Fr)) = S := ⟨_, rfl⟩
      rw [hS] at hA hlv hep hbx hcl
      obtain ⟨A0, c0, rfl, hrr, _⟩ := hoL.reads
      rw [hsB] at hA
      obtain ⟨T, hT⟩ : ∃ T, (framesB N).length = T := ⟨_, rfl⟩
      rw [hT] at hA
      rw [← hbx] at K78 hM
      refine wl_local [.string S.nm, .int .u32 (S.ep : Nat), .int .u32 (S.nx : Nat), .slice A0 L.length c0, .int .i64 (T : Nat), .bool (cleanS S)] hA rfl rfl (by decide) (fun ev h => by simp [go_sem, hw8, hrem, hwk, i1, i2]; try first | exact ⟨rfl, rfl⟩ | rfl) rfl rfl (by rfl) (fun w1 g ev hb h => by simp [go_sem, h.get 13 rfl, h.get 89 rfl, hw8, hrem, hwk, i1, i2, setAll, hb.cell, hb.frozen]) fun w10 a (K9 : Blk _ _ _ _) hz10 hb10 hA => ?_
      replace HB := HB.trans (hb10.mono HB.size)
      replace K78 := K78.below hb10 K78.lt
      replace hrM8 := hrM8.below hb10
      replace hrr := hrr.below hb10
      replace hA := hA.keepN [5, 11, 13]
      have pE := fun (wo : World) (hC : (fun wy => Below w10.heap.size w10 wy) wo) => have Kx := K9.below hC K9.lt; have Ky := K78.below hC K78.lt; And.intro (Kx.cell) (Ky.cell)
      refine wN (nT (wS ?_))
      refine wp_region_split 11 ?_
      simp only [List.take_succ_cons, List.take_zero, List.drop_succ_cons, List.drop_zero]
      refine wp_any_split_at hA [(.det ?dE0), (.used (fun v wy => ∃ (A4 : Option Addr) (c4 : Nat) (M4 : List MsgV), v = .agg #[.string (boxS S).nm, .int .u32 ((boxS S).ep : Nat), .int .u32 ((boxS S).nx : Nat), .slice A4 M4.length c4] ∧ RowR msgSh wy A4 M4 ∧ M4.map msgB = (boxS S).msgs)), (.det ?dE2), (.det ?dE3), (.det ?dE4), (.det ?dE5), (.det ?dE6), (.det ?dE7), (.det ?dE8), (.det ?dE9), (.det ?dE10)] [] (fun wy => Below w10.heap.size w10 wy) (TSp [] Grows) (by kernel_rfl) rfl (by kernel_rfl) (by kernel_rfl) rfl (by kernel_rfl) (by kernel_rfl) (by kernel_rfl) (by kernel_rfl) ((Below.refl _ _).drew) (stab_sp [] [true, false, true, true, true, true, true, true, true, true, true] [true, false, true, true, true, true, true, true, true, true, true] [] rfl rfl rfl (by kernel_rfl) ⟨trivial, (fun _ _ _ _ ⟨A4, c4, M4, h1, h2, h3⟩ hb => ⟨A4, c4, M4, h1, h2.below hb, h3⟩), trivial, trivial, trivial, trivial, trivial, trivial, trivial, trivial, trivial, trivial⟩ trivial) (fun _ h => by cases h) (fun _ _ _ _ _ h => by cases h) (fun _ h => by cases h) ⟨?oE0, ?oE1, ?oE2, ?oE3, ?oE4, ?oE5, ?oE6, ?oE7, ?oE8, ?oE9, ?oE10, trivial⟩ (by kernel_rfl) ?fE
      case oE0 => intro ev wo hev hC hs hph; have x0 := se hA hs 13; exact od rfl rfl (by kernel_rfl) hC (TSp.of rfl (Grows.refl _)) (by simp [go_sem, x0, pE _ hC, hw8, hrem, hwk, i1, i2] <;> rfl)
      case oE1 =>
        intro ev wo hev hC hs hph
        have e90 := sd hs 90 0
        have Kx := K9.below hC K9.lt
        have Ky := K78.below hC K78.lt
        exact ob_yes (wanted_none rfl) (does_enter (exec_call Tryz.func22 (by kernel_rfl) rfl (hev.func _) (by simp [e90]; try rfl)) (Calls.mono (box_any S (T : Int) A0 c0 L.length L wo hLs rfl (hrr.below hC) hsm hlv hep) (by
          rintro ev' w7 ⟨v4, M4, rfl, hoM4, hM4, hb7⟩
          obtain ⟨A4, c4, rfl, hrM4, _⟩ := hoM4.reads
          exact ⟨_, rfl, hC.trans (hb7.mono hC.size), TSp.of rfl hb7, ⟨A4, c4, M4, rfl, hrM4, hM4⟩, no_start (by kernel_rfl)⟩)))
      case oE2 => intro ev wo hev hC hs hph; have x0 := se hA hs 11; exact od rfl rfl (by kernel_rfl) hC (TSp.of rfl (Grows.refl _)) (by simp [go_sem, x0, pE _ hC, hw8, hrem, hwk, i1, i2] <;> rfl)
      case oE3 =>
        intro ev wo hev hC hs hph
        have u91 := su hs 91 1
        have e92 := sd hs 92 2
        have Kx := K9.below hC K9.lt
        have Ky := K78.below hC K78.lt
        obtain ⟨A4, c4, M4, e91, hr4, hm4⟩ := u91
        have hl4 : M4.length ≤ 140737488355328 := by
          have := congrArg List.length hm4
          rw [List.length_map, boxS_len] at this
          have h9 := congrArg List.length hlv
          rw [List.length_map, List.length_map] at h9
          omega
        exact ob_dcall (wanted_none rfl) rfl (by kernel_rfl) ((refSameBoxR_any (boxS S).nm (boxS S).nm A4 Am c4 cm M4.length M.length (boxS S).ep (boxS S).ep (boxS S).nx (boxS S).nx M4 M wo hl4 hr4.msgR (hrM8.below hC).msgR).mono fun e' w' h => (⟨by rw [h.1, boxSame_msgB (hm4.trans hM.symm)], h.2⟩ : e' = .returned (.bool true) ∧ _)) (exec_call Tryz.func23 (by kernel_rfl) rfl (hev.func _) (by simp [e91, e92]; try first | exact ⟨rfl, rfl⟩ | rfl)) (by rfl) (fun w3 hb3 => ⟨hC.trans (hb3.mono hC.size), TSp.of rfl hb3⟩)
      case oE4 => intro ev wo hev hC hs hph; have x0 := sd hs 93 3; exact od rfl rfl (by kernel_rfl) hC (TSp.of rfl (Grows.refl _)) (by simp [go_sem, x0] <;> rfl)
      case oE5 => intro ev wo hev hC hs hph; have x0 := se hA hs 13; have y := sd hs 94 4; exact ob_gv _ rfl rfl y rfl (by kernel_rfl) hC (TSp.of rfl (Grows.refl _)) (fun hq => by simp [go_sem, x0] <;> rfl) (by rfl)
      case oE6 => intro ev wo hev hC hs hph; have x0 := sd hs 95 5; have y := sd hs 94 4; exact ob_gv _ rfl rfl y rfl (by kernel_rfl) hC (TSp.of rfl (Grows.refl _)) (fun hq => by simp [go_sem, (x0.trans (gw_t (beq_t hq))), pE _ hC, hw8, hrem, hwk, i1, i2] <;> rfl) (by rfl)
      case oE7 => intro ev wo hev hC hs hph; have x0 := se hA hs 5; have y := sd hs 94 4; exact ob_gv _ rfl rfl y rfl (by kernel_rfl) hC (TSp.of rfl (Grows.refl _)) (fun hq => by simp [go_sem, x0] <;> rfl) (by rfl)
      case oE8 => intro ev wo hev hC hs hph; have x0 := sd hs 97 7; have y := sd hs 94 4; exact ob_gv _ rfl rfl y rfl (by kernel_rfl) hC (TSp.of rfl (Grows.refl _)) (fun hq => by simp [go_sem, (x0.trans (gw_t (beq_t hq)))] <;> rfl) (by rfl)
      case oE9 => intro ev wo hev hC hs hph; have x0 := sd hs 96 6; have x1 := sd hs 98 8; have y := sd hs 94 4; exact ob_gv _ rfl rfl y rfl (by kernel_rfl) hC (TSp.of rfl (Grows.refl _)) (fun hq => by simp [go_sem, (x0.trans (gw_t (beq_t hq))), (x1.trans (gw_t (beq_t hq)))] <;> rfl) (by rfl)
      case oE10 => intro ev wo hev hC hs hph; have x0 := sd hs 94 4; have x1 := sd hs 99 9; exact od rfl rfl (by kernel_rfl) hC (TSp.of rfl (Grows.refl _)) (by rw [pick_and rfl x0 x1 (hev.const _)] <;> rfl)
      intro sg wf hC hph
      intro x91 hx91
      intro a hA
      replace hA := hA.keepN [100]
      revert a; refine wo rfl rfl (by decide) (fun ev e h => by simp [go_sem, h, hw8, hrem, hwk, i1, i2] <;> rfl) ?_; intro a hA
      replace hA := hA.keepN [4]
      refine wN (nT (wp_ret ?_))
      refine ret_1 hA 4 rfl rfl ?_
      exact ⟨ret_bool (by simp), HB.trans (hC.mono HB.size)⟩
end Go.Proofs.YtmjikfeaopmejaaGreatDoor
/-
  Notes that come behind a log, one by one, say what all of them say, and what is torn behind them nothing: cubbylaw10.LogGrows answers true, for all notes and every number.
-/
namespace Go.Proofs.YtmjikfeaopmejaaGreatDoor.LogGrows
open Go.RowKit Go.ChangeShapes Go.WideShapes Go.ChangeAt
open Go.ChangeMaps (open_string shut_string)
set_option linter.unusedVariables false
theorem own : ownKnob Tryz.prog.godebug = none := by kernel_rfl
set_option maxRecDepth 100000 in
theorem contract (H : Type) (enc : TypeId × Value → H) (W : World) (base : Nat) (args : Array Value) (ds gs : List (DataW H)) (before : List MemPlace)
    (hval : ∀ (j : Nat) t v, Tryz.f5.params[j]? = some t → args[j]? = some v → Value.okWide Tryz.prog W .any base t v)
    (hW : DataW.Whole enc Tryz.prog Tryz.f5.params.toList Rows.logGrowsSpec.vars false W args.toList ds gs before) (hz : (DataW.weightsEach Tryz.prog (Tryz.f5.params.toList ++ (OpenSpec.ofChange Rows.logGrowsSpec).bare.plain.varTypes Tryz.prog) (ds ++ gs)).all (· ≤ reachBytes) = true) (hL : laidMetH Tryz.prog Rows.logGrowsRow.laid W) (hsh : W.ShapedOpen Tryz.prog) :
    Calls Tryz.prog 5 args W fun e W' => ∃ v, e = .returned v ∧ Rows.logGrowsSpec.post enc Tryz.prog Tryz.f5 false true false false W args v W' := by
  have hW' := hW
  obtain ⟨p, q, hA0, hV, rfl, hfz, hnd⟩ := hW
  have hA : DataW.TrodAll enc Tryz.prog W 0 (fun _ => true) true Tryz.f5.params.toList args.toList ds p := hA0
  rw [Tryz.params5] at hA hval
  have hAk := hA
  obtain ⟨v0, v1, d0, d1, p0, p1, rfl, rfl, rfl, g0, g1⟩ := trodAll_two hA
  obtain ⟨rfl, rfl⟩ := trodVars_none hV
  obtain ⟨A, c, N, rfl, hNc, _, _, hr, hok⟩ := notes_arg (hval 0 44 v0 rfl rfl) g0 (sized_at hz (j := 0) (t := 44) (by kernel_rfl) rfl)
  obtain ⟨tt, rfl⟩ := u8_arg (hval 1 5 v1 rfl rfl) g1
  obtain ⟨mx, hm⟩ := Tryz.laysM146.s1_3 W hsh
  have ht : Lib.TabIs Tryz.prog W "internal/strconv.uint64pow10" .u64 Lib.pow10Tab := tab_met hL (by kernel_rfl)
  clear hA0
  refine (logGrows_law A N.length c N tt rfl hNc W ⟨mx, hm⟩ (block_lt_of_cell hm) ht hr (fun x hx => ⟨by have := (hok x hx).name; unfold maxLen at this; exact this, (hok x hx).ep, (hok x hx).msg.uid⟩)).mono fun e W' ⟨he, hb⟩ => ?_
  subst he
  exact ⟨_, rfl, post_of_below (pv := []) hW' (fun _ _ _ => trodAll_mk1 (shut_bool Tryz.underlying4 _)) (fun sp hsp => args_stay (by kernel_rfl) (by kernel_rfl) hAk (fun x hx => hb.same (by simpa using hW'.lt x (List.mem_append_left _ hx))) (fun x hx => hsp x (List.mem_append_left _ hx))) (fun _ _ => rfl) rfl
    hb (ok_one (by kernel_rfl) rfl (okWide_bool_mk Tryz.underlying4 _))⟩
set_option maxRecDepth 100000 in
theorem reads (os : Os) {H : Type} (enc : TypeId × Value → H) : ∃ places, DataW.whole enc Tryz.prog ((World.laidAll Tryz.prog os Rows.logGrowsRow.laid).forCall (fun _ _ => 0) ⟨#[], #[.slice none 0 0, .int .u8 0], []⟩).memory Tryz.f5.params.toList Rows.logGrowsSpec.vars false #[Value.slice none 0 0, Value.int .u8 0].toList 8 = some ([.nil, .lit (.int .u8 0)], [], places) :=
  ⟨[], by kernel_rfl⟩
set_option maxRecDepth 100000 in
theorem lifted (os : Os) (started : os.Started) (H : Type) (enc : TypeId × Value → H) (F : Stop.Interp) :
    ReturnsInHanded {} Tryz.checked os 5 .any ((OpenSpec.ofChange Rows.logGrowsSpec).preRow enc Tryz.prog Tryz.f5 Rows.logGrowsRow.domain false Rows.logGrowsRow.laid) (((OpenSpec.ofChange Rows.logGrowsSpec).at F).post enc Tryz.prog Tryz.f5 false true false false) := by
  obtain ⟨places, hx⟩ := reads os enc
  refine returnsInHanded_of_row (C := Tryz.checked) (s := OpenSpec.ofChange Rows.logGrowsSpec) own started (by kernel_rfl) Tryz.func5
    (witness_row_shaped (enc := enc) (C := Tryz.checked) false (World.laidAll Tryz.prog os Rows.logGrowsRow.laid) #[.slice none 0 0, .int .u8 0] (World.laidAll_os _ _ _) (World.shaped_of_ZipB (by kernel_rfl) (by kernel_rfl)) (by kernel_rfl)
      (OpenSpec.preRow_of_cond 8 hx (by kernel_rfl) (fun k hk => by cases hk) (by kernel_rfl) (laidMet_laidAll _ (by kernel_rfl) (by kernel_rfl)))) ?_
  intro W base args ds gs before hval hW _ _ hz hL hsh _
  exact contract H enc W base args ds gs before hval hW hz hL hsh
theorem said : Rows.LogGrowsSaid :=
  OpenClaim.holds_of_cond 5 Tryz.f5 rfl rfl rfl rfl rfl rfl rfl ⟨rfl, rfl, rfl, rfl, rfl⟩ rfl rfl rfl rfl rfl (by kernel_rfl) Tryz.func5 (by kernel_rfl)
    (of_decide_eq_true (by kernel_rfl)) (by unfold Func.isWrapper; first | (rw [if_pos (by decide +kernel)]; kernel_rfl) | (rw [if_neg (by decide +kernel)]; exact ⟨rfl, rfl⟩))
    (fun os started H enc _ F => by rw [OpenClaim.pre_eq_preRow]; exact lifted os started H enc F)
theorem plain (f : FuncId) (fn : Func) (hf : Tryz.pinned.checked.prog.funcNamed "cubby/cubbylaw10.LogGrows" = some f) (hfn : Tryz.pinned.checked.prog.funcs[f]? = some fn) :
    false = Tryz.pinned.checked.prog.looks [] ∧ ∀ (j : Nat) t, fn.params[j]? = some t → Tryz.pinned.checked.prog.wantsStandIn t = false := by
  obtain rfl : f = 5 := Option.some.inj ((show Tryz.prog.funcNamed "cubby/cubbylaw10.LogGrows" = some 5 by kernel_rfl).symm.trans hf) |>.symm
  obtain rfl : fn = Tryz.f5 := (Option.some.inj (Tryz.func5.symm.trans hfn)).symm
  refine ⟨by kernel_rfl, fun j t ht => ?_⟩
  rw [Tryz.params5] at ht
  have hm : t ∈ [44, 5] := by simpa using Array.mem_of_getElem? ht
  have hall : ([44, 5].all fun u => !Tryz.prog.wantsStandIn u) = true := by kernel_rfl
  exact (show Tryz.prog.wantsStandIn t = false by simpa using List.all_eq_true.1 hall t hm)
theorem holds : Rows.LogGrowsCardSaid :=
  Claim7.holds_tied_plain_at .later [] _ _ _ _ said (fun _ h => by cases h) (by kernel_rfl) (fun _ h => by cases h) logGrows_row_tie rfl ⟨rfl, rfl⟩ (by kernel_rfl) rfl plain (by kernel_rfl)
#print axioms holds
end Go.Proofs.YtmjikfeaopmejaaGreatDoor.LogGrows
