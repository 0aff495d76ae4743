/-
  Messages: what they are in memory; which may be.
-/
import Derived.Test.YtmjikfeaopmejaaDoorBytesM
import Derived.Test.YtmjikfeaopmejaaDoorRowsK
import Derived.Test.YtmjikfeaopmejaaDoorNameIs
import Derived.Test.YtmjikfeaopmejaaDoorPrintSome
namespace Go.Proofs.YtmjikfeaopmejaaDoor
open Go.RowKit
set_option linter.unusedSimpArgs false
set_option linter.unusedVariables false
structure MsgV where
  uid : Nat
  date : Int
  flags : Int
  a : Option Addr
  c : Nat
  b : List UInt8
def msgC (m : MsgV) : List Value := [.int .u32 (m.uid : Nat), .int .i64 m.date, .int .i64 m.flags, .slice m.a m.b.length m.c]
theorem msgC_len (m : MsgV) : (msgC m).length = 4 := rfl
/-- messages whose octets read -/
structure Msgs (w : World) (A : Option Addr) (n : Nat) (l : List MsgV) : Prop where
  len : l.length = n
  row : Reads w w.heap.size 4 A n (l.flatMap msgC)
  octs : ∀ m ∈ l, Reads w w.heap.size 1 m.a m.b.length (u8s m.b)
  uids : ∀ m ∈ l, m.uid < 4294967296
  caps : ∀ m ∈ l, m.b.length ≤ m.c ∧ m.c ≤ 9223372036854775807
theorem Msgs.below {w w' : World} {A : Option Addr} {n : Nat} {l : List MsgV} (h : Msgs w A n l) (hb : Below w.heap.size w w') : Msgs w' A n l :=
  ⟨h.len, (h.row.below hb).more hb.size, fun m hm => ((h.octs m hm).below hb).more hb.size, h.uids, h.caps⟩
theorem Msgs.at_ {w : World} {A : Option Addr} {n i : Nat} {l : List MsgV} {m : MsgV} (h : Msgs w A n l) (hm : l[i]? = some m) : ∃ ad, A = some ad ∧ (ad.add (i * 4)).block < w.heap.size ∧
    w.cell? (ad.add (i * 4)) = some (.int .u32 (m.uid : Nat)) ∧ w.cell? ⟨(ad.add (i * 4)).block, (ad.add (i * 4)).off + 1, none⟩ = some (.int .i64 m.date) ∧ w.cell? ⟨(ad.add (i * 4)).block, (ad.add (i * 4)).off + 2, none⟩ = some (.int .i64 m.flags) ∧ w.cell? ⟨(ad.add (i * 4)).block, (ad.add (i * 4)).off + 3, none⟩ = some (.slice m.a m.b.length m.c) := by
  have hlt := (List.getElem?_eq_some_iff.1 hm).1
  have := h.len
  obtain ⟨ad, e, hb, h0, hj⟩ := rowK_at msgC_len h.row (by omega) hm
  exact ⟨ad, e, by rw [block_of_add]; exact hb, h0 _ rfl, hj 1 _ (by omega) rfl, hj 2 _ (by omega) rfl, hj 3 _ (by omega) rfl⟩
/-- a mailbox's cells -/
def boxC (nm : ByteArray) (e nx : Nat) (A : Option Addr) (n c : Nat) : Array Value := #[.string nm, .int .u32 (e : Nat), .int .u32 (nx : Nat), .slice A n c]
/-- may a time and flags be? -/
def fitsDF (d f : Int) : Bool := dateOk d && decide (0 ≤ f) && decide (f ≤ 31)
def fitsV (m : MsgV) : Bool := fitsDF m.date m.flags
def lastU (l : List MsgV) : Nat → Nat
  | 0 => 0
  | j + 1 => match l[j]? with | some y => y.uid | none => 0
theorem lastU_succ {l : List MsgV} {j : Nat} {x : MsgV} (hx : l[j]? = some x) : lastU l (j + 1) = x.uid := by
  show (match l[j]? with | some y => y.uid | none => 0) = _
  rw [hx]
/-- is a message right where it stands? -/
def msgStep (nx : Nat) (l : List MsgV) (j : Nat) (m : MsgV) : Bool := decide (lastU l j < m.uid) && decide (m.uid < nx) && fitsV m && decide (m.b.length ≤ 20000)
def msgAt (nx : Nat) (l : List MsgV) (j : Nat) : Bool := match l[j]? with | some m => msgStep nx l j m | none => true
def msgsN (nx : Nat) (l : List MsgV) (j : Nat) : Bool := (List.range j).all (msgAt nx l)
theorem msgsN_succ {nx : Nat} {l : List MsgV} {j : Nat} {x : MsgV} (hx : l[j]? = some x) : msgsN nx l (j + 1) = (msgsN nx l j && msgStep nx l j x) := by
  unfold msgsN
  rw [List.range_succ, List.all_append]
  simp [msgAt, hx]
theorem msgs_no {nx : Nat} {l : List MsgV} {j : Nat} {x : MsgV} (hx : l[j]? = some x) (h : msgStep nx l j x = false) : msgsN nx l l.length = false := by
  unfold msgsN
  rw [List.all_eq_false]
  exact ⟨j, List.mem_range.2 (List.getElem?_eq_some_iff.1 hx).1, by unfold msgAt; rw [hx]; simp only [h]; simp⟩
theorem msgs_at {nx : Nat} {l : List MsgV} {j : Nat} {x : MsgV} (hx : l[j]? = some x) (h : msgsN nx l l.length = true) : msgStep nx l j x = true := by
  cases hs : msgStep nx l j x with
  | true => rfl
  | false => rw [msgs_no hx hs] at h; cases h
/-- is a mailbox right? -/
def boxRight (nm : ByteArray) (e nx : Nat) (l : List MsgV) : Bool := nameIs nm && decide (1 ≤ e) && decide (1 ≤ nx) && decide (l.length ≤ 500) && msgsN nx l l.length
end Go.Proofs.YtmjikfeaopmejaaDoor
