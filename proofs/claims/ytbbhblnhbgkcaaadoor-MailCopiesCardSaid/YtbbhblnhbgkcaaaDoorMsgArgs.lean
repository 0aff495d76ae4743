/-
  Arguments that are messages, mailboxes, numbers, opened.
-/
import Derived.Test.YtbbhblnhbgkcaaaDoorArgsZ
import Derived.Test.YtbbhblnhbgkcaaaDoorMsg
namespace Go.Proofs.YtbbhblnhbgkcaaaDoor
open Go.RowKit
theorem u32_range {n : Int} (h : (Lit.int .u32 n).wf = true) : ∃ k : Nat, n = (k : Nat) ∧ k < 4294967296 := by
  simp [Lit.wf, IntKind.min, IntKind.max, IntKind.signed, IntKind.bits] at h
  exact ⟨n.toNat, by omega, by omega⟩
theorem u8_range {n : Int} (h : (Lit.int .u8 n).wf = true) : ∃ k : UInt8, n = (k.toNat : Nat) := by
  simp [Lit.wf, IntKind.min, IntKind.max, IntKind.signed, IntKind.bits] at h
  refine ⟨UInt8.ofNat n.toNat, ?_⟩
  rw [UInt8.toNat_ofNat']
  omega
theorem i64_range {n : Int} (h : (Lit.int .i64 n).wf = true) : -9223372036854775808 ≤ n ∧ n ≤ 9223372036854775807 := by
  simp [Lit.wf, IntKind.min, IntKind.max, IntKind.signed, IntKind.bits] at h
  omega
theorem map_flat {M : Type} (f : M → List Value) (l : List M) : (l.map f).flatten = l.flatMap f := by
  induction l with
  | nil => rfl
  | cons x r ih => rw [List.map_cons, List.flatten_cons, List.flatMap_cons, ih]
theorem flat_one {M : Type} (f : M → Value) (l : List M) : (l.map fun x => [f x]).flatten = l.map f := by
  induction l with
  | nil => rfl
  | cons x r ih => rw [List.map_cons, List.flatten_cons, ih]; rfl
theorem list1 {α : Type} {x : List α} (h : x.length = 1) : ∃ a, x = [a] := by
  match x, h with
  | [a], _ => exact ⟨a, rfl⟩
theorem list4 {α : Type} {x : List α} (h : x.length = 4) : ∃ a b c d, x = [a, b, c, d] := by
  match x, h with
  | [a, b, c, d], _ => exact ⟨a, b, c, d, rfl⟩
theorem array4 {α : Type} {x : Array α} (h : x.toList.length = 4) : ∃ a b c d, x = #[a, b, c, d] := by
  obtain ⟨l⟩ := x
  obtain ⟨a, b, c, d, e⟩ := list4 (show l.length = 4 from h)
  exact ⟨a, b, c, d, by rw [e]⟩
/-- numbers of four bytes -/
def u32s (l : List Nat) : List Value := l.map fun n => .int .u32 (n : Nat)
section
variable {H : Type} {enc : TypeId × Value → H} {w : World} {R : Nat}
theorem open_bytesZ {c1 : Value} (h : FitsZ R enc Tryd.prog w 28 [c1]) : ∃ (A : Option Addr) (c : Nat) (l : List UInt8), c1 = .slice A l.length c ∧ l.length ≤ c ∧ c ≤ maxLen ∧ l.length ≤ R ∧ Reads w w.heap.size 1 A l.length (u8s l) := by
  have hk : Tryd.prog.cellsOf 5 = 1 := by kernel_rfl
  obtain ⟨A, n, c, L, hcs, hn, hc, hR, hl, hL, hr⟩ := fitsZ_slice h Tryd.underlying28 (by rw [hk]; omega) (Nat.le_of_ble_eq_true (by kernel_rfl))
  rw [hk] at hr
  obtain ⟨l, rfl, _⟩ := choose_list (f := fun b : UInt8 => [.int .u8 ((b.toNat : Nat) : Int)]) (Q := fun _ => True) fun x hx => by
    obtain ⟨hx1, hx2⟩ := hL x hx
    rw [hk] at hx1
    obtain ⟨a, rfl⟩ := list1 hx1
    obtain ⟨u, e0, hu⟩ := fits_int hx2.fits Tryd.underlying5
    obtain ⟨k, rfl⟩ := u8_range hu
    exact ⟨k, e0, trivial⟩
  rw [List.length_map] at hl
  rw [flat_one (fun b : UInt8 => .int .u8 ((b.toNat : Nat) : Int))] at hr
  subst hl
  simp only [List.cons.injEq, and_true] at hcs
  exact ⟨A, c, l, hcs, hn, hc, hR, hr⟩
theorem open_u32sZ {c1 : Value} (h : FitsZ R enc Tryd.prog w 42 [c1]) : ∃ (A : Option Addr) (c : Nat) (l : List Nat), c1 = .slice A l.length c ∧ l.length ≤ c ∧ c ≤ maxLen ∧ l.length ≤ R ∧ (∀ n ∈ l, n < 4294967296) ∧ Reads w w.heap.size 1 A l.length (u32s l) := by
  have hk : Tryd.prog.cellsOf 22 = 1 := by kernel_rfl
  obtain ⟨A, n, c, L, hcs, hn, hc, hR, hl, hL, hr⟩ := fitsZ_slice h Tryd.underlying42 (by rw [hk]; omega) (Nat.le_of_ble_eq_true (by kernel_rfl))
  rw [hk] at hr
  obtain ⟨l, rfl, hq⟩ := choose_list (f := fun b : Nat => [.int .u32 (b : Int)]) (Q := fun n => n < 4294967296) fun x hx => by
    obtain ⟨hx1, hx2⟩ := hL x hx
    rw [hk] at hx1
    obtain ⟨a, rfl⟩ := list1 hx1
    obtain ⟨u, e0, hu⟩ := fits_int hx2.fits Tryd.underlying22
    obtain ⟨k, rfl, hk⟩ := u32_range hu
    exact ⟨k, e0, hk⟩
  rw [List.length_map] at hl
  rw [flat_one (fun b : Nat => .int .u32 (b : Int))] at hr
  subst hl
  simp only [List.cons.injEq, and_true] at hcs
  exact ⟨A, c, l, hcs, hn, hc, hR, hq, hr⟩
/-- a message whose octets read -/
structure MsgOk (R : Nat) (w : World) (m : MsgV) : Prop where
  octs : Reads w w.heap.size 1 m.a m.b.length (u8s m.b)
  uid : m.uid < 4294967296
  cap : m.b.length ≤ m.c ∧ m.c ≤ 9223372036854775807
  size : m.b.length ≤ R
  date : -9223372036854775808 ≤ m.date ∧ m.date ≤ 9223372036854775807
  flags : -9223372036854775808 ≤ m.flags ∧ m.flags ≤ 9223372036854775807
theorem open_msgZ {x : List Value} (h : FitsZ R enc Tryd.prog w 30 x) : ∃ m : MsgV, x = msgC m ∧ MsgOk R w m := by
  obtain ⟨hx3, hx4⟩ := fitsZ_fields h Tryd.underlying30 (by kernel_rfl) (by kernel_rfl)
  obtain ⟨a0, a1, a2, a3, rfl⟩ := list4 hx3
  obtain ⟨u, e0, hu⟩ := fits_int (hx4 0 _ a0 rfl rfl).fits Tryd.underlying22
  obtain ⟨d, e1, hd⟩ := fits_int (hx4 1 _ a1 rfl rfl).fits Tryd.underlying2
  obtain ⟨f, e2, hf⟩ := fits_int (hx4 2 _ a2 rfl rfl).fits Tryd.underlying3
  obtain ⟨k, rfl, hk⟩ := u32_range hu
  obtain ⟨A, c, l, rfl, h1, h2, h3, h4⟩ := open_bytesZ (hx4 3 _ a3 rfl rfl)
  simp only [List.cons.injEq, and_true] at e0 e1 e2
  subst e0 e1 e2
  exact ⟨⟨k, d, f, A, c, l⟩, rfl, h4, hk, ⟨h1, by unfold maxLen at h2; exact h2⟩, h3, i64_range hd, i64_range hf⟩
theorem open_msgsZ {c1 : Value} (h : FitsZ R enc Tryd.prog w 23 [c1]) : ∃ (A : Option Addr) (c : Nat) (l : List MsgV), c1 = .slice A l.length c ∧ l.length ≤ c ∧ c ≤ maxLen ∧ l.length ≤ R ∧ Msgs w A l.length l ∧ ∀ m ∈ l, MsgOk R w m := by
  have hk : Tryd.prog.cellsOf 30 = 4 := by kernel_rfl
  obtain ⟨A, n, c, L, hcs, hn, hc, hR, hl, hL, hr⟩ := fitsZ_slice h Tryd.underlying23 (by rw [hk]; omega) (Nat.le_of_ble_eq_true (by kernel_rfl))
  rw [hk] at hr
  obtain ⟨l, rfl, hq⟩ := choose_list (f := msgC) (Q := MsgOk R w) fun x hx => open_msgZ (hL x hx).2
  rw [List.length_map] at hl
  rw [map_flat] at hr
  subst hl
  simp only [List.cons.injEq, and_true] at hcs
  exact ⟨A, c, l, hcs, hn, hc, hR, ⟨rfl, hr, fun m hm => (hq m hm).octs, fun m hm => (hq m hm).uid, fun m hm => (hq m hm).cap⟩, hq⟩
theorem open_boxZ {cs : Array Value} (h : FitsZ R enc Tryd.prog w 25 cs.toList) : ∃ (nm : ByteArray) (e nx : Nat) (A : Option Addr) (c : Nat) (l : List MsgV), cs = boxC nm e nx A l.length c ∧ nm.size ≤ maxLen ∧ nm.size ≤ R ∧ e < 4294967296 ∧ nx < 4294967296 ∧ l.length ≤ c ∧ c ≤ maxLen ∧ l.length ≤ R ∧ Msgs w A l.length l ∧ ∀ m ∈ l, MsgOk R w m := by
  obtain ⟨hx3, hx4⟩ := fitsZ_fields h Tryd.underlying25 (by kernel_rfl) (by kernel_rfl)
  obtain ⟨a0, a1, a2, a3, rfl⟩ := array4 (show cs.toList.length = 4 from hx3)
  obtain ⟨s, e0, hs, hsR⟩ := fitsZ_string (hx4 0 _ a0 rfl rfl) Tryd.underlying9
  obtain ⟨u1, e1, hu1⟩ := fits_int (hx4 1 _ a1 rfl rfl).fits Tryd.underlying22
  obtain ⟨u2, e2, hu2⟩ := fits_int (hx4 2 _ a2 rfl rfl).fits Tryd.underlying22
  obtain ⟨k1, rfl, hk1⟩ := u32_range hu1
  obtain ⟨k2, rfl, hk2⟩ := u32_range hu2
  obtain ⟨A, c, l, rfl, h1, h2, h3, h4, h5⟩ := open_msgsZ (hx4 3 _ a3 rfl rfl)
  simp only [List.cons.injEq, and_true] at e0 e1 e2
  subst e0 e1 e2
  exact ⟨s, k1, k2, A, c, l, rfl, hs, hsR, hk1, hk2, h1, h2, h3, h4, h5⟩
end
end Go.Proofs.YtbbhblnhbgkcaaaDoor
