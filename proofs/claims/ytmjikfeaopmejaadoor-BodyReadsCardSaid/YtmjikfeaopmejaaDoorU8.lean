/-
  Bytes in memory: rows that are owned, cloned, compared, and made texts.
-/
import Derived.Test.YtmjikfeaopmejaaDoorAppend
import Derived.Test.YtmjikfeaopmejaaDoorReads
import Derived.Test.YtmjikfeaopmejaaDoorMem
import Derived.Test.YtmjikfeaopmejaaDoorShelf
import Derived.Test.YtmjikfeaopmejaaDoorChecked
namespace Go.Proofs.YtmjikfeaopmejaaDoor
open Go.RowKit
def u8s (l : List UInt8) : List Value := l.map fun b => Value.int .u8 ((b.toNat : Nat) : Int)
theorem u8s_length (l : List UInt8) : (u8s l).length = l.length := by simp [u8s]
theorem u8s_get (l : List UInt8) (j : Nat) : (u8s l)[j]? = (l[j]?).map fun b => Value.int .u8 ((b.toNat : Nat) : Int) := by simp [u8s]
theorem u8s_append (l m : List UInt8) : u8s (l ++ m) = u8s l ++ u8s m := by simp [u8s]
theorem u8s_one (l : List UInt8) : ∀ u ∈ u8s l, u.oneCell' = true := by
  intro u hu
  simp only [u8s, List.mem_map] at hu
  obtain ⟨p, _, rfl⟩ := hu
  rfl
theorem u8_info : (Tryd.prog.info? 5).map (fun i => (i.zero, i.size, i.bytes)) = some (some (.int .u8 0), 1, 1) := by kernel_rfl
theorem info_parts {P : Program} {t : TypeId} {z : Value} {s b : Nat} (h : (P.info? t).map (fun i => (i.zero, i.size, i.bytes)) = some (some z, s, b)) : ∃ i, P.info? t = some i ∧ i.zero = some z ∧ i.size = s ∧ i.bytes = b := by
  cases hi : P.info? t with
  | none => rw [hi] at h; cases h
  | some i => rw [hi] at h; simp at h; exact ⟨i, rfl, h.1, h.2.1, h.2.2⟩
theorem own_reads {w : World} {base n size : Nat} {e : TypeId} {v : Value} {xs : List Value} (h : w.ownsRow base e size v n xs) : ∃ A c, v = .slice A n c ∧ Reads w w.heap.size size A n xs ∧ n ≤ c := by
  rcases h.2 with ⟨rfl, h0⟩ | ⟨g, cap, cur, rfl, h1, h2, h3, h4⟩
  · subst h0
    exact ⟨none, 0, rfl, ⟨h.1, fun hn => absurd hn (by omega)⟩, Nat.le_refl _⟩
  · exact ⟨_, cap, rfl, Reads.of_own h, by omega⟩
theorem own_mono {w : World} {base base' : Nat} {e : TypeId} {size : Nat} {v : Value} {n : Nat} {xs : List Value} (h : w.ownsRow base e size v n xs) (hb : base' ≤ base) : w.ownsRow base' e size v n xs := by
  refine ⟨h.1, ?_⟩
  rcases h.2 with h0 | ⟨g, cap, cur, e, hb', hr⟩
  · exact .inl h0
  · exact .inr ⟨g, cap, cur, e, Nat.le_trans hb hb', hr⟩
theorem own_keep {w w' : World} {base : Nat} {v : Value} {e : TypeId} {size n : Nat} {xs : List Value} (h : w.ownsRow base e size v n xs) (hk : ∀ g, v.ownBlock = some g → w'.heap[g]? = w.heap[g]?) : w'.ownsRow base e size v n xs := by
  refine ⟨h.1, ?_⟩
  rcases h.2 with h0 | ⟨g, cap, cur, rfl, hb, hg, hr⟩
  · exact .inl h0
  · exact .inr ⟨g, cap, cur, rfl, hb, (hk g rfl).trans hg, hr⟩
theorem own_below {w w' : World} {base : Nat} {v : Value} {e : TypeId} {size n : Nat} {xs : List Value} (h : w.ownsRow base e size v n xs) (hb : Below w.heap.size w w') : w'.ownsRow base e size v n xs :=
  own_keep h fun g hg => hb.block g (h.lt g hg).2
theorem bytes_empty (w : World) : (w.alloc (.cells #[] 5)).ownsRow w.heap.size 5 1 (.slice (some ⟨w.heap.size, 0, none⟩) 0 0) 0 [] := World.ownsRow_lit w #[] 0 (Nat.le_refl _) (by unfold maxLen; omega) rfl
/-- a row of bytes, of a list's length -/
theorem own8 {w : World} {base n : Nat} {v : Value} {l : List UInt8} (h : w.ownsRow base 5 1 v n (u8s l)) : w.ownsRow base 5 1 v l.length (u8s l) := by
  have : n = l.length := by have := h.1; rw [u8s_length] at this; omega
  rw [← this]; exact h
theorem Reads.take8 {w : World} {B n : Nat} {A : Option Addr} {l : List UInt8} (h : Reads w B 1 A n (u8s l)) {k : Nat} (hk : k ≤ n) : Reads w B 1 A k (u8s (l.take k)) := by
  have hl : l.length = n := by have := h.1; rw [u8s_length] at this; omega
  refine ⟨by rw [u8s_length, List.length_take]; omega, fun hp => ?_⟩
  obtain ⟨ad, e, hlt, hc⟩ := h.2 (by omega)
  refine ⟨ad, e, hlt, fun j u hu => hc j u ?_⟩
  rw [u8s_get] at hu ⊢
  rw [List.getElem?_take] at hu
  split at hu
  · exact hu
  · cases hu
theorem u8s_drop (l : List UInt8) (k : Nat) : u8s (l.drop k) = (u8s l).drop k := by simp [u8s]
theorem Reads.drop8 {w : World} {B n c : Nat} {A : Option Addr} {l : List UInt8} (h : Reads w B 1 A n (u8s l)) {k : Nat} (hk : k ≤ n) (hc : n ≤ c) : Reads w B 1 (if c = k then A else A.map (·.add k)) (n - k) (u8s (l.drop k)) := by
  have := h.cut (k := k) (cap := c) hk hc
  rw [Nat.mul_one] at this
  rw [u8s_drop]
  exact this
theorem Reads.none8 {w : World} {B : Nat} : Reads w B 1 none 0 (u8s []) := Reads.none_
theorem Reads.empty8 {w : World} {B n : Nat} {l : List UInt8} (h : Reads w B 1 none n (u8s l)) : n = 0 ∧ l = [] := by
  have hl : l.length = n := by have := h.1; rw [u8s_length] at this; omega
  rcases Nat.eq_zero_or_pos n with h0 | h0
  · exact ⟨h0, List.length_eq_zero_iff.1 (by omega)⟩
  · obtain ⟨ad, e, _⟩ := h.2 h0; cases e
def ints8 (l : List UInt8) : List Int := l.map fun b => ((b.toNat : Nat) : Int)
theorem ints8_at {w : World} {B n : Nat} {a : Addr} {l : List UInt8} (hl : l.length = n) (hr : Reads w B 1 (some a) n (u8s l)) : ∀ i, i < n → w.cell? (a.add i) = some (.int .u8 ((ints8 l).getD i 0)) := by
  intro i hi
  obtain ⟨ad, e, _, hc⟩ := hr.2 (by omega)
  injection e with e
  subst e
  have hil : i < l.length := by omega
  refine hc i _ ?_
  rw [u8s_get, List.getElem?_eq_getElem hil]
  simp [ints8, List.getD, hil]
theorem bytesOf_ints8 (l : List UInt8) : Lib.bytesOf (ints8 l) = l := by
  unfold Lib.bytesOf ints8
  rw [List.map_map]
  conv => rhs; rw [← List.map_id l]
  apply List.map_congr_left
  intro b _
  simp
theorem bytesIn8 {w : World} {B n : Nat} {A : Option Addr} {l : List UInt8} (hl : l.length = n) (hr : Reads w B 1 A n (u8s l)) : Lib.BytesIn w A n (ints8 l) := by
  cases A with
  | none =>
    obtain ⟨rfl, rfl⟩ := hr.empty8
    exact Lib.BytesIn.nil _ _ _
  | some a => exact Lib.BytesIn.of_cells (ints8_at hl hr)
theorem equal_any (A1 A2 : Option Addr) (n c m d : Nat) (l1 l2 : List UInt8) (w : World) (h1 : l1.length = n) (h2 : l2.length = m) (r1 : Reads w w.heap.size 1 A1 n (u8s l1)) (r2 : Reads w w.heap.size 1 A2 m (u8s l2)) :
    Calls Tryd.prog 16 #[.slice A1 n c, .slice A2 m d] w fun e w' => e = .returned (.bool (l1 == l2)) ∧ w' = w := by
  have h := Tryd.bytes_Equal_all A1 A2 n c m d (ints8 l1) (ints8 l2) w (by simpa [ints8] using h1) (by simpa [ints8] using h2) (bytesIn8 h1 r1) (bytesIn8 h2 r2)
  rw [bytesOf_ints8, bytesOf_ints8] at h
  exact h
theorem clone_any (A : Option Addr) (n c : Nat) (l : List UInt8) (w : World) (hl : l.length = n) (hn : n ≤ 1000000000) (hr : Reads w w.heap.size 1 A n (u8s l)) :
    Calls Tryd.prog 25 #[.slice A n c] w fun e w' => ∃ v, e = .returned v ∧ w'.ownsRow w.heap.size 5 1 v n (u8s l) ∧ Below w.heap.size w w' := by
  cases A with
  | none =>
    obtain ⟨rfl, rfl⟩ := hr.empty8
    refine (Tryd.bytes_Clone_nil 0 c w).mono ?_
    rintro e w' ⟨rfl, rfl⟩
    exact ⟨_, rfl, World.ownsRow_nil _ _ _ _, Below.refl _ _⟩
  | some a =>
    refine (Tryd.bytes_Clone_at a n c (ints8 l) w (by simpa [ints8] using hl) (by omega) (ints8_at hl hr)).mono ?_
    rintro e w' ⟨v', rfl, ho, _, hb⟩
    refine ⟨v', rfl, ?_, hb⟩
    unfold ints8 at ho
    rw [List.map_map] at ho
    exact ho
theorem conv_nil (c : Nat) (w : World) : (convert 22 9 (.slice none 0 c)).run Tryd.prog w = .ok (.string ⟨#[]⟩) w := by kernel_rfl
/-- string(b), whatever slice b is -/
theorem conv_reads {w : World} {B n c : Nat} {A : Option Addr} {l : List UInt8} (hl : l.length = n) (hr : Reads w B 1 A n (u8s l)) : (convert 22 9 (.slice A n c)).run Tryd.prog w = .ok (.string ⟨l.toArray⟩) w := by
  subst hl
  cases A with
  | none =>
    obtain ⟨h0, rfl⟩ := hr.empty8
    exact conv_nil c w
  | some a =>
    refine run_string_bytes w 22 9 5 a l c Tryd.underlying22 Tryd.underlying5 Tryd.underlying9 fun j b hj => ?_
    have hp : 0 < l.length := by
      rcases Nat.lt_or_ge j l.length with h | h
      · omega
      · rw [List.getElem?_eq_none h] at hj; cases hj
    obtain ⟨ad, e, _, hc⟩ := hr.2 hp
    injection e with e
    subst e
    exact hc j _ (by rw [u8s_get, hj]; rfl)
end Go.Proofs.YtmjikfeaopmejaaDoor
