/-
  Numbers in bytes, sums, pages, and what is read back, as plain values.
-/
import Derived.Test.YtmjikfeaopmejaaDoorBase
namespace Go.Proofs.YtmjikfeaopmejaaDoor
/-- a number in n bytes -/
def be : Nat → Nat → List UInt8
  | 0, _ => []
  | n + 1, v => UInt8.ofNat (v / 256 ^ n) :: be n v
theorem be_length : ∀ n v, (be n v).length = n
  | 0, _ => rfl
  | n + 1, v => by rw [be, List.length_cons, be_length n v]
theorem be_snoc : ∀ n v, be (n + 1) v = be n (v / 256) ++ [UInt8.ofNat v]
  | 0, v => by simp [be]
  | n + 1, v => by
    rw [be, be_snoc n v, be, List.cons_append]
    congr 2
    rw [Nat.div_div_eq_div_mul, Nat.pow_succ, Nat.mul_comm]
/-- what bytes say -/
def beVal (l : List UInt8) : Nat := l.foldl (fun a c => a * 256 + c.toNat) 0
theorem beVal_snoc (l : List UInt8) (c : UInt8) : beVal (l ++ [c]) = beVal l * 256 + c.toNat := by simp [beVal, List.foldl_append]
theorem beVal_lt (l : List UInt8) : beVal l < 256 ^ l.length := by
  suffices h : ∀ (n : Nat) (l : List UInt8), l.length = n → beVal l < 256 ^ n from h _ l rfl
  intro n
  induction n with
  | zero => intro l h; rw [List.length_eq_zero_iff.1 h]; decide
  | succ n ih =>
    intro l h
    have hne : l ≠ [] := by intro e; rw [e] at h; cases h
    have e := (List.dropLast_concat_getLast hne).symm
    have hd : l.dropLast.length = n := by rw [List.length_dropLast]; omega
    have h1 := ih _ hd
    have h2 := (l.getLast hne).toNat_lt
    rw [e, beVal_snoc, Nat.pow_succ]
    omega
theorem beVal_be : ∀ n v, v < 256 ^ n → beVal (be n v) = v
  | 0, v, h => by simp at h; subst h; rfl
  | n + 1, v, h => by
    rw [be_snoc, beVal_snoc, beVal_be n (v / 256) (by rw [Nat.pow_succ] at h; exact Nat.div_lt_of_lt_mul (by omega))]
    have : (UInt8.ofNat v).toNat = v % 256 := by simp
    omega
/-- one bit of a sum -/
def crcBit (c : Nat) : Nat := if c % 2 = 1 then (c / 2) ^^^ 3988292384 else c / 2
def crcBits : Nat → Nat → Nat
  | 0, c => c
  | n + 1, c => crcBits n (crcBit c)
def crcByte (c : Nat) (x : UInt8) : Nat := crcBits 8 (c ^^^ x.toNat)
def crcGo (c : Nat) (l : List UInt8) : Nat := l.foldl crcByte c
def crc (l : List UInt8) : Nat := crcGo 4294967295 l ^^^ 4294967295
theorem crcBit_lt {c : Nat} (h : c < 2 ^ 32) : crcBit c < 2 ^ 32 := by
  unfold crcBit
  have : c / 2 < 2 ^ 32 := by omega
  split
  · exact Nat.xor_lt_two_pow this (by decide)
  · exact this
theorem crcBits_lt : ∀ (n : Nat) {c : Nat}, c < 2 ^ 32 → crcBits n c < 2 ^ 32
  | 0, _, h => h
  | n + 1, _, h => crcBits_lt n (crcBit_lt h)
theorem crcByte_lt {c : Nat} (h : c < 2 ^ 32) (x : UInt8) : crcByte c x < 2 ^ 32 :=
  crcBits_lt 8 (Nat.xor_lt_two_pow h (by have := x.toNat_lt; omega))
theorem crcGo_lt : ∀ (l : List UInt8) {c : Nat}, c < 2 ^ 32 → crcGo c l < 2 ^ 32
  | [], _, h => h
  | x :: r, _, h => crcGo_lt r (crcByte_lt h x)
theorem crc_lt (l : List UInt8) : crc l < 2 ^ 32 := Nat.xor_lt_two_pow (crcGo_lt l (by decide)) (by decide)
theorem crcGo_snoc (c : Nat) (l : List UInt8) (x : UInt8) : crcGo c (l ++ [x]) = crcByte (crcGo c l) x := by simp [crcGo, List.foldl_append]
theorem crcBits_succ : ∀ (n c : Nat), crcBits (n + 1) c = crcBit (crcBits n c)
  | 0, _ => rfl
  | n + 1, c => by
    show crcBits (n + 1) (crcBit c) = crcBit (crcBits n (crcBit c))
    exact crcBits_succ n (crcBit c)
/-- the document's sum: bit by bit -/
def refBit (c bit : Nat) : Nat := if (c % 2) ^^^ bit = 1 then (c / 2) ^^^ 3988292384 else c / 2
def refBits (x : Nat) : Nat → Nat → Nat
  | 0, c => c
  | n + 1, c => refBit (refBits x n c) (x / 2 ^ n % 2)
theorem xor_mod2 (a b : Nat) : (a ^^^ b) % 2 = (a % 2) ^^^ (b % 2) := by
  have := Nat.xor_mod_two_pow (a := a) (b := b) (n := 1)
  simpa using this
theorem xor_div2 (a b : Nat) : (a ^^^ b) / 2 = (a / 2) ^^^ (b / 2) := by
  have := Nat.xor_div_two_pow (a := a) (b := b) (n := 1)
  simpa using this
theorem bits_same (x c : Nat) : ∀ n, crcBits n (c ^^^ x) = refBits x n c ^^^ (x / 2 ^ n)
  | 0 => by simp [crcBits, refBits]
  | n + 1 => by
    rw [crcBits_succ, bits_same x c n]
    show crcBit _ = refBit (refBits x n c) (x / 2 ^ n % 2) ^^^ _
    generalize refBits x n c = r
    unfold crcBit refBit
    rw [xor_mod2, xor_div2, Nat.div_div_eq_div_mul, ← Nat.pow_succ]
    split
    · rw [Nat.xor_assoc, Nat.xor_assoc, Nat.xor_comm (x / 2 ^ (n + 1))]
    · rfl
theorem byte_same (c : Nat) (x : UInt8) : refBits x.toNat 8 c = crcByte c x := by
  unfold crcByte
  rw [bits_same, Nat.div_eq_of_lt (by have := x.toNat_lt; omega), Nat.xor_zero]
/-- a page -/
def pageHead (k : Nat) (p : List UInt8) : List UInt8 := [112, 97, 103, UInt8.ofNat k] ++ be 4 p.length ++ p
def pageB (k : Nat) (p : List UInt8) : List UInt8 := pageHead k p ++ be 4 (crc (pageHead k p))
theorem pageHead_length (k : Nat) (p : List UInt8) : (pageHead k p).length = p.length + 8 := by
  unfold pageHead; simp [be_length]; omega
theorem pageB_length (k : Nat) (p : List UInt8) : (pageB k p).length = p.length + 12 := by
  unfold pageB; rw [List.length_append, pageHead_length, be_length]
def midOf (b : List UInt8) : List UInt8 := (b.drop 8).take (b.length - 12)
theorem midOf_page (k : Nat) (p : List UInt8) : midOf (pageB k p) = p := by
  unfold midOf
  rw [pageB_length]
  unfold pageB
  generalize crc (pageHead k p) = c
  unfold pageHead
  rw [List.append_assoc, List.drop_left' (by simp [be_length])]
  exact List.take_left' (by simp)
/-- what a page holds; none: it is damaged -/
def pageGet (k : Nat) (b : List UInt8) : Option (List UInt8) := if 12 ≤ b.length ∧ (midOf b).length ≤ 60000 ∧ pageB k (midOf b) = b then some (midOf b) else none
theorem pageGet_page {k : Nat} {p : List UInt8} (h : p.length ≤ 60000) : pageGet k (pageB k p) = some p := by
  unfold pageGet
  rw [midOf_page, if_pos ⟨by rw [pageB_length]; omega, h, rfl⟩]
/-- a text, with its length ahead -/
def textB (s : ByteArray) : List UInt8 := be 2 s.size ++ s.data.toList
/-- what is left to be read; whether something wasn't there -/
structure InM where
  rest : List UInt8
  bad : Bool
def inTake (s : InM) (n : Int) : List UInt8 × InM :=
  if s.bad = true then ([], s) else if n < 0 ∨ (s.rest.length : Int) < n then ([], ⟨[], true⟩) else (s.rest.take n.toNat, ⟨s.rest.drop n.toNat, false⟩)
def inN (s : InM) (n : Nat) : Nat × InM := (beVal (inTake s n).1, (inTake s n).2)
def inText (s : InM) : ByteArray × InM := (⟨(inTake (inN s 2).2 (inN s 2).1).1.toArray⟩, (inTake (inN s 2).2 (inN s 2).1).2)
theorem inTake_append (l r : List UInt8) (n : Nat) (h : l.length = n) : inTake ⟨l ++ r, false⟩ n = (l, ⟨r, false⟩) := by
  unfold inTake
  rw [if_neg (by simp), if_neg (by simp; omega)]
  subst h
  simp
theorem inN_be (n v : Nat) (r : List UInt8) (h : v < 256 ^ n) : inN ⟨be n v ++ r, false⟩ n = (v, ⟨r, false⟩) := by
  unfold inN
  rw [inTake_append _ _ n (be_length n v), beVal_be n v h]
theorem inText_textB (s : ByteArray) (r : List UInt8) (h : s.size < 65536) : inText ⟨textB s ++ r, false⟩ = (s, ⟨r, false⟩) := by
  unfold inText textB
  rw [List.append_assoc, inN_be 2 s.size _ (by omega)]
  simp only
  rw [inTake_append _ _ s.size (by simp)]
end Go.Proofs.YtmjikfeaopmejaaDoor
