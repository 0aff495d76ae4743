/-
  Plain laws: what text is a number, and which; no program in sight.
-/
import Derived.Test.YtfnckkmnncdelaaDoorBase
import Derived.Lib.ParseIntB
import Derived.Lib.ItoaNum
namespace Go.Proofs.YtfnckkmnncdelaaDoor
def dgB (c : UInt8) : Bool := decide (48 ≤ c.toNat) && decide (c.toNat ≤ 57)
theorem dgB_iff (c : UInt8) : dgB c = true ↔ 48 ≤ c.toNat ∧ c.toNat ≤ 57 := by simp [dgB]
def decFrom (a : Nat) (l : List UInt8) : Nat := l.foldl (fun n c => n * 10 + (c.toNat - 48)) a
def decN (l : List UInt8) : Nat := decFrom 0 l
theorem decFrom_ge : ∀ (l : List UInt8) (a : Nat), a ≤ decFrom a l
  | [], a => Nat.le_refl _
  | c :: l, a => by
    have := decFrom_ge l (a * 10 + (c.toNat - 48))
    show a ≤ decFrom (a * 10 + (c.toNat - 48)) l
    omega
theorem decN_snoc (l : List UInt8) (c : UInt8) : decN (l ++ [c]) = decN l * 10 + (c.toNat - 48) := by simp [decN, decFrom]
/-- what strconv.ParseUint at 32 bits answers -/
theorem parseM_said : ∀ (l : List UInt8) (a : Nat), a ≤ 4294967295 →
    (l.all dgB = true ∧ decFrom a l ≤ 4294967295 ∧ Lib.parseUintM 4294967295 a l = .ok (decFrom a l)) ∨ ((l.all dgB = false ∨ 4294967295 < decFrom a l) ∧ ∀ u, Lib.parseUintM 4294967295 a l ≠ .ok u)
  | [], a, h => .inl ⟨rfl, h, rfl⟩
  | c :: l, a, h => by
    unfold Lib.parseUintM
    by_cases hd : 48 ≤ c.toNat ∧ c.toNat ≤ 57
    · have hb : dgB c = true := (dgB_iff c).2 hd
      rw [if_pos hd, if_neg (by omega), List.all_cons, hb, Bool.true_and]
      by_cases hm : 4294967295 < a * 10 + (c.toNat - 48)
      · rw [if_pos hm]
        refine .inr ⟨.inr ?_, by intro u e; cases e⟩
        have := decFrom_ge l (a * 10 + (c.toNat - 48))
        show _ < decFrom (a * 10 + (c.toNat - 48)) l
        omega
      · rw [if_neg hm]
        exact parseM_said l (a * 10 + (c.toNat - 48)) (by omega)
    · rw [if_neg hd]
      have hb : dgB c = false := by
        rcases Bool.eq_false_or_eq_true (dgB c) with e | e
        · exact absurd ((dgB_iff c).1 e) hd
        · exact e
      exact .inr ⟨.inl (by rw [List.all_cons, hb]; rfl), by intro u e; cases e⟩
/-- does a text spell a number of 32 bits, in digits? -/
def spellsB (l : List UInt8) : Bool := !l.isEmpty && l.all dgB && decide (decN l ≤ 4294967295)
theorem parse32 (l : List UInt8) : (spellsB l = true ∧ Lib.parseUintB 32 l = .ok (decN l)) ∨ (spellsB l = false ∧ ∀ u, Lib.parseUintB 32 l ≠ .ok u) := by
  unfold Lib.parseUintB spellsB
  cases l with
  | nil => exact .inr ⟨rfl, by intro u e; cases e⟩
  | cons c l =>
    rw [if_neg (by simp), show (2 : Nat) ^ 32 - 1 = 4294967295 from rfl]
    rcases parseM_said (c :: l) 0 (by omega) with ⟨h1, h2, h3⟩ | ⟨h1, h2⟩
    · refine .inl ⟨?_, h3⟩
      rw [h1]
      simp only [List.isEmpty_cons, Bool.not_false, Bool.true_and, decide_eq_true_eq]
      exact h2
    · refine .inr ⟨?_, h2⟩
      rcases h1 with h1 | h1
      · rw [h1]; simp
      · have : ¬ decN (c :: l) ≤ 4294967295 := by unfold decN; omega
        simp [this]
theorem decDigits_head (u : Nat) (h : 1 ≤ u) : ∃ c l, Lib.decDigits u = c :: l ∧ c ≠ 48 := by
  induction u using Nat.strongRecOn with
  | ind u ih =>
    rw [Lib.decDigits]
    by_cases hu : u < 10
    · rw [dif_pos hu]
      refine ⟨_, _, rfl, fun e => ?_⟩
      have := congrArg UInt8.toNat e
      simp at this
      omega
    · rw [dif_neg hu]
      obtain ⟨c, l, e, hc⟩ := ih (u / 10) (by omega) (by omega)
      exact ⟨c, l ++ [UInt8.ofNat (48 + u % 10)], by rw [e]; rfl, hc⟩
theorem last_split {l : List UInt8} (h : l ≠ []) : ∃ l' c, l = l' ++ [c] := ⟨l.dropLast, l.getLast h, (List.dropLast_concat_getLast h).symm⟩
/-- digits, the first of which is no 0: how many there are, and what they are -/
theorem decN_back : ∀ (n : Nat) (l : List UInt8), l.length = n + 1 → l.all dgB = true → l.head? ≠ some 48 → 10 ^ n ≤ decN l ∧ decN l < 10 ^ (n + 1) ∧ Lib.decDigits (decN l) = l := by
  intro n
  induction n with
  | zero =>
    intro l hl ha hh
    match l, hl with
    | [c], _ =>
      simp only [List.all_cons, List.all_nil, Bool.and_true] at ha
      have hc := (dgB_iff c).1 ha
      have hne : c.toNat ≠ 48 := fun e => hh (by
        have : c = 48 := by apply UInt8.toNat_inj.1; rw [e]; rfl
        rw [this]; rfl)
      have e : decN [c] = c.toNat - 48 := by simp [decN, decFrom]
      rw [e]
      refine ⟨by omega, by omega, ?_⟩
      rw [Lib.decDigits, dif_pos (by omega)]
      rw [show 48 + (c.toNat - 48) = c.toNat by omega]
      simp
  | succ n ih =>
    intro l hl ha hh
    obtain ⟨l', c, rfl⟩ := last_split (l := l) (by intro e; subst e; simp at hl)
    have hl' : l'.length = n + 1 := by simpa using hl
    simp only [List.all_append, List.all_cons, List.all_nil, Bool.and_true, Bool.and_eq_true] at ha
    have hc := (dgB_iff c).1 ha.2
    obtain ⟨h1, h2, h3⟩ := ih l' hl' ha.1 (by
      cases l' with
      | nil => simp at hl'
      | cons a l' => simpa using hh)
    rw [decN_snoc, Nat.pow_succ 10 (n + 1), Nat.pow_succ 10 n] at *
    have hp : 0 < 10 ^ n := Nat.pow_pos (by omega)
    refine ⟨by omega, by omega, ?_⟩
    rw [Lib.decDigits, dif_neg (by omega), show (decN l' * 10 + (c.toNat - 48)) / 10 = decN l' by omega, show (decN l' * 10 + (c.toNat - 48)) % 10 = c.toNat - 48 by omega, h3]
    rw [show 48 + (c.toNat - 48) = c.toNat by omega]
    simp
/-- the program's word on a number -/
def numOk (l : List UInt8) : Bool := l == [42] || (spellsB l && decide (1 ≤ decN l) && (Lib.decDigits (decN l) == l))
def numVal (l : List UInt8) : Nat := if l = [42] then 0 else decN l
/-- the document's word on a number -/
def oneOk (l : List UInt8) : Bool := l == [42] || (decide (1 ≤ l.length) && decide (l.length ≤ 10) && !(l.head? == some 48) && l.all dgB && decide (1 ≤ decN l) && decide (decN l ≤ 4294967295))
theorem num_one (l : List UInt8) : numOk l = oneOk l := by
  unfold numOk oneOk spellsB
  cases h42 : (l == [42]) with
  | true => rfl
  | false =>
  simp only [Bool.false_or]
  cases l with
  | nil => rfl
  | cons c l =>
    cases ha : (c :: l).all dgB with
    | false => simp
    | true =>
      by_cases h1 : 1 ≤ decN (c :: l)
      · by_cases h48 : c = 48
        · subst h48
          obtain ⟨d, m, e, hd⟩ := decDigits_head _ h1
          have : (Lib.decDigits (decN (48 :: l)) == 48 :: l) = false := by
            rw [e, beq_eq_false_iff_ne]
            intro e'
            injection e' with e'
            exact hd e'
          rw [this]; simp
        · obtain ⟨p1, p2, p3⟩ := decN_back l.length (c :: l) rfl ha (by simpa using h48)
          by_cases hm : decN (c :: l) ≤ 4294967295
          · have hlen : l.length + 1 ≤ 10 := by
              rcases Nat.lt_or_ge l.length 10 with h | h
              · exact h
              · have : 10 ^ 10 ≤ 10 ^ l.length := Nat.pow_le_pow_right (by omega) h
                omega
            rw [p3]
            simp [h1, hm, h48, hlen]
          · simp [hm]
      · simp [h1]
end Go.Proofs.YtfnckkmnncdelaaDoor
