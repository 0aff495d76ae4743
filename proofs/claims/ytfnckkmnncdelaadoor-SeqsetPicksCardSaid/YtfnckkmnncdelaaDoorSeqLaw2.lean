/-
  Plain laws: a text cut in pieces, and what a piece is; no program in sight.
-/
import Derived.Test.YtfnckkmnncdelaaDoorSeqLaw
import Derived.Lib.SplitLaws
namespace Go.Proofs.YtfnckkmnncdelaaDoor
/-- the pieces between one byte -/
def onto (b : UInt8) : List (List UInt8) → List (List UInt8)
  | [] => [[b]]
  | h :: t => (b :: h) :: t
def splitC (c : UInt8) : List UInt8 → List (List UInt8)
  | [] => [[]]
  | b :: l => if b = c then [] :: splitC c l else onto b (splitC c l)
theorem splitC_ne (c : UInt8) (l : List UInt8) : ∃ h t, splitC c l = h :: t := by
  cases l with
  | nil => exact ⟨_, _, rfl⟩
  | cons b l =>
    unfold splitC
    by_cases hb : b = c
    · rw [if_pos hb]; exact ⟨_, _, rfl⟩
    · rw [if_neg hb]
      cases splitC c l with
      | nil => exact ⟨_, _, rfl⟩
      | cons h t => exact ⟨_, _, rfl⟩
theorem index_cons (b c : UInt8) (l : List UInt8) : Lib.index (b :: l) [c] = if b = c then 0 else if Lib.index l [c] = -1 then -1 else Lib.index l [c] + 1 := by
  rw [Lib.index]
  by_cases h : b = c
  · subst h; simp [List.isPrefixOf]
  · have : (c == b) = false := by rw [beq_eq_false_iff_ne]; exact fun e => h e.symm
    simp [List.isPrefixOf, this, h]
theorem splitC_eq (c : UInt8) : ∀ l : List UInt8, Lib.splitK [c] 0 (Lib.count l [c]) l = splitC c l
  | [] => by rw [Lib.count_miss (by simp [Lib.index])]; rfl
  | b :: l => by
    by_cases h : b = c
    · subst h
      rw [Lib.count_cons_eq, Nat.add_comm, Lib.splitK, index_cons, if_pos rfl, splitC, if_pos rfl, if_neg (by simp)]
      simp only [Int.toNat_zero, Nat.zero_add, List.take_zero, List.length_cons, List.length_nil, List.drop_one, List.tail_cons]
      rw [splitC_eq b l]
    · rw [Lib.count_cons_ne b c l h, splitC, if_neg h, ← splitC_eq c l]
      cases hk : Lib.count l [c] with
      | zero => rfl
      | succ k =>
        have hm : ¬ Lib.index l [c] = -1 := fun e => by rw [Lib.count_miss e] at hk; cases hk
        have hge := Lib.index_ge l [c]
        obtain ⟨j, hj⟩ : ∃ j : Nat, Lib.index l [c] = j := ⟨(Lib.index l [c]).toNat, by omega⟩
        have hix : Lib.index (b :: l) [c] = ((j + 1 : Nat) : Int) := by rw [index_cons, if_neg h, if_neg hm, hj]; rfl
        rw [Lib.splitK, Lib.splitK, hix, hj, if_neg (by rw [beq_iff_eq]; omega), if_neg (by rw [beq_iff_eq]; omega)]
        simp [onto]
/-- one byte more, at the end -/
def ontoLast (b : UInt8) : List (List UInt8) → List (List UInt8)
  | [] => []
  | [h] => [h ++ [b]]
  | h :: t => h :: ontoLast b t
theorem ontoLast_cons (b : UInt8) (h : List UInt8) (t : List (List UInt8)) (ht : t ≠ []) : ontoLast b (h :: t) = h :: ontoLast b t := by
  cases t with
  | nil => exact absurd rfl ht
  | cons a t => rfl
theorem splitC_snoc (c b : UInt8) : ∀ l : List UInt8, splitC c (l ++ [b]) = if b = c then splitC c l ++ [[]] else ontoLast b (splitC c l)
  | [] => by
    by_cases h : b = c
    · simp [splitC, h]
    · simp [splitC, h, onto, ontoLast]
  | a :: l => by
    rw [List.cons_append, splitC, splitC, splitC_snoc c b l]
    obtain ⟨h, t, e⟩ := splitC_ne c l
    rw [e]
    by_cases ha : a = c <;> by_cases hb : b = c
    · simp [ha, hb]
    · simp [ha, hb, ontoLast]
    · simp [ha, hb, onto]
    · simp only [ha, hb, if_false]
      cases t with
      | nil => simp [onto, ontoLast]
      | cons x t => simp [onto, ontoLast]
theorem ontoLast_eq (b : UInt8) : ∀ L : List (List UInt8), L ≠ [] → ontoLast b L = L.dropLast ++ [L.getLast! ++ [b]]
  | [], h => absurd rfl h
  | [h], _ => rfl
  | h :: a :: t, _ => by
    have := ontoLast_eq b (a :: t) (by simp)
    rw [ontoLast, this]
    · simp [List.getLast!]
    · simp
theorem splitC_length_pos (c : UInt8) (l : List UInt8) : 1 ≤ (splitC c l).length := by
  obtain ⟨h, t, e⟩ := splitC_ne c l
  rw [e]; simp
theorem splitC_length_le (c : UInt8) : ∀ l : List UInt8, (splitC c l).length ≤ l.length + 1
  | [] => by simp [splitC]
  | b :: l => by
    have := splitC_length_le c l
    rw [splitC]
    by_cases h : b = c
    · rw [if_pos h]; simpa using this
    · rw [if_neg h]
      obtain ⟨x, t, e⟩ := splitC_ne c l
      rw [e] at this ⊢
      simp only [onto, List.length_cons] at this ⊢
      omega
theorem splitC_mem_le (c : UInt8) : ∀ (l : List UInt8), ∀ p ∈ splitC c l, p.length ≤ l.length
  | [] => by intro p hp; simp [splitC] at hp; subst hp; simp
  | b :: l => by
    have ih := splitC_mem_le c l
    intro p hp
    rw [splitC] at hp
    by_cases h : b = c
    · rw [if_pos h] at hp
      rcases List.mem_cons.1 hp with e | e
      · subst e; simp
      · have := ih p e; simp only [List.length_cons]; omega
    · rw [if_neg h] at hp
      obtain ⟨x, t, e⟩ := splitC_ne c l
      rw [e] at hp ih
      simp only [onto] at hp
      rcases List.mem_cons.1 hp with e' | e'
      · subst e'; have := ih x (by simp); simp only [List.length_cons]; omega
      · have := ih p (by simp [e']); simp only [List.length_cons]; omega
/-- strings.Cut at one byte, and the pieces -/
theorem cut_spec (c : UInt8) : ∀ p : List UInt8, (c ∉ p ∧ Lib.cut p [c] = (p, [], false) ∧ splitC c p = [p]) ∨
    ∃ a b, p = a ++ c :: b ∧ c ∉ a ∧ Lib.cut p [c] = (a, b, true) ∧ splitC c p = a :: splitC c b
  | [] => .inl ⟨by simp, by simp [Lib.cut, Lib.index], rfl⟩
  | x :: p => by
    by_cases h : x = c
    · subst h
      refine .inr ⟨[], p, rfl, by simp, ?_, by simp [splitC]⟩
      rw [Lib.cut, index_cons]; simp
    · rcases cut_spec c p with ⟨h1, h2, h3⟩ | ⟨a, b, h1, h2, h3, h4⟩
      · refine .inl ⟨by simp [h1, Ne.symm h], ?_, by rw [splitC, if_neg h, h3]; rfl⟩
        have hm : Lib.index p [c] = -1 := by
          have hge := Lib.index_ge p [c]
          by_cases hh : 0 ≤ Lib.index p [c]
          · rw [Lib.cut, if_pos hh] at h2
            simp at h2
          · omega
        rw [Lib.cut, index_cons, if_neg h, if_pos hm, if_neg (by omega)]
      · refine .inr ⟨x :: a, b, by rw [h1]; rfl, by simp [h2, Ne.symm h], ?_, by rw [splitC, if_neg h, h4]; rfl⟩
        have hge := Lib.index_ge p [c]
        by_cases hh : 0 ≤ Lib.index p [c]
        · rw [Lib.cut, if_pos hh] at h3
          obtain ⟨j, hj⟩ : ∃ j : Nat, Lib.index p [c] = j := ⟨(Lib.index p [c]).toNat, by omega⟩
          have hic : Lib.index (x :: p) [c] = (j : Int) + 1 := by rw [index_cons, if_neg h, if_neg (by omega), hj]
          rw [Lib.cut, hic, if_pos (by omega)]
          rw [hj] at h3
          simp only [Prod.mk.injEq, Int.toNat_natCast, List.length_cons, List.length_nil] at h3
          have e1 : ((j : Int) + 1).toNat = j + 1 := by omega
          simp [e1, h3.1, h3.2.1]
        · rw [Lib.cut, if_neg hh] at h3
          simp at h3
/-- the two ends of a piece, as the program takes them -/
def partA (p : List UInt8) : List UInt8 := (Lib.cut p [58]).1
def partB (p : List UInt8) : List UInt8 := if (Lib.cut p [58]).2.2 = true then (Lib.cut p [58]).2.1 else (Lib.cut p [58]).1
def partOk (p : List UInt8) : Bool := numOk (partA p) && numOk (partB p)
def partVal (p : List UInt8) : Nat × Nat := (numVal (partA p), numVal (partB p))
theorem oneOk_no58 {l : List UInt8} (h : oneOk l = true) : (58 : UInt8) ∉ l := by
  intro hm
  unfold oneOk at h
  rcases Bool.or_eq_true_iff.1 h with h | h
  · rw [beq_iff_eq] at h; subst h; simp at hm
  · simp only [Bool.and_eq_true] at h
    have := List.all_eq_true.1 h.1.1.2 _ hm
    revert this
    decide
/-- .. and as the document does -/
theorem part_ref (p : List UInt8) : ∃ h t, splitC 58 p = h :: t ∧ partOk p = (oneOk h && oneOk ((h :: t).getLast (by simp)) && decide ((h :: t).length ≤ 2)) ∧
    (partOk p = true → partA p = h ∧ partB p = (h :: t).getLast (by simp)) := by
  rcases cut_spec 58 p with ⟨h1, h2, h3⟩ | ⟨a, b, h1, h2, h3, h4⟩
  · refine ⟨p, [], h3, ?_, ?_⟩
    · simp [partOk, partA, partB, h2, num_one]
    · simp [partA, partB, h2]
  · rcases cut_spec 58 b with ⟨g1, g2, g3⟩ | ⟨a', b', g1, g2, g3, g4⟩
    · refine ⟨a, [b], by rw [h4, g3], ?_, ?_⟩
      · simp [partOk, partA, partB, h3, num_one]
      · simp [partA, partB, h3]
    · obtain ⟨x, t, e⟩ := splitC_ne 58 b'
      have hb : oneOk b = false := by
        rcases Bool.eq_false_or_eq_true (oneOk b) with h | h
        · exact absurd (by rw [g1]; simp) (oneOk_no58 h)
        · exact h
      refine ⟨a, a' :: x :: t, by rw [h4, g4, e], ?_, ?_⟩
      · simp [partOk, partA, partB, h3, num_one, hb]
      · simp [partOk, partA, partB, h3, num_one, hb]
/-- a set -/
def setOk (l : List UInt8) : Bool := decide ((splitC 44 l).length ≤ 100) && (splitC 44 l).all partOk
def setVals (l : List UInt8) : List (Nat × Nat) := (splitC 44 l).map partVal
/-- a number in a part, and in a set -/
def inSpan (x : Nat × Nat) (n g : Nat) : Bool :=
  let a := if x.1 = 0 then g else x.1
  let b := if x.2 = 0 then g else x.2
  decide (min a b ≤ n) && decide (n ≤ max a b)
def inSet (l : List (Nat × Nat)) (n g : Nat) : Bool := decide (1 ≤ n) && l.any fun x => inSpan x n g
theorem inSpan_ref (x : Nat × Nat) (n g a b : Nat) (ha : a = if x.1 = 0 then g else x.1) (hb : b = if x.2 = 0 then g else x.2) :
    inSpan x n g = ((decide (a ≤ n) && decide (n ≤ b)) || (decide (b ≤ n) && decide (n ≤ a))) := by
  unfold inSpan
  rw [← ha, ← hb]
  show (decide (min a b ≤ n) && decide (n ≤ max a b)) = _
  rw [Bool.eq_iff_iff]
  simp only [Bool.and_eq_true, Bool.or_eq_true, decide_eq_true_eq]
  omega
theorem numVal_le {l : List UInt8} (h : numOk l = true) : numVal l ≤ 4294967295 := by
  unfold numVal
  by_cases e : l = [42]
  · rw [if_pos e]; omega
  · rw [if_neg e]
    unfold numOk spellsB at h
    simp only [Bool.or_eq_true, Bool.and_eq_true, beq_iff_eq, e, false_or, decide_eq_true_eq] at h
    exact h.1.1.2
/-- the two cells of a part -/
def spanCells (l : List (Nat × Nat)) : List Value := l.flatMap fun x => [Value.int .u32 (x.1 : Nat), Value.int .u32 (x.2 : Nat)]
theorem spanCells_length (l : List (Nat × Nat)) : (spanCells l).length = l.length * 2 := by
  induction l with
  | nil => rfl
  | cons a l ih => simp only [spanCells, List.flatMap_cons, List.length_append, List.length_cons, List.length_nil] at ih ⊢; omega
theorem spanCells_append (a b : List (Nat × Nat)) : spanCells (a ++ b) = spanCells a ++ spanCells b := by simp [spanCells]
theorem spanCells_at : ∀ (l : List (Nat × Nat)) (k : Nat) (x : Nat × Nat), l[k]? = some x → (spanCells l)[k * 2]? = some (.int .u32 (x.1 : Nat)) ∧ (spanCells l)[k * 2 + 1]? = some (.int .u32 (x.2 : Nat))
  | [], k, x, h => by simp at h
  | y :: l, 0, x, h => by simp at h; subst h; simp [spanCells]
  | y :: l, k + 1, x, h => by
    have := spanCells_at l k x (by simpa using h)
    have e : spanCells (y :: l) = Value.int .u32 (y.1 : Nat) :: Value.int .u32 (y.2 : Nat) :: spanCells l := by simp [spanCells]
    rw [e, show (k + 1) * 2 = k * 2 + 2 by omega]
    simpa using this
end Go.Proofs.YtfnckkmnncdelaaDoor
