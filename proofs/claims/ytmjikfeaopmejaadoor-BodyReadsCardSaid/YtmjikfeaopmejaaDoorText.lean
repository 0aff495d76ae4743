/-
  Plain laws on lists of bytes: what stands between signs.
-/
import Derived.Test.YtmjikfeaopmejaaDoorBase
import Derived.Lib.SplitLaws
namespace Go.Proofs.YtmjikfeaopmejaaDoor
/-- what stands between the signs c -/
def splitC (c : UInt8) : List UInt8 → List (List UInt8)
  | [] => [[]]
  | b :: l => if b = c then [] :: splitC c l else match splitC c l with
    | [] => [[b]]
    | p :: ps => (b :: p) :: ps
theorem splitC_ne (c : UInt8) (l : List UInt8) : splitC c l ≠ [] := by
  cases l with
  | nil => simp [splitC]
  | cons b l => unfold splitC; split; · simp
                split <;> simp
theorem count_nil (c : UInt8) : Lib.count [] [c] = 0 := by rw [Lib.count_one]; rfl
theorem index_none_of_count (c : UInt8) (l : List UInt8) (h : Lib.index l [c] = -1) : Lib.count l [c] = 0 := Lib.count_miss h
theorem splitK_one (c : UInt8) : ∀ l : List UInt8, Lib.splitK [c] 0 (Lib.count l [c]) l = splitC c l
  | [] => by rw [count_nil]; rfl
  | b :: l => by
    have ih := splitK_one c l
    unfold splitC
    by_cases hb : b = c
    · subst hb
      rw [if_pos rfl, Lib.count_cons_eq, Nat.add_comm]
      have hi : Lib.index (b :: l) [b] = 0 := by unfold Lib.index; simp
      unfold Lib.splitK
      rw [hi]
      simp [ih]
    · rw [if_neg hb, Lib.count_cons_ne _ _ _ hb]
      cases hk : Lib.count l [c] with
      | zero =>
        rw [hk] at ih
        rw [← ih]; rfl
      | succ k =>
        rw [hk] at ih
        have hne : ¬ Lib.index l [c] = -1 := fun h => by rw [Lib.count_miss h] at hk; cases hk
        have hge := Lib.index_ge l [c]
        obtain ⟨i, hi⟩ : ∃ i : Nat, Lib.index l [c] = i := ⟨(Lib.index l [c]).toNat, by omega⟩
        have hib : Lib.index (b :: l) [c] = ((i + 1 : Nat) : Int) := by
          unfold Lib.index
          rw [if_neg (by simp [Ne.symm hb]), hi, if_neg (by simp)]; rfl
        have hn1 : ¬ (((i : Nat) : Int) == -1) = true := by simp
        have hn2 : ¬ (((i + 1 : Nat) : Int) == -1) = true := by simp; omega
        rw [← ih]
        unfold Lib.splitK
        rw [hi, hib, if_neg hn1, if_neg hn2]
        simp only [Int.toNat_natCast, List.length_cons, List.length_nil, Nat.add_zero, Nat.zero_add]
        rfl
def splitsB (c : UInt8) (s : ByteArray) : List ByteArray := Lib.splitB ⟨#[c]⟩ 0 (Lib.countB s ⟨#[c]⟩) s
theorem splitsB_data (c : UInt8) (s : ByteArray) : (splitsB c s).map (·.data.toList) = splitC c s.data.toList := by
  unfold splitsB
  rw [Lib.splitB_data]
  exact splitK_one c _
theorem splitsB_length (c : UInt8) (s : ByteArray) : (splitsB c s).length = Lib.countB s ⟨#[c]⟩ + 1 := Lib.splitB_all ⟨#[c]⟩ (by simp [ByteArray.size]) 0 _ s rfl
theorem splitB_size (sep : ByteArray) (save : Nat) : ∀ (k : Nat) (s q : ByteArray), q ∈ Lib.splitB sep save k s → q.size ≤ s.size
  | 0, s, q, h => by simp [Lib.splitB] at h; subst h; exact Nat.le_refl _
  | k + 1, s, q, h => by
    unfold Lib.splitB at h
    split at h
    · simp at h; subst h; exact Nat.le_refl _
    · rcases List.mem_cons.1 h with rfl | h
      · simp; omega
      · have := splitB_size sep save k _ q h
        simp at this; omega
theorem splitsB_size (c : UInt8) (s q : ByteArray) (h : q ∈ splitsB c s) : q.size ≤ s.size := splitB_size _ _ _ s q h
theorem mem_splitC (c b : UInt8) : ∀ l : List UInt8, b ∈ l → b = c ∨ ∃ p ∈ splitC c l, b ∈ p
  | [], h => by simp at h
  | a :: l, h => by
    unfold splitC
    by_cases ha : a = c
    · rw [if_pos ha]
      rcases List.mem_cons.1 h with rfl | h
      · exact .inl ha
      · rcases mem_splitC c b l h with h | ⟨p, hp, hb⟩
        · exact .inl h
        · exact .inr ⟨p, List.mem_cons_of_mem _ hp, hb⟩
    · rw [if_neg ha]
      rcases List.mem_cons.1 h with rfl | h
      · right
        cases splitC c l with
        | nil => exact ⟨[b], by simp, by simp⟩
        | cons p ps => exact ⟨b :: p, by simp, by simp⟩
      · rcases mem_splitC c b l h with h | ⟨p, hp, hb⟩
        · exact .inl h
        · right
          cases hs : splitC c l with
          | nil => rw [hs] at hp; cases hp
          | cons q qs =>
            rw [hs] at hp
            rcases List.mem_cons.1 hp with rfl | hp
            · exact ⟨a :: p, by simp, by simp [hb]⟩
            · exact ⟨p, by simp [hp], hb⟩
theorem toList_take (s : ByteArray) (k : Nat) (h : k = s.size) : s.data.toList.take k = s.data.toList := List.take_of_length_le (by simp [h])
theorem all_snoc_get {α : Type} (l : List α) (p : α → Bool) (k : Nat) (q : α) (h : l[k]? = some q) (ha : (l.take k).all p = true) (hq : p q = true) : (l.take (k + 1)).all p = true := by
  rw [List.take_add_one, h]; simp [ha, hq]
end Go.Proofs.YtmjikfeaopmejaaDoor
