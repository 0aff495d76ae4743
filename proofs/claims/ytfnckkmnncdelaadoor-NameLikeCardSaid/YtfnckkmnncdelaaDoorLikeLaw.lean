/-
  The plain law of patterns: rows from ahead and rows from behind tell the same.
-/
import Derived.Test.YtfnckkmnncdelaaDoorRefLike
namespace Go.Proofs.YtfnckkmnncdelaaDoor
/-- may one sign stand for a text? -/
def oneSign (c : UInt8) (u : List UInt8) : Prop := if c = 42 then True else if c = 37 then (47 : UInt8) ∉ u else u = [c]
/-- is a text like a pattern? -/
def Lk : List UInt8 → List UInt8 → Prop
  | [], t => t = []
  | c :: p, t => ∃ u v, t = u ++ v ∧ oneSign c u ∧ Lk p v
theorem Lk_snoc (c : UInt8) : ∀ (p t : List UInt8), Lk (p ++ [c]) t ↔ ∃ u v, t = u ++ v ∧ Lk p u ∧ oneSign c v
  | [], t => by
    constructor
    · rintro ⟨u, v, rfl, h, rfl⟩; exact ⟨[], u, by simp, rfl, h⟩
    · rintro ⟨u, v, rfl, rfl, h⟩; exact ⟨v, [], by simp, h, rfl⟩
  | d :: p, t => by
    constructor
    · rintro ⟨u, v, rfl, h, hv⟩
      obtain ⟨v1, v2, rfl, h1, h2⟩ := (Lk_snoc c p v).1 hv
      exact ⟨u ++ v1, v2, by simp, ⟨u, v1, rfl, h, h1⟩, h2⟩
    · rintro ⟨u, v, rfl, ⟨u1, u2, rfl, h1, h2⟩, hv⟩
      exact ⟨u1, u2 ++ v, by simp, h1, (Lk_snoc c p _).2 ⟨u2, v, rfl, h2, hv⟩⟩
/-- from place i to place k -/
def seg (T : List UInt8) (i k : Nat) : List UInt8 := (T.take k).drop i
theorem seg_snoc (T : List UInt8) (i k : Nat) (hi : i ≤ k) (hk : k < T.length) : seg T i (k + 1) = seg T i k ++ [T[k]] := by
  unfold seg
  rw [List.take_succ_eq_append_getElem hk, List.drop_append_of_le_length (by simp; omega)]
theorem seg_cons (T : List UInt8) (k i : Nat) (hk : k < i) (hi : i ≤ T.length) : seg T k i = T[k]'(by omega) :: seg T (k + 1) i := by
  unfold seg
  rw [List.drop_eq_getElem_cons (by simp; omega)]
  simp
theorem seg_self (T : List UInt8) (k : Nat) : seg T k k = [] := by
  unfold seg; apply List.drop_eq_nil_of_le; simp; omega
theorem seg_length (T : List UInt8) (i k : Nat) (hk : k ≤ T.length) : (seg T i k).length = k - i := by
  unfold seg; simp; omega
theorem bat_toList (s : ByteArray) (k : Nat) (h : k < s.data.toList.length) : bat s k = s.data.toList[k] := by
  rw [bat_eq s k (by simpa using h)]; rfl
theorem int_eq_u8 (c : UInt8) (n : Nat) (hn : n < 256) : ((c.toNat : Int) == (n : Int)) = (c == UInt8.ofNat n) := by
  rw [Bool.eq_iff_iff]
  simp only [beq_iff_eq]
  constructor
  · intro h; apply UInt8.toNat_inj.1; simp; omega
  · intro h; rw [h]; simp; omega
theorem int_eq_42 (c : UInt8) : ((c.toNat : Int) == 42) = (c == 42) := int_eq_u8 c 42 (by decide)
theorem int_eq_37 (c : UInt8) : ((c.toNat : Int) == 37) = (c == 37) := int_eq_u8 c 37 (by decide)
theorem int_ne_47 (c : UInt8) : ((c.toNat : Int) != 47) = (c != 47) := by
  have h : ((c.toNat : Int) == 47) = (c == 47) := int_eq_u8 c 47 (by decide)
  unfold bne; rw [h]
theorem int_eq_two (a c : UInt8) : ((a.toNat : Int) == (c.toNat : Int)) = (a == c) := by
  rw [int_eq_u8 a c.toNat c.toNat_lt]; simp
theorem likeStep_iff (s : ByteArray) (f : Nat → Bool) (c : UInt8) : ∀ k, k ≤ s.data.toList.length → (likeStep s f c k = true ↔ ∃ i, i ≤ k ∧ f i = true ∧ oneSign c (seg s.data.toList i k))
  | 0, _ => by
    unfold likeStep oneSign
    rw [int_eq_42, int_eq_37]
    by_cases h1 : c = 42
    · subst h1; simp
    · by_cases h2 : c = 37
      · subst h2; simp [seg]
      · simp [h1, h2, seg]
  | k + 1, hk => by
    have ih := likeStep_iff s f c k (by omega)
    unfold likeStep
    rw [int_eq_42, int_eq_37, int_ne_47, int_eq_two, bat_toList s k (by omega)]
    unfold oneSign at ih ⊢
    by_cases h1 : c = 42
    · subst h1
      simp only [BEq.rfl, ↓reduceIte, Bool.or_eq_true, ih, and_true]
      constructor
      · rintro (h | ⟨i, hi, h⟩)
        · exact ⟨k + 1, Nat.le_refl _, h⟩
        · exact ⟨i, by omega, h⟩
      · rintro ⟨i, hi, h⟩
        by_cases e : i = k + 1
        · subst e; exact .inl h
        · exact .inr ⟨i, by omega, h⟩
    · by_cases h2 : c = 37
      · subst h2
        simp only [show ((37 : UInt8) == 42) = false from by decide, show ¬ (37 : UInt8) = 42 from by decide, BEq.rfl, ↓reduceIte] at ih ⊢
        simp only [Bool.false_eq_true, ↓reduceIte, Bool.or_eq_true, Bool.and_eq_true, bne_iff_ne, ih]
        constructor
        · rintro (h | ⟨⟨i, hi, h, h'⟩, h47⟩)
          · exact ⟨k + 1, Nat.le_refl _, h, by rw [seg_self]; simp⟩
          · refine ⟨i, by omega, h, ?_⟩
            rw [seg_snoc _ _ _ hi (by omega), List.mem_append, List.mem_singleton]
            exact fun e => e.elim h' (fun e => h47 e.symm)
        · rintro ⟨i, hi, h, h'⟩
          by_cases e : i = k + 1
          · subst e; exact .inl h
          · rw [seg_snoc _ _ _ (by omega) (by omega)] at h'
            simp at h'
            exact .inr ⟨⟨i, by omega, h, h'.1⟩, fun e => h'.2 e.symm⟩
      · have e1 : (c == 42) = false := by simpa using h1
        have e2 : (c == 37) = false := by simpa using h2
        simp only [e1, e2, h1, h2, Bool.false_eq_true, ↓reduceIte, Bool.and_eq_true, beq_iff_eq]
        constructor
        · rintro ⟨h, h'⟩
          refine ⟨k, by omega, h, ?_⟩
          rw [seg_snoc _ _ _ (Nat.le_refl _) (by omega), seg_self, h']; rfl
        · rintro ⟨i, hi, h, h'⟩
          have hl := congrArg List.length h'
          rw [seg_length _ _ _ hk] at hl
          obtain rfl : i = k := by simp at hl; omega
          rw [seg_snoc _ _ _ (Nat.le_refl _) (by omega), seg_self] at h'
          simp at h'
          exact ⟨h, h'⟩
theorem take_split (T : List UInt8) (k : Nat) (hk : k ≤ T.length) (P Q : List UInt8 → Prop) : (∃ u v, T.take k = u ++ v ∧ P u ∧ Q v) ↔ ∃ i, i ≤ k ∧ P (T.take i) ∧ Q (seg T i k) := by
  constructor
  · rintro ⟨u, v, h, hp, hq⟩
    have hl := congrArg List.length h
    simp at hl
    refine ⟨u.length, by omega, ?_, ?_⟩
    · have : T.take u.length = u := by
        have := congrArg (List.take u.length) h
        rw [List.take_take, Nat.min_eq_left (by omega)] at this
        rw [this]; simp
      rw [this]; exact hp
    · unfold seg; rw [h]; simpa using hq
  · rintro ⟨i, hi, hp, hq⟩
    refine ⟨T.take i, seg T i k, ?_, hp, hq⟩
    unfold seg
    have := List.take_append_drop i (T.take k)
    rw [List.take_take, Nat.min_eq_left hi] at this
    exact this.symm
theorem likeRow_iff (s : ByteArray) : ∀ (p q : List UInt8) (f : Nat → Bool), (∀ i, i ≤ s.data.toList.length → (f i = true ↔ Lk q (s.data.toList.take i))) →
    ∀ k, k ≤ s.data.toList.length → (p.foldl (likeStep s) f k = true ↔ Lk (q ++ p) (s.data.toList.take k))
  | [], q, f, h, k, hk => by simpa using h k hk
  | c :: p, q, f, h, k, hk => by
    have := likeRow_iff s p (q ++ [c]) (likeStep s f c) (fun i hi => by
      rw [likeStep_iff s f c i hi, Lk_snoc, take_split _ _ hi (Lk q) (oneSign c)]
      constructor
      · rintro ⟨j, hj, h1, h2⟩; exact ⟨j, hj, (h j (by omega)).1 h1, h2⟩
      · rintro ⟨j, hj, h1, h2⟩; exact ⟨j, hj, (h j (by omega)).2 h1, h2⟩) k hk
    simpa using this
theorem likeRow_lk (s : ByteArray) (p : List UInt8) : likeRow s p s.size = true ↔ Lk p s.data.toList := by
  have := likeRow_iff s p [] likeRow0 (fun i hi => by
    unfold likeRow0 Lk
    simp only [beq_iff_eq]
    constructor
    · rintro rfl; rfl
    · intro h
      have hl := congrArg List.length h
      rw [List.length_take, Nat.min_eq_left hi] at hl
      exact hl) s.size (by simp)
  rw [List.take_of_length_le (by simp)] at this
  exact this
theorem refNow_iff (s : ByteArray) (f : Nat → Bool) (c : UInt8) : ∀ m k, k + m = s.data.toList.length → (refNow s f c k = true ↔ ∃ i, k ≤ i ∧ i ≤ s.data.toList.length ∧ oneSign c (seg s.data.toList k i) ∧ f i = true)
  | 0, k, hk => by
    obtain rfl : k = s.size := by simpa using hk
    have hl : s.data.toList.length = s.size := by simp
    rw [refNow_end, int_eq_42, int_eq_37, hl]
    unfold oneSign
    have hone : ∀ P : Nat → Prop, (∃ i, s.size ≤ i ∧ i ≤ s.size ∧ P i) ↔ P s.size := fun P =>
      ⟨fun ⟨i, h1, h2, h3⟩ => by obtain rfl : i = s.size := by omega
                                 exact h3, fun h => ⟨s.size, Nat.le_refl _, Nat.le_refl _, h⟩⟩
    rw [hone, seg_self]
    by_cases h1 : c = 42
    · subst h1; simp
    · by_cases h2 : c = 37
      · subst h2; simp
      · simp [h1, h2]
  | m + 1, k, hk => by
    have ih := refNow_iff s f c m (k + 1) (by omega)
    have hks : k < s.size := by simp at hk; omega
    rw [refNow_at s f c k hks, int_eq_42, int_eq_37, int_ne_47, int_eq_two]
    rw [show s[k] = s.data.toList[k]'(by simpa using hks) from rfl]
    unfold oneSign at ih ⊢
    by_cases h1 : c = 42
    · subst h1
      simp only [BEq.rfl, ↓reduceIte, Bool.or_eq_true, ih, true_and]
      constructor
      · rintro (h | ⟨i, hi, hj, h⟩)
        · exact ⟨k, Nat.le_refl _, by omega, h⟩
        · exact ⟨i, by omega, hj, h⟩
      · rintro ⟨i, hi, hj, h⟩
        by_cases e : i = k
        · subst e; exact .inl h
        · exact .inr ⟨i, by omega, hj, h⟩
    · by_cases h2 : c = 37
      · subst h2
        simp only [show ((37 : UInt8) == 42) = false from by decide, show ¬ (37 : UInt8) = 42 from by decide, BEq.rfl, ↓reduceIte] at ih ⊢
        simp only [Bool.false_eq_true, ↓reduceIte, Bool.or_eq_true, Bool.and_eq_true, bne_iff_ne, ih]
        constructor
        · rintro (h | ⟨⟨i, hi, hj, h, h'⟩, h47⟩)
          · exact ⟨k, Nat.le_refl _, by omega, by rw [seg_self]; simp, h⟩
          · refine ⟨i, by omega, hj, ?_, h'⟩
            rw [seg_cons _ _ _ (by omega) hj, List.mem_cons]
            exact fun e => e.elim (fun e => h47 e.symm) h
        · rintro ⟨i, hi, hj, h, h'⟩
          by_cases e : i = k
          · subst e; exact .inl h'
          · rw [seg_cons _ _ _ (by omega) hj] at h
            simp at h
            exact .inr ⟨⟨i, by omega, hj, h.2, h'⟩, fun e => h.1 e.symm⟩
      · have e1 : (c == 42) = false := by simpa using h1
        have e2 : (c == 37) = false := by simpa using h2
        simp only [e1, e2, h1, h2, Bool.false_eq_true, ↓reduceIte, Bool.and_eq_true, beq_iff_eq]
        constructor
        · rintro ⟨h, h'⟩
          refine ⟨k + 1, by omega, by omega, ?_, h'⟩
          rw [seg_cons _ _ _ (by omega) (by omega), seg_self, h]
        · rintro ⟨i, hi, hj, h, h'⟩
          have hl := congrArg List.length h
          rw [seg_length _ _ _ hj] at hl
          obtain rfl : i = k + 1 := by simp at hl; omega
          rw [seg_cons _ _ _ (by omega) hj, seg_self] at h
          simp at h
          exact ⟨h, h'⟩
theorem drop_split (T : List UInt8) (k : Nat) (hk : k ≤ T.length) (P Q : List UInt8 → Prop) : (∃ u v, T.drop k = u ++ v ∧ P u ∧ Q v) ↔ ∃ i, k ≤ i ∧ i ≤ T.length ∧ P (seg T k i) ∧ Q (T.drop i) := by
  constructor
  · rintro ⟨u, v, h, hp, hq⟩
    have hl := congrArg List.length h
    simp at hl
    refine ⟨k + u.length, by omega, by omega, ?_, ?_⟩
    · have : seg T k (k + u.length) = u := by
        unfold seg
        rw [List.drop_take, h, show k + u.length - k = u.length from by omega]; simp
      rw [this]; exact hp
    · have : T.drop (k + u.length) = v := by rw [← List.drop_drop, h]; simp
      rw [this]; exact hq
  · rintro ⟨i, hi, hj, hp, hq⟩
    refine ⟨seg T k i, T.drop i, ?_, hp, hq⟩
    unfold seg
    rw [List.drop_take]
    have := List.take_append_drop (i - k) (T.drop k)
    rw [List.drop_drop, show k + (i - k) = i from by omega] at this
    exact this.symm
theorem refRow_iff (s : ByteArray) : ∀ (p : List UInt8) (k : Nat), k ≤ s.data.toList.length → (refRow s p k = true ↔ Lk p (s.data.toList.drop k))
  | [], k, hk => by
    unfold refRow refRow0 Lk
    simp only [List.foldr_nil, beq_iff_eq, List.drop_eq_nil_iff]
    simp at hk ⊢
    omega
  | c :: p, k, hk => by
    rw [refRow_cons, refNow_iff s _ c (s.data.toList.length - k) k (by omega)]
    unfold Lk
    rw [drop_split _ _ hk (oneSign c) (Lk p)]
    constructor
    · rintro ⟨i, h1, h2, h3, h4⟩; exact ⟨i, h1, h2, h3, (refRow_iff s p i h2).1 h4⟩
    · rintro ⟨i, h1, h2, h3, h4⟩; exact ⟨i, h1, h2, h3, (refRow_iff s p i h2).2 h4⟩
theorem like_same (p s : ByteArray) : likeRow s p.data.toList s.size = refRow s p.data.toList 0 := by
  rw [Bool.eq_iff_iff, likeRow_lk, refRow_iff s _ 0 (Nat.zero_le _)]; simp
end Go.Proofs.YtfnckkmnncdelaaDoor
