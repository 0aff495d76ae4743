/-
  Parse: the program's answer is the reference's.
-/
import Derived.Test.YtfnckkmnncdelaaDoorDateParse0
namespace Go.Proofs.YtfnckkmnncdelaaDoor
theorem byteAll (P : UInt8 → Bool) (h : (List.range 256).all (fun n => P (UInt8.ofNat n)) = true) (c : UInt8) : P c = true := by
  have := List.all_eq_true.1 h c.toNat (by simp; exact c.toNat_lt)
  simpa using this
theorem small_lower (c : UInt8) : smallB c = ((Lib.lowerB c).toNat : Int) := by
  have := byteAll (fun c => smallB c == ((Lib.lowerB c).toNat : Int)) (by decide +kernel) c
  simpa using this
theorem alike_lower (a b : List UInt8) : alikeL a b = (lowerL a == lowerL b) := by
  have e : ∀ l : List UInt8, l.map smallB = (lowerL l).map (fun c => (c.toNat : Int)) := by
    intro l
    unfold lowerL Lib.toLowerA
    rw [List.map_map]
    exact List.map_congr_left fun c _ => small_lower c
  unfold alikeL
  rw [e, e, Bool.eq_iff_iff]
  simp only [beq_iff_eq]
  constructor
  · intro h
    refine (List.map_inj_right ?_).1 h
    intro x y hxy
    exact UInt8.toNat_inj.1 (by omega)
  · intro h; rw [h]
theorem mon_apart (j k : Nat) (hj : j < 12) (hk : k < 12) (h : j ≠ k) : (lowerL (monB ((j : Int) + 1)).data.toList == lowerL (monB ((k : Int) + 1)).data.toList) = false := by
  have ht : ((List.range 12).all fun j => (List.range 12).all fun k => j == k || !(lowerL (monB ((j : Int) + 1)).data.toList == lowerL (monB ((k : Int) + 1)).data.toList)) = true := by decide +kernel
  have := List.all_eq_true.1 (List.all_eq_true.1 ht j (by simpa using hj)) k (by simpa using hk)
  simpa [h] using this
theorem refMonV_none (l : List UInt8) : ∀ n, (∀ j : Nat, j < n → alikeL l (monB ((j : Int) + 1)).data.toList = false) → refMonV l n = 0
  | 0, _ => rfl
  | n + 1, h => by rw [refMonV_miss l n (h n (by omega))]; exact refMonV_none l n fun j hj => h j (by omega)
theorem refMonV_at (l : List UInt8) (k : Nat) (hk : alikeL l (monB ((k : Int) + 1)).data.toList = true) : ∀ n, k < n → (∀ j : Nat, j < n → j ≠ k → alikeL l (monB ((j : Int) + 1)).data.toList = false) → refMonV l n = (k : Int) + 1
  | 0, h, _ => by omega
  | n + 1, h, hn => by
    by_cases e : n = k
    · subst e; exact refMonV_hit l n hk
    · rw [refMonV_miss l n (hn n (by omega) e)]
      exact refMonV_at l k hk n (by omega) fun j hj hne => hn j (by omega) hne
theorem refMon_named (l : List UInt8) : refMonV l 12 = namedV l := by
  by_cases h : ∃ k : Nat, k < 12 ∧ alikeL l (monB ((k : Int) + 1)).data.toList = true
  · obtain ⟨k, hk, ha⟩ := h
    have hlow := ha
    rw [alike_lower] at hlow
    have hother : ∀ j : Nat, j < 12 → j ≠ k → alikeL l (monB ((j : Int) + 1)).data.toList = false := by
      intro j hj hne
      have := mon_apart k j hk hj (fun e => hne e.symm)
      rw [alike_lower]
      rw [beq_iff_eq] at hlow
      rw [hlow]; exact this
    rw [refMonV_at l k ha 12 hk hother]
    exact (namedV_at l k hk hlow fun j hj => by rw [← alike_lower]; exact hother j (by omega) (by omega)).symm
  · have hn : ∀ j : Nat, j < 12 → alikeL l (monB ((j : Int) + 1)).data.toList = false := by
      intro j hj
      rw [← Bool.not_eq_true]
      intro e; exact h ⟨j, hj, e⟩
    rw [refMonV_none l 12 hn]
    exact (namedV_none l fun j hj => by rw [← alike_lower]; exact hn j hj).symm
theorem numV_zero (l : List UInt8) : numV (48 :: l) = numV l := by
  have h : digitB 48 = true := by decide
  have e : dec (48 :: l) = dec l := by unfold dec; rw [List.foldl_cons]; rfl
  unfold numV
  rw [List.all_cons, h, Bool.true_and, e]
theorem day_first (s : ByteArray) : numV (dayL s) = numV (firstL s) := by
  unfold dayL firstL
  split
  · exact numV_zero _
  · rfl
theorem numV_sub_bad (s : ByteArray) (a b j : Nat) (h : j < s.size) (ha : a ≤ j) (hb : j < b) (hj : 128 ≤ (bat s j).toNat) : numV (sub s a b) = -1 := by
  have hs : j - a < (s.extract a b).size := by simp; omega
  refine numV_bad (s.extract a b) (j - a) hs ?_
  rw [ByteArray.getElem_extract]
  rw [bat_eq s j h] at hj
  have e : a + (j - a) = j := by omega
  simp only [e]
  unfold digitB
  simp; omega
theorem first_bad (s : ByteArray) (j : Nat) (hs : 2 ≤ s.size) (hj2 : j < 2) (hj : 128 ≤ (bat s j).toNat) : numV (firstL s) = -1 := by
  unfold firstL
  split
  · have : j = 1 := by
      by_cases e : j = 0
      · subst e; omega
      · omega
    subst this
    exact numV_sub_bad s 1 2 1 (by omega) (by omega) (by omega) hj
  · exact numV_sub_bad s 0 2 j (by omega) (by omega) (by omega) hj
theorem mon_bad (s : ByteArray) (j : Nat) (hs : 6 ≤ s.size) (h3 : 3 ≤ j) (h6 : j < 6) (hj : 128 ≤ (bat s j).toNat) : refMonV (sub s 3 6) 12 = 0 := by
  refine refMonV_none _ 12 fun k hk => ?_
  rw [← Bool.not_eq_true]
  intro e
  unfold alikeL at e
  rw [beq_iff_eq] at e
  have hs' : j - 3 < (s.extract 3 6).size := by simp; omega
  have hm : (s.extract 3 6)[j - 3] ∈ sub s 3 6 := by
    unfold sub
    rw [show (s.extract 3 6)[j - 3] = (s.extract 3 6).data.toList[j - 3]'(by simp; omega) from rfl]
    exact List.getElem_mem _
  have hm2 : smallB (s.extract 3 6)[j - 3] ∈ (monB ((k : Int) + 1)).data.toList.map smallB := by
    rw [← e]; exact List.mem_map_of_mem hm
  rw [List.mem_map] at hm2
  obtain ⟨b, hb, hbe⟩ := hm2
  obtain ⟨i, hi⟩ := List.getElem?_of_mem hb
  have hlow := (monB_low k hk).2 i b hi
  rw [ByteArray.getElem_extract] at hbe
  rw [bat_eq s j (by omega)] at hj
  have e3 : 3 + (j - 3) = j := by omega
  simp only [e3] at hbe
  unfold smallB smallI at hbe
  split at hbe <;> split at hbe <;> omega
theorem sinceP_low (y m d : Int) (h0 : 0 ≤ y) (h1 : y ≤ 1968) (m0 : 1 ≤ m) (m1 : m ≤ 12) (d1 : d ≤ 99) : sinceP y m d < -1 := by
  unfold sinceP
  split
  · omega
  · unfold sinceN
    dsimp only
    split <;> omega
theorem core_same (d m y h mi se zh zm : Int) (neg pos : Bool) (hp : pos = !neg) (d1 : d ≤ 99) (m0 : 0 ≤ m) (m1 : m ≤ 12) (y1 : y ≤ 9999) :
    core d m y h mi se zh zm neg = refCore d m y h mi se zh zm pos := by
  subst hp
  by_cases c1 : d < 1 ∨ m < 1 ∨ y < 0 ∨ h < 0 ∨ 23 < h ∨ mi < 0 ∨ 59 < mi ∨ se < 0 ∨ 59 < se
  · unfold core refCore
    rw [if_pos c1, if_pos (by omega)]
  by_cases c2 : zh < 0 ∨ 14 < zh ∨ zm < 0 ∨ 59 < zm
  · unfold core refCore
    rw [if_neg c1, if_pos c2, if_pos (by omega)]
  by_cases cy : y < 1969
  · have := sinceP_low y m d (by omega) (by omega) (by omega) (by omega) (by omega)
    unfold core refCore
    rw [if_neg c1, if_neg c2, if_pos this, if_pos (by omega)]
  have hsp : sinceP y m d = sinceN y m d := by unfold sinceP; rw [if_neg (by omega)]
  have hc3 : ¬ (m = 0 ∨ d < 1 ∨ y < 1969 ∨ h < 0 ∨ 23 < h ∨ mi < 0 ∨ 59 < mi ∨ se < 0 ∨ 59 < se ∨ zh < 0 ∨ 14 < zh ∨ zm < 0 ∨ 59 < zm) := by omega
  by_cases cd : dimN y m < d
  · have hr : refCore d m y h mi se zh zm (!neg) = (0, false) := by unfold refCore; rw [if_neg hc3, if_pos cd]
    rw [hr]
    unfold core
    rw [if_neg c1, if_neg c2, hsp]
    by_cases c4 : sinceN y m d < -1
    · rw [if_pos c4]
    · rw [if_neg c4, if_pos]
      by_cases e1 : civY (sinceN y m d) = y
      · by_cases e2 : civM (sinceN y m d) = m
        · by_cases e3 : civD (sinceN y m d) = d
          · have hv := civ_valid (sinceN y m d)
            rw [e1, e2, e3] at hv
            have := hv.2.2.2
            omega
          · exact .inr (.inr e3)
        · exact .inr (.inl e2)
      · exact .inl e1
  · have hv : Valid y m d := ⟨by omega, by omega, by omega, by omega⟩
    obtain ⟨e1, e2, e3⟩ := civ_since y m d hv
    unfold core refCore
    rw [if_neg c1, if_neg c2, hsp, if_neg hc3, if_neg cd, since_lin]
    generalize sinceN y m d = S at *
    have he : ¬ (civY S ≠ y ∨ civM S ≠ m ∨ civD S ≠ d) := by omega
    rw [if_neg he]
    have ht : S * 86400 + h * 3600 + mi * 60 + se - (if neg = true then -(zh * 3600 + zm * 60) else zh * 3600 + zm * 60) =
        (if (!neg) = true then S * 86400 + h * 3600 + mi * 60 + se - zh * 3600 - zm * 60 else S * 86400 + h * 3600 + mi * 60 + se + zh * 3600 + zm * 60) := by
      cases neg
      · simp; omega
      · simp; omega
    dsimp only
    rw [ht]
    by_cases c4 : S < -1
    · rw [if_pos c4, if_pos]
      left
      split <;> omega
    · rw [if_neg c4]
theorem parse_same (s : ByteArray) : parseV s = refParseV s := by
  by_cases hs : s.size = 26 ∧ signsV s = true
  · have hr : refParseV s = refCore (numV (firstL s)) (refMonV (sub s 3 6) 12) (numV (sub s 7 11)) (numV (sub s 12 14)) (numV (sub s 15 17)) (numV (sub s 18 20)) (numV (sub s 22 24)) (numV (sub s 24 26)) (((bat s 21).toNat : Int) == 43) := by
      unfold refParseV; rw [if_pos hs]
    obtain ⟨h26, hg⟩ := hs
    have hg' := hg
    unfold signsV at hg'
    simp only [Bool.and_eq_true, Bool.or_eq_true, beq_iff_eq] at hg'
    obtain ⟨⟨⟨⟨⟨⟨g1, g2⟩, g3⟩, g4⟩, g5⟩, g6⟩, g7⟩ := hg'
    rw [hr]
    rcases Bool.eq_false_or_eq_true (asciiV s) with ha | ha
    · have hp : parseV s = core (numV (dayL s)) (namedV (sub s 3 6)) (numV (sub s 7 11)) (numV (sub s 12 14)) (numV (sub s 15 17)) (numV (sub s 18 20)) (numV (sub s 22 24)) (numV (sub s 24 26)) (((bat s 21).toNat : Int) == 45) := by
        unfold parseV; rw [if_pos ⟨h26, ha, hg⟩]
      rw [hp, day_first, refMon_named]
      have b1 : numV (firstL s) ≤ 99 := by
        unfold firstL
        split
        · have := numV_one (sub s 1 2) (sub_length s 1 2 (by omega)); omega
        · exact (numV_two (sub s 0 2) (sub_length s 0 2 (by omega))).2
      have b2 := namedV_bd (sub s 3 6)
      have b3 := numV_four (sub s 7 11) (sub_length s 7 11 (by omega))
      refine core_same _ _ _ _ _ _ _ _ _ _ ?_ b1 b2.1 b2.2 b3.2
      rcases g7 with g7 | g7 <;> rw [g7] <;> decide
    · have hp : parseV s = (0, false) := by
        unfold parseV; rw [if_neg (by rw [ha]; simp)]
      rw [hp]
      unfold asciiV at ha
      rw [List.all_eq_false] at ha
      obtain ⟨c, hc, hlow⟩ := ha
      obtain ⟨j, hj, rfl⟩ := List.getElem_of_mem hc
      have hjs : j < s.size := by simpa using hj
      have hb : 128 ≤ (bat s j).toNat := by
        unfold lowB at hlow
        rw [bat_eq s j hjs, show s[j] = s.data.toList[j] from rfl]
        simp only [decide_eq_true_eq] at hlow
        omega
      have hcase : j < 2 ∨ j = 2 ∨ (3 ≤ j ∧ j < 6) ∨ j = 6 ∨ (7 ≤ j ∧ j < 11) ∨ j = 11 ∨ (12 ≤ j ∧ j < 14) ∨ j = 14 ∨ (15 ≤ j ∧ j < 17) ∨ j = 17 ∨ (18 ≤ j ∧ j < 20) ∨ j = 20 ∨ j = 21 ∨ (22 ≤ j ∧ j < 24) ∨ (24 ≤ j ∧ j < 26) := by omega
      symm
      unfold refCore
      refine if_pos ?_
      rcases hcase with h | rfl | ⟨h, h'⟩ | rfl | ⟨h, h'⟩ | rfl | ⟨h, h'⟩ | rfl | ⟨h, h'⟩ | rfl | ⟨h, h'⟩ | rfl | rfl | ⟨h, h'⟩ | ⟨h, h'⟩
      · have := first_bad s j (by omega) h hb; omega
      · omega
      · have := mon_bad s j (by omega) h h' hb; omega
      · omega
      · have := numV_sub_bad s 7 11 j hjs h h' hb; omega
      · omega
      · have := numV_sub_bad s 12 14 j hjs h h' hb; omega
      · omega
      · have := numV_sub_bad s 15 17 j hjs h h' hb; omega
      · omega
      · have := numV_sub_bad s 18 20 j hjs h h' hb; omega
      · omega
      · omega
      · have := numV_sub_bad s 22 24 j hjs h h' hb; omega
      · have := numV_sub_bad s 24 26 j hjs h h' hb; omega
  · have hr : refParseV s = (0, false) := by unfold refParseV; rw [if_neg hs]
    have hp : parseV s = (0, false) := by unfold parseV; rw [if_neg (fun h => hs ⟨h.1, h.2.2⟩)]
    rw [hr, hp]
end Go.Proofs.YtfnckkmnncdelaaDoor
