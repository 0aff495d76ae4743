/-
  The program's names are the document's (plain values; lines of NameNorms).
-/
import Derived.Test.YtmjikfeaopmejaaDoorRefNorm
namespace Go.Proofs.YtmjikfeaopmejaaDoor
theorem scan_ok : ∀ l : List UInt8, nameScan true l = nameOK l ∧ nameScan false l = (match splitC 47 l with | [] => true | p :: ps => p.all plainB && ps.all okPartL)
  | [] => by constructor <;> rfl
  | c :: l => by
    obtain ⟨ih1, ih2⟩ := scan_ok l
    unfold nameOK at ih1 ⊢
    by_cases h : c = 47
    · subst h
      rw [scan_slash _ _ _ rfl, scan_slash _ _ _ rfl]
      have e : splitC 47 (47 :: l) = [] :: splitC 47 l := by rw [splitC]; simp
      rw [e]
      exact ⟨rfl, by simp [ih1]⟩
    · rw [scan_other _ _ _ h, scan_other _ _ _ h, ih2]
      have e : splitC 47 (c :: l) = (match splitC 47 l with | [] => [[c]] | p :: ps => (c :: p) :: ps) := by rw [splitC, if_neg h]; cases splitC 47 l <;> rfl
      rw [e]
      cases splitC 47 l with
      | nil => simp [okPartL]
      | cons p ps => simp [okPartL, Bool.and_assoc]
theorem byte_all (P : UInt8 → Bool) (h : (List.range 256).all (fun n => P (UInt8.ofNat n)) = true) (c : UInt8) : P c = true := by
  have := List.all_eq_true.1 h c.toNat (by simp; exact c.toNat_lt)
  simpa using this
theorem upper_small (c : UInt8) : (((Lib.upperB c == 73) == (smallB c == 105)) && ((Lib.upperB c == 78) == (smallB c == 110)) && ((Lib.upperB c == 66) == (smallB c == 98)) && ((Lib.upperB c == 79) == (smallB c == 111)) && ((Lib.upperB c == 88) == (smallB c == 120))) = true :=
  byte_all (fun c => ((Lib.upperB c == 73) == (smallB c == 105)) && ((Lib.upperB c == 78) == (smallB c == 110)) && ((Lib.upperB c == 66) == (smallB c == 98)) && ((Lib.upperB c == 79) == (smallB c == 111)) && ((Lib.upperB c == 88) == (smallB c == 120))) (by decide +kernel) c
theorem inbox_same (l : List UInt8) : (Lib.toUpperA l == [73, 78, 66, 79, 88]) = alikeL l [105, 110, 98, 111, 120] := by
  unfold Lib.toUpperA alikeL
  match l with
  | [] => rfl
  | [a] => simp
  | [a, b] => simp
  | [a, b, c] => simp
  | [a, b, c, d] => simp
  | a :: b :: c :: d :: e :: f :: l => simp
  | [a, b, c, d, e] =>
    have ha := upper_small a
    have hb := upper_small b
    have hc := upper_small c
    have hd := upper_small d
    have he := upper_small e
    simp only [Bool.and_eq_true, beq_iff_eq] at ha hb hc hd he
    have k1 : smallB 105 = 105 := by decide
    have k2 : smallB 110 = 110 := by decide
    have k3 : smallB 98 = 98 := by decide
    have k4 : smallB 111 = 111 := by decide
    have k5 : smallB 120 = 120 := by decide
    simp only [List.map_cons, List.map_nil, k1, k2, k3, k4, k5, List.cons_beq_cons]
    rw [ha.1.1.1.1, hb.1.1.1.2, hc.1.1.2, hd.1.2, he.2]
    rfl
theorem norm_same (s : ByteArray) : normV s = refNormV s := by
  unfold normV refNormV
  rw [(scan_ok _).1, inbox_same]
  by_cases h : 60 < s.size
  · rw [if_pos h, show decide (s.size ≤ 60) = false from by simp; omega]; simp
  · rw [if_neg h, show decide (s.size ≤ 60) = true from by simp; omega]; simp
theorem norm_again (s : ByteArray) (h : (normV s).2 = true) : normV (normV s).1 = ((normV s).1, true) := by
  unfold normV at h ⊢
  by_cases h1 : 60 < s.size
  · rw [if_pos h1] at h; cases h
  · rw [if_neg h1] at h ⊢
    by_cases h2 : nameOK s.data.toList = true
    · rw [if_pos h2] at h ⊢
      by_cases h3 : (Lib.toUpperA s.data.toList == [73, 78, 66, 79, 88]) = true
      · rw [if_pos h3]
        decide +kernel
      · rw [if_neg h3]
        show (if 60 < s.size then _ else _) = _
        rw [if_neg h1, if_pos h2, if_neg h3]
    · rw [if_neg h2] at h; cases h
theorem normV_size (s : ByteArray) : (normV s).1.size ≤ 60 := by
  unfold normV
  split
  · decide
  · split
    · split
      · decide
      · simp; omega
    · decide
end Go.Proofs.YtmjikfeaopmejaaDoor
