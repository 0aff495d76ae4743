/-
  A time's text is read as it, with any zone.
-/
import Derived.Test.YtfnckkmnncdelaaDoorDatePrint2
import Derived.Test.YtfnckkmnncdelaaDoorDateParse0
namespace Go.Proofs.YtfnckkmnncdelaaDoor
/-- a digit -/
def dg (x : Nat) : UInt8 := UInt8.ofNat (48 + x)
theorem dg_nat (x : Nat) (h : x ≤ 9) : (dg x).toNat = 48 + x := u8_nat _ (by omega)
theorem dg_digit (x : Nat) (h : x ≤ 9) : digitB (dg x) = true := by
  unfold digitB; rw [dg_nat x h]; simp; omega
theorem numV_dg2 (a b : Nat) (ha : a ≤ 9) (hb : b ≤ 9) : numV [dg a, dg b] = 10 * (a : Int) + b := by
  unfold numV
  rw [if_pos (by simp [dg_digit a ha, dg_digit b hb])]
  unfold dec
  simp only [List.foldl_cons, List.foldl_nil, dg_nat a ha, dg_nat b hb]
  omega
theorem numV_dg4 (a b c d : Nat) (ha : a ≤ 9) (hb : b ≤ 9) (hc : c ≤ 9) (hd : d ≤ 9) : numV [dg a, dg b, dg c, dg d] = 1000 * (a : Int) + 100 * b + 10 * c + d := by
  unfold numV
  rw [if_pos (by simp [dg_digit a ha, dg_digit b hb, dg_digit c hc, dg_digit d hd])]
  unfold dec
  simp only [List.foldl_cons, List.foldl_nil, dg_nat a ha, dg_nat b hb, dg_nat c hc, dg_nat d hd]
  omega
/-- a text of 26 bytes with all signs -/
def txt (e0 e1 m0 m1 m2 y0 y1 y2 y3 h0 h1 i0 i1 s0 s1 z a0 a1 b0 b1 : UInt8) : ByteArray :=
  ⟨#[e0, e1, 45, m0, m1, m2, 45, y0, y1, y2, y3, 32, h0, h1, 58, i0, i1, 58, s0, s1, 32, z, a0, a1, b0, b1]⟩
theorem parse_txt (e0 e1 m0 m1 m2 y0 y1 y2 y3 h0 h1 i0 i1 s0 s1 z a0 a1 b0 b1 : UInt8) (hz : z = 43 ∨ z = 45)
    (ha : [e0, e1, m0, m1, m2, y0, y1, y2, y3, h0, h1, i0, i1, s0, s1, a0, a1, b0, b1].all lowB = true) :
    parseV (txt e0 e1 m0 m1 m2 y0 y1 y2 y3 h0 h1 i0 i1 s0 s1 z a0 a1 b0 b1) =
      core (numV (if (e0.toNat : Int) = 32 then [48, e1] else [e0, e1])) (namedV [m0, m1, m2]) (numV [y0, y1, y2, y3]) (numV [h0, h1]) (numV [i0, i1]) (numV [s0, s1]) (numV [a0, a1]) (numV [b0, b1]) ((z.toNat : Int) == 45) := by
  have q1 : (txt e0 e1 m0 m1 m2 y0 y1 y2 y3 h0 h1 i0 i1 s0 s1 z a0 a1 b0 b1).size = 26 := rfl
  have q2 : asciiV (txt e0 e1 m0 m1 m2 y0 y1 y2 y3 h0 h1 i0 i1 s0 s1 z a0 a1 b0 b1) = true := by
    show [e0, e1, 45, m0, m1, m2, 45, y0, y1, y2, y3, 32, h0, h1, 58, i0, i1, 58, s0, s1, 32, z, a0, a1, b0, b1].all lowB = true
    have k1 : lowB 45 = true := by decide
    have k2 : lowB 32 = true := by decide
    have k3 : lowB 58 = true := by decide
    have k4 : lowB z = true := by rcases hz with rfl | rfl <;> decide
    simp only [List.all_cons, List.all_nil, Bool.and_true, Bool.and_eq_true] at ha ⊢
    simp only [k1, k2, k3, k4, true_and]
    exact ha
  have q3 : signsV (txt e0 e1 m0 m1 m2 y0 y1 y2 y3 h0 h1 i0 i1 s0 s1 z a0 a1 b0 b1) = true := by
    show ((((45 : UInt8).toNat : Int) == 45) && (((45 : UInt8).toNat : Int) == 45) && (((32 : UInt8).toNat : Int) == 32) && (((58 : UInt8).toNat : Int) == 58) && (((58 : UInt8).toNat : Int) == 58) && (((32 : UInt8).toNat : Int) == 32) && (((z.toNat : Int) == 43) || ((z.toNat : Int) == 45))) = true
    rcases hz with rfl | rfl <;> rfl
  unfold parseV
  rw [if_pos ⟨q1, q2, q3⟩]
  rfl
theorem cat_txt (e0 e1 m0 m1 m2 y0 y1 y2 y3 h0 h1 i0 i1 s0 s1 z' a0' a1' b0' b1' z a0 a1 b0 b1 : UInt8) :
    (txt e0 e1 m0 m1 m2 y0 y1 y2 y3 h0 h1 i0 i1 s0 s1 z' a0' a1' b0' b1').extract 0 21 ++ (⟨#[z]⟩ : ByteArray) ++ (⟨#[a0, a1, b0, b1]⟩ : ByteArray) = txt e0 e1 m0 m1 m2 y0 y1 y2 y3 h0 h1 i0 i1 s0 s1 z a0 a1 b0 b1 := by
  apply ByteArray.ext
  apply Array.ext'
  simp only [txt, ByteArray.data_append, ByteArray.data_extract, Array.toList_append, Array.toList_extract]
  rfl
theorem named_mon (m : Int) (h1 : 1 ≤ m) (h2 : m ≤ 12) : namedV (monB m).data.toList = m := by
  have ht : ((List.range 12).all fun k => namedV (monB ((k : Int) + 1)).data.toList == (k : Int) + 1) = true := by decide +kernel
  have := List.all_eq_true.1 ht (m - 1).toNat (by simp; omega)
  rw [show (((m - 1).toNat : Nat) : Int) + 1 = m from by omega] at this
  simpa using this
theorem mon_three (m : Int) (h1 : 1 ≤ m) (h2 : m ≤ 12) : ∃ m0 m1 m2 : UInt8, monB m = ⟨#[m0, m1, m2]⟩ ∧ lowB m0 = true ∧ lowB m1 = true ∧ lowB m2 = true := by
  have hl := monB_low (m - 1).toNat (by omega)
  rw [show (((m - 1).toNat : Nat) : Int) + 1 = m from by omega] at hl
  obtain ⟨hl, hb⟩ := hl
  generalize hB : monB m = B at *
  obtain ⟨⟨l⟩⟩ := B
  simp only at hl hb
  match l, hl with
  | [a, b, c], _ =>
    refine ⟨a, b, c, rfl, ?_, ?_, ?_⟩
    · have := hb 0 a rfl; unfold lowB; simp; omega
    · have := hb 1 b rfl; unfold lowB; simp; omega
    · have := hb 2 c rfl; unfold lowB; simp; omega
theorem lowB_dg (x : Nat) (h : x ≤ 9) : lowB (dg x) = true := by
  unfold lowB; rw [dg_nat x h]; simp; omega
/-- the text of a day and a time of day, with a zone -/
theorem text_txt (y m : Int) (d s : Nat) (h1 : 1 ≤ m) (h2 : m ≤ 12) (hd : d ≤ 31) : ∃ e0 e1 m0 m1 m2 : UInt8,
    textV y m d s = txt e0 e1 m0 m1 m2 (dg (y.toNat / 1000 % 10)) (dg (y.toNat / 100 % 10)) (dg (y.toNat / 10 % 10)) (dg (y.toNat % 10)) (dg (s / 3600 / 10 % 10)) (dg (s / 3600 % 10)) (dg (s / 60 % 60 / 10 % 10)) (dg (s / 60 % 60 % 10)) (dg (s % 60 / 10 % 10)) (dg (s % 60 % 10)) 43 48 48 48 48 ∧
    lowB e0 = true ∧ lowB e1 = true ∧ lowB m0 = true ∧ lowB m1 = true ∧ lowB m2 = true ∧ monB m = ⟨#[m0, m1, m2]⟩ ∧ numV (if (e0.toNat : Int) = 32 then [48, e1] else [e0, e1]) = d := by
  obtain ⟨m0, m1, m2, hm, k0, k1, k2⟩ := mon_three m h1 h2
  have h4 : digB y.toNat 4 = ⟨#[dg (y.toNat / 1000 % 10), dg (y.toNat / 100 % 10), dg (y.toNat / 10 % 10), dg (y.toNat % 10)]⟩ := by simp [digB, digL, dg]
  by_cases h10 : d < 10
  · refine ⟨32, dg (d % 10), m0, m1, m2, ?_, by decide, lowB_dg _ (by omega), k0, k1, k2, hm, ?_⟩
    · unfold textV dayB
      rw [if_pos h10, hm, h4, digB_two, digB_two, digB_two, digB_one]
      rfl
    · rw [if_pos (by decide), show (48 : UInt8) = dg 0 from rfl, numV_dg2 0 _ (by omega) (by omega)]
      omega
  · refine ⟨dg (d / 10 % 10), dg (d % 10), m0, m1, m2, ?_, lowB_dg _ (by omega), lowB_dg _ (by omega), k0, k1, k2, hm, ?_⟩
    · unfold textV dayB
      rw [if_neg h10, hm, h4, digB_two, digB_two, digB_two, digB_two]
      rfl
    · rw [if_neg (by rw [dg_nat _ (by omega)]; omega), numV_dg2 _ _ (by omega) (by omega)]
      omega
theorem core_civ (n h mi se zh zm : Int) (neg : Bool) (n0 : 0 ≤ n) (n1 : n ≤ 2932896) (h0 : 0 ≤ h) (h1 : h ≤ 23) (i0 : 0 ≤ mi) (i1 : mi ≤ 59) (s0 : 0 ≤ se) (s1 : se ≤ 59) (z0 : 0 ≤ zh) (z1 : zh ≤ 14) (z2 : 0 ≤ zm) (z3 : zm ≤ 59) :
    core (civD n) (civM n) (civY n) h mi se zh zm neg =
      (if n * 86400 + h * 3600 + mi * 60 + se - (if neg = true then -(zh * 3600 + zm * 60) else zh * 3600 + zm * 60) < 0 ∨ 253402300799 < n * 86400 + h * 3600 + mi * 60 + se - (if neg = true then -(zh * 3600 + zm * 60) else zh * 3600 + zm * 60) then (0, false)
      else (n * 86400 + h * 3600 + mi * 60 + se - (if neg = true then -(zh * 3600 + zm * 60) else zh * 3600 + zm * 60), true)) := by
  obtain ⟨y0, y1, m0, m1, d0, d1⟩ := civ_bd n n0 n1
  have hs : sinceP (civY n) (civM n) (civD n) = n := by
    unfold sinceP; rw [if_neg (by omega)]; exact since_civ n
  unfold core
  rw [if_neg (by omega), if_neg (by omega), hs, if_neg (by omega), if_neg (by simp)]
/-- what is read of a time's text whose zone is another one -/
theorem zone_back (t : Int) (t0 : 0 ≤ t) (t1 : t ≤ 253402300799) (z : UInt8) (hz : z = 43 ∨ z = 45) (a0 a1 b0 b1 : Nat) (ha0 : a0 ≤ 9) (ha1 : a1 ≤ 9) (hb0 : b0 ≤ 9) (hb1 : b1 ≤ 9) (hh : 10 * a0 + a1 ≤ 14) (hm : 10 * b0 + b1 ≤ 59) :
    parseV ((printV t).extract 0 21 ++ (⟨#[z]⟩ : ByteArray) ++ (⟨#[dg a0, dg a1, dg b0, dg b1]⟩ : ByteArray)) =
      (let u := t - (if ((z.toNat : Int) == 45) = true then -((10 * (a0 : Int) + a1) * 3600 + (10 * (b0 : Int) + b1) * 60) else (10 * (a0 : Int) + a1) * 3600 + (10 * (b0 : Int) + b1) * 60)
       if u < 0 ∨ 253402300799 < u then (0, false) else (u, true)) := by
  have hp : printV t = textV (civY (t / 86400)) (civM (t / 86400)) (civD (t / 86400)).toNat (t % 86400).toNat := by unfold printV; rw [if_neg (by omega)]
  obtain ⟨y0, y1, m0, m1, d0, d1⟩ := civ_bd (t / 86400) (by omega) (by omega)
  obtain ⟨e0, e1, c0, c1, c2, ht, k0, k1, k2, k3, k4, hmon, hday⟩ := text_txt (civY (t / 86400)) (civM (t / 86400)) (civD (t / 86400)).toNat (t % 86400).toNat m0 m1 (by omega)
  have hcat : ((printV t).extract 0 21 ++ (⟨#[z]⟩ : ByteArray) ++ (⟨#[dg a0, dg a1, dg b0, dg b1]⟩ : ByteArray)) = txt e0 e1 c0 c1 c2 (dg ((civY (t / 86400)).toNat / 1000 % 10)) (dg ((civY (t / 86400)).toNat / 100 % 10)) (dg ((civY (t / 86400)).toNat / 10 % 10)) (dg ((civY (t / 86400)).toNat % 10)) (dg ((t % 86400).toNat / 3600 / 10 % 10)) (dg ((t % 86400).toNat / 3600 % 10)) (dg ((t % 86400).toNat / 60 % 60 / 10 % 10)) (dg ((t % 86400).toNat / 60 % 60 % 10)) (dg ((t % 86400).toNat % 60 / 10 % 10)) (dg ((t % 86400).toNat % 60 % 10)) z (dg a0) (dg a1) (dg b0) (dg b1) := by
    rw [hp, ht, cat_txt]
  rw [hcat, parse_txt _ _ _ _ _ _ _ _ _ _ _ _ _ _ _ _ _ _ _ _ hz (by
    simp only [List.all_cons, List.all_nil, Bool.and_true, k0, k1, k2, k3, k4, Bool.true_and]
    rw [lowB_dg _ (by omega), lowB_dg _ (by omega), lowB_dg _ (by omega), lowB_dg _ (by omega), lowB_dg _ (by omega), lowB_dg _ (by omega), lowB_dg _ (by omega), lowB_dg _ (by omega), lowB_dg _ (by omega), lowB_dg _ (by omega), lowB_dg _ ha0, lowB_dg _ ha1, lowB_dg _ hb0, lowB_dg _ hb1]
    rfl)]
  have hn : namedV [c0, c1, c2] = civM (t / 86400) := by
    have := named_mon (civM (t / 86400)) m0 m1
    rw [hmon] at this
    exact this
  rw [hday, hn, numV_dg4 _ _ _ _ (by omega) (by omega) (by omega) (by omega), numV_dg2 _ _ (by omega) (by omega), numV_dg2 _ _ (by omega) (by omega), numV_dg2 _ _ (by omega) (by omega), numV_dg2 _ _ ha0 ha1, numV_dg2 _ _ hb0 hb1]
  have ed : (((civD (t / 86400)).toNat : Nat) : Int) = civD (t / 86400) := by omega
  have ey : 1000 * (((civY (t / 86400)).toNat / 1000 % 10 : Nat) : Int) + 100 * (((civY (t / 86400)).toNat / 100 % 10 : Nat) : Int) + 10 * (((civY (t / 86400)).toNat / 10 % 10 : Nat) : Int) + (((civY (t / 86400)).toNat % 10 : Nat) : Int) = civY (t / 86400) := by omega
  rw [ed, ey, core_civ _ _ _ _ _ _ _ (by omega) (by omega) (by omega) (by omega) (by omega) (by omega) (by omega) (by omega) (by omega) (by omega) (by omega) (by omega)]
  have et : t / 86400 * 86400 + (10 * (((t % 86400).toNat / 3600 / 10 % 10 : Nat) : Int) + (((t % 86400).toNat / 3600 % 10 : Nat) : Int)) * 3600 + (10 * (((t % 86400).toNat / 60 % 60 / 10 % 10 : Nat) : Int) + (((t % 86400).toNat / 60 % 60 % 10 : Nat) : Int)) * 60 + (10 * (((t % 86400).toNat % 60 / 10 % 10 : Nat) : Int) + (((t % 86400).toNat % 60 % 10 : Nat) : Int)) = t := by omega
  rw [et]
end Go.Proofs.YtfnckkmnncdelaaDoor
