/-
  Rows of a UID and a number; whether they are right: plain words, and the walk of rightFlags.
-/
import Derived.Test.YtljclehhicmkhaaDoorTreePut
namespace Go.Proofs.YtljclehhicmkhaaDoor
open Go.RowKit
abbrev MarkM := Nat × Int
def mcell (q : MarkM) : List Value := [.int .u32 (q.1 : Nat), .int .i64 q.2]
def mcells (l : List MarkM) : List Value := l.flatMap mcell
theorem mcells_length : ∀ l : List MarkM, (mcells l).length = l.length * 2
  | [] => rfl
  | x :: r => by
    have := mcells_length r
    unfold mcells at this ⊢
    rw [List.flatMap_cons, List.length_append, this, List.length_cons]
    show 2 + _ = _
    omega
theorem mcells_at : ∀ (l : List MarkM) (i : Nat) (x : MarkM), l[i]? = some x → ∀ j, j < 2 → (mcells l)[i * 2 + j]? = (mcell x)[j]?
  | y :: r, 0, x, h, j, hj => by
    injection h with h
    subst h
    unfold mcells
    rw [List.flatMap_cons, List.getElem?_append_left (by show 0 * 2 + j < 2; omega), Nat.zero_mul, Nat.zero_add]
  | y :: r, i + 1, x, h, j, hj => by
    have ih := mcells_at r i x h j hj
    unfold mcells at ih ⊢
    rw [List.flatMap_cons, List.getElem?_append_right (by show 2 ≤ _; omega)]
    have e : (i + 1) * 2 + j - (mcell y).length = i * 2 + j := by show (i + 1) * 2 + j - 2 = _; omega
    rw [e]
    exact ih
theorem mcells_append (l m : List MarkM) : mcells (l ++ m) = mcells l ++ mcells m := List.flatMap_append
theorem mcells_one (l : List MarkM) : ∀ u ∈ mcells l, u.oneCell' = true := by
  intro u hu
  simp only [mcells, List.mem_flatMap] at hu
  obtain ⟨x, _, hx⟩ := hu
  simp only [mcell, List.mem_cons, List.not_mem_nil, or_false] at hx
  rcases hx with rfl | rfl <;> rfl
theorem mark_at {w : World} {k : Nat} {ad : Addr} {l : List MarkM} {x : MarkM} (hc : ∀ j u, (mcells l)[j]? = some u → w.cell? (ad.add j) = some u) (hx : l[k]? = some x) :
    w.cell? (ad.add (k * 2)) = some (.int .u32 (x.1 : Nat)) ∧ w.cell? ⟨(ad.add (k * 2)).block, (ad.add (k * 2)).off + 1, none⟩ = some (.int .i64 x.2) := by
  have h : ∀ j u, j < 2 → (mcell x)[j]? = some u → w.cell? (ad.add (k * 2 + j)) = some u := fun j u hj hu => hc _ u (by rw [mcells_at l k x hx j hj]; exact hu)
  have h0 := h 0 _ (by omega) rfl
  have h1 := h 1 _ (by omega) rfl
  rw [add_k2 _ _ _ (by omega)] at h1
  exact ⟨h0, h1⟩
def lastN (l : List MarkM) : Nat → Nat
  | 0 => 0
  | j + 1 => match l[j]? with | some y => y.1 | none => 0
theorem lastN_succ {l : List MarkM} {j : Nat} {x : MarkM} (hx : l[j]? = some x) : lastN l (j + 1) = x.1 := by
  show (match l[j]? with | some y => y.1 | none => 0) = _
  rw [hx]
theorem lastN_lt {l : List MarkM} (h : ∀ q ∈ l, q.1 < 4294967296) : ∀ j, lastN l j < 4294967296
  | 0 => by show 0 < _; omega
  | j + 1 => by
    show (match l[j]? with | some y => y.1 | none => 0) < _
    cases hx : l[j]? with
    | none => show 0 < _; omega
    | some y => exact h y (List.mem_of_getElem? hx)
def mstep (good : MarkM → Bool) (l : List MarkM) (j : Nat) (x : MarkM) : Bool := decide (lastN l j < x.1) && good x
def mstepAt (good : MarkM → Bool) (l : List MarkM) (j : Nat) : Bool := match l[j]? with | some x => mstep good l j x | none => true
def marksN (good : MarkM → Bool) (l : List MarkM) (j : Nat) : Bool := (List.range j).all (mstepAt good l)
theorem marksN_succ (good : MarkM → Bool) {l : List MarkM} {j : Nat} {x : MarkM} (hx : l[j]? = some x) : marksN good l (j + 1) = (marksN good l j && mstep good l j x) := by
  unfold marksN
  rw [List.range_succ, List.all_append]
  simp [mstepAt, hx]
theorem marks_no {good : MarkM → Bool} {l : List MarkM} {j : Nat} {x : MarkM} (hx : l[j]? = some x) (h : mstep good l j x = false) : marksN good l l.length = false := by
  unfold marksN
  rw [List.all_eq_false]
  exact ⟨j, List.mem_range.2 (List.getElem?_eq_some_iff.1 hx).1, by unfold mstepAt; rw [hx]; simp only [h]; simp⟩
theorem marks_at {good : MarkM → Bool} {l : List MarkM} {j : Nat} {x : MarkM} (hx : l[j]? = some x) (h : marksN good l l.length = true) : mstep good l j x = true := by
  cases hs : mstep good l j x with
  | true => rfl
  | false => rw [marks_no hx hs] at h; cases h
def goodF (q : MarkM) : Bool := decide (0 ≤ q.2) && decide (q.2 ≤ 31)
def rightFlagsV (e : Nat) (l : List MarkM) : Bool := marksN goodF l l.length && decide (1 ≤ e) && decide (l.length ≤ 500)
set_option maxHeartbeats 800000 in
set_option maxRecDepth 100000 in
theorem rightFlags_any (A : Option Addr) (c n e : Nat) (l : List MarkM) (w : World) (hu : ∀ q ∈ l, q.1 < 4294967296) (he : e < 4294967296) (hn2 : l.length = n) (hn : n ≤ 100000) (hr : Reads w w.heap.size 2 A n (mcells l)) :
    Calls Tryd.prog 30 #[.agg #[.int .u32 (e : Nat), .slice A n c]] w fun ev w' => ev = .returned (.bool (rightFlagsV e l)) ∧ Below w.heap.size w w' := by
  have hb0 := (Below.refl w.heap.size w).alloc (Nat.le_refl _) (.cells #[.int .u32 (e : Nat), .slice A n c] 39)
  have hk0 : Blk (w.alloc (.cells #[.int .u32 (e : Nat), .slice A n c] 39)) w.heap.size 39 #[.int .u32 (e : Nat), .slice A n c] := Blk.new w _ _
  have hr0 := (hr.below hb0).more hb0.size
  obtain ⟨w0, hw0⟩ : ∃ w0, w.alloc (.cells #[.int .u32 (e : Nat), .slice A n c] 39) = w0 := ⟨_, rfl⟩
  obtain ⟨o, ho⟩ : ∃ o, w.heap.size = o := ⟨_, rfl⟩
  rw [hw0] at hb0 hk0 hr0
  rw [ho] at hk0
  have HR := Lib.hid hr0
  have HK := Lib.hid hk0
  have HB0 := Lib.hid hb0
  have HU := Lib.hid hu
  have HL := Lib.hid hn2
  obtain ⟨rv, hrv⟩ : ∃ rv, rightFlagsV e l = rv := ⟨_, rfl⟩
  have HRV := Lib.hid hrv
  rw [hrv]
  have z1 : w0.cell? ⟨o, 1, none⟩ = some (.slice A n c) := by rw [hk0.cell]; rfl
  clear hr hr0 hk0 hb0 hu hn2 hrv
  go_enter Tryd.func30, Tryd.ntmps30
  go_wp2
  have HO : Hid (w.heap.size = o) := ho
  clear hw0 ho z1
  go_loopw [3, 9] (fun z k wr => ∃ (j ln : Nat), k = .int .i64 j ∧ j ≤ n ∧ z = .int .u32 (ln : Nat) ∧ ln < 4294967296 ∧ Hid (ln = lastN l j) ∧ Hid (marksN goodF l j = true) ∧ Hid (Below w0.heap.size w0 wr)) (fun _ k _ => n - (intOf k).toNat)
  case atStart => exact ⟨0, 0, rfl, by omega, rfl, by omega, rfl, rfl, Below.refl _ _⟩
  case round =>
    obtain ⟨j, ln, rfl, hj, rfl, hln, hlast, hall, hb⟩ := hrel
    by_cases hlt : j < n
    · obtain ⟨x, hx⟩ : ∃ x, l[j]? = some x := ⟨_, List.getElem?_eq_getElem (by have := HL.out; omega)⟩
      have hxu := HU.out x (List.mem_of_getElem? hx)
      have HX := Lib.hid hx
      obtain ⟨ad, rfl, hadl, hc⟩ := (HR.out.below hb.out).2 (by omega)
      obtain ⟨k0, k1⟩ := mark_at hc hx
      obtain ⟨xu, xf⟩ := x
      simp only at k0 k1 hxu
      have hadl' : (ad.add (j * 2)).block < wr.heap.size := by rw [block_of_add]; exact Nat.lt_of_lt_of_le hadl hb.out.size
      have hbx := (Below.refl wr.heap.size wr).alloc (Nat.le_refl _) (.cells #[.int .u32 (xu : Nat), .int .i64 xf] 44)
      have HB1 := Lib.hid (hb.out.trans (hbx.mono hb.out.size))
      have hs0 := HB0.out.size
      have hs1 := hb.out.size
      clear hx hc hbx
      by_cases ha : xu ≤ ln
      · have g1 : decide (xu ≤ ln) = true := by simp; omega
        have g2 : decide ((xu : Int) ≤ (ln : Int)) = true := by simp; omega
        have hno : rightFlagsV e l = false := by
          unfold rightFlagsV
          rw [marks_no HX.out (by unfold mstep; rw [← hlast.out]; simp; omega)]
          rfl
        rw [HRV.out] at hno
        subst hno
        go_wp2
        go_ret
        exact ⟨rfl, HB0.out.trans (HB1.out.mono HB0.out.size)⟩
      · have g1 : decide (xu ≤ ln) = false := by simp; omega
        have g2 : decide ((xu : Int) ≤ (ln : Int)) = false := by simp; omega
        by_cases hg : goodF (xu, xf) = true
        · have hgg := hg
          unfold goodF at hgg
          simp only [Bool.and_eq_true, decide_eq_true_eq] at hgg
          have g3 : decide (xf < 0) = false := by simp; omega
          have g4 : decide (31 < xf) = false := by simp; omega
          have hn1 : marksN goodF l (j + 1) = true := by
            rw [marksN_succ goodF HX.out, hall.out, Bool.true_and]
            unfold mstep
            rw [hg, ← hlast.out]; simp; omega
          have HN1 := Lib.hid hn1
          have HL1 := Lib.hid (lastN_succ HX.out)
          clear hg hgg hn1
          go_wp2
          go_roundw
          case rel => exact ⟨j + 1, xu, by go_num, by omega, rfl, hxu, HL1.out.symm, HN1, HB1⟩
          case measure => simp [intOf]; omega
        · have hno : rightFlagsV e l = false := by
            unfold rightFlagsV
            rw [marks_no HX.out (by unfold mstep; rw [Bool.eq_false_iff.2 hg]; simp)]
            rfl
          rw [HRV.out] at hno
          subst hno
          have hor : xf < 0 ∨ (0 ≤ xf ∧ 31 < xf) := by
            unfold goodF at hg
            simp only [Bool.and_eq_true, decide_eq_true_eq] at hg
            omega
          clear hg
          rcases hor with h | ⟨h1, h2⟩
          · have g3 : decide (xf < 0) = true := by simp; omega
            go_wp2
            go_ret
            exact ⟨rfl, HB0.out.trans (HB1.out.mono HB0.out.size)⟩
          · have g3 : decide (xf < 0) = false := by simp; omega
            have g4 : decide (31 < xf) = true := by simp; omega
            go_wp2
            go_ret
            exact ⟨rfl, HB0.out.trans (HB1.out.mono HB0.out.size)⟩
    · obtain rfl : j = n := by omega
      have hk2 := HK.out.below hb.out HK.out.lt
      have z0 : wr.cell? ⟨o, 0, none⟩ = some (.int .u32 (e : Nat)) := by rw [hk2.cell]; rfl
      have z1 : wr.cell? ⟨o, 1, none⟩ = some (.slice A j c) := by rw [hk2.cell]; rfl
      have hrv : (decide (1 ≤ e) && decide (j ≤ 500)) = rv := by
        rw [← HRV.out]
        unfold rightFlagsV
        rw [HL.out, hall.out, Bool.true_and]
      have HRV2 := Lib.hid hrv
      clear hk2 hrv
      by_cases h1 : 1 ≤ e
      · have g1 : decide (1 ≤ e) = true := by simp; omega
        have g2 : decide ((1 : Int) ≤ (e : Int)) = true := by simp; omega
        have g3 : decide ((j : Int) ≤ 500) = decide (j ≤ 500) := by rw [Bool.eq_iff_iff]; simp; omega
        have hq : decide (j ≤ 500) = rv := by rw [← HRV2.out, g1]; rfl
        have HQ := Lib.hid hq
        obtain ⟨q, hq5⟩ : ∃ q, decide (j ≤ 500) = q := ⟨_, rfl⟩
        rw [hq5] at HQ g3
        clear hq
        go_wp2
        go_ret
        rw [← HQ.out]
        exact ⟨by first | rfl | trivial, HB0.out.trans (hb.out.mono HB0.out.size)⟩
      · have g1 : decide (1 ≤ e) = false := by simp; omega
        have g2 : decide ((1 : Int) ≤ (e : Int)) = false := by simp; omega
        have hq : false = rv := by rw [← HRV2.out, g1]; rfl
        have HQ := Lib.hid hq
        clear hq
        go_wp2
        go_ret
        rw [← HQ.out]
        exact ⟨by first | rfl | trivial, HB0.out.trans (hb.out.mono HB0.out.size)⟩
end Go.Proofs.YtljclehhicmkhaaDoor
