/-
  Walks of the three statements on sets.
-/
import Derived.Test.YtfnckkmnncdelaaDoorSeqPick
import Derived.Deep.RegionHeld3
namespace Go.Proofs.YtfnckkmnncdelaaDoor
open Go.RowKit
/-- the parts that a word on a set stands for -/
def setL (ok : Bool) (vals : List (Nat × Nat)) : List (Nat × Nat) := if ok = true then vals else []
theorem SetPost.reads {t : TypeId} {ok : Bool} {vals : List (Nat × Nat)} {v : Value} {w w' : World} (h : SetPost t ok vals v w w') :
    ∃ A c, v = .slice A (setL ok vals).length c ∧ Reads w' w'.heap.size 2 A (setL ok vals).length (spanCells (setL ok vals)) := by
  obtain ⟨h1, h2, _⟩ := h
  cases ok with
  | true => exact own_slice (h1 rfl)
  | false => exact ⟨none, 0, h2 rfl, by rfl, fun hn => absurd hn (by simp [setL])⟩
theorem setL_le (l : List UInt8) (h : l.length ≤ 2000) : (setL (setOk l) (setVals l)).length ≤ 2001 := by
  unfold setL setVals
  split
  · have := splitC_length_le 44 l; rw [List.length_map]; omega
  · simp
set_option maxHeartbeats 1600000 in
set_option maxRecDepth 100000 in
theorem seqParses (s : ByteArray) (w : World) (hw : Fine w) : Calls Tryd.prog 9 #[.string s] w fun e w' => e = .returned (.bool true) ∧ Below w.heap.size w w' := by
  have Haw := Lib.hid (awake13 w hw)
  by_cases hs : 2000 < s.size
  · have HW := Lib.hid hw
    clear hw
    go_enter Tryd.func9, Tryd.ntmps9
    go_wp2_with fail
    refine Haw.out.mono ?_
    rintro e w1 ⟨rfl, hb1⟩
    have Haw2 := Lib.hid (awake13 w1 (HW.out.below hb1))
    have HB1 := Lib.hid hb1
    clear hb1
    go_wp2_with fail
    refine Haw2.out.mono ?_
    rintro e w2 ⟨rfl, hb2⟩
    have HB2 := Lib.hid (HB1.out.trans (hb2.mono HB1.out.size))
    clear hb2
    go_wp2
    go_ret
    exact ⟨rfl, HB2.out⟩
  have hs' : s.size ≤ 2000 := by omega
  have HW := Lib.hid hw
  have hle := setL_le s.data.toList hs'
  have HP : Hid (∀ w, Fine w → _) := fun w hw => parse_any s hs' w hw
  have HQ : Hid (∀ w, _) := fun w => refSet_any s hs' w
  clear hw
  generalize setOk s.data.toList = ok at *
  generalize setVals s.data.toList = vals at *
  go_enter Tryd.func9, Tryd.ntmps9
  go_wp2_with fail
  refine Haw.out.mono ?_
  rintro e w1 ⟨rfl, hb1⟩
  have HB1 := Lib.hid hb1
  clear hb1
  go_wp2_with fail
  refine (HP.out _ (HW.out.below HB1.out)).mono ?_
  rintro e w2 ⟨v, rfl, hsp⟩
  obtain ⟨A, c, rfl, hr⟩ := hsp.reads
  have hb2 := hsp.2.2
  have HB2 := Lib.hid (HB1.out.trans (hb2.mono HB1.out.size))
  have HR := Lib.hid hr
  clear hb2 hr hsp HB1 Haw
  go_wp2_with fail
  refine (HQ.out _).mono ?_
  rintro e w3 ⟨v, rfl, hsp⟩
  obtain ⟨D, d, rfl, hr⟩ := hsp.reads
  have hb3 := hsp.2.2
  have HB3 := Lib.hid (HB2.out.trans (hb3.mono HB2.out.size))
  have HR3 := Lib.hid ((HR.out.below hb3).more hb3.size)
  have HS := Lib.hid hr
  clear hb3 hr hsp HB2 HR
  generalize setL ok vals = L at *
  go_wp2
  go_loopw [38] (fun i wr => ∃ k : Nat, i = .int .i64 k ∧ k ≤ L.length ∧ Hid (Below w3.heap.size w3 wr)) (fun i _ => L.length - (intOf i).toNat)
  case atStart => exact ⟨0, rfl, by omega, Below.refl _ _⟩
  case round =>
    obtain ⟨k, rfl, hk, hbr⟩ := hrel
    by_cases hlt : k < L.length
    · obtain ⟨x, hx⟩ : ∃ x, L[k]? = some x := ⟨_, List.getElem?_eq_getElem hlt⟩
      obtain ⟨a, b⟩ := x
      obtain ⟨e1, e2⟩ := spanCells_at L k _ hx
      obtain ⟨ad, rfl, hab, hcs⟩ := (HR3.out.below hbr.out).2 (by omega)
      have hc1 := hcs _ _ e1
      have hc2 := hcs _ _ e2
      rw [add_succ] at hc2
      obtain ⟨ae, rfl, _, hcs'⟩ := (HS.out.below hbr.out).2 (by omega)
      have hd1 := hcs' _ _ e1
      have hd2 := hcs' _ _ e2
      rw [add_succ] at hd2
      clear hcs hcs' e1 e2 hx
      have hbd : Below w3.heap.size w3 wr.drew := hbr.out.drew
      have HBD := Lib.hid hbd
      clear hbd
      go_wp2
      go_region
      all_goals (try go_wp2)
      go_roundw
      case rel => exact ⟨k + 1, by go_num, by omega, HBD⟩
      case measure => simp [intOf]; omega
    · obtain rfl : k = L.length := by omega
      have hb4 := HB3.out.trans (hbr.out.mono HB3.out.size)
      have HB4 := Lib.hid hb4
      clear hb4
      go_wp2
      go_ret
      exact ⟨rfl, HB4.out⟩
set_option maxHeartbeats 1600000 in
set_option maxRecDepth 100000 in
theorem seqHas (A : Option Addr) (c : Nat) (l : List (Nat × Nat)) (n g : Nat) (hl : ∀ x ∈ l, x.1 ≤ 4294967295 ∧ x.2 ≤ 4294967295) (hn : n ≤ 4294967295) (hg : g ≤ 4294967295) (len : Nat) (hlen : len = l.length) (w : World) (hw : Fine w)
    (hr : Reads w w.heap.size 2 A l.length (spanCells l)) :
    Calls Tryd.prog 10 #[.slice A len c, .int .u32 (n : Nat), .int .u32 (g : Nat)] w fun e w' => e = .returned (.bool true) ∧ Below w.heap.size w w' := by
  subst hlen
  have Haw := Lib.hid (awake13 w hw)
  have HW := Lib.hid hw
  by_cases hs : 200 < l.length
  · clear hw hr hl
    go_enter Tryd.func10, Tryd.ntmps10
    go_wp2_with fail
    refine Haw.out.mono ?_
    rintro e w1 ⟨rfl, hb1⟩
    have Haw2 := Lib.hid (awake13 w1 (HW.out.below hb1))
    have HB1 := Lib.hid hb1
    clear hb1
    go_wp2_with fail
    refine Haw2.out.mono ?_
    rintro e w2 ⟨rfl, hb2⟩
    have HB2 := Lib.hid (HB1.out.trans (hb2.mono HB1.out.size))
    clear hb2
    go_wp2
    go_ret
    exact ⟨rfl, HB2.out⟩
  have HR := Lib.hid hr
  have HL := Lib.hid hl
  clear hw hr hl
  go_enter Tryd.func10, Tryd.ntmps10
  go_wp2_with fail
  refine Haw.out.mono ?_
  rintro e w1 ⟨rfl, hb1⟩
  have HB1 := Lib.hid hb1
  have HR1 := Lib.hid ((HR.out.below hb1).more hb1.size)
  clear hb1 Haw HR
  go_wp2_with fail
  refine (has_any A c l n g HL.out (by omega) w1 HR1.out).mono ?_
  rintro e w2 ⟨rfl, hb2⟩
  have HB2 := Lib.hid (HB1.out.trans (hb2.mono HB1.out.size))
  have HR2 := Lib.hid ((HR1.out.below hb2).more hb2.size)
  clear hb2 HB1 HR1
  go_wp2_with fail
  refine (ours_any A c l (by omega) w2 HR2.out).mono ?_
  rintro e w3 ⟨v, rfl, ho, hb3⟩
  obtain ⟨D, d, rfl, hr⟩ := own_slice ho
  have HB3 := Lib.hid (HB2.out.trans (hb3.mono HB2.out.size))
  have HR3 := Lib.hid hr
  clear hb3 HB2 HR2 ho hr
  go_wp2_with fail
  refine (refHas_any D d l n g HL.out hn hg (by omega) w3 HR3.out).mono ?_
  rintro e w4 ⟨rfl, hb4⟩
  have HB4 := Lib.hid (HB3.out.trans (hb4.mono HB3.out.size))
  clear hb4 HB3 HR3
  generalize inSet l n g = bb at *
  go_wp2
  go_ret
  exact ⟨by simp, HB4.out⟩
end Go.Proofs.YtfnckkmnncdelaaDoor
