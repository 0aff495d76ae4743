/-
  Walk of seqset's number.
-/
import Derived.Test.YtfnckkmnncdelaaDoorSeqFmt
import Derived.Test.YtfnckkmnncdelaaDoorSeqLaw2
import Derived.Test.YtfnckkmnncdelaaDoorChecked
import Derived.Shelf.Pu.ErrVarParseUint
import Derived.Lib.SmallJoins
namespace Go.Proofs.YtfnckkmnncdelaaDoor
open Go.RowKit
/-- what the walks of the program need of a world: the table of powers of ten, the errors of strconv, strings' own bound -/
structure Fine (w : World) : Prop where
  tab : Lib.TabIs Tryd.prog w "internal/strconv.uint64pow10" .u64 Lib.pow10Tab
  len : ∃ m, w.cell? ⟨0, 0, none⟩ = some (.int .i64 m)
  e5 : ∃ ev, w.cell? ⟨5, 0, none⟩ = some ev ∧ (ev = .nilIface ∨ ∃ te pe, ev = .iface te pe)
  e6 : ∃ ev, w.cell? ⟨6, 0, none⟩ = some ev ∧ (ev = .nilIface ∨ ∃ te pe, ev = .iface te pe)
  big : 6 < w.heap.size
theorem Fine.below {w w' : World} (h : Fine w) (hb : Below w.heap.size w w') : Fine w' := by
  have hbig := h.big
  exact ⟨Lib.tabBelow_of_tabIs h.tab _ hb, by rw [hb.cell (show 0 < w.heap.size by omega)]; exact h.len, by rw [hb.cell (show 5 < w.heap.size by omega)]; exact h.e5, by rw [hb.cell (show 6 < w.heap.size by omega)]; exact h.e6, Nat.lt_of_lt_of_le hbig hb.size⟩
set_option maxHeartbeats 1600000 in
set_option maxRecDepth 100000 in
theorem num_any (s : ByteArray) (hs : s.size ≤ 2000) (w : World) (hw : Fine w) :
    Calls Tryd.prog 53 #[.string s] w fun e w' => ∃ v : Nat, e = .returned (.tuple #[.int .u32 v, .bool (numOk s.data.toList)]) ∧ (numOk s.data.toList = true → v = numVal s.data.toList) ∧ Below w.heap.size w w' := by
  by_cases hst : s = ⟨#[42]⟩
  · subst hst
    go_enter Tryd.func53, Tryd.ntmps53
    go_wp2
    go_ret2
    exact ⟨0, rfl, fun _ => rfl, Below.refl _ _⟩
  have hsl : (s.toList == [42]) = false := by
    rw [beq_eq_false_iff_ne]; intro e
    apply hst
    rw [Lib.toList_data] at e
    exact ByteArray.ext (Array.ext' e)
  have h42 : (s.data.toList == [42]) = false := by rw [← Lib.toList_data]; exact hsl
  rcases parse32 s.data.toList with ⟨hp1, hp2⟩ | ⟨hp1, hp2⟩
  · have hle : decN s.data.toList ≤ 4294967295 := by
      unfold spellsB at hp1; simp only [Bool.and_eq_true, decide_eq_true_eq] at hp1; exact hp1.2
    have hv : numVal s.data.toList = decN s.data.toList := by
      unfold numVal; rw [if_neg]; intro e; rw [e] at h42; cases h42
    have hok : numOk s.data.toList = (decide (1 ≤ decN s.data.toList) && (Lib.decDigits (decN s.data.toList) == s.data.toList)) := by
      unfold numOk; rw [h42, hp1]; rfl
    have hc : ∀ (Q : Ending → World → Prop), (∀ w', Below w.heap.size w w' → Q (.returned (.tuple #[.int .u64 (decN s.data.toList), .nilIface])) w') → Calls Tryd.prog 70 #[.string s, .int .i64 10, .int .i64 32] w Q := fun Q hQ => by
      refine (Tryd.strconv_ParseUint_10_at32_ok s (by omega) _ hp2 w).mono ?_
      rintro e w' ⟨rfl, rfl | rfl⟩
      · exact hQ _ (Below.refl _ _)
      · exact hQ _ (Joins.below_bytesWorld _ _ _ _ (Nat.le_refl _))
    have HC := Lib.hid hc
    have HV := Lib.hid hv
    have HK := Lib.hid hok
    clear hc hv hok hp1 hp2 h42 hst
    obtain ⟨L, hL⟩ : ∃ L, L = s.data.toList := ⟨_, rfl⟩
    obtain ⟨n, hn⟩ : ∃ n, n = decN s.data.toList := ⟨_, rfl⟩
    rw [← hn] at hle HC HV HK
    clear hn
    by_cases h1 : n < 1
    · have HF : Hid (numOk s.data.toList = false) := by
        show _ = _
        rw [HK.out]; simp; omega
      clear HK HV
      go_enter Tryd.func53, Tryd.ntmps53
      go_wp2_with fail
      refine HC.out _ ?_
      intro w1 hb
      go_wp2
      go_ret2
      rw [HF.out]
      exact ⟨n, rfl, by simp, hb⟩
    · by_cases h2 : Lib.decDigits n = s.data.toList
      · have HF : Hid (numOk s.data.toList = true) := by
          show _ = _
          rw [HK.out, h2]; simp; omega
        have hfm : ∀ w, Fine w → Calls Tryd.prog 71 #[.int .u64 n, .int .i64 10] w fun e w' => e = .returned (.string s) ∧ Below w.heap.size w w' := fun w hw => by
          have := fmt_any n (by omega) (by omega) w hw.tab
          rw [h2] at this
          exact this
        have HM := Lib.hid hfm
        clear HK h2 hfm
        go_enter Tryd.func53, Tryd.ntmps53
        go_wp2_with fail
        refine HC.out _ ?_
        intro w1 hb
        go_wp2_with fail
        refine (HM.out _ (hw.below hb)).mono ?_
        rintro e w2 ⟨rfl, hb2⟩
        go_wp2
        go_ret2
        rw [HF.out]
        exact ⟨n, rfl, fun _ => HV.out.symm, hb.trans (hb2.mono hb.size)⟩
      · have HF : Hid (numOk s.data.toList = false) := by
          show _ = _
          rw [HK.out]; simp [h2]
        obtain ⟨T, hT, hT2⟩ : ∃ T : ByteArray, T = ⟨(Lib.decDigits n).toArray⟩ ∧ (T.toList == s.toList) = false := ⟨_, rfl, by
          rw [Lib.toList_data, Lib.toList_data]; simpa using h2⟩
        have hfm : ∀ w, Fine w → Calls Tryd.prog 71 #[.int .u64 n, .int .i64 10] w fun e w' => e = .returned (.string T) ∧ Below w.heap.size w w' := fun w hw => by
          rw [hT]
          exact fmt_any n (by omega) (by omega) w hw.tab
        have HM := Lib.hid hfm
        clear HK h2 hfm hT
        go_enter Tryd.func53, Tryd.ntmps53
        go_wp2_with fail
        refine HC.out _ ?_
        intro w1 hb
        go_wp2_with fail
        refine (HM.out _ (hw.below hb)).mono ?_
        rintro e w2 ⟨rfl, hb2⟩
        go_wp2
        go_ret2
        rw [HF.out]
        exact ⟨n, rfl, by simp, hb.trans (hb2.mono hb.size)⟩
  · have hnum : numOk s.data.toList = false := by unfold numOk; rw [h42, hp1]; rfl
    have HN := Lib.hid hnum
    clear hnum h42 hp1 hst
    obtain ⟨ev5, h5, h5'⟩ := hw.e5
    obtain ⟨ev6, h6, h6'⟩ := hw.e6
    rcases hr : Lib.parseUintB 32 s.data.toList with u | _ | _
    · exact absurd hr (hp2 u)
    · have Hc := Lib.hid (Any.strconv_ParseUint_10_at32_syntax Tryd.laysPu14 s (by omega) hr ev5 w h5 h5')
      clear hr hp2 h5 h5' h6 h6' hw
      go_enter Tryd.func53, Tryd.ntmps53
      go_wp2_with fail
      refine Hc.out.mono ?_
      rintro e w1 ⟨N, rfl, _, _, hb⟩
      go_wp2
      go_ret2
      rw [HN.out]
      exact ⟨0, rfl, by simp, hb⟩
    · have Hc := Lib.hid (Any.strconv_ParseUint_10_at32_range Tryd.laysPu14 s (by omega) hr ev6 w h6 h6')
      clear hr hp2 h5 h5' h6 h6' hw
      go_enter Tryd.func53, Tryd.ntmps53
      go_wp2_with fail
      refine Hc.out.mono ?_
      rintro e w1 ⟨N, rfl, _, _, hb⟩
      go_wp2
      go_ret2
      rw [HN.out]
      exact ⟨4294967295, rfl, by simp, hb⟩
end Go.Proofs.YtfnckkmnncdelaaDoor
