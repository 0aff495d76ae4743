/-
  Walk of seqset's number.
-/
import Derived.Test.YtjhaccmcjlbllaaGreatDoorXpb
import Derived.Test.YtjhaccmcjlbllaaGreatDoorChecked
import Derived.Shelf.Pu.ErrVarParseUint
import Derived.Lib.SmallJoins
import Derived.Lib.AtoiTie
import Derived.Laws.OwnMore
import Derived.Deep.AppendLies
import Derived.OwnWalk
import Derived.Lib.Split
import Derived.Lib.SplitLaws
import Derived.Shelf.Strings.Builder1
import Derived.Shelf.Strings.Builder2
import Derived.Shelf.Strings.OnBuilder
import Derived.Shelf.Strings.Trim
import Derived.Shelf.Small.Utf8
import Derived.Shelf.Small.Strs
import Derived.Shelf.Small.Wraps
import Derived.Shelf.Strings.BuilderF
import Derived.Shelf.Strings.BuilderK
import Derived.Shelf.Strings.BuilderRune
import Derived.Shelf.Utf8.RuneCount
import Derived.Shelf.Strings.Builder2Cap
import Derived.Shelf.Strconv.Atoi
import Derived.Shelf.Strconv.Itoa0
import Derived.Shelf.Strconv.Itoa1
import Derived.Shelf.LaysM
import Derived.Shelf.Strconv.Itoa2
import Derived.Shelf.Strconv.Itoa3
import Derived.Shelf.Strconv.Itoa4
import Derived.Shelf.Strconv.AtoiErrFast
import Derived.Shelf.Strconv.ParseIntEmpty
import Derived.Shelf.Strconv.AtoiFail
import Derived.Shelf.Strconv.Clone
import Derived.Shelf.Strconv.SyntaxError
import Derived.Shelf.LaysC
import Derived.Shelf.Strconv.ToError
import Derived.Shelf.Strconv.Lower
import Derived.Shelf.Strconv.ParseUint10
import Derived.Shelf.Strconv.ParseUint10Empty
import Derived.Shelf.Strconv.ParseUint10Any
import Derived.Shelf.Strconv.ParseInt10
import Derived.Shelf.Strconv.AtoiLong
import Derived.Shelf.Strconv.AtoiInnerAll
import Derived.Shelf.Strconv.RangeError
import Derived.Shelf.Strconv.ToErrorRange
import Derived.Shelf.Strconv.AtoiAll
import Derived.Shelf.Strconv.ParseUintEmpty
import Derived.Shelf.Strconv.ParseUint10b64
import Derived.Shelf.Strconv.ParseUint10b32
import Derived.Shelf.Strconv.ParseUint10b16
import Derived.Shelf.Strconv.ParseUint10b8
import Derived.Ground.MpProg
import Derived.Shelf.Pu.ParseUintPublic10
import Derived.Shelf.Strings.Search1
import Derived.Shelf.Strings.Search2
import Derived.Shelf.Strings.Search3
import Derived.Shelf.Strings.Cut
import Derived.Shelf.Strings.Count
import Derived.Shelf.Strings.Shaped
import Derived.Shelf.Strings.LastIndex
import Derived.Shelf.Strings.Prefix
import Derived.Shelf.Strings.Split
import Derived.Shelf.Strings.Replace
import Derived.Shelf.Strings.SplitShaped
import Derived.Shelf.Unicode.Latin
import Derived.Shelf.Unicode.Decode
import Derived.Shelf.Strings.Runes
import Derived.Shelf.Strings.RuneCount
import Derived.Shelf.Strings.AsciiSet
import Derived.Shelf.Strings.Explode
import Derived.Shelf.Unicode.DecodeSlow
import Derived.Shelf.Unicode.DecodeAny
import Derived.Shelf.Unicode.DecodeLast
import Derived.Shelf.Unicode.CaseLookup
import Derived.Shelf.Unicode.CaseConvert
import Derived.Shelf.Unicode.CaseTo
import Derived.Shelf.Unicode.CaseLaid
import Derived.Shelf.Strings.MapAny
import Derived.Shelf.Strings.CaseAny
import Derived.Shelf.Slices.Turned
import Derived.Shelf.Bytes.SlIndexAt
import Derived.Shelf.Bytes.SlSearch0
import Derived.Ground.SlbCloneProg
import Derived.Shelf.Bytes.SlClone
import Derived.Shelf.Bytes.IndexByte
import Derived.Test.YtjhaccmcjlbllaaGreatDoorProg
namespace Go.Proofs.YtjhaccmcjlbllaaGreatDoor
open Go.RowKit
/-- what the walks of the program need of a world: the table of powers of ten, the errors of strconv, strings' own bound -/
structure Fine (w : World) : Prop where
  tab : Lib.TabIs Tryz.prog w "internal/strconv.uint64pow10" .u64 Lib.pow10Tab
  len : ∃ m, w.cell? ⟨0, 0, none⟩ = some (.int .i64 m)
  e5 : ∃ ev, w.cell? ⟨7, 0, none⟩ = some ev ∧ (ev = .nilIface ∨ ∃ te pe, ev = .iface te pe)
  e6 : ∃ ev, w.cell? ⟨8, 0, none⟩ = some ev ∧ (ev = .nilIface ∨ ∃ te pe, ev = .iface te pe)
  big : 8 < w.heap.size ∧ 7 < w.heap.size
theorem Fine.below {w w' : World} (h : Fine w) (hb : Below w.heap.size w w') : Fine w' := by
  have hbig := h.big
  exact ⟨Lib.tabBelow_of_tabIs h.tab _ hb, by rw [hb.cell (show 0 < w.heap.size by omega)]; exact h.len, by rw [hb.cell hbig.2]; exact h.e5, by rw [hb.cell hbig.1]; exact h.e6, Nat.lt_of_lt_of_le hbig.1 hb.size, Nat.lt_of_lt_of_le hbig.2 hb.size⟩
set_option maxHeartbeats 1600000 in
set_option maxRecDepth 100000 in
theorem num_any (s : ByteArray) (hs : s.size ≤ 4000000) (w : World) (hw : Fine w) :
    Calls Tryz.prog 154 #[.string s] w fun e w' => ∃ v : Nat, e = .returned (.tuple #[.int .u32 v, .bool (numOk s.data.toList)]) ∧ (numOk s.data.toList = true → v = numVal s.data.toList) ∧ Below w.heap.size w w' := by
  by_cases hst : s = ⟨#[42]⟩
  · subst hst
    go_enter Tryz.func154, Tryz.ntmps154
    go_wp2
    go_ret2
    exact ⟨0, rfl, fun _ => rfl, Below.refl _ _⟩
  have hsl : (s.toList == [42]) = false := by
    rw [beq_eq_false_iff_ne]; intro e
    apply hst
    rw [Lib.toList_data] at e
    exact ByteArray.ext (Array.ext' e)
  have h42 : (s.data.toList == [42]) = false := by rw [← Lib.toList_data]; exact hsl
  rcases parse32 s.data.toList with ⟨hp1, hp2⟩ | ⟨hp1, hp2⟩
  · have hle : decN s.data.toList ≤ 4294967295 := by
      unfold spellsB at hp1; simp only [Bool.and_eq_true, decide_eq_true_eq] at hp1; exact hp1.2
    have hv : numVal s.data.toList = decN s.data.toList := by
      unfold numVal; rw [if_neg]; intro e; rw [e] at h42; cases h42
    have hok : numOk s.data.toList = (decide (1 ≤ decN s.data.toList) && (Lib.decDigits (decN s.data.toList) == s.data.toList)) := by
      unfold numOk; rw [h42, hp1]; rfl
    have hc : ∀ (Q : Ending → World → Prop), (∀ w', Below w.heap.size w w' → Q (.returned (.tuple #[.int .u64 (decN s.data.toList), .nilIface])) w') → Calls Tryz.prog 202 #[.string s, .int .i64 10, .int .i64 32] w Q := fun Q hQ => by
      refine (Tryz.strconv_ParseUint_10_at32_ok s (by omega) _ hp2 w).mono ?_
      rintro e w' ⟨rfl, rfl | rfl⟩
      · exact hQ _ (Below.refl _ _)
      · exact hQ _ (Joins.below_bytesWorld _ _ _ _ (Nat.le_refl _))
    have HC := Lib.hid hc
    have HV := Lib.hid hv
    have HK := Lib.hid hok
    clear hc hv hok hp1 hp2 h42 hst
    obtain ⟨L, hL⟩ : ∃ L, L = s.data.toList := ⟨_, rfl⟩
    obtain ⟨n, hn⟩ : ∃ n, n = decN s.data.toList := ⟨_, rfl⟩
    rw [← hn] at hle HC HV HK
    clear hn
    by_cases h1 : n < 1
    · have HF : Hid (numOk s.data.toList = false) := by
        show _ = _
        rw [HK.out]; simp; omega
      clear HK HV
      go_enter Tryz.func154, Tryz.ntmps154
      go_wp2_with fail
      refine HC.out _ ?_
      intro w1 hb
      go_wp2
      go_ret2
      rw [HF.out]
      exact ⟨n, rfl, by simp, hb⟩
    · by_cases h2 : Lib.decDigits n = s.data.toList
      · have HF : Hid (numOk s.data.toList = true) := by
          show _ = _
          rw [HK.out, h2]; simp; omega
        have hfm : ∀ w, Fine w → Calls Tryz.prog 58 #[.int .u64 n, .int .i64 10] w fun e w' => e = .returned (.string s) ∧ Below w.heap.size w w' := fun w hw => by
          have := fmt_any n (by omega) (by omega) w hw.tab
          rw [h2] at this
          exact this
        have HM := Lib.hid hfm
        clear HK h2 hfm
        go_enter Tryz.func154, Tryz.ntmps154
        go_wp2_with fail
        refine HC.out _ ?_
        intro w1 hb
        go_wp2_with fail
        refine (HM.out _ (hw.below hb)).mono ?_
        rintro e w2 ⟨rfl, hb2⟩
        go_wp2
        go_ret2
        rw [HF.out]
        exact ⟨n, rfl, fun _ => HV.out.symm, hb.trans (hb2.mono hb.size)⟩
      · have HF : Hid (numOk s.data.toList = false) := by
          show _ = _
          rw [HK.out]; simp [h2]
        obtain ⟨T, hT, hT2⟩ : ∃ T : ByteArray, T = ⟨(Lib.decDigits n).toArray⟩ ∧ (T.toList == s.toList) = false := ⟨_, rfl, by
          rw [Lib.toList_data, Lib.toList_data]; simpa using h2⟩
        have hfm : ∀ w, Fine w → Calls Tryz.prog 58 #[.int .u64 n, .int .i64 10] w fun e w' => e = .returned (.string T) ∧ Below w.heap.size w w' := fun w hw => by
          rw [hT]
          exact fmt_any n (by omega) (by omega) w hw.tab
        have HM := Lib.hid hfm
        clear HK h2 hfm hT
        go_enter Tryz.func154, Tryz.ntmps154
        go_wp2_with fail
        refine HC.out _ ?_
        intro w1 hb
        go_wp2_with fail
        refine (HM.out _ (hw.below hb)).mono ?_
        rintro e w2 ⟨rfl, hb2⟩
        go_wp2
        go_ret2
        rw [HF.out]
        exact ⟨n, rfl, by simp, hb.trans (hb2.mono hb.size)⟩
  · have hnum : numOk s.data.toList = false := by unfold numOk; rw [h42, hp1]; rfl
    have HN := Lib.hid hnum
    clear hnum h42 hp1 hst
    obtain ⟨ev5, h5, h5'⟩ := hw.e5
    obtain ⟨ev6, h6, h6'⟩ := hw.e6
    rcases hr : Lib.parseUintB 32 s.data.toList with u | _ | _
    · exact absurd hr (hp2 u)
    · have Hc := Lib.hid (Any.strconv_ParseUint_10_at32_syntax Tryz.laysPu14 s (by omega) hr ev5 w h5 h5')
      clear hr hp2 h5 h5' h6 h6' hw
      go_enter Tryz.func154, Tryz.ntmps154
      go_wp2_with fail
      refine Hc.out.mono ?_
      rintro e w1 ⟨N, rfl, _, _, hb⟩
      go_wp2
      go_ret2
      rw [HN.out]
      exact ⟨0, rfl, by simp, hb⟩
    · have Hc := Lib.hid (Any.strconv_ParseUint_10_at32_range Tryz.laysPu14 s (by omega) hr ev6 w h6 h6')
      clear hr hp2 h5 h5' h6 h6' hw
      go_enter Tryz.func154, Tryz.ntmps154
      go_wp2_with fail
      refine Hc.out.mono ?_
      rintro e w1 ⟨N, rfl, _, _, hb⟩
      go_wp2
      go_ret2
      rw [HN.out]
      exact ⟨4294967295, rfl, by simp, hb⟩
end Go.Proofs.YtjhaccmcjlbllaaGreatDoor
/-
  Walks: the reader's word and number.
-/
namespace Go.Proofs.YtjhaccmcjlbllaaGreatDoor
open Go.RowKit
set_option linter.unusedSimpArgs false
set_option linter.unusedVariables false
/-- a token that is no word -/
def wbad (t : TokI) : Bool := (t.k != 1) && (t.k != 2)
set_option maxRecDepth 100000 in
set_option maxHeartbeats 4000000 in
theorem word_any (pr : Nat) (l : List TokI) (bad : Bool) (w : World) (h : RdAt w pr l bad) (hl : l.length ≤ 1048576) : Calls Tryz.prog 178 #[.pointer (some ⟨pr, 0, none⟩)] w fun ev w' => ev = .returned (.string (St (takeV l).t)) ∧ RdAt w' pr l.tail ((bad || l.isEmpty) || wbad (takeV l)) ∧ TurnR pr w w' := by
  have hpw := h.lt
  refine calls_at 25 Tryz.func178 rfl rfl (Nat.le_of_ble_eq_true rfl) ?_
  intro a hA; replace hA := hA.norm
  refine wS (wR ?_)
  revert a; refine wo rfl rfl (by decide) (fun ev e h => by simp [go_sem, h] <;> rfl) ?_; intro a hA
  replace hA := hA.keepN [0]
  refine wN (nT (wS (wR ?_)))
  revert a; refine wo rfl rfl (by decide) (fun ev e h => by simp [go_sem, h] <;> rfl) ?_; intro a hA
  refine wl_call hA rfl rfl (by decide) (fun ev h => exec_call Tryz.func133 (by kernel_rfl) rfl (h.f _) (by first | (simp only [mL, h.get 4 rfl, h.c] <;> rfl) | (simp [mL, h.get 4 rfl, h.c] <;> rfl))) (take_any pr l bad _ h hl) ?_
  rintro e w1 ⟨rfl, h1, T1⟩
  refine ⟨_, rfl, fun a hA => ?_⟩
  obtain ⟨k, t, hkt⟩ : ∃ k t, takeV l = ⟨k, t⟩ := ⟨_, _, rfl⟩
  rw [hkt] at hA
  rw [hkt]
  obtain ⟨b1, hb1⟩ : ∃ b1, (bad || l.isEmpty) = b1 := ⟨_, rfl⟩
  rw [hb1] at h1
  rw [hb1]
  refine wl_local [.int .i64 k, .string (St t)] hA rfl rfl (by decide) (fun ev h => by simp [go_sem]; try first | exact ⟨rfl, rfl⟩ | rfl) rfl rfl (by rfl) (fun w1 g ev hb h => by simp [go_sem, h.get 3 rfl, h.get 5 rfl, setAll, hb.cell, hb.frozen]) fun w2 a (K2 : Blk _ _ _ _) hz2 hb2 hA => ?_
  have h2 := h1.below hb2
  have T2 := T1.below hb2
  obtain ⟨A, c, K, hr, hc, ht⟩ := h2.ex
  have hpw2 := K.lt
  have K00 := K
  replace hA := hA.keepN [0, 3]
  refine wN (nT (wS (wR ?_)))
  revert a; (iterate 6 refine wo rfl rfl (by decide) (fun ev e h => by simp [go_sem, h, K.cell, K2.cell] <;> rfl) ?_); (iterate 4 refine wg _ rfl rfl rfl rfl (by decide) (fun hq ev e h => by simp [go_sem, h, ↓gw_t (beq_t hq), K.cell, K2.cell] <;> rfl) ?_); intro a hA
  replace hA := hA.keepN [3, 6, 11, 15]
  revert a; (iterate 3 refine wg2 _ _ rfl rfl rfl rfl (by decide) (fun hq hr ev e h => by simp [go_sem, h, ↓gw_t (and_beq hq hr), ↓gw_t hq, K.cell, K2.cell] <;> rfl) ?_); intro a hA
  refine wl_guard _ hA rfl rfl rfl rfl (by decide) (fun hq ev h => by exact pick_and rfl (((h.get 15 rfl).trans (gw_t (beq_t hq)))) (((h.get 18 rfl).trans (gw_a (beq_t hq)))) (h.c _)) fun a hA => ?_
  revert a; refine wko rfl rfl (by decide) rfl rfl rfl ?_; (iterate 2 refine wo rfl rfl (by decide) (fun ev e h => by simp [go_sem, h, K.cell, K2.cell] <;> rfl) ?_); intro a hA
  refine wl_setf ([.slice A l.tail.length c, .bool (b1 || k != 1 && k != 2)]) _ hA rfl rfl K (j := 1) (by rfl) (fun ev h => by simp [go_sem, h.get 22 rfl, h.get 20 rfl, K.cell, K2.cell, K.cell, K.frozen]; try first | exact ⟨rfl, rfl⟩ | rfl) fun w3 (K : Blk _ _ _ _) hs3 => ?_
  replace K2 := hs3.blk K2 (by have := T1.size; omega)
  have T3 := T2.only hs3
  replace hA := hA.keepN [3]
  refine wN (nT (wS (wR ?_)))
  revert a; (iterate 3 refine wo rfl rfl (by decide) (fun ev e h => by simp [go_sem, h, K2.cell] <;> rfl) ?_); intro a hA
  replace hA := hA.keepN [2]
  refine wN (nT (wp_ret ?_))
  refine ret_1 hA 2 rfl rfl ?_
  obtain ⟨hr3, ht3⟩ := rows_turn hr ht K00 (Apart.only (Apart.refl (fun i => i = pr) _) hs3 (.inr rfl))
  exact ⟨rfl, ⟨A, c, K, hr3, hc, ht3⟩, T3⟩
theorem atoi_full (s : List UInt8) (w : World) (hw : Fine w) (hs : s.length ≤ 1048576) : Calls Tryz.prog 191 #[.string (St s)] w fun ev w' => ∃ n e, ev = .returned (.tuple #[.int .i64 n, e]) ∧ ((e = .nilIface ∧ Lib.atoiAll s = .ok n) ∨ ((∃ p, e = .iface 235 p) ∧ ∀ n, Lib.atoiAll s ≠ .ok n)) ∧ Below w.heap.size w w' := by
  obtain ⟨v5, h5, i5⟩ := hw.e5
  obtain ⟨v6, h6, i6⟩ := hw.e6
  have hz : (St s).size ≤ 1048576 := hs
  rcases h : Lib.atoiAll s with v | _ | _
  · refine (Tryz.strconv_Atoi_ok (St s) (by omega) v h w).mono ?_
    rintro e w' ⟨rfl, rfl | ⟨t, rfl⟩⟩
    · exact ⟨v, _, rfl, .inl ⟨rfl, rfl⟩, Below.refl _ _⟩
    · exact ⟨v, _, rfl, .inl ⟨rfl, rfl⟩, Joins.below_bytesWorld _ _ _ _ (Nat.le_refl _)⟩
  · refine (Tryz.strconv_Atoi_syntax (St s) (by omega) (h.trans (by kernel_rfl)) v5 w h5 i5).mono ?_
    rintro e w' ⟨N, rfl, _, _, hb⟩
    exact ⟨_, _, rfl, .inr ⟨⟨_, rfl⟩, fun n e => by cases e⟩, hb⟩
  · refine (Tryz.strconv_Atoi_range (St s) (by omega) h v6 w h6 i6).mono ?_
    rintro e w' ⟨N, rfl, _, _, hb⟩
    exact ⟨_, _, rfl, .inr ⟨⟨_, rfl⟩, fun n e => by cases e⟩, hb⟩
/-- what was laid is still so -/
def FineG (G : Nat) (w : World) : Prop := ∃ w0, w0.heap.size = G ∧ Fine w0 ∧ Below G w0 w
theorem FineG.fine {G : Nat} {w : World} (h : FineG G w) : Fine w := by
  obtain ⟨w0, rfl, hf, hb⟩ := h
  exact hf.below hb
theorem FineG.size {G : Nat} {w : World} (h : FineG G w) : G ≤ w.heap.size := by
  obtain ⟨w0, rfl, hf, hb⟩ := h
  exact hb.size
theorem FineG.keep {G : Nat} {w w' : World} (h : FineG G w) (hb : Below G w w') : FineG G w' := by
  obtain ⟨w0, e, hf, hb0⟩ := h
  exact ⟨w0, e, hf, hb0.trans hb⟩
theorem FineG.turn {G pr : Nat} {w w' : World} (h : FineG G w) (hp : G ≤ pr) (T : TurnR pr w w') : FineG G w' := h.keep (T.toBelow G hp h.size)
theorem FineG.below {G : Nat} {w w' : World} (h : FineG G w) (hb : Below w.heap.size w w') : FineG G w' := h.keep (hb.mono h.size)
/-- a word that is no number -/
def numOk9 (s : List UInt8) : Bool := decide (1 ≤ s.length) && decide (s.length ≤ 9) && s.all dig8
theorem atoi_9 {s : List UInt8} (h : numOk9 s = true) : Lib.atoiAll s = .ok ((val8 s : Nat) : Int) := by
  unfold numOk9 at h
  simp only [Bool.and_eq_true, decide_eq_true_eq] at h
  rw [Lib.atoiAll_short s (by omega), atoi_digits h.1.1 h.2]
  rfl
theorem num_9 {s : List UInt8} (h : numOk9 s = true) : 1 ≤ s.length ∧ s.length ≤ 9 ∧ s.all dig8 = true := by
  unfold numOk9 at h
  simp only [Bool.and_eq_true, decide_eq_true_eq] at h
  exact ⟨h.1.1, h.1.2, h.2⟩
theorem num_tell {s : List UInt8} {n : Int} (h : Lib.atoiAll s = .ok n) : (decide ((9 : Int) < s.length) || !(trimS digs s).isEmpty) = !numOk9 s := by
  have h1 : (trimS digs s).isEmpty = s.all dig8 := by
    have h2 := trimS_nil digs s
    have h3 : (fun x => digs.contains x) = dig8 := by funext x; exact digs_has x
    rw [h3] at h2
    rw [← h2]
    cases trimS digs s <;> rfl
  have h0 : 1 ≤ s.length := by
    cases s with
    | nil => cases h
    | cons x r => simp
  unfold numOk9
  rw [h1, decide_eq_true h0, Bool.true_and]
  by_cases h9 : s.length ≤ 9
  · rw [decide_eq_true h9, decide_eq_false (by omega), Bool.false_or, Bool.true_and]
  · rw [decide_eq_false h9, decide_eq_true (by omega)]
    rfl
theorem num_bad {s : List UInt8} (h : ∀ n, Lib.atoiAll s ≠ .ok n) : numOk9 s = false := by
  cases hk : numOk9 s with
  | false => rfl
  | true => exact absurd (atoi_9 hk) (h _)
set_option maxRecDepth 100000 in
set_option maxHeartbeats 4000000 in
theorem number_any (pr : Nat) (l : List TokI) (bad : Bool) (w : World) (h : RdAt w pr l bad) {G : Nat} (hw : FineG G w) (hG : G ≤ pr) (hl : l.length ≤ 1048576) (ht : (takeV l).t.length ≤ 1048576) : Calls Tryz.prog 184 #[.pointer (some ⟨pr, 0, none⟩)] w fun ev w' => ∃ n, ev = .returned (.int .i64 n) ∧ (numOk9 (takeV l).t = true → n = ((val8 (takeV l).t : Nat) : Int)) ∧ RdAt w' pr l.tail (((bad || l.isEmpty) || wbad (takeV l)) || !numOk9 (takeV l).t) ∧ TurnR pr w w' := by
  have hpw := h.lt
  refine calls_at 29 Tryz.func184 rfl rfl (Nat.le_of_ble_eq_true rfl) ?_
  intro a hA; replace hA := hA.norm
  refine wS (wR ?_)
  revert a; refine wo rfl rfl (by decide) (fun ev e h => by simp [go_sem, h] <;> rfl) ?_; intro a hA
  replace hA := hA.keepN [0]
  refine wN (nT (wS (wR ?_)))
  revert a; refine wo rfl rfl (by decide) (fun ev e h => by simp [go_sem, h] <;> rfl) ?_; intro a hA
  refine wl_call hA rfl rfl (by decide) (fun ev h => exec_call Tryz.func178 (by kernel_rfl) rfl (h.f _) (by first | (simp only [mL, h.get 6 rfl, h.c] <;> rfl) | (simp [mL, h.get 6 rfl, h.c] <;> rfl))) (word_any pr l bad w h hl) ?_
  rintro e w1 ⟨rfl, h1, T1⟩
  refine ⟨_, rfl, fun a hA => ?_⟩
  obtain ⟨s, hs⟩ : ∃ s, (takeV l).t = s := ⟨_, rfl⟩
  rw [hs] at hA ht
  rw [hs]
  obtain ⟨b1, hb1⟩ : ∃ b1, ((bad || l.isEmpty) || wbad (takeV l)) = b1 := ⟨_, rfl⟩
  rw [hb1] at h1
  rw [hb1]
  have hw1 := hw.turn hG T1
  revert a; refine wo rfl rfl (by decide) (fun ev e h => by simp [go_sem, h] <;> rfl) ?_; intro a hA
  replace hA := hA.keepN [0, 3]
  refine wN (nT (wS (wR ?_)))
  revert a; refine wo rfl rfl (by decide) (fun ev e h => by simp [go_sem, h] <;> rfl) ?_; intro a hA
  refine wl_call hA rfl rfl (by decide) (fun ev h => exec_call Tryz.func191 (by kernel_rfl) rfl (h.f _) (by first | (simp only [mL, h.get 9 rfl, h.c] <;> rfl) | (simp [mL, h.get 9 rfl, h.c] <;> rfl))) (atoi_full s _ hw1.fine ht) ?_
  rintro e w2 ⟨n, e, rfl, he, hb2⟩
  refine ⟨_, rfl, fun a hA => ?_⟩
  have h2 := h1.below hb2
  have T2 := T1.below hb2
  rcases he with ⟨rfl, hn⟩ | ⟨⟨p, rfl⟩, hn⟩
  · skip
    revert a; (iterate 5 refine wo rfl rfl (by decide) (fun ev e h => by simp [go_sem, h] <;> rfl) ?_); intro a hA
    replace hA := hA.keepN [0, 3, 4, 5]
    refine wN (nT (wS (wS (wR ?_))))
    revert a; (iterate 3 refine wo rfl rfl (by decide) (fun ev e h => by simp [go_sem, h] <;> rfl) ?_); (iterate 3 refine wg _ rfl rfl rfl rfl (by decide) (fun hq ev e h => by simp [go_sem, h, ↓gw_t (beq_t hq)] <;> rfl) ?_); refine wko rfl rfl (by decide) rfl rfl rfl ?_; refine wo rfl rfl (by decide) (fun ev e h => by simp [go_sem, h] <;> rfl) ?_; refine wg _ rfl rfl rfl rfl (by decide) (fun hq ev e h => by simp [go_sem, h, ↓gw_t (beq_t hq)] <;> rfl) ?_; intro a hA
    refine wl_gcallv _ hA rfl rfl rfl rfl (by decide) (fun hq ev h => exec_call Tryz.func95 (by kernel_rfl) rfl (h.f _) (by first | (simp only [mL, ((h.get 21 rfl).trans (gw_t (beq_t hq))), h.c] <;> rfl) | (simp [mL, ((h.get 21 rfl).trans (gw_t (beq_t hq))), h.c] <;> rfl))) (fun hq => trim_any digs s _ (by omega) (by decide) (by decide) (by intro j b hj; have := List.mem_of_getElem? hj; revert this; unfold digs; simp; rintro (rfl | rfl | rfl | rfl | rfl | rfl | rfl | rfl | rfl | rfl) <;> decide)) fun a w3 hb3 hA => ?_
    replace h2 := h2.below hb3
    replace T2 := T2.below hb3
    revert a; refine wg _ rfl rfl rfl rfl (by decide) (fun hq ev e h => by simp [go_sem, h, ↓gw_t (beq_t hq)] <;> rfl) ?_; intro a hA
    replace hA := hA.keepN [0, 4, 20, 23]
    revert a; refine wko rfl rfl (by decide) rfl rfl rfl ?_; intro a hA
    replace hA := hA.keepN [0, 4, 24]
    refine wN (nT ?_)
    refine wp_if hA 24 _ rfl (fun hq => ?yA) (fun hq => ?nA)
    case nA =>
      refine wp_skip (nT (wS (wR ?_)))
      revert a; (iterate 2 refine wo rfl rfl (by decide) (fun ev e h => by simp [go_sem, h] <;> rfl) ?_); intro a hA
      replace hA := hA.keepN [2]
      refine wN (nT (wp_ret ?_))
      refine ret_1 hA 2 rfl rfl ?_
      rw [num_tell hn] at hq
      rw [hq, Bool.or_false]
      refine ⟨n, rfl, fun h9 => ?_, h2, T2⟩
      rw [atoi_9 h9] at hn
      injection hn with hn
      exact hn.symm
    case yA =>
      obtain ⟨A, c, K, hr, hc, htk⟩ := h2.ex
      have K00 := K
      refine wR ?_
      revert a; (iterate 3 refine wo rfl rfl (by decide) (fun ev e h => by simp [go_sem, h] <;> rfl) ?_); intro a hA
      refine wl_setf ([.slice A l.tail.length c, .bool true]) _ hA rfl rfl K (j := 1) (by rfl) (fun ev h => by simp [go_sem, h.c, h.get 27 rfl, K.cell, K.frozen]; try first | exact ⟨rfl, rfl⟩ | rfl) fun w4 (K : Blk _ _ _ _) hs4 => ?_
      obtain ⟨hr4, ht4⟩ := rows_turn hr htk K00 (Apart.only (Apart.refl (fun i => i = pr) _) hs4 (.inr rfl))
      replace hA := hA.keepN [4]
      refine wN (nT (wS (wR ?_)))
      revert a; (iterate 2 refine wo rfl rfl (by decide) (fun ev e h => by simp [go_sem, h] <;> rfl) ?_); intro a hA
      replace hA := hA.keepN [2]
      refine wN (nT (wp_ret ?_))
      refine ret_1 hA 2 rfl rfl ?_
      rw [num_tell hn] at hq
      rw [hq, Bool.or_true]
      refine ⟨n, rfl, fun h9 => ?_, ⟨A, c, K, hr4, hc, ht4⟩, T2.only hs4⟩
      rw [h9] at hq
      cases hq
  · skip
    revert a; (iterate 5 refine wo rfl rfl (by decide) (fun ev e h => by simp [go_sem, h] <;> rfl) ?_); intro a hA
    replace hA := hA.keepN [0, 3, 4, 5]
    refine wN (nT (wS (wS (wR ?_))))
    revert a; (iterate 3 refine wo rfl rfl (by decide) (fun ev e h => by simp [go_sem, h] <;> rfl) ?_); (iterate 3 refine wg _ rfl rfl rfl rfl (by decide) (fun hq ev e h => by simp [go_sem, h, ↓gw_t (beq_t hq)] <;> rfl) ?_); refine wko rfl rfl (by decide) rfl rfl rfl ?_; refine wo rfl rfl (by decide) (fun ev e h => by simp [go_sem, h] <;> rfl) ?_; refine wg _ rfl rfl rfl rfl (by decide) (fun hq ev e h => by simp [go_sem, h, ↓gw_t (beq_t hq)] <;> rfl) ?_; intro a hA
    refine wl_gcallv _ hA rfl rfl rfl rfl (by decide) (fun hq ev h => exec_call Tryz.func95 (by kernel_rfl) rfl (h.f _) (by first | (simp only [mL, ((h.get 21 rfl).trans (gw_t (beq_t hq))), h.c] <;> rfl) | (simp [mL, ((h.get 21 rfl).trans (gw_t (beq_t hq))), h.c] <;> rfl))) (fun hq => trim_any digs s _ (by omega) (by decide) (by decide) (by intro j b hj; have := List.mem_of_getElem? hj; revert this; unfold digs; simp; rintro (rfl | rfl | rfl | rfl | rfl | rfl | rfl | rfl | rfl | rfl) <;> decide)) fun a w3 hb3 hA => ?_
    replace h2 := h2.below hb3
    replace T2 := T2.below hb3
    revert a; refine wg _ rfl rfl rfl rfl (by decide) (fun hq ev e h => by simp [go_sem, h, ↓gw_t (beq_t hq)] <;> rfl) ?_; intro a hA
    replace hA := hA.keepN [0, 4, 20, 23]
    revert a; refine wko rfl rfl (by decide) rfl rfl rfl ?_; intro a hA
    replace hA := hA.keepN [0, 4, 24]
    refine wN (nT ?_)
    refine wp_if hA 24 _ rfl (fun hq => ?yB) (fun hq => ?nB)
    case nB =>
      refine wp_skip (nT (wS (wR ?_)))
      revert a; (iterate 2 refine wo rfl rfl (by decide) (fun ev e h => by simp [go_sem, h] <;> rfl) ?_); intro a hA
      replace hA := hA.keepN [2]
      refine wN (nT (wp_ret ?_))
      refine ret_1 hA 2 rfl rfl ?_
      cases hq
    case yB =>
      obtain ⟨A, c, K, hr, hc, htk⟩ := h2.ex
      have K00 := K
      refine wR ?_
      revert a; (iterate 3 refine wo rfl rfl (by decide) (fun ev e h => by simp [go_sem, h] <;> rfl) ?_); intro a hA
      refine wl_setf ([.slice A l.tail.length c, .bool true]) _ hA rfl rfl K (j := 1) (by rfl) (fun ev h => by simp [go_sem, h.c, h.get 27 rfl, K.cell, K.frozen]; try first | exact ⟨rfl, rfl⟩ | rfl) fun w4 (K : Blk _ _ _ _) hs4 => ?_
      obtain ⟨hr4, ht4⟩ := rows_turn hr htk K00 (Apart.only (Apart.refl (fun i => i = pr) _) hs4 (.inr rfl))
      replace hA := hA.keepN [4]
      refine wN (nT (wS (wR ?_)))
      revert a; (iterate 2 refine wo rfl rfl (by decide) (fun ev e h => by simp [go_sem, h] <;> rfl) ?_); intro a hA
      replace hA := hA.keepN [2]
      refine wN (nT (wp_ret ?_))
      refine ret_1 hA 2 rfl rfl ?_
      rw [num_bad hn]
      refine ⟨n, rfl, fun h9 => (by cases h9), ?_, T2.only hs4⟩
      rw [show (b1 || !false) = true by cases b1 <;> rfl]
      exact ⟨A, c, K, hr4, hc, ht4⟩
end Go.Proofs.YtjhaccmcjlbllaaGreatDoor
/-
  Rows of texts, and of spans: what both sides of a set's reading use.
-/
namespace Go.Proofs.YtjhaccmcjlbllaaGreatDoor
open Go.RowKit
/-- a row of texts -/
def sv (p : List UInt8) : Value := .string ⟨p.toArray⟩
def svs (L : List (List UInt8)) : List Value := L.map sv
theorem string_info : (Tryz.prog.info? 9).map (fun i => (i.zero, i.size, i.bytes)) = some (some (.string ByteArray.empty), 1, 16) := by kernel_rfl
theorem svs_one (L : List (List UInt8)) : ∀ u ∈ svs L, u.oneCell' = true := by
  intro u hu
  simp only [svs, List.mem_map] at hu
  obtain ⟨p, _, rfl⟩ := hu
  rfl
theorem spanCells_one (L : List (Nat × Nat)) : ∀ u ∈ spanCells L, u.oneCell' = true := by
  intro u hu
  simp only [spanCells, List.mem_flatMap] at hu
  obtain ⟨x, _, hx⟩ := hu
  simp at hx
  rcases hx with rfl | rfl <;> rfl
/-- what Parse and Set leave -/
def SetPost (t : TypeId) (ok : Bool) (vals : List (Nat × Nat)) (v : Value) (w w' : World) : Prop :=
  (ok = true → w'.ownsRow w.heap.size t 2 v vals.length (spanCells vals)) ∧ (ok = false → v = .slice none 0 0) ∧ Below w.heap.size w w'
theorem SetPost.bad {t : TypeId} {vals : List (Nat × Nat)} {w w' : World} (h : Below w.heap.size w w') : SetPost t false vals (.slice none 0 0) w w' := ⟨by simp, fun _ => rfl, h⟩
theorem SetPost.good {t : TypeId} {vals : List (Nat × Nat)} {v : Value} {w w' : World} (ho : w'.ownsRow w.heap.size t 2 v vals.length (spanCells vals)) (h : Below w.heap.size w w') : SetPost t true vals v w w' := ⟨fun _ => ho, by simp, h⟩
end Go.Proofs.YtjhaccmcjlbllaaGreatDoor
/-
  Walk of seqset's Parse.
-/
namespace Go.Proofs.YtjhaccmcjlbllaaGreatDoor
open Go.RowKit
theorem splitB_svs (s : ByteArray) : (Lib.splitB ⟨#[44]⟩ 0 (Lib.countB s ⟨#[44]⟩) s).map Value.string = svs (splitC 44 s.data.toList) := by
  have h := Lib.splitB_data ⟨#[44]⟩ 0 (Lib.countB s ⟨#[44]⟩) s
  rw [show (⟨#[44]⟩ : ByteArray).data.toList = [44] from rfl, show Lib.countB s ⟨#[44]⟩ = Lib.count s.data.toList [44] from rfl, splitC_eq] at h
  rw [← h]
  unfold svs
  rw [List.map_map]
  apply List.map_congr_left
  intro x _
  show _ = Value.string ⟨x.data.toList.toArray⟩
  rw [Array.toArray_toList]
theorem countB_lenS (s : ByteArray) : Lib.countB s ⟨#[44]⟩ + 1 = (splitC 44 s.data.toList).length := by
  have h := congrArg List.length (splitB_svs s)
  rw [List.length_map, Lib.splitB_all ⟨#[44]⟩ (by decide) 0 _ s rfl] at h
  rw [h]; simp [svs]
theorem splitP_any (s : ByteArray) (hs : s.size ≤ 1048576) (w : World) (hw : Fine w) :
    Calls Tryz.prog 145 #[.string s, .string ⟨#[44]⟩] w fun e w' => e = .returned (.slice (some ⟨w.heap.size, 0, none⟩) (splitC 44 s.data.toList).length (splitC 44 s.data.toList).length) ∧ w' = w.alloc (.cells (svs (splitC 44 s.data.toList)).toArray 9) := by
  obtain ⟨m, hm⟩ := hw.len
  have h := Tryz.strings_Split s ⟨#[44]⟩ m w (by omega) hm (by decide)
  rw [countB_lenS, splitB_svs] at h
  exact h
theorem cut_c (p a b : List UInt8) (f : Bool) (hp : p.length ≤ 1048576) (hc : Lib.cut p [58] = (a, b, f)) (w : World) (hw : Fine w) :
    Calls Tryz.prog 53 #[.string ⟨p.toArray⟩, .string ⟨#[58]⟩] w fun e w' => e = .returned (.tuple #[.string ⟨a.toArray⟩, .string ⟨b.toArray⟩, .bool f]) ∧ Below w.heap.size w w' := by
  obtain ⟨m, hm⟩ := hw.len
  have h := Tryz.strings_Cut ⟨p.toArray⟩ ⟨#[58]⟩ m w (by simp [ByteArray.size]; omega) hm
  rw [show (⟨p.toArray⟩ : ByteArray).data.toList = p from rfl, show (⟨#[58]⟩ : ByteArray).data.toList = [58] from rfl, hc] at h
  refine h.mono ?_
  rintro e w' ⟨rfl, n, rfl⟩
  exact ⟨rfl, below_drewN (Below.refl _ _) n⟩
theorem num_c (p : List UInt8) (b : Bool) (hp : p.length ≤ 1048576) (hb : numOk p = b) (w : World) (hw : Fine w) :
    Calls Tryz.prog 154 #[.string ⟨p.toArray⟩] w fun e w' => ∃ v : Nat, e = .returned (.tuple #[.int .u32 v, .bool b]) ∧ (b = true → v = numVal p) ∧ Below w.heap.size w w' := by
  subst hb
  exact num_any ⟨p.toArray⟩ (show p.length ≤ 4000000 by omega) w hw
theorem num_t (p : List UInt8) (hp : p.length ≤ 1048576) (hb : numOk p = true) (w : World) (hw : Fine w) :
    Calls Tryz.prog 154 #[.string ⟨p.toArray⟩] w fun e w' => e = .returned (.tuple #[.int .u32 (numVal p : Nat), .bool true]) ∧ Below w.heap.size w w' := by
  refine (num_c p true hp hb w hw).mono ?_
  rintro e w' ⟨v, rfl, hv, hb⟩
  rw [hv rfl]
  exact ⟨rfl, hb⟩
theorem cut_len (p a b : List UInt8) (f : Bool) (hc : Lib.cut p [58] = (a, b, f)) : a.length ≤ p.length ∧ b.length ≤ p.length := by
  rcases cut_spec 58 p with ⟨_, h, _⟩ | ⟨a', b', h0, _, h, _⟩
  · rw [h] at hc; simp only [Prod.mk.injEq] at hc; obtain ⟨rfl, rfl, rfl⟩ := hc; simp
  · rw [h] at hc; simp only [Prod.mk.injEq] at hc; obtain ⟨rfl, rfl, rfl⟩ := hc; rw [h0]; simp; omega
theorem span_info : (Tryz.prog.info? 193).map (fun i => (i.zero, i.size, i.bytes)) = some (some (.agg #[.int .u32 0, .int .u32 0]), 2, 8) := by kernel_rfl
set_option maxHeartbeats 3200000 in
set_option maxRecDepth 100000 in
theorem parse_any (s : ByteArray) (hs : s.size ≤ 1048576) (w : World) (hw : Fine w) :
    Calls Tryz.prog 109 #[.string s] w fun e w' =>
      ∃ v, e = .returned (.tuple #[v, .bool (setOk s.data.toList)]) ∧ SetPost 193 (setOk s.data.toList) (setVals s.data.toList) v w w' := by
  obtain ⟨i0, hi0, hz0, hz1, hz2⟩ := info_parts span_info
  have Hsp := Lib.hid (splitP_any s hs w hw)
  have hmem := splitC_mem_le 44 s.data.toList
  have hpos := splitC_length_pos 44 s.data.toList
  have hle := splitC_length_le 44 s.data.toList
  have hsl : s.data.toList.length ≤ 1048576 := hs
  have HV : Hid (setOk s.data.toList = (decide ((splitC 44 s.data.toList).length ≤ 100) && (splitC 44 s.data.toList).all partOk) ∧ setVals s.data.toList = (splitC 44 s.data.toList).map partVal) := ⟨rfl, rfl⟩
  generalize setOk s.data.toList = ok at *
  generalize setVals s.data.toList = vals at *
  generalize splitC 44 s.data.toList = L at *
  have hmem' : ∀ p ∈ L, p.length ≤ 1048576 := fun p hp => by have := hmem p hp; omega
  have HM := Lib.hid hmem'
  have HW := Lib.hid hw
  have hL : L.length ≤ 1048577 := by omega
  clear hmem hmem' hle hsl hw
  go_enter Tryz.func109, Tryz.ntmps109
  go_wp2_with fail
  refine Hsp.out.mono ?_
  rintro e w1' ⟨rfl, hw1⟩
  obtain ⟨w1, hw1e⟩ : ∃ w1, w1 = w1' := ⟨_, rfl⟩
  subst hw1e
  have hb1 : Below w.heap.size w w1 := by rw [hw1]; exact (Below.refl _ _).alloc (Nat.le_refl _) _
  have hs1 : w1.heap.size = w.heap.size + 1 := by rw [hw1]; simp
  have hblk : Blk w1 w.heap.size 9 (svs L).toArray := by rw [hw1]; exact Blk.new _ _ _
  have HB := Lib.hid hb1
  have HK := Lib.hid hblk
  have HS1 := Lib.hid hs1
  clear hw1 hb1 hblk Hsp hs1
  by_cases h100 : 100 < L.length
  · have hok : ok = false := by rw [HV.out.1]; simp; omega
    subst hok
    clear HV HM
    go_wp2
    go_ret2
    exact ⟨_, rfl, SetPost.bad HB.out⟩
  go_wp2
  go_loopw [5, 22] (fun v i wr => ∃ k : Nat, i = .int .i64 k ∧ k ≤ L.length ∧ Hid ((L.take k).all partOk = true) ∧ Hid (wr.ownsRow w1.heap.size 193 2 v k (spanCells ((L.take k).map partVal))) ∧ Hid (Below w1.heap.size w1 wr)) (fun _ i _ => L.length - (intOf i).toNat)
  case atStart => exact ⟨0, rfl, by omega, rfl, World.ownsRow_nil _ _ _ _, Below.refl _ _⟩
  case round =>
    obtain ⟨k, rfl, hk, hall, hout, hbr⟩ := hrel
    by_cases hlt : k < L.length
    · obtain ⟨p, hp⟩ : ∃ p, L[k]? = some p := ⟨_, List.getElem?_eq_getElem hlt⟩
      have hpm : p ∈ L := List.mem_of_getElem? hp
      have hpl := HM.out p hpm
      have hcell : wr.cell? ⟨w.heap.size, k, none⟩ = some (sv p) := by
        rw [hbr.out.cell (p := ⟨w.heap.size, k, none⟩) (by show w.heap.size < _; have := HS1.out; omega), HK.out.cell, List.getElem?_toArray, svs, List.getElem?_map, hp]; rfl
      have htk : L.take (k + 1) = L.take k ++ [p] := by rw [List.take_add_one, hp]; rfl
      have Htk := Lib.hid htk
      have Hp := Lib.hid hp
      clear htk hp hpm
      unfold sv at hcell
      obtain ⟨a, b0, f, hcut⟩ : ∃ a b0 f, Lib.cut p [58] = (a, b0, f) := ⟨_, _, _, rfl⟩
      obtain ⟨hal, hbl⟩ := cut_len p a b0 f hcut
      have HC := Lib.hid (cut_c p a b0 f hpl hcut)
      have HPV : Hid (partVal p = (numVal a, numVal (if f = true then b0 else a)) ∧ partOk p = (numOk a && numOk (if f = true then b0 else a))) := by
        refine ⟨?_, ?_⟩
        · unfold partVal partA partB; rw [hcut]
        · unfold partOk partA partB; rw [hcut]
      have hwr : Fine wr := (HW.out.below HB.out).below hbr.out
      have HWR := Lib.hid hwr
      have hw1r : w1.heap.size ≤ wr.heap.size := hbr.out.size
      have hbw : Below w.heap.size w wr := HB.out.trans (hbr.out.mono HB.out.size)
      have HBW := Lib.hid hbw
      clear hcut hwr hbw
      by_cases hpok : partOk p = true
      · have Hpok := Lib.hid hpok
        have hpo := HPV.out.2
        rw [hpok] at hpo
        have hpo' := hpo.symm
        rw [Bool.and_eq_true] at hpo'
        obtain ⟨h1, h2⟩ := hpo'
        clear hpo hpok
        have H1 := Lib.hid (num_t a (by omega) h1)
        have H2 := Lib.hid (num_t _ (by split <;> omega) h2)
        have Hv := Lib.hid HPV.out.1
        clear h1 h2 HPV
        generalize numVal (if f = true then b0 else a) = v2 at *
        generalize numVal a = v1 at *
        cases f
        all_goals
          simp only [Bool.false_eq_true, if_false, if_true] at H2
          go_wp2_with fail
          refine (HC.out _ HWR.out).mono ?_
          rintro e w2 ⟨rfl, hb2⟩
          have HB2 := Lib.hid hb2
          have hW2 := HWR.out.below hb2
          clear hb2
          go_wp2_with fail
          refine (H1.out _ hW2).mono ?_
          rintro e w3 ⟨rfl, hb3⟩
          have HB3 := Lib.hid (HB2.out.trans (hb3.mono HB2.out.size))
          have hW3 := hW2.below hb3
          clear hb3 hW2
          go_wp2_with fail
          refine (H2.out _ hW3).mono ?_
          rintro e w4 ⟨rfl, hb4⟩
          have HB4 := Lib.hid (HB3.out.trans (hb4.mono HB3.out.size))
          clear hb4 hW3 HB2 HB3 H1 H2
          have hout2 := own_below hout.out HB4.out
          have Hout2 := Lib.hid hout2
          have hw2 : w1.heap.size ≤ w4.heap.size := by have := HB4.out.size; omega
          clear hout2
          go_wp2_with (first
            | (at_builtin; refine wpList_append_own _ rfl (.tmp 51) (.tmp 55) _ rfl w1.heap.size 193 i0 _ 2 8 Tryz.underlying64 hi0 hz0 hz1 hz2 rfl (by omega) _ _ _ rfl (Hout2.out.alloc _) ⟨w4.heap.size, 0, none⟩ 1 1 [.int .u32 (v1 : Nat), .int .u32 (v2 : Nat)] rfl rfl ?c1 ?c2 ?c3 ?c4 ?c5 ?_))
          case c1 =>
            intro j u hj
            match j, hj with
            | 0, hj => simp at hj; subst hj; simp [Addr.add]
            | 1, hj => simp at hj; subst hj; simp [Addr.add]
          case c2 => intro u hu; simp at hu; rcases hu with rfl | rfl <;> rfl
          case c3 => unfold maxLen; omega
          case c4 => omega
          case c5 => simp; omega
          intro v' w3 hown' hgrow _
          have hb' : Below w1.heap.size w1 w3 := (((hbr.out.trans (HB4.out.mono hbr.out.size))).alloc hw2 _).grown hgrow (by simp; omega) (fun g' hg' => (Hout2.out.lt g' hg').1)
          have Hown' := Lib.hid hown'
          have Hb' := Lib.hid hb'
          clear hown' hgrow hb'
          go_wp2
          go_roundw
          case rel =>
            refine ⟨k + 1, by go_num, by omega, ?_, ?_, Hb'.out⟩
            · show List.all (L.take (k + 1)) partOk = true
              rw [Htk.out, List.all_append, hall.out]; simp [Hpok.out]
            · rw [Htk.out, List.map_append, spanCells_append, List.map_take]
              rw [show List.map partVal [p] = [partVal p] from rfl, Hv.out]
              exact Hown'.out
          case measure => simp [intOf]; omega
      · have hokf : ok = false := by
          rw [HV.out.1]
          have : L.all partOk = false := by
            rw [List.all_eq_false]; exact ⟨p, List.mem_of_getElem? Hp.out, hpok⟩
          rw [this]; simp
        subst hokf
        have hpo := HPV.out.2
        have hpf : partOk p = false := by simpa using hpok
        rw [hpf] at hpo
        clear HPV HV HM hpf hpok hout
        rcases Bool.eq_false_or_eq_true (numOk a) with h1 | h1
        · have h2 : numOk (if f = true then b0 else a) = false := by rw [h1] at hpo; simpa using hpo.symm
          have H1 := Lib.hid (num_c a true (by omega) h1)
          have H2 := Lib.hid (num_c _ false (by split <;> omega) h2)
          clear h1 h2 hpo
          cases f
          all_goals
            simp only [Bool.false_eq_true, if_false, if_true] at H2
            go_wp2_with fail
            refine (HC.out _ HWR.out).mono ?_
            rintro e w2 ⟨rfl, hb2⟩
            have HB2 := Lib.hid (HBW.out.trans (hb2.mono HBW.out.size))
            have hW2 := HWR.out.below hb2
            clear hb2
            go_wp2_with fail
            refine (H1.out _ hW2).mono ?_
            rintro e w3 ⟨v1, rfl, _, hb3⟩
            have HB3 := Lib.hid (HB2.out.trans (hb3.mono HB2.out.size))
            have hW3 := hW2.below hb3
            clear hb3 hW2
            go_wp2_with fail
            refine (H2.out _ hW3).mono ?_
            rintro e w4 ⟨v2, rfl, _, hb4⟩
            have HB4 := Lib.hid (HB3.out.trans (hb4.mono HB3.out.size))
            clear hb4 hW3 HB2 HB3
            go_wp2
            go_ret2
            exact ⟨_, rfl, SetPost.bad HB4.out⟩
        · have H1 := Lib.hid (num_c a false (by omega) h1)
          have H2 := Lib.hid (num_c (if f = true then b0 else a) _ (by split <;> omega) rfl)
          clear h1 hpo
          cases f
          all_goals
            simp only [Bool.false_eq_true, if_false, if_true] at H2
            go_wp2_with fail
            refine (HC.out _ HWR.out).mono ?_
            rintro e w2 ⟨rfl, hb2⟩
            have HB2 := Lib.hid (HBW.out.trans (hb2.mono HBW.out.size))
            have hW2 := HWR.out.below hb2
            clear hb2
            go_wp2_with fail
            refine (H1.out _ hW2).mono ?_
            rintro e w3 ⟨v1, rfl, _, hb3⟩
            have HB3 := Lib.hid (HB2.out.trans (hb3.mono HB2.out.size))
            have hW3 := hW2.below hb3
            clear hb3 hW2
            go_wp2_with fail
            refine (H2.out _ hW3).mono ?_
            rintro e w4 ⟨v2, rfl, _, hb4⟩
            have HB4 := Lib.hid (HB3.out.trans (hb4.mono HB3.out.size))
            clear hb4 hW3 HB2 HB3
            first | generalize numOk a = bb at * | generalize numOk b0 = bb at * | skip
            go_wp2
            go_ret2
            exact ⟨_, rfl, SetPost.bad HB4.out⟩
    · obtain rfl : k = L.length := by omega
      have e : L.take L.length = L := List.take_of_length_le (Nat.le_refl _)
      rw [e] at hout hall
      have hok : ok = true := by rw [HV.out.1, hall.out]; simp; omega
      subst hok
      have hvl : vals.length = L.length := by rw [HV.out.2]; simp
      go_wp2
      go_ret2
      refine ⟨_, rfl, SetPost.good ?_ (HB.out.trans (hbr.out.mono HB.out.size))⟩
      rw [hvl, HV.out.2]
      exact own_mono hout.out HB.out.size
end Go.Proofs.YtjhaccmcjlbllaaGreatDoor
/-
  Plain laws on lists of bytes: what stands between signs.
-/
namespace Go.Proofs.YtjhaccmcjlbllaaGreatDoor.Nm
/-- what stands between the signs c -/
def splitC (c : UInt8) : List UInt8 → List (List UInt8)
  | [] => [[]]
  | b :: l => if b = c then [] :: splitC c l else match splitC c l with
    | [] => [[b]]
    | p :: ps => (b :: p) :: ps
theorem splitC_ne (c : UInt8) (l : List UInt8) : splitC c l ≠ [] := by
  cases l with
  | nil => simp [splitC]
  | cons b l => unfold splitC; split; · simp
                split <;> simp
theorem count_nil (c : UInt8) : Lib.count [] [c] = 0 := by rw [Lib.count_one]; rfl
theorem index_none_of_count (c : UInt8) (l : List UInt8) (h : Lib.index l [c] = -1) : Lib.count l [c] = 0 := Lib.count_miss h
theorem splitK_one (c : UInt8) : ∀ l : List UInt8, Lib.splitK [c] 0 (Lib.count l [c]) l = splitC c l
  | [] => by rw [count_nil]; rfl
  | b :: l => by
    have ih := splitK_one c l
    unfold splitC
    by_cases hb : b = c
    · subst hb
      rw [if_pos rfl, Lib.count_cons_eq, Nat.add_comm]
      have hi : Lib.index (b :: l) [b] = 0 := by unfold Lib.index; simp
      unfold Lib.splitK
      rw [hi]
      simp [ih]
    · rw [if_neg hb, Lib.count_cons_ne _ _ _ hb]
      cases hk : Lib.count l [c] with
      | zero =>
        rw [hk] at ih
        rw [← ih]; rfl
      | succ k =>
        rw [hk] at ih
        have hne : ¬ Lib.index l [c] = -1 := fun h => by rw [Lib.count_miss h] at hk; cases hk
        have hge := Lib.index_ge l [c]
        obtain ⟨i, hi⟩ : ∃ i : Nat, Lib.index l [c] = i := ⟨(Lib.index l [c]).toNat, by omega⟩
        have hib : Lib.index (b :: l) [c] = ((i + 1 : Nat) : Int) := by
          unfold Lib.index
          rw [if_neg (by simp [Ne.symm hb]), hi, if_neg (by simp)]; rfl
        have hn1 : ¬ (((i : Nat) : Int) == -1) = true := by simp
        have hn2 : ¬ (((i + 1 : Nat) : Int) == -1) = true := by simp; omega
        rw [← ih]
        unfold Lib.splitK
        rw [hi, hib, if_neg hn1, if_neg hn2]
        simp only [Int.toNat_natCast, List.length_cons, List.length_nil, Nat.add_zero, Nat.zero_add]
        rfl
def splitsB (c : UInt8) (s : ByteArray) : List ByteArray := Lib.splitB ⟨#[c]⟩ 0 (Lib.countB s ⟨#[c]⟩) s
theorem splitsB_data (c : UInt8) (s : ByteArray) : (splitsB c s).map (·.data.toList) = splitC c s.data.toList := by
  unfold splitsB
  rw [Lib.splitB_data]
  exact splitK_one c _
theorem splitsB_length (c : UInt8) (s : ByteArray) : (splitsB c s).length = Lib.countB s ⟨#[c]⟩ + 1 := Lib.splitB_all ⟨#[c]⟩ (by simp [ByteArray.size]) 0 _ s rfl
theorem splitB_size (sep : ByteArray) (save : Nat) : ∀ (k : Nat) (s q : ByteArray), q ∈ Lib.splitB sep save k s → q.size ≤ s.size
  | 0, s, q, h => by simp [Lib.splitB] at h; subst h; exact Nat.le_refl _
  | k + 1, s, q, h => by
    unfold Lib.splitB at h
    split at h
    · simp at h; subst h; exact Nat.le_refl _
    · rcases List.mem_cons.1 h with rfl | h
      · simp; omega
      · have := splitB_size sep save k _ q h
        simp at this; omega
theorem splitsB_size (c : UInt8) (s q : ByteArray) (h : q ∈ splitsB c s) : q.size ≤ s.size := splitB_size _ _ _ s q h
theorem mem_splitC (c b : UInt8) : ∀ l : List UInt8, b ∈ l → b = c ∨ ∃ p ∈ splitC c l, b ∈ p
  | [], h => by simp at h
  | a :: l, h => by
    unfold splitC
    by_cases ha : a = c
    · rw [if_pos ha]
      rcases List.mem_cons.1 h with rfl | h
      · exact .inl ha
      · rcases mem_splitC c b l h with h | ⟨p, hp, hb⟩
        · exact .inl h
        · exact .inr ⟨p, List.mem_cons_of_mem _ hp, hb⟩
    · rw [if_neg ha]
      rcases List.mem_cons.1 h with rfl | h
      · right
        cases splitC c l with
        | nil => exact ⟨[b], by simp, by simp⟩
        | cons p ps => exact ⟨b :: p, by simp, by simp⟩
      · rcases mem_splitC c b l h with h | ⟨p, hp, hb⟩
        · exact .inl h
        · right
          cases hs : splitC c l with
          | nil => rw [hs] at hp; cases hp
          | cons q qs =>
            rw [hs] at hp
            rcases List.mem_cons.1 hp with rfl | hp
            · exact ⟨a :: p, by simp, by simp [hb]⟩
            · exact ⟨p, by simp [hp], hb⟩
theorem toList_take (s : ByteArray) (k : Nat) (h : k = s.size) : s.data.toList.take k = s.data.toList := List.take_of_length_le (by simp [h])
theorem all_snoc_get {α : Type} (l : List α) (p : α → Bool) (k : Nat) (q : α) (h : l[k]? = some q) (ha : (l.take k).all p = true) (hq : p q = true) : (l.take (k + 1)).all p = true := by
  rw [List.take_add_one, h]; simp [ha, hq]
end Go.Proofs.YtjhaccmcjlbllaaGreatDoor.Nm
/-
  name.plain, name.Norm, walked.
-/
namespace Go.Proofs.YtjhaccmcjlbllaaGreatDoor.Nm
open Go.RowKit
def plainI (c : Int) : Bool := decide (97 ≤ c ∧ c ≤ 122 ∨ 65 ≤ c ∧ c ≤ 90 ∨ 48 ≤ c ∧ c ≤ 57 ∨ c = 46 ∨ c = 95 ∨ c = 45)
set_option maxHeartbeats 400000 in
theorem plain_any (c : Int) (h0 : 0 ≤ c) (h1 : c ≤ 255) (w : World) :
    Calls Tryz.prog 146 #[.int .u8 c] w fun e w' => e = .returned (.bool (plainI c)) ∧ w = w' := by
  go_enter Tryz.func146, Tryz.ntmps146
  go_wp2
  all_goals go_ret
  all_goals exact ⟨ret_bool (by unfold plainI; rw [Bool.eq_iff_iff]; simp <;> omega), rfl⟩
def plainB (c : UInt8) : Bool := plainI (c.toNat : Int)
def okPartL (p : List UInt8) : Bool := !(p == []) && p.all plainB
/-- parts with a slash between -/
def nameOK (l : List UInt8) : Bool := (splitC 47 l).all okPartL
def okPart (p : ByteArray) : Bool := okPartL p.data.toList
def slash : ByteArray := ⟨#[47]⟩
def inboxS : ByteArray := ⟨#[73, 78, 66, 79, 88]⟩
/-- the name that a text is -/
def normV (s : ByteArray) : ByteArray × Bool :=
  if 60 < s.size then (⟨#[]⟩, false) else if nameOK s.data.toList then (if (Lib.toUpperA s.data.toList == [73, 78, 66, 79, 88]) = true then (inboxS, true) else (s, true)) else (⟨#[]⟩, false)
theorem parts_ok (s : ByteArray) : (splitsB 47 s).all okPart = nameOK s.data.toList := by
  unfold nameOK; rw [← splitsB_data, List.all_map]; rfl
theorem normV_bad (s q : ByteArray) (hs : s.size ≤ 60) (k : Nat) (h : (splitsB 47 s)[k]? = some q) (hq : okPart q = false) : normV s = (⟨#[]⟩, false) := by
  have hm : q ∈ splitsB 47 s := List.mem_of_getElem? h
  have : nameOK s.data.toList = false := by
    rw [← parts_ok, List.all_eq_false]; exact ⟨q, hm, by simp [hq]⟩
  unfold normV
  rw [if_neg (by omega), this]; rfl
theorem normV_good (s : ByteArray) (hs : s.size ≤ 60) (h : nameOK s.data.toList = true) : normV s = (if (Lib.toUpperA s.data.toList == [73, 78, 66, 79, 88]) = true then (inboxS, true) else (s, true)) := by
  unfold normV
  rw [if_neg (by omega), if_pos h]
theorem okPart_bad (q : ByteArray) (j : Nat) (h : j < q.size) (hp : plainI (q[j].toNat : Int) = false) : okPart q = false := by
  unfold okPart okPartL
  have : q.data.toList.all plainB = false := by
    rw [List.all_eq_false]
    exact ⟨q[j], by rw [show q[j] = q.data.toList[j]'(by simpa using h) from rfl]; exact List.getElem_mem _, by unfold plainB; simp [hp]⟩
  rw [this]; simp
theorem plain_low (c : UInt8) (h : plainB c = true) : c.toNat < 128 := by
  unfold plainB plainI at h; simp at h; omega
theorem nameOK_ascii (l : List UInt8) (h : nameOK l = true) : ∀ (j : Nat) (b : UInt8), l[j]? = some b → b.toNat < 128 := by
  intro j b hb
  rcases mem_splitC 47 b l (List.mem_of_getElem? hb) with rfl | ⟨p, hp, hbp⟩
  · decide
  · have h1 := List.all_eq_true.1 h p hp
    unfold okPartL at h1
    simp only [Bool.and_eq_true] at h1
    exact plain_low b (List.all_eq_true.1 h1.2 b hbp)
set_option maxHeartbeats 1000000 in
theorem norm_any (s : ByteArray) (m : Int) (w : World) (hs : s.size ≤ 60) (hm : w.cell? ⟨0, 0, none⟩ = some (.int .i64 m)) :
    Calls Tryz.prog 105 #[.string s] w fun e w' => e = .returned (.tuple #[.string (normV s).1, .bool (normV s).2]) ∧ Below w.heap.size w w' := by
  have hcl := Lib.countB_le slash (by decide) s.size s (Nat.le_refl _)
  go_enter Tryz.func105, Tryz.ntmps105
  go_wp2_with fail
  refine (Tryz.strings_Split s slash m w (by omega) hm (by decide)).mono ?_
  rintro e w1 ⟨rfl, hw1⟩
  have hb1 : Below w.heap.size w w1 := by rw [hw1]; exact (Below.refl _ _).alloc (Nat.le_refl _) _
  have hk1 : Hid (Blk w1 w.heap.size 9 ((splitsB 47 s).map Value.string).toArray) := by rw [hw1]; exact Blk.new _ _ _
  clear hw1 hm
  have hpl : (splitsB 47 s).length = Lib.countB s slash + 1 := splitsB_length 47 s
  have Hpl := Lib.hid hpl; clear hpl
  go_wp2_with fail
  generalize hn : Lib.countB s slash = n at *
  clear hn
  go_loop [13] (fun i => ∃ k : Nat, i = .int .i64 k ∧ k ≤ n + 1 ∧ Hid (((splitsB 47 s).take k).all okPart = true)) (fun i => n + 1 - (intOf i).toNat)
  case atStart => exact ⟨0, rfl, by omega, rfl⟩
  case round =>
    obtain ⟨k, rfl, hk, hall⟩ := hrel
    by_cases hlt : k < n + 1
    · obtain ⟨q, hq⟩ : ∃ q, (splitsB 47 s)[k]? = some q := ⟨(splitsB 47 s)[k]'(by rw [Hpl.out]; exact hlt), List.getElem?_eq_getElem (by rw [Hpl.out]; exact hlt)⟩
      have hc := hk1.out.cell k
      rw [show (((splitsB 47 s).map Value.string).toArray)[k]? = some (.string q) from by simp [hq]] at hc
      have Hq := Lib.hid hq; clear hq
      have hqs : q.size ≤ 60 := by have := splitsB_size 47 s q (List.mem_of_getElem? Hq.out); omega
      rcases Bool.eq_false_or_eq_true q.toList.isEmpty with he | he
      · have hv := normV_bad s q hs k Hq.out (by unfold okPart okPartL; rw [← ByteArray.toList_eq]; simp [List.isEmpty_iff.1 he])
        have Hv := Lib.hid hv; clear hv
        go_wp2
        go_ret2
        exact ⟨by rw [Hv.out]; rfl, hb1⟩
      · go_wp2
        go_loop [21] (fun i => ∃ j : Nat, i = .int .i64 j ∧ j ≤ q.size ∧ Hid ((q.data.toList.take j).all plainB = true)) (fun i => q.size - (intOf i).toNat)
        case atStart => exact ⟨0, rfl, by omega, rfl⟩
        case round =>
          obtain ⟨j, rfl, hj, hpl⟩ := hrel
          by_cases hjl : j < q.size
          · rcases Bool.eq_false_or_eq_true (plainI (q[j].toNat : Int)) with hp | hp
            · go_wp2_with (go_at_call 146; refine (plain_any _ (by omega) (by have := q[j].toNat_lt; omega) _).mono ?_; rintro e w' ⟨rfl, rfl⟩; rw [hp])
              go_round
              case rel =>
                refine ⟨j + 1, by go_num, by omega, ?_⟩
                have h1 := hpl.out
                show (q.data.toList.take (j + 1)).all plainB = true
                rw [take_snoc q j hjl]; simp only [List.all_append, h1, Bool.true_and, List.all_cons, List.all_nil, Bool.and_true]; exact hp
              case measure => simp [intOf] <;> omega
            · have hv := normV_bad s q hs k Hq.out (okPart_bad q j hjl hp)
              have Hv := Lib.hid hv; clear hv
              go_wp2_with (go_at_call 146; refine (plain_any _ (by omega) (by have := q[j].toNat_lt; omega) _).mono ?_; rintro e w' ⟨rfl, rfl⟩; rw [hp])
              go_ret2
              exact ⟨by rw [Hv.out]; rfl, hb1⟩
          · obtain rfl : j = q.size := by omega
            go_wp2
            go_round
            case rel =>
              refine ⟨k + 1, by go_num, by omega, all_snoc_get _ _ _ _ Hq.out hall.out ?_⟩
              have h1 := hpl.out
              rw [toList_take q _ rfl] at h1
              unfold okPart okPartL
              rw [h1, ← ByteArray.toList_eq]
              cases hq : q.toList with
              | nil => rw [hq] at he; cases he
              | cons a b => rfl
            case measure => simp [intOf] <;> omega
    · have hall' : nameOK s.data.toList = true := by
        have := hall.out
        rw [List.take_of_length_le (by rw [Hpl.out]; omega), parts_ok] at this
        exact this
      have hasc := nameOK_ascii _ hall'
      have hv := normV_good s hs hall'
      have Hv := Lib.hid hv; clear hv hall'
      have Ha := Lib.hid hasc; clear hasc
      rcases Bool.eq_false_or_eq_true (Lib.toUpperA s.data.toList == [73, 78, 66, 79, 88]) with he | he
      · have Hw : Hid (normV s = (inboxS, true)) := by rw [Hv.out, if_pos he]; rfl
        clear Hv
        go_wp2_with fail
        refine (Tryz.strings_ToUpper_ascii s w1 (by omega) Ha.out).mono ?_
        rintro e w2 ⟨rfl, hb2⟩
        go_wp2
        go_ret2
        exact ⟨by rw [Hw.out]; rfl, hb1.trans (hb2.mono hb1.size)⟩
      · have Hw : Hid (normV s = (s, true)) := by rw [Hv.out, if_neg (by rw [he]; decide)]; rfl
        clear Hv
        go_wp2_with fail
        refine (Tryz.strings_ToUpper_ascii s w1 (by omega) Ha.out).mono ?_
        rintro e w2 ⟨rfl, hb2⟩
        go_wp2
        go_ret2
        exact ⟨by rw [Hw.out]; rfl, hb1.trans (hb2.mono hb1.size)⟩
theorem norm_long (s : ByteArray) (w : World) (hs : 60 < s.size) (hl : s.size ≤ 9223372036854775807) :
    Calls Tryz.prog 105 #[.string s] w fun e w' => e = .returned (.tuple #[.string (normV s).1, .bool (normV s).2]) ∧ Below w.heap.size w w' := by
  have Hv : Hid (normV s = (⟨#[]⟩, false)) := by show normV s = _; unfold normV; rw [if_pos hs]
  go_enter Tryz.func105, Tryz.ntmps105
  go_wp2
  go_ret2
  exact ⟨by rw [Hv.out]; rfl, Below.refl _ _⟩
/-- name.Norm at every text -/
theorem norm_all (s : ByteArray) (m : Int) (w : World) (hl : s.size ≤ 9223372036854775807) (hm : w.cell? ⟨0, 0, none⟩ = some (.int .i64 m)) :
    Calls Tryz.prog 105 #[.string s] w fun e w' => e = .returned (.tuple #[.string (normV s).1, .bool (normV s).2]) ∧ Below w.heap.size w w' := by
  by_cases hs : s.size ≤ 60
  · exact norm_any s m w hs hm
  · exact norm_long s w (by omega) hl
end Go.Proofs.YtjhaccmcjlbllaaGreatDoor.Nm
/-
  Walks: the reader of parse: next, word, box, set.
-/
namespace Go.Proofs.YtjhaccmcjlbllaaGreatDoor
open Go.RowKit
set_option linter.unusedSimpArgs false
set_option linter.unusedVariables false
set_option linter.unusedSimpArgs false
set_option linter.unusedVariables false
/-- is the next token of a kind? -/
def nextS (k : Int) (l : List TokI) (bad : Bool) : Bool := !bad && (match l with
  | [] => false
  | t :: _ => t.k == k)
set_option maxRecDepth 100000 in
set_option maxHeartbeats 4000000 in
theorem nextP_any (pr : Nat) (k : Int) (l : List TokI) (bad : Bool) (w : World) (h : RdP w pr l bad) : Calls Tryz.prog 106 #[.pointer (some ⟨pr, 0, none⟩), .int .i64 k] w fun ev w' => ev = .returned (.bool (nextS k l bad)) ∧ Below w.heap.size w w' := by
  obtain ⟨A, c, K, hr, hc, ht⟩ := h.ex
  refine calls_at 29 Tryz.func106 rfl rfl (Nat.le_of_ble_eq_true rfl) ?_
  intro a hA; replace hA := hA.norm
  refine wS (wR ?_)
  revert a; refine wo rfl rfl (by decide) (fun ev e h => by simp [go_sem, h] <;> rfl) ?_; intro a hA
  replace hA := hA.keepN [0, 1]
  refine wN (nT (wS (wR ?_)))
  cases l with
  | nil =>
    have hok : nextS k [] bad = false := by unfold nextS; cases bad <;> rfl
    revert a; (iterate 6 refine wo rfl rfl (by decide) (fun ev e h => by simp [go_sem, h, K.cell] <;> rfl) ?_); (iterate 4 refine wg _ rfl rfl rfl rfl (by decide) (fun hq ev e h => by simp [go_sem, h, ↓gw_t (beq_t hq), K.cell] <;> rfl) ?_); intro a hA
    replace hA := hA.keepN [0, 1, 10, 14]
    revert a; (iterate 2 refine wg _ rfl rfl rfl rfl (by decide) (fun hq ev e h => by simp [go_sem, h, ↓gw_t (beq_t hq), K.cell] <;> rfl) ?_); (first | refine wka rfl rfl (by decide) rfl rfl rfl ?_ | refine wo rfl rfl (by decide) (fun ev e h => by simp [go_sem, h, gv_or, gv_and, K.cell] <;> rfl) ?_); refine wo rfl rfl (by decide) (fun ev e h => by simp [go_sem, h, K.cell] <;> rfl) ?_; intro a hA
    refine wl_guard _ (v := .bool false) hA rfl rfl rfl rfl (by decide) (fun hq ev h => by first | (cases hq; done) | (cases hr; done)) fun a hA => ?_
    refine wl_guard _ (v := .bool false) hA rfl rfl rfl rfl (by decide) (fun hq ev h => by first | (cases hq; done) | (cases hr; done)) fun a hA => ?_
    refine wl_guard _ (v := .bool false) hA rfl rfl rfl rfl (by decide) (fun hq ev h => by first | (cases hq; done) | (cases hr; done)) fun a hA => ?_
    refine wl_guard _ (v := .bool false) hA rfl rfl rfl rfl (by decide) (fun hq ev h => by first | (cases hq; done) | (cases hr; done)) fun a hA => ?_
    refine wl_guard _ (v := .bool false) hA rfl rfl rfl rfl (by decide) (fun hq ev h => by first | (cases hq; done) | (cases hr; done)) fun a hA => ?_
    refine wl_guard _ (v := .bool false) hA rfl rfl rfl rfl (by decide) (fun hq ev h => by first | (cases hq; done) | (cases hr; done)) fun a hA => ?_
    replace hA := hA.keepN [1, 18, 24]
    refine wl_guard _ (v := .bool false) hA rfl rfl rfl rfl (by decide) (fun hq ev h => by first | (cases hq; done) | (cases hr; done)) fun a hA => ?_
    refine wl_guard _ (v := .bool false) hA rfl rfl rfl rfl (by decide) (fun hq ev h => by first | (cases hq; done) | (cases hr; done)) fun a hA => ?_
    refine wl_guard _ (v := .bool false) hA rfl rfl rfl rfl (by decide) (fun hq ev h => by first | (cases hq; done) | (cases hr; done)) fun a hA => ?_
    revert a; (first | refine wka rfl rfl (by decide) rfl rfl rfl ?_ | refine wo rfl rfl (by decide) (fun ev e h => by simp [go_sem, h, gv_or, gv_and, K.cell] <;> rfl) ?_); intro a hA
    refine wl_op hA rfl rfl (by decide) (fun ev h => by simp [go_sem, h.get 28 rfl, K.cell]; try first | exact ⟨rfl, rfl⟩ | rfl) fun a hA => ?_
    replace hA := hA.keepN [4]
    refine wN (nT (wp_ret ?_))
    refine ret_1 hA 4 rfl rfl ?_
    exact ⟨ret_bool hok.symm, Below.refl _ _⟩
  | cons t r =>
    obtain ⟨ad, rfl, hadl, k0, k1⟩ := hr.cell (i := 0) (x := t) rfl
    have z0 : w.cell? ad = some (.int .i64 t.k) := by
      have := k0 _ rfl
      rw [Nat.zero_mul] at this
      exact this
    have hlen : (t :: r).length = r.length + 1 := rfl
    rw [hlen] at K
    have jj1 : (0 : Int) < ((r.length + 1 : Nat) : Int) := by omega
    have jj2 : 0 < r.length + 1 := by omega
    revert a; (iterate 6 refine wo rfl rfl (by decide) (fun ev e h => by simp [go_sem, h, K.cell, z0, jj1, jj2] <;> rfl) ?_); (iterate 4 refine wg _ rfl rfl rfl rfl (by decide) (fun hq ev e h => by simp [go_sem, h, ↓gw_t (beq_t hq), K.cell, z0, jj1, jj2] <;> rfl) ?_); intro a hA
    replace hA := hA.keepN [0, 1, 10, 14]
    revert a; (iterate 2 refine wg _ rfl rfl rfl rfl (by decide) (fun hq ev e h => by simp [go_sem, h, ↓gw_t (beq_t hq), K.cell, z0, jj1, jj2] <;> rfl) ?_); (first | refine wka rfl rfl (by decide) rfl rfl rfl ?_ | refine wo rfl rfl (by decide) (fun ev e h => by simp [go_sem, h, gv_or, gv_and, K.cell, z0, jj1, jj2] <;> rfl) ?_); refine wo rfl rfl (by decide) (fun ev e h => by simp [go_sem, h, K.cell, z0, jj1, jj2] <;> rfl) ?_; (iterate 6 refine wg _ rfl rfl rfl rfl (by decide) (fun hq ev e h => by simp [go_sem, h, ↓gw_t (beq_t hq), K.cell, z0, jj1, jj2] <;> rfl) ?_); intro a hA
    replace hA := hA.keepN [1, 18, 24]
    revert a; (iterate 3 refine wg _ rfl rfl rfl rfl (by decide) (fun hq ev e h => by simp [go_sem, h, ↓gw_t (beq_t hq), K.cell, z0, jj1, jj2] <;> rfl) ?_); (first | refine wka rfl rfl (by decide) rfl rfl rfl ?_ | refine wo rfl rfl (by decide) (fun ev e h => by simp [go_sem, h, gv_or, gv_and, K.cell, z0, jj1, jj2] <;> rfl) ?_); refine wo rfl rfl (by decide) (fun ev e h => by simp [go_sem, h, K.cell, z0, jj1, jj2] <;> rfl) ?_; intro a hA
    replace hA := hA.keepN [4]
    refine wN (nT (wp_ret ?_))
    refine ret_1 hA 4 rfl rfl ?_
    exact ⟨ret_bool (by unfold nextS; simp), Below.refl _ _⟩
set_option maxRecDepth 100000 in
set_option maxHeartbeats 4000000 in
theorem wordP_any (pr : Nat) (l : List TokI) (bad : Bool) (w : World) (h : RdP w pr l bad) (hl : l.length ≤ 1048576) : Calls Tryz.prog 74 #[.pointer (some ⟨pr, 0, none⟩)] w fun ev w' => ev = .returned (.string (St (takeT [1, 2] l bad))) ∧ RdP w' pr (takeL [1, 2] l bad) (!okT [1, 2] l bad) ∧ TurnR pr w w' := by
  refine calls_at 6 Tryz.func74 rfl rfl (Nat.le_of_ble_eq_true rfl) ?_
  intro a hA; replace hA := hA.norm
  refine wS (wR ?_)
  revert a; refine wo rfl rfl (by decide) (fun ev e h => by simp [go_sem, h] <;> rfl) ?_; intro a hA
  replace hA := hA.keepN [0]
  refine wN (nT (wS (wR ?_)))
  revert a; refine wo rfl rfl (by decide) (fun ev e h => by simp [go_sem, h] <;> rfl) ?_; intro a hA
  refine wl_new hA rfl rfl (by decide) (fun ev h => by simp [go_sem, h.c]; try first | exact ⟨rfl, rfl⟩ | rfl) fun w1 a (K1 : Blk _ _ _ _) hz1 hb1 hA => ?_
  refine wl_call hA rfl rfl (by decide) (fun ev h => exec_call Tryz.func49 (by kernel_rfl) rfl (h.f _) (by first | (simp only [mL, h.get 3 rfl, h.get 4 rfl, h.c] <;> rfl) | (simp [mL, h.get 3 rfl, h.get 4 rfl, h.c] <;> rfl))) (takeP_any pr [1, 2] w.heap.size 2 l bad _ (h.below hb1) K1 (by decide) hl) ?_
  rintro e w2 ⟨rfl, h2, T2⟩
  refine ⟨_, rfl, fun a hA => ?_⟩
  revert a; refine wo rfl rfl (by decide) (fun ev e h => by simp [go_sem, h] <;> rfl) ?_; intro a hA
  replace hA := hA.keepN [2]
  refine wN (nT (wp_ret ?_))
  refine ret_1 hA 2 rfl rfl ?_
  exact ⟨rfl, h2, (TurnR.of (pr := pr) hb1).trans T2⟩
set_option maxRecDepth 100000 in
set_option maxHeartbeats 4000000 in
theorem boxP_any (pr : Nat) (l : List TokI) (bad : Bool) (w : World) (h : RdP w pr l bad) {G : Nat} (hw : FineG G w) (hG : G ≤ pr) (hl : l.length ≤ 1048576) (ht : ∀ t ∈ l, t.t.length ≤ 1048576) : Calls Tryz.prog 75 #[.pointer (some ⟨pr, 0, none⟩)] w fun ev w' => ∃ s b, ev = .returned (.string s) ∧ RdP w' pr (takeL [1, 2] l bad) b ∧ TurnR pr w w' := by
  obtain ⟨m, hm⟩ := hw.fine.len
  refine calls_at 23 Tryz.func75 rfl rfl (Nat.le_of_ble_eq_true rfl) ?_
  intro a hA; replace hA := hA.norm
  refine wS (wR ?_)
  revert a; refine wo rfl rfl (by decide) (fun ev e h => by simp [go_sem, h] <;> rfl) ?_; intro a hA
  replace hA := hA.keepN [0]
  refine wN (nT (wS (wR ?_)))
  revert a; refine wo rfl rfl (by decide) (fun ev e h => by simp [go_sem, h] <;> rfl) ?_; intro a hA
  refine wl_call hA rfl rfl (by decide) (fun ev h => exec_call Tryz.func74 (by kernel_rfl) rfl (h.f _) (by first | (simp only [mL, h.get 6 rfl, h.c] <;> rfl) | (simp [mL, h.get 6 rfl, h.c] <;> rfl))) (wordP_any pr l bad w h hl) ?_
  rintro e w1 ⟨rfl, h1, T1⟩
  refine ⟨_, rfl, fun a hA => ?_⟩
  have hw1 := hw.turn hG T1
  obtain ⟨m1, hm1⟩ := hw1.fine.len
  have hts : (takeT [1, 2] l bad).length ≤ 1048576 := takeT_len ht
  refine wl_call hA rfl rfl (by decide) (fun ev h => exec_call Tryz.func105 (by kernel_rfl) rfl (h.f _) (by first | (simp only [mL, h.get 7 rfl, h.c] <;> rfl) | (simp [mL, h.get 7 rfl, h.c] <;> rfl))) (Nm.norm_all (St (takeT [1, 2] l bad)) m1 _ (by show (takeT [1, 2] l bad).length ≤ _; omega) hm1) ?_
  rintro e w2 ⟨rfl, hb2⟩
  refine ⟨_, rfl, fun a hA => ?_⟩
  obtain ⟨q, hq⟩ : ∃ q, Nm.normV (St (takeT [1, 2] l bad)) = q := ⟨_, rfl⟩
  rw [hq] at hA
  obtain ⟨s, ok⟩ := q
  have T2 := T1.below hb2
  obtain ⟨A, c, K, hr, hc, htk⟩ := (h1.below hb2).ex
  have K00 := K
  revert a; (iterate 5 refine wo rfl rfl (by decide) (fun ev e h => by simp [go_sem, h, K.cell] <;> rfl) ?_); intro a hA
  replace hA := hA.keepN [0, 3, 4]
  refine wN (nT (wS (wR ?_)))
  revert a; (iterate 6 refine wo rfl rfl (by decide) (fun ev e h => by simp [go_sem, h, K.cell] <;> rfl) ?_); (iterate 2 refine wg _ rfl rfl rfl rfl (by decide) (fun hq ev e h => by simp [go_sem, h, ↓gw_t (beq_t hq), K.cell] <;> rfl) ?_); (first | refine wko rfl rfl (by decide) rfl rfl rfl ?_ | refine wo rfl rfl (by decide) (fun ev e h => by simp [go_sem, h, gv_or, gv_and, K.cell] <;> rfl) ?_); refine wo rfl rfl (by decide) (fun ev e h => by simp [go_sem, h, K.cell] <;> rfl) ?_; intro a hA
  replace hA := hA.keepN [3, 19, 20]
  revert a; refine wo rfl rfl (by decide) (fun ev e h => by simp [go_sem, h, K.cell] <;> rfl) ?_; intro a hA
  refine wl_setf ([.slice A (takeL [1, 2] l bad).length c, .bool (!okT [1, 2] l bad || !ok)]) _ hA rfl rfl K (j := 1) (by rfl) (fun ev h => by simp [go_sem, h.get 21 rfl, h.get 19 rfl, K.cell, K.cell, K.frozen]; try first | exact ⟨rfl, rfl⟩ | rfl) fun w3 (K : Blk _ _ _ _) hs3 => ?_
  obtain ⟨hr3, ht3⟩ := rows_turnP hr htk K00 (Apart.only (Apart.refl (fun i => i = pr) _) hs3 (.inr rfl))
  replace hA := hA.keepN [3]
  refine wN (nT (wS (wR ?_)))
  revert a; (iterate 2 refine wo rfl rfl (by decide) (fun ev e h => by simp [go_sem, h, K.cell] <;> rfl) ?_); intro a hA
  replace hA := hA.keepN [2]
  refine wN (nT (wp_ret ?_))
  refine ret_1 hA 2 rfl rfl ?_
  exact ⟨_, _, rfl, ⟨A, c, K, hr3, hc, ht3⟩, T2.only hs3⟩
end Go.Proofs.YtjhaccmcjlbllaaGreatDoor
/-
  Walks: the reader of parse: set, keys.
-/
namespace Go.Proofs.YtjhaccmcjlbllaaGreatDoor
open Go.RowKit
set_option linter.unusedSimpArgs false
set_option linter.unusedVariables false
set_option linter.unusedSimpArgs false
set_option linter.unusedVariables false
set_option maxRecDepth 100000 in
set_option maxHeartbeats 4000000 in
theorem setP_any (pr : Nat) (l : List TokI) (bad : Bool) (w : World) (h : RdP w pr l bad) {G : Nat} (hw : FineG G w) (hG : G ≤ pr) (hl : l.length ≤ 1048576) (ht : ∀ t ∈ l, t.t.length ≤ 1048576) : Calls Tryz.prog 77 #[.pointer (some ⟨pr, 0, none⟩)] w fun ev w' => ∃ A n c b, ev = .returned (.slice A n c) ∧ RdP w' pr (takeL [1] l bad) b ∧ TurnR pr w w' := by
  refine calls_at 24 Tryz.func77 rfl rfl (Nat.le_of_ble_eq_true rfl) ?_
  intro a hA; replace hA := hA.norm
  refine wS (wR ?_)
  revert a; refine wo rfl rfl (by decide) (fun ev e h => by simp [go_sem, h] <;> rfl) ?_; intro a hA
  replace hA := hA.keepN [0]
  refine wN (nT (wS (wR ?_)))
  revert a; refine wo rfl rfl (by decide) (fun ev e h => by simp [go_sem, h] <;> rfl) ?_; intro a hA
  refine wl_new hA rfl rfl (by decide) (fun ev h => by simp [go_sem, h.c]; try first | exact ⟨rfl, rfl⟩ | rfl) fun w1 a (K1 : Blk _ _ _ _) hz1 hb1 hA => ?_
  refine wl_call hA rfl rfl (by decide) (fun ev h => exec_call Tryz.func49 (by kernel_rfl) rfl (h.f _) (by first | (simp only [mL, h.get 6 rfl, h.get 7 rfl, h.c] <;> rfl) | (simp [mL, h.get 6 rfl, h.get 7 rfl, h.c] <;> rfl))) (takeP_any pr [1] w.heap.size 1 l bad _ (h.below hb1) K1 (by decide) hl) ?_
  rintro e w2 ⟨rfl, h1, T1⟩
  refine ⟨_, rfl, fun a hA => ?_⟩
  replace T1 := (TurnR.of (pr := pr) hb1).trans T1
  have hw1 := hw.turn hG T1
  have hts : (takeT [1] l bad).length ≤ 1048576 := takeT_len ht
  refine wl_call hA rfl rfl (by decide) (fun ev h => exec_call Tryz.func109 (by kernel_rfl) rfl (h.f _) (by first | (simp only [mL, h.get 8 rfl, h.c] <;> rfl) | (simp [mL, h.get 8 rfl, h.c] <;> rfl))) (parse_any (St (takeT [1] l bad)) hts _ hw1.fine) ?_
  rintro e w3 ⟨v, rfl, hP, hPn, hb2⟩
  refine ⟨_, rfl, fun a hA => ?_⟩
  obtain ⟨ok, hok⟩ : ∃ ok, setOk (St (takeT [1] l bad)).data.toList = ok := ⟨_, rfl⟩
  rw [hok] at hA hP hPn
  obtain ⟨A0, n0, c0, rfl⟩ : ∃ A n c, v = .slice A n c := by
    cases ok with
    | false => exact ⟨_, _, _, hPn rfl⟩
    | true =>
      rcases (hP rfl).2 with ⟨e, _⟩ | ⟨g, cap, cur, e, _⟩
      · exact ⟨_, _, _, e⟩
      · exact ⟨_, _, _, e⟩
  have T2 := T1.below hb2
  obtain ⟨A, c, K, hr, hc, htk⟩ := (h1.below hb2).ex
  have K00 := K
  revert a; (iterate 5 refine wo rfl rfl (by decide) (fun ev e h => by simp [go_sem, h, K.cell] <;> rfl) ?_); intro a hA
  replace hA := hA.keepN [0, 3, 4]
  refine wN (nT (wS (wR ?_)))
  revert a; (iterate 6 refine wo rfl rfl (by decide) (fun ev e h => by simp [go_sem, h, K.cell] <;> rfl) ?_); (iterate 2 refine wg _ rfl rfl rfl rfl (by decide) (fun hq ev e h => by simp [go_sem, h, ↓gw_t (beq_t hq), K.cell] <;> rfl) ?_); refine wko rfl rfl (by decide) rfl rfl rfl ?_; refine wo rfl rfl (by decide) (fun ev e h => by simp [go_sem, h, K.cell] <;> rfl) ?_; intro a hA
  replace hA := hA.keepN [3, 20, 21]
  revert a; refine wo rfl rfl (by decide) (fun ev e h => by simp [go_sem, h, K.cell] <;> rfl) ?_; intro a hA
  refine wl_setf ([.slice A (takeL [1] l bad).length c, .bool (!okT [1] l bad || !ok)]) _ hA rfl rfl K (j := 1) (by rfl) (fun ev h => by simp [go_sem, h.get 22 rfl, h.get 20 rfl, K.cell, K.cell, K.frozen]; try first | exact ⟨rfl, rfl⟩ | rfl) fun w4 (K : Blk _ _ _ _) hs3 => ?_
  obtain ⟨hr3, ht3⟩ := rows_turnP hr htk K00 (Apart.only (Apart.refl (fun i => i = pr) _) hs3 (.inr rfl))
  replace hA := hA.keepN [3]
  refine wN (nT (wS (wR ?_)))
  revert a; (iterate 2 refine wo rfl rfl (by decide) (fun ev e h => by simp [go_sem, h, K.cell] <;> rfl) ?_); intro a hA
  replace hA := hA.keepN [2]
  refine wN (nT (wp_ret ?_))
  refine ret_1 hA 2 rfl rfl ?_
  exact ⟨_, _, _, _, rfl, ⟨A, c, K, hr3, hc, ht3⟩, T2.only hs3⟩
end Go.Proofs.YtjhaccmcjlbllaaGreatDoor
/-
  Walks: the reader's set; a flag's key.
-/
namespace Go.Proofs.YtjhaccmcjlbllaaGreatDoor
open Go.RowKit
set_option linter.unusedSimpArgs false
set_option linter.unusedVariables false
/-- a function, not nil -/
def IsFn (v : Value) : Prop := ∃ f a b, v = .func f a b
theorem vals_le {s : List UInt8} (h : setOk s = true) : (∀ x ∈ setVals s, x.1 ≤ 4294967295 ∧ x.2 ≤ 4294967295) ∧ (setVals s).length ≤ 100 := by
  unfold setOk at h
  simp only [Bool.and_eq_true, decide_eq_true_eq] at h
  refine ⟨fun x hx => ?_, by unfold setVals; rw [List.length_map]; exact h.1⟩
  unfold setVals at hx
  obtain ⟨p, hp, rfl⟩ := List.mem_map.1 hx
  have := List.all_eq_true.1 h.2 p hp
  unfold partOk at this
  rw [Bool.and_eq_true] at this
  exact ⟨numVal_le this.1, numVal_le this.2⟩
set_option maxRecDepth 100000 in
set_option maxHeartbeats 4000000 in
theorem set_any (pr : Nat) (l : List TokI) (bad u : Bool) (s : List UInt8) (w : World) (h : RdAt w pr l bad) {G : Nat} (hw : FineG G w) (hG : G ≤ pr) (hs : s.length ≤ 1048576) : Calls Tryz.prog 139 #[.pointer (some ⟨pr, 0, none⟩), .string (St s), .bool u] w fun ev w' => ∃ v, ev = .returned v ∧ IsFn v ∧ RdAt w' pr l (bad || !setOk s) ∧ TurnR pr w w' ∧ (setOk s = true → IsKey w.heap.size w'.heap.size w' (.set (setVals s) u) v) := by
  have hpw := h.lt
  refine calls_at 20 Tryz.func139 rfl rfl (Nat.le_of_ble_eq_true rfl) ?_
  intro a hA; replace hA := hA.norm
  refine wS (wR ?_)
  refine wl_new hA rfl rfl (by decide) (fun ev h => by simp [go_sem, h.get 2 rfl]; try first | exact ⟨rfl, rfl⟩ | rfl) fun w1 a (K1 : Blk _ _ _ _) hz1 hb1 hA => ?_
  have h1 := h.below hb1
  have T1 := TurnR.of (pr := pr) hb1
  have hw1 := hw.below hb1
  revert a; refine wo rfl rfl (by decide) (fun ev e h => by simp [go_sem, h] <;> rfl) ?_; intro a hA
  replace hA := hA.keepN [0, 1, 5]
  refine wN (nT (wS (wR ?_)))
  revert a; refine wo rfl rfl (by decide) (fun ev e h => by simp [go_sem, h] <;> rfl) ?_; intro a hA
  refine wl_call hA rfl rfl (by decide) (fun ev h => exec_call Tryz.func109 (by kernel_rfl) rfl (h.f _) (by first | (simp only [mL, h.get 10 rfl, h.c] <;> rfl) | (simp [mL, h.get 10 rfl, h.c] <;> rfl))) (parse_any (St s) hs _ hw1.fine) ?_
  rintro e w2 ⟨v, rfl, hP, hPn, hb2⟩
  refine ⟨_, rfl, fun a hA => ?_⟩
  have h2 := h1.below hb2
  have T2 := T1.below hb2
  replace K1 := K1.below hb2 K1.lt
  obtain ⟨ok, hok⟩ : ∃ ok, setOk (St s).data.toList = ok := ⟨_, rfl⟩
  rw [hok] at hA hP hPn
  rw [show setOk s = ok from hok]
  obtain ⟨A0, n0, c0, rfl⟩ : ∃ A n c, v = .slice A n c := by
    cases ok with
    | false => exact ⟨_, _, _, hPn rfl⟩
    | true =>
      rcases (hP rfl).2 with ⟨e, _⟩ | ⟨g, cap, cur, e, _⟩
      · exact ⟨_, _, _, e⟩
      · exact ⟨_, _, _, e⟩
  revert a; (iterate 3 refine wo rfl rfl (by decide) (fun ev e h => by simp [go_sem, h] <;> rfl) ?_); intro a hA
  refine wl_local [.slice A0 n0 c0] hA rfl rfl (by decide) (fun ev h => by simp [go_sem]; try first | exact ⟨rfl, rfl⟩ | rfl) rfl rfl (by rfl) (fun w1 g ev hb h => by simp [go_sem, h.get 7 rfl, h.get 12 rfl, setAll, hb.cell, hb.frozen]) fun w3 a (K3 : Blk _ _ _ _) hz3 hb3 hA => ?_
  have h3 := h2.below hb3
  have T3 := T2.below hb3
  replace K1 := K1.below hb3 K1.lt
  revert a; refine wo rfl rfl (by decide) (fun ev e h => by simp [go_sem, h] <;> rfl) ?_; intro a hA
  replace hA := hA.keepN [0, 5, 7, 8]
  refine wN (nT (wS (wS (wR ?_))))
  revert a; (iterate 2 refine wo rfl rfl (by decide) (fun ev e h => by simp [go_sem, h] <;> rfl) ?_); intro a hA
  replace hA := hA.keepN [0, 5, 7, 15]
  refine wN (nT ?_)
  refine wp_if hA 15 _ rfl (fun hq => ?yA) (fun hq => ?nA)
  case nA =>
    have hk : ok = true := by simpa using hq
    subst hk
    refine wp_skip (nT (wS (wR ?_)))
    revert a; (iterate 2 refine wo rfl rfl (by decide) (fun ev e h => by simp [go_sem, h] <;> rfl) ?_); intro a hA
    replace hA := hA.keepN [6]
    refine wN (nT (wp_ret ?_))
    refine ret_1 hA 6 rfl rfl ?_
    refine ⟨_, rfl, ⟨_, _, _, rfl⟩, by rw [show (bad || !true) = bad by simp]; exact h3, T3, fun _ => ?_⟩
    have hv := hP rfl
    obtain ⟨v1, v2⟩ := vals_le (show setOk s = true from hok)
    have z2 := hb2.size
    exact .set K1 K3 (own_below (own_mono hv (by omega)) hb3) (fun g e => by have := (hv.lt g e).2; omega) (by omega) (by omega) v1 (by omega)
  case yA =>
    have hk : ok = false := by simpa using hq
    subst hk
    obtain ⟨A, c, K, hr, hc, htk⟩ := h3.ex
    have K00 := K
    refine wS (wR ?_)
    revert a; (iterate 3 refine wo rfl rfl (by decide) (fun ev e h => by simp [go_sem, h] <;> rfl) ?_); intro a hA
    refine wl_setf ([.slice A l.length c, .bool true]) _ hA rfl rfl K (j := 1) (by rfl) (fun ev h => by simp [go_sem, h.c, h.get 18 rfl, K.cell, K.frozen]; try first | exact ⟨rfl, rfl⟩ | rfl) fun w4 (K : Blk _ _ _ _) hs4 => ?_
    obtain ⟨hr4, ht4⟩ := rows_turn hr htk K00 (Apart.only (Apart.refl (fun i => i = pr) _) hs4 (.inr rfl))
    replace hA := hA.keepN []
    refine wN (nT (wS (wR ?_)))
    revert a; refine wo rfl rfl (by decide) (fun ev e h => by simp [go_sem, h] <;> rfl) ?_; intro a hA
    replace hA := hA.keepN [6]
    refine wN (nT (wp_ret (rT ?_)))
    refine ret_1 hA 6 rfl rfl ?_
    refine ⟨_, rfl, ⟨_, _, _, rfl⟩, ?_, T3.only hs4, fun e => by cases e⟩
    rw [show (bad || !false) = true by cases bad <;> rfl]
    exact ⟨A, c, K, hr4, hc, ht4⟩
/-- the place of a text in a row -/
def idxV (L : List (List UInt8)) (s : List UInt8) : Int := match L.findIdx? (· == s) with
  | some i => (i : Int)
  | none => -1
theorem idxV_at {L : List (List UInt8)} {s : List UInt8} {j : Nat} (hj : L[j]? = some s) (h : ∀ i, i < j → L[i]? ≠ some s) : idxV L s = (j : Int) := by
  unfold idxV
  obtain ⟨hlt, he⟩ := List.getElem?_eq_some_iff.1 hj
  rw [show L.findIdx? (· == s) = some j from List.findIdx?_eq_some_iff_getElem.2 ⟨hlt, by simp [he], fun i hi => by
    have := h i hi
    have hl : i < L.length := by omega
    rw [List.getElem?_eq_getElem hl] at this
    simpa using this⟩]
theorem idxV_none {L : List (List UInt8)} {s : List UInt8} (h : ∀ i, i < L.length → L[i]? ≠ some s) : idxV L s = -1 := by
  unfold idxV
  rw [show L.findIdx? (· == s) = none from List.findIdx?_eq_none_iff.2 fun x hx => by
    obtain ⟨i, hi, rfl⟩ := List.getElem_of_mem hx
    have := h i hi
    rw [List.getElem?_eq_getElem hi] at this
    simpa using this]
set_option maxRecDepth 100000 in
set_option maxHeartbeats 4000000 in
theorem indexS_any (L : List (List UInt8)) (s : List UInt8) (g c : Nat) (w : World) (K : Blk w g 9 (L.map fun t => Value.string (St t)).toArray) (hl : L.length ≤ 1000000) : Calls Tryz.prog 159 #[.slice (some ⟨g, 0, none⟩) L.length c, .string (St s)] w fun ev w' => ev = .returned (.int .i64 (idxV L s)) ∧ w' = w := by
  refine calls_at 19 Tryz.func159 rfl rfl (Nat.le_of_ble_eq_true rfl) ?_
  intro a hA; replace hA := hA.norm
  refine wS (wR ?_)
  revert a; refine wo rfl rfl (by decide) (fun ev e h => by simp [go_sem, h] <;> rfl) ?_; intro a hA
  replace hA := hA.keepN [0, 1]
  refine wN (nT (wS (wS (wR ?_))))
  revert a; (iterate 3 refine wo rfl rfl (by decide) (fun ev e h => by simp [go_sem, h] <;> rfl) ?_); intro a hA
  replace hA := hA.keepN [0, 1, 7, 8]
  refine wN (nT (wB ?_))
  refine wp_loop_at (fun k a wx => ∃ j : Nat, j + k = L.length ∧ (∀ i, i < j → L[i]? ≠ some s) ∧ wx = w ∧ At 19 [(0, .slice (some ⟨g, 0, none⟩) L.length c), (1, .string (St s)), (7, .int .i64 (L.length : Nat)), (8, .int .i64 (j : Nat))] a) (L.length) ?_ ?_
  · exact ⟨0, by omega, fun i hi => absurd hi (Nat.not_lt_zero _), rfl, hA⟩
  clear hA
  rintro k a wx ⟨j, hjk, hno, rfl, hA⟩
  refine wS (wR ?_)
  revert a; refine wo rfl rfl (by decide) (fun ev e h => by simp [go_sem, h] <;> rfl) ?_; intro a hA
  replace hA := hA.keepN [0, 1, 7, 8, 9]
  refine wN (nT (wS ?_))
  refine wp_if hA 9 _ rfl (fun hq => ?yA) (fun hq => ?nA)
  case nA =>
    have hjn : L.length ≤ j := by simp at hq; omega
    replace hA := hA.keepN []
    refine wp_exit (xT (xT (xB (nT (wS (wR ?_))))))
    revert a; refine wo rfl rfl (by decide) (fun ev e h => by simp [go_sem, h] <;> rfl) ?_; intro a hA
    replace hA := hA.keepN [4]
    refine wN (nT (wp_ret ?_))
    refine ret_1 hA 4 rfl rfl ?_
    exact ⟨by rw [idxV_none fun i hi => hno i (by omega)], rfl⟩
  case yA =>
    have hjn : j < L.length := by simp at hq; omega
    obtain ⟨x, hx⟩ : ∃ x, L[j]? = some x := ⟨_, List.getElem?_eq_getElem hjn⟩
    have hcell : wx.cell? ⟨g, j, none⟩ = some (.string (St x)) := (K.cell j).trans (by simp [hx])
    have jj0 : (0 : Int) ≤ (j : Int) := by omega
    have jj1 : (j : Int) < (L.length : Int) := by omega
    have i3 : IntKind.i64.wrap (((j : Nat) : Int) + 1) = ((j + 1 : Nat) : Int) := by rw [IntWalk.i64_in _ (by omega)]; omega
    refine wp_skip (nT (wS (wB (wS (wR ?_)))))
    revert a; (iterate 2 refine wo rfl rfl (by decide) (fun ev e h => by simp [go_sem, h, add0, hcell, jj0, jj1] <;> rfl) ?_); intro a hA
    replace hA := hA.keepN [0, 1, 5, 7, 8]
    refine wN (nT (wS (wR ?_)))
    revert a; (iterate 6 refine wo rfl rfl (by decide) (fun ev e h => by simp [go_sem, h, add0, hcell, jj0, jj1] <;> rfl) ?_); intro a hA
    replace hA := hA.keepN [0, 1, 5, 7, 8, 16]
    refine wN (nT ?_)
    refine wp_if hA 16 _ rfl (fun hq2 => ?yB) (fun hq2 => ?nB)
    case nB =>
      have hn : x ≠ s := by rintro rfl; simp at hq2
      refine wp_skip (nB (nT (wR ?_)))
      revert a; (iterate 2 refine wo rfl rfl (by decide) (fun ev e h => by simp [go_sem, h, i3] <;> rfl) ?_); intro a hA
      replace hA := hA.keepN [0, 1, 7, 8]
      refine wN (nT ?_)
      refine ⟨k - 1, by omega, j + 1, by omega, fun i hi => ?_, rfl, hA⟩
      by_cases e : i = j
      · subst e
        rw [hx]
        intro e
        injection e with e
        exact hn e
      · exact hno i (by omega)
    case yB =>
      have hn : x = s := (by simpa using hq2 : s = x).symm
      subst hn
      refine wS (wR ?_)
      revert a; (iterate 2 refine wo rfl rfl (by decide) (fun ev e h => by simp [go_sem, h, add0, hcell, jj0, jj1] <;> rfl) ?_); intro a hA
      replace hA := hA.keepN [4]
      refine wN (nT (wp_ret (rB (rT (rT (rB (rT ?_)))))))
      refine ret_1 hA 4 rfl rfl ?_
      exact ⟨by rw [idxV_at hx hno], rfl⟩
def FlagPost (o : Option KeyA) (lo hi : Nat) (w : World) (v : Value) : Prop := match o with
  | none => v = .nilFunc
  | some k => IsFn v ∧ IsKey lo hi w k v
set_option maxRecDepth 100000 in
set_option maxHeartbeats 4000000 in
theorem flagged_any (s : List UInt8) (w : World) (hs : s.length ≤ 1048576) : Calls Tryz.prog 187 #[.string (St s)] w fun ev w' => ∃ v, ev = .returned v ∧ Below w.heap.size w w' ∧ FlagPost (flagP s) w.heap.size w'.heap.size w' v := by
  have HB := Below.refl w.heap.size w
  refine calls_at 16 Tryz.func187 rfl rfl (Nat.le_of_ble_eq_true rfl) ?_
  intro a hA; replace hA := hA.norm
  refine wS (wR ?_)
  revert a; refine wo rfl rfl (by decide) (fun ev e h => by simp [go_sem, h] <;> rfl) ?_; intro a hA
  replace hA := hA.keepN [0]
  refine wN (nT (wS (wR ?_)))
  revert a; refine wo rfl rfl (by decide) (fun ev e h => by simp [go_sem, h] <;> rfl) ?_; intro a hA
  refine wl_call hA rfl rfl (by decide) (fun ev h => exec_call Tryz.func103 (by kernel_rfl) rfl (h.f _) (by first | (simp only [mL, h.get 6 rfl, h.c] <;> rfl) | (simp [mL, h.get 6 rfl, h.c] <;> rfl))) (Tryz.strings_CutPrefix (St s) (St [85, 78]) _) ?_
  rintro e w1 ⟨rfl, rfl⟩
  refine ⟨_, rfl, fun a hA => ?_⟩
  obtain ⟨no, hno⟩ : ∃ no, Lib.hasPrefix s [85, 78] = no := ⟨_, rfl⟩
  obtain ⟨t, ht⟩ : ∃ t, Lib.trimPrefix s [85, 78] = t := ⟨_, rfl⟩
  rw [show Lib.hasPrefix (St s).data.toList (St [85, 78]).data.toList = no from hno, show (⟨(Lib.trimPrefix (St s).data.toList (St [85, 78]).data.toList).toArray⟩ : ByteArray) = St t by rw [← ht]] at hA
  revert a; (iterate 3 refine wo rfl rfl (by decide) (fun ev e h => by simp [go_sem, h] <;> rfl) ?_); intro a hA
  refine wl_new hA rfl rfl (by decide) (fun ev h => by simp [go_sem]; try first | exact ⟨rfl, rfl⟩ | rfl) fun w2 a (K2 : Blk _ _ _ _) hz2 hb2 hA => ?_
  replace HB := HB.trans (hb2.mono HB.size)
  revert a; refine wo rfl rfl (by decide) (fun ev e h => by simp [go_sem, h] <;> rfl) ?_; intro a hA
  refine wl_set [.bool no] hA rfl rfl K2 (by rfl) (fun ev h => by simp [go_sem, h.get 3 rfl, h.get 9 rfl, setAll, K2.cell, K2.frozen]) fun w2b (K2 : Blk _ _ _ _) hs2 => ?_
  replace HB := hs2.below HB (Nat.le_refl _)
  replace hA := hA.keepN [0, 3]
  refine wN (nT (wS (wR ?_)))
  refine wl_new hA rfl rfl (by decide) (fun ev h => by simp [go_sem, h.c]; try first | exact ⟨rfl, rfl⟩ | rfl) fun w3 a (K3 : Blk _ _ _ _) hz3 hb3 hA => ?_
  replace HB := HB.trans (hb3.mono HB.size)
  replace K2 := K2.below hb3 K2.lt
  revert a; refine wo rfl rfl (by decide) (fun ev e h => by simp [go_sem, h] <;> rfl) ?_; intro a hA
  refine wl_call hA rfl rfl (by decide) (fun ev h => exec_call Tryz.func159 (by kernel_rfl) rfl (h.f _) (by first | (simp only [mL, h.get 10 rfl, h.get 11 rfl, h.c] <;> rfl) | (simp [mL, h.get 10 rfl, h.get 11 rfl, h.c] <;> rfl))) (indexS_any flagNames t _ 5 _ K3 (by decide)) ?_
  rintro e w4 ⟨rfl, rfl⟩
  refine ⟨_, rfl, fun a hA => ?_⟩
  obtain ⟨i, hi⟩ : ∃ i, idxV flagNames t = i := ⟨_, rfl⟩
  rw [hi] at hA
  have hfl : flagP s = (if i < 0 then none else some (.flag i.toNat no)) := by
    unfold flagP
    rw [ht, hno]
    unfold idxV at hi
    cases hf : flagNames.findIdx? (· == t) with
    | none => rw [hf] at hi; subst hi; rfl
    | some j => rw [hf] at hi; subst hi; simp
  have hir : -1 ≤ i ∧ i < 5 := by
    unfold idxV at hi
    cases hf : flagNames.findIdx? (· == t) with
    | none => rw [hf] at hi; simp at hi; omega
    | some j =>
      rw [hf] at hi
      have := (List.findIdx?_eq_some_iff_getElem.1 hf).1
      have h5 : flagNames.length = 5 := rfl
      simp at hi
      omega
  have hz4 := hs2.size
  refine wl_local [.int .i64 i] hA rfl rfl (by decide) (fun ev h => by simp [go_sem]; try first | exact ⟨rfl, rfl⟩ | rfl) rfl rfl (by rfl) (fun w1 g ev hb h => by simp [go_sem, h.get 4 rfl, h.get 12 rfl, setAll, hb.cell, hb.frozen]) fun w5 a (K5 : Blk _ _ _ _) hz5 hb5 hA => ?_
  replace HB := HB.trans (hb5.mono HB.size)
  replace K2 := K2.below hb5 K2.lt
  replace hA := hA.keepN [3, 4]
  refine wN (nT (wS (wS (wR ?_))))
  revert a; (iterate 2 refine wo rfl rfl (by decide) (fun ev e h => by simp [go_sem, h, K5.cell] <;> rfl) ?_); intro a hA
  replace hA := hA.keepN [3, 4, 14]
  refine wN (nT ?_)
  refine wp_if hA 14 _ rfl (fun hq => ?yA) (fun hq => ?nA)
  case yA =>
    refine wS (wR ?_)
    revert a; refine wo rfl rfl (by decide) (fun ev e h => by simp [go_sem, h, K5.cell] <;> rfl) ?_; intro a hA
    replace hA := hA.keepN [2]
    refine wN (nT (wp_ret (rT ?_)))
    refine ret_1 hA 2 rfl rfl ?_
    refine ⟨_, rfl, HB, ?_⟩
    rw [hfl, if_pos (by simpa using hq)]
    rfl
  case nA =>
    refine wp_skip (nT (wS (wR ?_)))
    revert a; (iterate 2 refine wo rfl rfl (by decide) (fun ev e h => by simp [go_sem, h, K5.cell] <;> rfl) ?_); intro a hA
    replace hA := hA.keepN [2]
    refine wN (nT (wp_ret ?_))
    refine ret_1 hA 2 rfl rfl ?_
    refine ⟨_, rfl, HB, ?_⟩
    have hi0 : 0 ≤ i := by simp at hq; omega
    rw [hfl, if_neg (by omega)]
    obtain ⟨n, rfl⟩ := Int.eq_ofNat_of_zero_le hi0
    exact ⟨⟨_, _, _, rfl⟩, .flag K5 K2 (by omega) (by omega) (by omega)⟩
end Go.Proofs.YtjhaccmcjlbllaaGreatDoor
/-
  Walks: parse.item, items.
-/
namespace Go.Proofs.YtjhaccmcjlbllaaGreatDoor
open Go.RowKit
set_option linter.unusedSimpArgs false
set_option linter.unusedVariables false
set_option linter.unusedSimpArgs false
set_option linter.unusedVariables false
def itemNames : List (List UInt8) := [[85, 73, 68], [70, 76, 65, 71, 83], [73, 78, 84, 69, 82, 78, 65, 76, 68, 65, 84, 69], [82, 70, 67, 56, 50, 50, 46, 83, 73, 90, 69], [69, 78, 86, 69, 76, 79, 80, 69], [66, 79, 68, 89, 91, 93], [66, 79, 68, 89, 91, 72, 69, 65, 68, 69, 82, 93], [66, 79, 68, 89, 91, 84, 69, 88, 84, 93]]
set_option maxRecDepth 100000 in
set_option maxHeartbeats 4000000 in
theorem item_any (s : List UInt8) (w : World) (hs : s.length ≤ 1048576) : Calls Tryz.prog 155 #[.string (St s)] w fun ev w' => ∃ k b, ev = .returned (.agg #[.int .i64 k, .bool b]) ∧ Below w.heap.size w w' := by
  have HB := Below.refl w.heap.size w
  refine calls_at 30 Tryz.func155 rfl rfl (Nat.le_of_ble_eq_true rfl) ?_
  intro a hA; replace hA := hA.norm
  refine wS (wR ?_)
  refine wl_new hA rfl rfl (by decide) (fun ev h => by simp [go_sem]; try first | exact ⟨rfl, rfl⟩ | rfl) fun w1 a (K1 : Blk _ _ _ _) hz1 hb1 hA => ?_
  replace HB := HB.trans (hb1.mono HB.size)
  replace hA := hA.keepN [0, 2]
  refine wN (nT (wS (wR ?_)))
  revert a; refine wo rfl rfl (by decide) (fun ev e h => by simp [go_sem, h] <;> rfl) ?_; intro a hA
  refine wl_call hA rfl rfl (by decide) (fun ev h => exec_call Tryz.func50 (by kernel_rfl) rfl (h.f _) (by first | (simp only [mL, h.get 7 rfl, h.c] <;> rfl) | (simp [mL, h.get 7 rfl, h.c] <;> rfl))) (great_any s w1 (by omega)) ?_
  rintro e w2 ⟨rfl, hb2⟩
  refine ⟨_, rfl, fun a hA => ?_⟩
  replace HB := HB.trans (hb2.mono HB.size)
  replace K1 := K1.below hb2 K1.lt
  revert a; refine wo rfl rfl (by decide) (fun ev e h => by simp [go_sem, h] <;> rfl) ?_; intro a hA
  replace hA := hA.keepN [0, 2]
  refine wN (nT (wS (wR ?_)))
  refine wl_new hA rfl rfl (by decide) (fun ev h => by simp [go_sem, h.c]; try first | exact ⟨rfl, rfl⟩ | rfl) fun w3 a (KN : Blk _ _ _ _) hz3 hb3 hA => ?_
  replace HB := HB.trans (hb3.mono HB.size)
  replace K1 := K1.below hb3 K1.lt
  revert a; refine wo rfl rfl (by decide) (fun ev e h => by simp [go_sem, h] <;> rfl) ?_; intro a hA
  replace hA := hA.keepN [0, 2, 3]
  refine wN (nT (wS (wR ?_)))
  revert a; refine wo rfl rfl (by decide) (fun ev e h => by simp [go_sem, h] <;> rfl) ?_; intro a hA
  refine wl_local [.int .i64 0, .bool false] hA rfl rfl (by decide) (fun ev h => by simp [go_sem]; try first | exact ⟨rfl, rfl⟩ | rfl) rfl rfl (by rfl) (fun w1 g ev hb h => by simp [go_sem, h.get 4 rfl, h.get 10 rfl, setAll, hb.cell, hb.frozen]) fun w4 a (K4 : Blk _ _ _ _) hz4 hb4 hA => ?_
  replace HB := HB.trans (hb4.mono HB.size)
  replace K1 := K1.below hb4 K1.lt
  replace KN := KN.below hb4 KN.lt
  replace hA := hA.keepN [0, 2, 3, 4]
  refine wN (nT (wS (wS (wR ?_))))
  revert a; refine wo rfl rfl (by decide) (fun ev e h => by simp [go_sem, h] <;> rfl) ?_; intro a hA
  refine wl_call hA rfl rfl (by decide) (fun ev h => exec_call Tryz.func103 (by kernel_rfl) rfl (h.f _) (by first | (simp only [mL, h.get 12 rfl, h.c] <;> rfl) | (simp [mL, h.get 12 rfl, h.c] <;> rfl))) (Tryz.strings_CutPrefix (St (greatS s)) _ _) ?_
  rintro e w5 ⟨rfl, rfl⟩
  refine ⟨_, rfl, fun a hA => ?_⟩
  obtain ⟨rest, hrest⟩ : ∃ r, Lib.trimPrefix (St (greatS s)).data.toList (⟨#[66, 79, 68, 89, 46, 80, 69, 69, 75, 91]⟩ : ByteArray).data.toList = r := ⟨_, rfl⟩
  obtain ⟨p, hp⟩ : ∃ r, Lib.hasPrefix (St (greatS s)).data.toList (⟨#[66, 79, 68, 89, 46, 80, 69, 69, 75, 91]⟩ : ByteArray).data.toList = r := ⟨_, rfl⟩
  have hrl : rest.length ≤ s.length := by
    rw [← hrest]
    show (Lib.trimPrefix (greatS s) _).length ≤ _
    unfold Lib.trimPrefix
    split
    · rw [List.length_drop]; unfold greatS; rw [List.length_map]; omega
    · unfold greatS; rw [List.length_map]; omega
  have hnl : ¬ 9223372036854775807 < 5 + rest.length := by omega
  rw [hrest, hp] at hA
  have zz1 := hb2.size
  revert a; (iterate 5 refine wo rfl rfl (by decide) (fun ev e h => by simp [go_sem, h] <;> rfl) ?_); intro a hA
  replace hA := hA.keepN [0, 2, 3, 4, 5, 6]
  refine wN (nT (wS (wR ?_)))
  revert a; refine wo rfl rfl (by decide) (fun ev e h => by simp [go_sem, h] <;> rfl) ?_; intro a hA
  replace hA := hA.keepN [0, 2, 3, 4, 5, 16]
  refine wN (nT ?_)
  refine wp_if hA 16 _ rfl (fun hq => ?yA) (fun hq => ?nA)
  case yA =>
    refine wR ?_
    revert a; (iterate 4 refine wo rfl rfl (by decide) (fun ev e h => by simp [go_sem, h, st_app, hnl] <;> rfl) ?_); intro a hA
    refine wl_setf ([.int .i64 0, .bool true]) _ hA rfl rfl K4 (j := 1) (by rfl) (fun ev h => by simp [go_sem, h.c, h.get 19 rfl, st_app, hnl, K4.cell, K4.frozen]; try first | exact ⟨rfl, rfl⟩ | rfl) fun w6 (K4 : Blk _ _ _ _) hs6 => ?_
    replace K1 := hs6.blk K1 (by omega)
    replace KN := hs6.blk KN (by omega)
    replace HB := hs6.below HB (by omega)

    replace hA := hA.keepN [0, 2, 3, 4]
    refine wN (nT (wS (wR ?_)))
    revert a; (iterate 2 refine wo rfl rfl (by decide) (fun ev e h => by simp [go_sem, h] <;> rfl) ?_); intro a hA
    refine wl_call hA rfl rfl (by decide) (fun ev h => exec_call Tryz.func159 (by kernel_rfl) rfl (h.f _) (by first | (simp only [mL, h.get 20 rfl, h.get 21 rfl, h.c] <;> rfl) | (simp [mL, h.get 20 rfl, h.get 21 rfl, h.c] <;> rfl))) (indexS_any itemNames (66 :: 79 :: 68 :: 89 :: 91 :: rest) _ _ _ KN (by decide)) ?_
    rintro e w7 ⟨rfl, rfl⟩
    refine ⟨_, rfl, fun a hA => ?_⟩
    obtain ⟨z, hz⟩ : ∃ z, idxV itemNames (66 :: 79 :: 68 :: 89 :: 91 :: rest) = z := ⟨_, rfl⟩
    rw [hz] at hA
    obtain ⟨z1, hz1⟩ : ∃ z1, IntKind.i64.wrap (z + 1) = z1 := ⟨_, rfl⟩
    revert a; (iterate 2 refine wo rfl rfl (by decide) (fun ev e h => by simp [go_sem, h, hz1] <;> rfl) ?_); intro a hA
    refine wl_setf ([.int .i64 z1, .bool true]) _ hA rfl rfl K4 (j := 0) (by rfl) (fun ev h => by simp [go_sem, h.get 24 rfl, h.get 23 rfl, hz1, K4.cell, K4.frozen]; try first | exact ⟨rfl, rfl⟩ | rfl) fun w8 (K4 : Blk _ _ _ _) hs8 => ?_
    replace K1 := hs8.blk K1 (by omega)
    replace HB := hs8.below HB (by omega)
    replace hA := hA.keepN [2, 4]
    refine wN (nT (wS (wS (wR ?_))))
    revert a; (iterate 3 refine wo rfl rfl (by decide) (fun ev e h => by simp [go_sem, h, K4.cell] <;> rfl) ?_); intro a hA
    replace hA := hA.keepN [2, 4, 27]
    refine wN (nT ?_)
    refine wp_if hA 27 _ rfl (fun hq2 => ?yB) (fun hq2 => ?nB)
    case yB =>
      refine wS (wR ?_)
      revert a; refine wo rfl rfl (by decide) (fun ev e h => by simp [go_sem, h, K4.cell] <;> rfl) ?_; intro a hA
      refine wl_set [.int .i64 0, .bool false] hA rfl rfl K1 (by rfl) (fun ev h => by simp [go_sem, h.get 2 rfl, h.get 28 rfl, K4.cell, setAll, K1.cell, K1.frozen]) fun w9 (K1 : Blk _ _ _ _) hs9 => ?_
      replace hA := hA.keepN [2]
      refine wN (nT (wp_ret (rT ?_)))
      refine bodyPost_ret (by simp [results, Tryz.results155, go_sem, hA.env 2 _ rfl, K1.cell]; try first | exact ⟨rfl, rfl⟩ | rfl) hA.defers ?_
      exact ⟨_, _, rfl, hs9.below HB (by omega)⟩
    case nB =>
      refine wp_skip (nT (wS (wR ?_)))
      revert a; refine wo rfl rfl (by decide) (fun ev e h => by simp [go_sem, h, K4.cell] <;> rfl) ?_; intro a hA
      refine wl_set [.int .i64 z1, .bool true] hA rfl rfl K1 (by rfl) (fun ev h => by simp [go_sem, h.get 2 rfl, h.get 29 rfl, K4.cell, setAll, K1.cell, K1.frozen]) fun w9 (K1 : Blk _ _ _ _) hs9 => ?_
      replace hA := hA.keepN [2]
      refine wN (nT (wp_ret ?_))
      refine bodyPost_ret (by simp [results, Tryz.results155, go_sem, hA.env 2 _ rfl, K1.cell]; try first | exact ⟨rfl, rfl⟩ | rfl) hA.defers ?_
      exact ⟨_, _, rfl, hs9.below HB (by omega)⟩
  case nA =>

    refine wp_skip (nT (wS (wR ?_)))
    revert a; (iterate 2 refine wo rfl rfl (by decide) (fun ev e h => by simp [go_sem, h] <;> rfl) ?_); intro a hA
    refine wl_call hA rfl rfl (by decide) (fun ev h => exec_call Tryz.func159 (by kernel_rfl) rfl (h.f _) (by first | (simp only [mL, h.get 20 rfl, h.get 21 rfl, h.c] <;> rfl) | (simp [mL, h.get 20 rfl, h.get 21 rfl, h.c] <;> rfl))) (indexS_any itemNames (greatS s) _ _ _ KN (by decide)) ?_
    rintro e w7 ⟨rfl, rfl⟩
    refine ⟨_, rfl, fun a hA => ?_⟩
    obtain ⟨z, hz⟩ : ∃ z, idxV itemNames (greatS s) = z := ⟨_, rfl⟩
    rw [hz] at hA
    obtain ⟨z1, hz1⟩ : ∃ z1, IntKind.i64.wrap (z + 1) = z1 := ⟨_, rfl⟩
    revert a; (iterate 2 refine wo rfl rfl (by decide) (fun ev e h => by simp [go_sem, h, hz1] <;> rfl) ?_); intro a hA
    refine wl_setf ([.int .i64 z1, .bool false]) _ hA rfl rfl K4 (j := 0) (by rfl) (fun ev h => by simp [go_sem, h.get 24 rfl, h.get 23 rfl, hz1, K4.cell, K4.frozen]; try first | exact ⟨rfl, rfl⟩ | rfl) fun w8 (K4 : Blk _ _ _ _) hs8 => ?_
    replace K1 := hs8.blk K1 (by omega)
    replace HB := hs8.below HB (by omega)
    replace hA := hA.keepN [2, 4]
    refine wN (nT (wS (wS (wR ?_))))
    revert a; (iterate 3 refine wo rfl rfl (by decide) (fun ev e h => by simp [go_sem, h, K4.cell] <;> rfl) ?_); intro a hA
    replace hA := hA.keepN [2, 4, 27]
    refine wN (nT ?_)
    refine wp_if hA 27 _ rfl (fun hq3 => ?yC) (fun hq3 => ?nC)
    case yC =>
      refine wS (wR ?_)
      revert a; refine wo rfl rfl (by decide) (fun ev e h => by simp [go_sem, h, K4.cell] <;> rfl) ?_; intro a hA
      refine wl_set [.int .i64 0, .bool false] hA rfl rfl K1 (by rfl) (fun ev h => by simp [go_sem, h.get 2 rfl, h.get 28 rfl, K4.cell, setAll, K1.cell, K1.frozen]) fun w9 (K1 : Blk _ _ _ _) hs9 => ?_
      replace hA := hA.keepN [2]
      refine wN (nT (wp_ret (rT ?_)))
      refine bodyPost_ret (by simp [results, Tryz.results155, go_sem, hA.env 2 _ rfl, K1.cell]; try first | exact ⟨rfl, rfl⟩ | rfl) hA.defers ?_
      exact ⟨_, _, rfl, hs9.below HB (by omega)⟩
    case nC =>
      refine wp_skip (nT (wS (wR ?_)))
      revert a; refine wo rfl rfl (by decide) (fun ev e h => by simp [go_sem, h, K4.cell] <;> rfl) ?_; intro a hA
      refine wl_set [.int .i64 z1, .bool false] hA rfl rfl K1 (by rfl) (fun ev h => by simp [go_sem, h.get 2 rfl, h.get 29 rfl, K4.cell, setAll, K1.cell, K1.frozen]) fun w9 (K1 : Blk _ _ _ _) hs9 => ?_
      replace hA := hA.keepN [2]
      refine wN (nT (wp_ret ?_))
      refine bodyPost_ret (by simp [results, Tryz.results155, go_sem, hA.env 2 _ rfl, K1.cell]; try first | exact ⟨rfl, rfl⟩ | rfl) hA.defers ?_
      exact ⟨_, _, rfl, hs9.below HB (by omega)⟩
end Go.Proofs.YtjhaccmcjlbllaaGreatDoor
/-
  Walks: flag.lower, names, Parse.
-/
namespace Go.Proofs.YtjhaccmcjlbllaaGreatDoor
open Go.RowKit
set_option linter.unusedSimpArgs false
set_option linter.unusedVariables false
set_option linter.unusedSimpArgs false
set_option linter.unusedVariables false
set_option maxRecDepth 100000 in
set_option maxHeartbeats 4000000 in
theorem flower_any (s : List UInt8) (w : World) (hs : s.length ≤ 1000000000) : Calls Tryz.prog 200 #[.string (St s)] w fun ev w' => ev = .returned (.string (St (lowerS s))) ∧ Below w.heap.size w w' := by
  obtain ⟨c, w1, hcv, hK, hb1, hz1⟩ := conv_bytF s w
  refine calls_at 30 Tryz.func200 rfl rfl (Nat.le_of_ble_eq_true rfl) ?_
  intro a hA; replace hA := hA.norm
  refine wS (wR ?_)
  revert a; refine wo rfl rfl (by decide) (fun ev e h => by simp [go_sem, h] <;> rfl) ?_; intro a hA
  replace hA := hA.keepN [0]
  refine wN (nT (wS (wR ?_)))
  revert a; refine wo rfl rfl (by decide) (fun ev e h => by simp [go_sem, h] <;> rfl) ?_; intro a hA
  refine wl_op hA rfl rfl (by decide) (fun ev h => by simp [go_sem, h.get 6 rfl, hcv]; try first | exact ⟨rfl, rfl⟩ | rfl) fun a hA => ?_
  revert a; refine wo rfl rfl (by decide) (fun ev e h => by simp [go_sem, h] <;> rfl) ?_; intro a hA
  replace hA := hA.keepN [3]
  refine wN (nT (wS (wS (wR ?_))))
  revert a; (iterate 3 refine wo rfl rfl (by decide) (fun ev e h => by simp [go_sem, h] <;> rfl) ?_); intro a hA
  replace hA := hA.keepN [3, 8, 9, 10]
  refine wN (nT (wB ?_))
  refine wp_loop_at (fun f a wx => ∃ j : Nat, j + f = s.length ∧ BytF wx w.heap.size (mixS low1 s j) ∧ Below w.heap.size w wx ∧ wx.heap.size = w1.heap.size ∧ At 30 [(3, .slice (some ⟨w.heap.size, 0, none⟩) s.length c), (8, .slice (some ⟨w.heap.size, 0, none⟩) s.length c), (9, .int .i64 (s.length : Nat)), (10, .int .i64 (j : Nat))] a) (s.length) ?_ ?_
  · exact ⟨0, by omega, hK, hb1, rfl, hA⟩
  clear hA hK hb1
  rintro f a wx ⟨j, hjf, hK, HB, hzx, hA⟩
  refine wS (wR ?_)
  revert a; refine wo rfl rfl (by decide) (fun ev e h => by simp [go_sem, h] <;> rfl) ?_; intro a hA
  replace hA := hA.keepN [3, 8, 9, 10, 11]
  refine wN (nT (wS ?_))
  refine wp_if hA 11 _ rfl (fun hq => ?yA) (fun hq => ?nA)
  case nA =>
    have hjn : s.length ≤ j := by simp at hq; omega
    rw [mix_all hjn] at hK
    have hr := hK.reads
    rw [List.length_map] at hr
    have hcv2 := conv_reads (n := s.length) (c := c) (l := s.map low1) (by rw [List.length_map]) hr
    replace hA := hA.keepN [3]
    refine wp_exit (xT (xT (xB (nT (wS (wR ?_))))))
    revert a; refine wo rfl rfl (by decide) (fun ev e h => by simp [go_sem, h, hcv2] <;> rfl) ?_; intro a hA
    refine wl_op hA rfl rfl (by decide) (fun ev h => by simp [go_sem, h.get 28 rfl, hcv2]; try first | exact ⟨rfl, rfl⟩ | rfl) fun a hA => ?_
    revert a; refine wo rfl rfl (by decide) (fun ev e h => by simp [go_sem, h, hcv2] <;> rfl) ?_; intro a hA
    replace hA := hA.keepN [2]
    refine wN (nT (wp_ret ?_))
    refine ret_1 hA 2 rfl rfl ?_
    exact ⟨rfl, HB⟩
  case yA =>
    have hjn : j < s.length := by simp at hq; omega
    obtain ⟨x, hx⟩ : ∃ x, s[j]? = some x := ⟨_, List.getElem?_eq_getElem hjn⟩
    have hcell := hK.cell (mix_at (f := low1) hx)
    have jj0 : (0 : Int) ≤ (j : Int) := by omega
    have jj1 : (j : Int) < (s.length : Int) := by omega
    have i3 : IntKind.i64.wrap (((j : Nat) : Int) + 1) = ((j + 1 : Nat) : Int) := by rw [IntWalk.i64_in _ (by omega)]; omega
    refine wp_skip (nT (wS (wB (wS (wR ?_)))))
    revert a; (iterate 5 refine wo rfl rfl (by decide) (fun ev e h => by simp [go_sem, h, add0, hcell, jj0, jj1] <;> rfl) ?_); intro a hA
    replace hA := hA.keepN [3, 4, 5, 8, 9, 10]
    refine wN (nT (wS (wR ?_)))
    revert a; (iterate 3 refine wo rfl rfl (by decide) (fun ev e h => by simp [go_sem, h, add0, hcell, jj0, jj1] <;> rfl) ?_); (iterate 2 refine wg _ rfl rfl rfl rfl (by decide) (fun hq ev e h => by simp [go_sem, h, ↓gw_t (beq_t hq), add0, hcell, jj0, jj1] <;> rfl) ?_); refine wka rfl rfl (by decide) rfl rfl rfl ?_; intro a hA
    replace hA := hA.keepN [3, 4, 5, 8, 9, 10, 20]
    refine wN (nT ?_)
    refine wp_if hA 20 _ rfl (fun hq2 => ?yB) (fun hq2 => ?nB)
    case nB =>
      have hn : low1 x = x := low_no (by simp at hq2; omega)
      rw [← mix_skip hx hn] at hK
      refine wp_skip (nB (nT (wR ?_)))
      revert a; (iterate 2 refine wo rfl rfl (by decide) (fun ev e h => by simp [go_sem, h, i3] <;> rfl) ?_); intro a hA
      replace hA := hA.keepN [3, 8, 9, 10]
      refine wN (nT ?_)
      exact ⟨f - 1, by omega, j + 1, by omega, hK, HB, hzx, hA⟩
    case yB =>
      have h1 : 65 ≤ x.toNat ∧ x.toNat ≤ 90 := by simp at hq2; omega
      have hy := low_yes h1.1 h1.2
      obtain ⟨y, hye⟩ : ∃ y, low1 x = y := ⟨_, rfl⟩
      rw [hye] at hy
      have u1 : IntKind.u8.wrap (((x.toNat : Nat) : Int) + 97) = ((x.toNat + 97 : Nat) : Int) := by rw [IntWalk.u8_in _ (by omega)]; omega
      have u2 : IntKind.u8.wrap (((x.toNat + 97 : Nat) : Int) - 65) = ((y.toNat : Nat) : Int) := by rw [IntWalk.u8_in _ (by omega)]; omega
      obtain ⟨q, hq9⟩ : ∃ q, x.toNat + 97 = q := ⟨_, rfl⟩
      rw [hq9] at u1 u2
      have hlj : j < (mixS low1 s j).length := by rw [mix_len]; exact hjn
      refine wR ?_
      revert a; (iterate 6 refine wo rfl rfl (by decide) (fun ev e h => by simp [go_sem, h, add0, u1, u2, jj0, jj1, hcell] <;> rfl) ?_); intro a hA
      refine wl_setb (y) hA rfl rfl hK hlj (fun ev h => by simp [go_sem, h.get 26 rfl, h.get 25 rfl, add0, u1, u2, jj0, jj1, hcell, add0, hK.frozen hlj]; try first | exact ⟨rfl, rfl⟩ | rfl) fun w2 hK hs2 => ?_
      rw [← hye, mix_set hx] at hK
      replace hA := hA.keepN [3, 8, 9, 10]
      refine wN (nB (nT (wR ?_)))
      revert a; (iterate 2 refine wo rfl rfl (by decide) (fun ev e h => by simp [go_sem, h, i3] <;> rfl) ?_); intro a hA
      replace hA := hA.keepN [3, 8, 9, 10]
      refine wN (nT ?_)
      exact ⟨f - 1, by omega, j + 1, by omega, hK, hs2.below HB (Nat.le_refl _), by rw [hs2.size]; exact hzx, hA⟩
def flagNs : List (List UInt8) := [[92, 83, 101, 101, 110], [92, 65, 110, 115, 119, 101, 114, 101, 100], [92, 70, 108, 97, 103, 103, 101, 100], [92, 68, 101, 108, 101, 116, 101, 100], [92, 68, 114, 97, 102, 116]]
set_option maxRecDepth 100000 in
theorem names_any (w : World) : Calls Tryz.prog 82 #[] w fun ev w' => ev = .returned (.slice (some ⟨w.heap.size, 0, none⟩) 5 5) ∧ Blk w' w.heap.size 9 (flagNs.map fun t => Value.string (St t)).toArray ∧ w'.heap.size = w.heap.size + 1 ∧ Below w.heap.size w w' := by
  refine calls_at 2 Tryz.func82 rfl rfl (Nat.le_of_ble_eq_true rfl) ?_
  intro a hA; replace hA := hA.norm
  refine wS (wR ?_)
  revert a; refine wo rfl rfl (by decide) (fun ev e h => by simp [go_sem, h] <;> rfl) ?_; intro a hA
  replace hA := hA.keepN []
  refine wN (nT (wS (wR ?_)))
  refine wl_new hA rfl rfl (by decide) (fun ev h => by simp [go_sem, h.c]; try first | exact ⟨rfl, rfl⟩ | rfl) fun w1 a (K1 : Blk _ _ _ _) hz1 hb1 hA => ?_
  revert a; refine wo rfl rfl (by decide) (fun ev e h => by simp [go_sem, h] <;> rfl) ?_; intro a hA
  replace hA := hA.keepN [0]
  refine wN (nT (wp_ret ?_))
  refine ret_1 hA 0 rfl rfl ?_
  exact ⟨rfl, K1, hz1, hb1⟩
def flagEq (s n : List UInt8) : Bool := lowerS n == lowerS s
set_option maxRecDepth 100000 in
set_option maxHeartbeats 4000000 in
theorem flagEq_any (s n : List UInt8) (p : Nat) (w : World) (K : Blk w p 9 #[.string (St s)]) (hs : s.length ≤ 1048576) (hn : n.length ≤ 1048576) : Calls Tryz.prog 199 #[.string (St n), .pointer (some ⟨p, 0, none⟩)] w fun ev w' => ev = .returned (.bool (flagEq s n)) ∧ Below w.heap.size w w' := by
  refine calls_at 9 Tryz.func199 rfl rfl (Nat.le_of_ble_eq_true rfl) ?_
  intro a hA; replace hA := hA.norm
  refine wS (wR ?_)
  revert a; refine wo rfl rfl (by decide) (fun ev e h => by simp [go_sem, h] <;> rfl) ?_; intro a hA
  replace hA := hA.keepN [0, 1]
  have pE := fun (wo : World) (hC : (fun wy => Below w.heap.size w wy) wo) => have Kx := K.below hC K.lt; (Kx.cell)
  refine wN (nT (wS ?_))
  refine wp_any_at hA [(.det ?dE0), (.det ?dE1), (.det ?dE2), (.det ?dE3), (.det ?dE4), (.det ?dE5)] [] (fun wy => Below w.heap.size w wy) (TSp [] Grows) (by kernel_rfl) rfl (by kernel_rfl) (by kernel_rfl) rfl ((Below.refl w.heap.size w).drew) (stab_sp [] [true, true, true, true, true, true] [true, true, true, true, true, true] [] rfl rfl rfl (by kernel_rfl) ⟨trivial, trivial, trivial, trivial, trivial, trivial, trivial⟩ trivial) (fun _ h => by cases h) (fun _ _ _ _ _ h => by cases h) (fun _ h => by cases h) ⟨?oE0, ?oE1, ?oE2, ?oE3, ?oE4, ?oE5, trivial⟩ (by kernel_rfl) ?fE
  case oE0 => intro ev wo hev hC hs hph; have x0 := se hA hs 0; exact od rfl rfl (by kernel_rfl) hC (TSp.of rfl (Grows.refl _)) (by simp [go_sem, x0] <;> rfl)
  case oE1 =>
    intro ev wo hev hC hs hph
    have e4 := sd hs 4 0
    have Kx := K.below hC K.lt
    exact ob_dcall (wanted_none rfl) rfl (by kernel_rfl) (flower_any n _ (by omega)) (exec_call Tryz.func200 (by kernel_rfl) rfl (hev.func _) (by first | (simp only [mL, e4, hev.const] <;> rfl) | (simp [mL, e4, hev.const] <;> rfl))) (by rfl) (fun w3 hb3 => ⟨hC.trans (hb3.mono hC.size), TSp.of rfl hb3⟩)
  case oE2 => intro ev wo hev hC hs hph; have x0 := se hA hs 1; exact od rfl rfl (by kernel_rfl) hC (TSp.of rfl (Grows.refl _)) (by simp [go_sem, x0, pE _ hC] <;> rfl)
  case oE3 =>
    intro ev wo hev hC hs hph
    have e6 := sd hs 6 2
    have Kx := K.below hC K.lt
    exact ob_dcall (wanted_none rfl) rfl (by kernel_rfl) (flower_any s _ (by omega)) (exec_call Tryz.func200 (by kernel_rfl) rfl (hev.func _) (by first | (simp only [mL, e6, hev.const] <;> rfl) | (simp [mL, e6, hev.const] <;> rfl))) (by rfl) (fun w3 hb3 => ⟨hC.trans (hb3.mono hC.size), TSp.of rfl hb3⟩)
  case oE4 => intro ev wo hev hC hs hph; have x0 := sd hs 5 1; have x1 := sd hs 7 3; exact od rfl rfl (by kernel_rfl) hC (TSp.of rfl (Grows.refl _)) (by simp [go_sem, x0, x1] <;> rfl)
  case oE5 => intro ev wo hev hC hs hph; have x0 := sd hs 8 4; exact od rfl rfl (by kernel_rfl) hC (TSp.of rfl (Grows.refl _)) (by simp [go_sem, x0] <;> rfl)
  intro sg wf hC hph
  intro a hA
  replace hA := hA.keepN [3]
  refine nT (wp_ret ?_)
  refine ret_1 hA 3 rfl rfl ?_
  exact ⟨rfl, hC⟩
def idxP {α : Type} (f : α → Bool) (L : List α) : Int := match L.findIdx? f with
  | some i => (i : Int)
  | none => -1
theorem idxP_at {α : Type} {f : α → Bool} {L : List α} {x : α} {j : Nat} (hj : L[j]? = some x) (hx : f x = true) (h : ∀ i y, i < j → L[i]? = some y → f y = false) : idxP f L = (j : Int) := by
  unfold idxP
  obtain ⟨hlt, he⟩ := List.getElem?_eq_some_iff.1 hj
  rw [show L.findIdx? f = some j from List.findIdx?_eq_some_iff_getElem.2 ⟨hlt, by rw [he]; exact hx, fun i hi => by
    rw [h i _ hi (List.getElem?_eq_getElem (by omega))]; decide⟩]
theorem idxP_none {α : Type} {f : α → Bool} {L : List α} (h : ∀ i y, i < L.length → L[i]? = some y → f y = false) : idxP f L = -1 := by
  unfold idxP
  rw [show L.findIdx? f = none from List.findIdx?_eq_none_iff.2 fun x hx => by
    obtain ⟨i, hi, rfl⟩ := List.getElem_of_mem hx
    exact h i _ hi (List.getElem?_eq_getElem hi)]
theorem idxP_lt {α : Type} (f : α → Bool) (L : List α) : -1 ≤ idxP f L ∧ idxP f L < (L.length : Int) := by
  unfold idxP
  cases h : L.findIdx? f with
  | none => exact ⟨by decide, by show (-1 : Int) < _; omega⟩
  | some i =>
    obtain ⟨hlt, _⟩ := List.findIdx?_eq_some_iff_getElem.1 h
    exact ⟨by show (-1 : Int) ≤ (i : Int); omega, by show (i : Int) < _; omega⟩
set_option maxRecDepth 100000 in
set_option maxHeartbeats 4000000 in
theorem indexF_any (s : List UInt8) (p g c : Nat) (w : World) (L : List (List UInt8)) (K : Blk w g 9 (L.map fun t => Value.string (St t)).toArray) (Kp : Blk w p 9 #[.string (St s)]) (hs : s.length ≤ 1048576) (hL : ∀ n ∈ L, n.length ≤ 1048576) (hl : L.length ≤ 1000000) : Calls Tryz.prog 198 #[.slice (some ⟨g, 0, none⟩) L.length c, .func (.func 199) #[] #[.pointer (some ⟨p, 0, none⟩)]] w fun ev w' => ev = .returned (.int .i64 (idxP (flagEq s) L)) ∧ Below w.heap.size w w' := by
  refine calls_at 19 Tryz.func198 rfl rfl (Nat.le_of_ble_eq_true rfl) ?_
  intro a hA; replace hA := hA.norm
  refine wS (wR ?_)
  revert a; refine wo rfl rfl (by decide) (fun ev e h => by simp [go_sem, h] <;> rfl) ?_; intro a hA
  replace hA := hA.keepN [0, 1]
  refine wN (nT (wS (wS (wR ?_))))
  revert a; (iterate 3 refine wo rfl rfl (by decide) (fun ev e h => by simp [go_sem, h] <;> rfl) ?_); intro a hA
  replace hA := hA.keepN [0, 1, 7, 8]
  refine wN (nT (wB ?_))
  refine wp_loop_at (fun k a wx => ∃ j : Nat, j + k = L.length ∧ (∀ i y, i < j → L[i]? = some y → flagEq s y = false) ∧ Below w.heap.size w wx ∧ At 19 [(0, .slice (some ⟨g, 0, none⟩) L.length c), (1, .func (.func 199) #[] #[.pointer (some ⟨p, 0, none⟩)]), (7, .int .i64 (L.length : Nat)), (8, .int .i64 (j : Nat))] a) (L.length) ?_ ?_
  · exact ⟨0, by omega, fun i y hi => absurd hi (Nat.not_lt_zero _), Below.refl _ _, hA⟩
  clear hA
  rintro k a wx ⟨j, hjk, hno, HB, hA⟩
  refine wS (wR ?_)
  revert a; refine wo rfl rfl (by decide) (fun ev e h => by simp [go_sem, h] <;> rfl) ?_; intro a hA
  replace hA := hA.keepN [0, 1, 7, 8, 9]
  refine wN (nT (wS ?_))
  refine wp_if hA 9 _ rfl (fun hq => ?yA) (fun hq => ?nA)
  case nA =>
    have hjn : L.length ≤ j := by simp at hq; omega
    replace hA := hA.keepN []
    refine wp_exit (xT (xT (xB (nT (wS (wR ?_))))))
    revert a; refine wo rfl rfl (by decide) (fun ev e h => by simp [go_sem, h] <;> rfl) ?_; intro a hA
    replace hA := hA.keepN [4]
    refine wN (nT (wp_ret ?_))
    refine ret_1 hA 4 rfl rfl ?_
    exact ⟨by rw [idxP_none fun i y hi => hno i y (by omega)], HB⟩
  case yA =>
    have hjn : j < L.length := by simp at hq; omega
    obtain ⟨x, hx⟩ : ∃ x, L[j]? = some x := ⟨_, List.getElem?_eq_getElem hjn⟩
    have hcell : wx.cell? ⟨g, j, none⟩ = some (.string (St x)) := ((K.below HB K.lt).cell j).trans (by simp [hx])
    have Kpx := Kp.below HB Kp.lt
    have jj0 : (0 : Int) ≤ (j : Int) := by omega
    have jj1 : (j : Int) < (L.length : Int) := by omega
    have i3 : IntKind.i64.wrap (((j : Nat) : Int) + 1) = ((j + 1 : Nat) : Int) := by rw [IntWalk.i64_in _ (by omega)]; omega
    refine wp_skip (nT (wS (wB (wS (wR ?_)))))
    revert a; (iterate 2 refine wo rfl rfl (by decide) (fun ev e h => by simp [go_sem, h, add0, hcell, jj0, jj1] <;> rfl) ?_); intro a hA
    replace hA := hA.keepN [0, 1, 5, 7, 8]
    refine wN (nT (wS (wR ?_)))
    revert a; (iterate 5 refine wo rfl rfl (by decide) (fun ev e h => by simp [go_sem, h, add0, hcell, jj0, jj1] <;> rfl) ?_); intro a hA
    refine wl_call hA rfl rfl (by decide) (fun ev h => by simp [go_sem, h.get 11 rfl, h.get 15 rfl, add0, hcell, jj0, jj1]; try first | exact ⟨rfl, rfl⟩ | rfl) (flagEq_any s x p wx Kpx hs (hL x (List.mem_of_getElem? hx))) ?_
    rintro e w2 ⟨rfl, hb2⟩
    refine ⟨_, rfl, fun a hA => ?_⟩
    replace HB := HB.trans (hb2.mono HB.size)
    replace hA := hA.keepN [0, 1, 5, 7, 8, 16]
    refine wN (nT ?_)
    obtain ⟨b, hb⟩ : ∃ b, flagEq s x = b := ⟨_, rfl⟩
    rw [hb] at hA
    refine wp_if hA 16 _ rfl (fun hq2 => ?yB) (fun hq2 => ?nB)
    case nB =>
      have hb3 : b = false := by simpa using hq2
      subst hb3
      refine wp_skip (nB (nT (wR ?_)))
      revert a; (iterate 2 refine wo rfl rfl (by decide) (fun ev e h => by simp [go_sem, h, i3] <;> rfl) ?_); intro a hA
      replace hA := hA.keepN [0, 1, 7, 8]
      refine wN (nT ?_)
      refine ⟨k - 1, by omega, j + 1, by omega, fun i y hi hy => ?_, HB, hA⟩
      by_cases e : i = j
      · subst e
        rw [hx] at hy
        injection hy with hy
        rw [← hy]; exact hb
      · exact hno i y (by omega) hy
    case yB =>
      have hb3 : b = true := by simpa using hq2
      subst hb3
      refine wS (wR ?_)
      revert a; (iterate 2 refine wo rfl rfl (by decide) (fun ev e h => by simp [go_sem, h, add0, hcell, jj0, jj1] <;> rfl) ?_); intro a hA
      replace hA := hA.keepN [4]
      refine wN (nT (wp_ret (rB (rT (rT (rB (rT ?_)))))))
      refine ret_1 hA 4 rfl rfl ?_
      exact ⟨by rw [idxP_at hx hb hno], HB⟩
end Go.Proofs.YtjhaccmcjlbllaaGreatDoor
/-
  Walks: the reader of parse: items.
-/
namespace Go.Proofs.YtjhaccmcjlbllaaGreatDoor
open Go.RowKit
set_option linter.unusedSimpArgs false
set_option linter.unusedVariables false
set_option linter.unusedSimpArgs false
set_option linter.unusedVariables false
structure ItemI where
  k : Int
  p : Bool
def itemC (x : ItemI) : List Value := [.int .i64 x.k, .bool x.p]
def itemSh : Sh ItemI := ⟨33, 26, 2, 16, .agg #[.int .i64 0, .bool false], itemC, fun _ => [], fun _ => rfl, fun x u hu => by
  unfold itemC at hu
  simp only [List.mem_cons, List.not_mem_nil, or_false] at hu
  rcases hu with rfl | rfl <;> rfl, Tryz.underlying26, by kernel_rfl, rfl, by decide, by decide⟩
/-- what is left of tokens -/
def Sub (l' l : List TokI) : Prop := l'.length ≤ l.length ∧ ∀ t ∈ l', t ∈ l
theorem Sub.refl (l : List TokI) : Sub l l := ⟨Nat.le_refl _, fun _ h => h⟩
theorem Sub.trans {a b c : List TokI} (h : Sub a b) (h2 : Sub b c) : Sub a c := ⟨Nat.le_trans h.1 h2.1, fun t ht => h2.2 t (h.2 t ht)⟩
theorem sub_take (ks : List Int) (l : List TokI) (bad : Bool) : Sub (takeL ks l bad) l := ⟨takeL_len _ _ _, fun _ h => takeL_mem h⟩
theorem Sub.small {a b : List TokI} {n : Nat} (h : Sub a b) (hb : ∀ t ∈ b, t.t.length ≤ n) : ∀ t ∈ a, t.t.length ≤ n := fun t ht => hb t (h.2 t ht)
theorem next_ok {k : Int} {l : List TokI} {bad : Bool} (h : nextS k l bad = true) : okT [k] l bad = true ∧ 0 < l.length := by
  unfold nextS at h
  unfold okT
  cases l with
  | nil => simp at h
  | cons t r => simp at h ⊢; exact h
theorem take_next {k : Int} {l : List TokI} {bad : Bool} (h : nextS k l bad = true) : (takeL [k] l bad).length + 1 = l.length := by
  obtain ⟨h1, h2⟩ := next_ok h
  unfold takeL
  rw [if_pos h1, List.length_tail]
  omega
/-- a row of one's own stays, where the reader turns -/
theorem ownR_turn {M : Type} {s : Sh M} {B pr : Nat} {w w' : World} {v : Value} {L : List M} (h : OwnR s B w v L) (hp : pr < B) (T : TurnR pr w w') (hs : ∀ x, s.parts x = []) : OwnR s B w' v L :=
  ⟨own_keep h.row fun g e => T.block g (h.row.lt g e).2 (by have := (h.row.lt g e).1; omega), (fun m _ p hp' => by rw [hs] at hp'; cases hp'), h.off⟩
theorem rd_grown {w w' : World} {pr B : Nat} {l : List TokI} {bad : Bool} {row : Option Nat} (h : RdP w pr l bad) (hg : w.grownBy w' row) (hB : ∀ g, row = some g → B ≤ g) (hp : pr < B) (hno : ∀ g k cs, row = some g → Blk w k 60 cs → g ≠ k) : RdP w' pr l bad := by
  obtain ⟨A, c, K, hr, hc, ht⟩ := h.ex
  have hne : ∀ ad, A = some ad → some ad.block ≠ row := fun ad e he => by
    obtain ⟨cs, k⟩ := ht ad e
    exact hno ad.block ad.block cs he.symm k rfl
  refine ⟨A, c, K.grown hg (fun e => by have := hB pr e.symm; omega), ⟨⟨hr.row.1, fun h0 => ?_⟩, fun m _ p hp => by cases hp⟩, hc, fun ad e => ?_⟩
  · obtain ⟨ad, e, hlt, hcl⟩ := hr.row.2 h0
    refine ⟨ad, e, Nat.lt_of_lt_of_le hlt hg.size, fun j u hu => ?_⟩
    rw [World.cell?_of_block (hg.block _ (by rw [block_of_add]; exact hlt) (by rw [block_of_add]; exact hne ad e))]
    exact hcl j u hu
  · obtain ⟨cs, k⟩ := ht ad e
    exact ⟨cs, k.grown hg (hne ad e)⟩
set_option maxRecDepth 100000 in
theorem isNone_any (x : ItemI) (w : World) : Calls Tryz.prog 157 #[.agg #[.int .i64 x.k, .bool x.p]] w fun ev w' => ev = .returned (.bool (x.k == 0)) ∧ Below w.heap.size w w' := by
  have HB := Below.refl w.heap.size w
  refine calls_at 6 Tryz.func157 rfl rfl (Nat.le_of_ble_eq_true rfl) ?_
  intro a hA; replace hA := hA.norm
  refine wS (wR ?_)
  refine wl_new hA rfl rfl (by decide) (fun ev h => by simp [go_sem, h.get 0 rfl]; try first | exact ⟨rfl, rfl⟩ | rfl) fun w1 a (K1 : Blk _ _ _ _) hz1 hb1 hA => ?_
  replace HB := HB.trans (hb1.mono HB.size)
  revert a; refine wo rfl rfl (by decide) (fun ev e h => by simp [go_sem, h, K1.cell] <;> rfl) ?_; intro a hA
  replace hA := hA.keepN [1]
  refine wN (nT (wS (wR ?_)))
  revert a; (iterate 4 refine wo rfl rfl (by decide) (fun ev e h => by simp [go_sem, h, K1.cell] <;> rfl) ?_); intro a hA
  replace hA := hA.keepN [2]
  refine wN (nT (wp_ret ?_))
  refine ret_1 hA 2 rfl rfl ?_
  exact ⟨rfl, HB⟩
set_option maxRecDepth 100000 in
set_option maxHeartbeats 4000000 in
theorem indexItem_any (A : Option Addr) (c : Nat) (L : List ItemI) (w : World) (hr : RowR itemSh w A L) (hl : L.length ≤ 10000000) : Calls Tryz.prog 203 #[.slice A L.length c, .func (.func 157) #[] #[]] w fun ev w' => ev = .returned (.int .i64 (idxP (fun x : ItemI => x.k == 0) L)) ∧ Below w.heap.size w w' := by
  refine calls_at 19 Tryz.func203 rfl rfl (Nat.le_of_ble_eq_true rfl) ?_
  intro a hA; replace hA := hA.norm
  refine wS (wR ?_)
  revert a; refine wo rfl rfl (by decide) (fun ev e h => by simp [go_sem, h] <;> rfl) ?_; intro a hA
  replace hA := hA.keepN [0, 1]
  refine wN (nT (wS (wS (wR ?_))))
  revert a; (iterate 3 refine wo rfl rfl (by decide) (fun ev e h => by simp [go_sem, h] <;> rfl) ?_); intro a hA
  replace hA := hA.keepN [0, 1, 7, 8]
  refine wN (nT (wB ?_))
  refine wp_loop_at (fun k a wx => ∃ j : Nat, j + k = L.length ∧ (∀ i y, i < j → L[i]? = some y → (y.k == 0) = false) ∧ Below w.heap.size w wx ∧ At 19 [(0, .slice A L.length c), (1, .func (.func 157) #[] #[]), (7, .int .i64 (L.length : Nat)), (8, .int .i64 (j : Nat))] a) (L.length) ?_ ?_
  · exact ⟨0, by omega, fun i y hi => absurd hi (Nat.not_lt_zero _), Below.refl _ _, hA⟩
  clear hA
  rintro k a wx ⟨j, hjk, hno, HB, hA⟩
  refine wS (wR ?_)
  revert a; refine wo rfl rfl (by decide) (fun ev e h => by simp [go_sem, h] <;> rfl) ?_; intro a hA
  replace hA := hA.keepN [0, 1, 7, 8, 9]
  refine wN (nT (wS ?_))
  refine wp_if hA 9 _ rfl (fun hq => ?yA) (fun hq => ?nA)
  case nA =>
    have hjn : L.length ≤ j := by simp at hq; omega
    replace hA := hA.keepN []
    refine wp_exit (xT (xT (xB (nT (wS (wR ?_))))))
    revert a; refine wo rfl rfl (by decide) (fun ev e h => by simp [go_sem, h] <;> rfl) ?_; intro a hA
    replace hA := hA.keepN [4]
    refine wN (nT (wp_ret ?_))
    refine ret_1 hA 4 rfl rfl ?_
    exact ⟨by rw [idxP_none fun i y hi => hno i y (by omega)], HB⟩
  case yA =>
    have hjn : j < L.length := by simp at hq; omega
    obtain ⟨x, hx⟩ : ∃ x, L[j]? = some x := ⟨_, List.getElem?_eq_getElem hjn⟩
    obtain ⟨ad, rfl, hadl, k0, k1⟩ := (hr.below HB).cell hx
    have z0 : wx.cell? (ad.add (j * 2)) = some (.int .i64 x.k) := k0 _ rfl
    have z1 : wx.cell? ⟨(ad.add (j * 2)).block, (ad.add (j * 2)).off + 1, none⟩ = some (.bool x.p) := k1 1 _ (by decide) rfl
    have jj0 : (0 : Int) ≤ (j : Int) := by omega
    have jj1 : (j : Int) < (L.length : Int) := by omega
    have i3 : IntKind.i64.wrap (((j : Nat) : Int) + 1) = ((j + 1 : Nat) : Int) := by rw [IntWalk.i64_in _ (by omega)]; omega
    refine wp_skip (nT (wS (wB (wS (wR ?_)))))
    revert a; (iterate 2 refine wo rfl rfl (by decide) (fun ev e h => by simp [go_sem, h, z0, z1, jj0, jj1] <;> rfl) ?_); intro a hA
    replace hA := hA.keepN [0, 1, 5, 7, 8]
    refine wN (nT (wS (wR ?_)))
    revert a; (iterate 5 refine wo rfl rfl (by decide) (fun ev e h => by simp [go_sem, h, z0, z1, jj0, jj1] <;> rfl) ?_); intro a hA
    refine wl_call hA rfl rfl (by decide) (fun ev h => by simp [go_sem, h.get 11 rfl, h.get 15 rfl, z0, z1, jj0, jj1]; try first | exact ⟨rfl, rfl⟩ | rfl) (isNone_any x wx) ?_
    rintro e w2 ⟨rfl, hb2⟩
    refine ⟨_, rfl, fun a hA => ?_⟩
    replace HB := HB.trans (hb2.mono HB.size)
    obtain ⟨b, hb⟩ : ∃ b, (x.k == 0) = b := ⟨_, rfl⟩
    rw [hb] at hA
    replace hA := hA.keepN [0, 1, 5, 7, 8, 16]
    refine wN (nT ?_)
    refine wp_if hA 16 _ rfl (fun hq2 => ?yB) (fun hq2 => ?nB)
    case nB =>
      have hb3 : b = false := by simpa using hq2
      subst hb3
      refine wp_skip (nB (nT (wR ?_)))
      revert a; (iterate 2 refine wo rfl rfl (by decide) (fun ev e h => by simp [go_sem, h, i3] <;> rfl) ?_); intro a hA
      replace hA := hA.keepN [0, 1, 7, 8]
      refine wN (nT ?_)
      refine ⟨k - 1, by omega, j + 1, by omega, fun i y hi hy => ?_, HB, hA⟩
      by_cases e : i = j
      · subst e
        rw [hx] at hy
        injection hy with hy
        rw [← hy]; exact hb
      · exact hno i y (by omega) hy
    case yB =>
      have hb3 : b = true := by simpa using hq2
      subst hb3
      refine wS (wR ?_)
      revert a; (iterate 2 refine wo rfl rfl (by decide) (fun ev e h => by simp [go_sem, h, z0, z1, jj0, jj1] <;> rfl) ?_); intro a hA
      replace hA := hA.keepN [4]
      refine wN (nT (wp_ret (rB (rT (rT (rB (rT ?_)))))))
      refine ret_1 hA 4 rfl rfl ?_
      exact ⟨by rw [idxP_at hx hb hno], HB⟩
set_option maxRecDepth 100000 in
theorem hasItem_any (A : Option Addr) (c : Nat) (L : List ItemI) (w : World) (hr : RowR itemSh w A L) (hl : L.length ≤ 10000000) : Calls Tryz.prog 156 #[.slice A L.length c, .func (.func 157) #[] #[]] w fun ev w' => ev = .returned (.bool (decide (0 ≤ idxP (fun x : ItemI => x.k == 0) L))) ∧ Below w.heap.size w w' := by
  refine calls_at 9 Tryz.func156 rfl rfl (Nat.le_of_ble_eq_true rfl) ?_
  intro a hA; replace hA := hA.norm
  refine wS (wR ?_)
  revert a; refine wo rfl rfl (by decide) (fun ev e h => by simp [go_sem, h] <;> rfl) ?_; intro a hA
  replace hA := hA.keepN [0, 1]
  refine wN (nT (wS (wR ?_)))
  revert a; (iterate 2 refine wo rfl rfl (by decide) (fun ev e h => by simp [go_sem, h] <;> rfl) ?_); intro a hA
  refine wl_call hA rfl rfl (by decide) (fun ev h => exec_call Tryz.func203 (by kernel_rfl) rfl (h.f _) (by first | (simp only [mL, h.get 5 rfl, h.get 6 rfl, h.c] <;> rfl) | (simp [mL, h.get 5 rfl, h.get 6 rfl, h.c] <;> rfl))) (indexItem_any A c L w hr hl) ?_
  rintro e w1 ⟨rfl, hb1⟩
  refine ⟨_, rfl, fun a hA => ?_⟩
  revert a; (iterate 2 refine wo rfl rfl (by decide) (fun ev e h => by simp [go_sem, h] <;> rfl) ?_); intro a hA
  replace hA := hA.keepN [4]
  refine wN (nT (wp_ret ?_))
  refine ret_1 hA 4 rfl rfl ?_
  exact ⟨rfl, hb1⟩
set_option maxRecDepth 100000 in
set_option maxHeartbeats 8000000 in
theorem itemsP_any (pr : Nat) (l : List TokI) (bad : Bool) (w : World) (h : RdP w pr l bad) (hl : l.length ≤ 1048576) (ht : ∀ t ∈ l, t.t.length ≤ 1048576) : Calls Tryz.prog 110 #[.pointer (some ⟨pr, 0, none⟩)] w fun ev w' => ∃ A n c l' b, ev = .returned (.slice A n c) ∧ RdP w' pr l' b ∧ Sub l' l ∧ TurnR pr w w' := by
  have hpw := h.lt
  refine calls_at 45 Tryz.func110 rfl rfl (Nat.le_of_ble_eq_true rfl) ?_
  intro a hA; replace hA := hA.norm
  refine wS (wR ?_)
  revert a; refine wo rfl rfl (by decide) (fun ev e h => by simp [go_sem, h] <;> rfl) ?_; intro a hA
  replace hA := hA.keepN [0]
  refine wN (nT (wS (wR ?_)))
  revert a; refine wo rfl rfl (by decide) (fun ev e h => by simp [go_sem, h] <;> rfl) ?_; intro a hA
  replace hA := hA.keepN [0, 3]
  refine wN (nT (wS (wS (wR ?_))))
  revert a; refine wo rfl rfl (by decide) (fun ev e h => by simp [go_sem, h] <;> rfl) ?_; intro a hA
  refine wl_call hA rfl rfl (by decide) (fun ev h => exec_call Tryz.func106 (by kernel_rfl) rfl (h.f _) (by first | (simp only [mL, h.get 4 rfl, h.c] <;> rfl) | (simp [mL, h.get 4 rfl, h.c] <;> rfl))) (nextP_any pr 3 l bad w h) ?_
  rintro e w1 ⟨rfl, hb1⟩
  refine ⟨_, rfl, fun a hA => ?_⟩
  have T1 := TurnR.of (pr := pr) hb1
  have h1 := h.below hb1
  have hz1 := hb1.size
  obtain ⟨nx, hnx⟩ : ∃ b, nextS 3 l bad = b := ⟨_, rfl⟩
  rw [hnx] at hA
  revert a; refine wo rfl rfl (by decide) (fun ev e h => by simp [go_sem, h] <;> rfl) ?_; intro a hA
  replace hA := hA.keepN [0, 3, 6]
  refine wN (nT ?_)
  refine wp_join (fun a wx => ∃ (V : Value) (L : List ItemI) (l' : List TokI) (b : Bool), At 45 [(0, .pointer (some ⟨pr, 0, none⟩)), (3, V)] a ∧ OwnR itemSh w.heap.size wx V L ∧ L.length ≤ 2000000 ∧ RdP wx pr l' b ∧ Sub l' l ∧ TurnR pr w wx) ?jfJ ?jrJ
  case jfJ =>
    refine wp_if hA 6 _ rfl (fun hq => ?yA) (fun hq => ?nA)
    case yA =>
      refine wR ?_
      revert a; (iterate 2 refine wo rfl rfl (by decide) (fun ev e h => by simp [go_sem, h] <;> rfl) ?_); intro a hA
      refine wl_new hA rfl rfl (by decide) (fun ev h => by simp [go_sem, h.c]; try first | exact ⟨rfl, rfl⟩ | rfl) fun w2 a (K2 : Blk _ _ _ _) hz2 hb2 hA => ?_
      refine wl_call hA rfl rfl (by decide) (fun ev h => exec_call Tryz.func49 (by kernel_rfl) rfl (h.f _) (by first | (simp only [mL, h.get 8 rfl, h.get 9 rfl, h.c] <;> rfl) | (simp [mL, h.get 8 rfl, h.get 9 rfl, h.c] <;> rfl))) (takeP_any pr [1] _ 1 l bad _ (h1.below hb2) K2 (by decide) (by omega)) ?_
      rintro e w3 ⟨rfl, h3, T3⟩
      refine ⟨_, rfl, fun a hA => ?_⟩
      replace T3 := T1.trans ((TurnR.of (pr := pr) hb2).trans T3)
      have hts : (takeT [1] l bad).length ≤ 1048576 := takeT_len (ht)
      refine wl_call hA rfl rfl (by decide) (fun ev h => exec_call Tryz.func155 (by kernel_rfl) rfl (h.f _) (by first | (simp only [mL, h.get 10 rfl, h.c] <;> rfl) | (simp [mL, h.get 10 rfl, h.c] <;> rfl))) (item_any (takeT [1] l bad) w3 hts) ?_
      rintro e w4 ⟨k, bb, rfl, hb4⟩
      refine ⟨_, rfl, fun a hA => ?_⟩
      replace h3 := h3.below hb4
      replace T3 := T3.below hb4
      refine wl_new hA rfl rfl (by decide) (fun ev h => by simp [go_sem, h.get 11 rfl]; try first | exact ⟨rfl, rfl⟩ | rfl) fun w5 a (K5 : Blk _ _ _ _) hz5 hb5 hA => ?_
      replace h3 := h3.below hb5
      replace T3 := T3.below hb5
      have hrow : RowR itemSh w5 _ [⟨k, bb⟩] := rowR_blk (s := itemSh) (x := ⟨k, bb⟩) K5 (fun p hp => (by cases hp))
      have hB5 : w.heap.size ≤ w5.heap.size := T3.size
      have ho5 : OwnR itemSh w.heap.size w5 (.slice none 0 0) [] := OwnR.nil _ _
      obtain ⟨r, w6, hrun, ho6, hg6, -⟩ := run_appR (s := itemSh) (c := 1) ho5 hrow (fun _ _ m _ p hp => (by cases hp)) (by simp <;> omega) hB5
      refine wl_op hA rfl rfl (by decide) (fun ev h => exec_append rfl (h.get 7 rfl) (h.get 12 rfl) hrun) fun a hA => ?_
      replace h3 := rd_grown h3 hg6 (fun g e => (ho5.row.lt g e).1) hpw (fun g k cs e K => own_ne ho5.row K (by decide) g e)
      have T6 := T3.grown hg6 (fun g e => .inl (ho5.row.lt g e).1)
      revert a; refine wo rfl rfl (by decide) (fun ev e h => by simp [go_sem, h] <;> rfl) ?_; intro a hA
      replace hA := hA.keepN [0, 3]
      refine wN (nT ?_)
      exact ⟨_, _, _, _, hA, ho6, by simp, h3, sub_take _ _ _, T6⟩
    case nA =>
      refine wS (wR ?_)
      revert a; refine wo rfl rfl (by decide) (fun ev e h => by simp [go_sem, h] <;> rfl) ?_; intro a hA
      refine wl_new hA rfl rfl (by decide) (fun ev h => by simp [go_sem, h.c]; try first | exact ⟨rfl, rfl⟩ | rfl) fun w2 a (K2 : Blk _ _ _ _) hz2 hb2 hA => ?_
      refine wl_call hA rfl rfl (by decide) (fun ev h => exec_call Tryz.func49 (by kernel_rfl) rfl (h.f _) (by first | (simp only [mL, h.get 14 rfl, h.get 15 rfl, h.c] <;> rfl) | (simp [mL, h.get 14 rfl, h.get 15 rfl, h.c] <;> rfl))) (takeP_any pr [3] _ 1 l bad _ (h1.below hb2) K2 (by decide) hl) ?_
      rintro e w3 ⟨rfl, h3, T3⟩
      refine ⟨_, rfl, fun a hA => ?_⟩
      replace T3 := T1.trans ((TurnR.of (pr := pr) hb2).trans T3)
      replace hA := hA.keepN [0, 3]
      refine wN (nT (wS (wB ?_)))
      refine wp_loop_at (fun f a wx => ∃ (V : Value) (L : List ItemI) (l' : List TokI) (b : Bool), l'.length ≤ f ∧ L.length + l'.length ≤ l.length ∧ At 45 [(0, .pointer (some ⟨pr, 0, none⟩)), (3, V)] a ∧ OwnR itemSh w.heap.size wx V L ∧ RdP wx pr l' b ∧ Sub l' l ∧ TurnR pr w wx) (l.length) ?_ ?_
      · exact ⟨_, [], _, _, (takeL_len _ _ _), by simpa using takeL_len [3] l bad, hA, OwnR.nil _ _, h3, sub_take _ _ _, T3⟩
      clear hA h3 T3
      rintro f a wx ⟨V, L, l', b, hf, hLl, hA, ho, h0, hsub, T0⟩
      refine wS (wS (wR ?_))
      revert a; refine wo rfl rfl (by decide) (fun ev e h => by simp [go_sem, h] <;> rfl) ?_; intro a hA
      refine wl_call hA rfl rfl (by decide) (fun ev h => exec_call Tryz.func106 (by kernel_rfl) rfl (h.f _) (by first | (simp only [mL, h.get 17 rfl, h.c] <;> rfl) | (simp [mL, h.get 17 rfl, h.c] <;> rfl))) (nextP_any pr 1 l' b wx h0) ?_
      rintro e w9 ⟨rfl, hb9⟩
      refine ⟨_, rfl, fun a hA => ?_⟩
      replace h0 := h0.below hb9
      replace T0 := T0.below hb9
      replace ho := ho.below hb9
      obtain ⟨nx, hnx⟩ : ∃ q, nextS 1 l' b = q := ⟨_, rfl⟩
      rw [hnx] at hA
      replace hA := hA.keepN [0, 3, 18]
      refine wN (nT ?_)
      refine wp_if hA 18 _ rfl (fun hq2 => ?yB) (fun hq2 => ?nB)
      case yB =>
        have hq2 : nx = true := by simpa using hq2
        subst hq2
        have htk := take_next hnx
        refine wp_skip (nT (wB (wR ?_)))
        revert a; (iterate 2 refine wo rfl rfl (by decide) (fun ev e h => by simp [go_sem, h] <;> rfl) ?_); intro a hA
        refine wl_new hA rfl rfl (by decide) (fun ev h => by simp [go_sem, h.c]; try first | exact ⟨rfl, rfl⟩ | rfl) fun w2 a (K2 : Blk _ _ _ _) hz2 hb2 hA => ?_
        refine wl_call hA rfl rfl (by decide) (fun ev h => exec_call Tryz.func49 (by kernel_rfl) rfl (h.f _) (by first | (simp only [mL, h.get 20 rfl, h.get 21 rfl, h.c] <;> rfl) | (simp [mL, h.get 20 rfl, h.get 21 rfl, h.c] <;> rfl))) (takeP_any pr [1] _ 1 l' b _ (h0.below hb2) K2 (by decide) (by omega)) ?_
        rintro e w3 ⟨rfl, h3, T3⟩
        refine ⟨_, rfl, fun a hA => ?_⟩
        replace T3 := (TurnR.of (pr := pr) hb2).trans T3
        have hts : (takeT [1] l' b).length ≤ 1048576 := takeT_len (hsub.small ht)
        refine wl_call hA rfl rfl (by decide) (fun ev h => exec_call Tryz.func155 (by kernel_rfl) rfl (h.f _) (by first | (simp only [mL, h.get 22 rfl, h.c] <;> rfl) | (simp [mL, h.get 22 rfl, h.c] <;> rfl))) (item_any (takeT [1] l' b) w3 hts) ?_
        rintro e w4 ⟨k, bb, rfl, hb4⟩
        refine ⟨_, rfl, fun a hA => ?_⟩
        replace h3 := h3.below hb4
        replace T3 := T3.below hb4
        refine wl_new hA rfl rfl (by decide) (fun ev h => by simp [go_sem, h.get 23 rfl]; try first | exact ⟨rfl, rfl⟩ | rfl) fun w5 a (K5 : Blk _ _ _ _) hz5 hb5 hA => ?_
        replace h3 := h3.below hb5
        replace T3 := T3.below hb5
        have hrow : RowR itemSh w5 _ [⟨k, bb⟩] := rowR_blk (s := itemSh) (x := ⟨k, bb⟩) K5 (fun p hp => (by cases hp))
        have ho5 : OwnR itemSh w.heap.size w5 V L := ownR_turn ho hpw T3 (fun _ => rfl)
        replace T3 := T0.trans T3
        have hB5 : w.heap.size ≤ w5.heap.size := T3.size
        obtain ⟨r, w6, hrun, ho6, hg6, -⟩ := run_appR (s := itemSh) (c := 1) ho5 hrow (fun _ _ m _ p hp => (by cases hp)) (by simp <;> omega) hB5
        refine wl_op hA rfl rfl (by decide) (fun ev h => exec_append rfl (h.get 19 rfl) (h.get 24 rfl) hrun) fun a hA => ?_
        replace h3 := rd_grown h3 hg6 (fun g e => (ho5.row.lt g e).1) hpw (fun g k cs e K => own_ne ho5.row K (by decide) g e)
        have T6 := T3.grown hg6 (fun g e => .inl (ho5.row.lt g e).1)
        revert a; refine wo rfl rfl (by decide) (fun ev e h => by simp [go_sem, h] <;> rfl) ?_; intro a hA
        replace hA := hA.keepN [0, 3]
        refine wN (nB (nT ?_))
        refine ⟨f - 1, by omega, r, L ++ [⟨k, bb⟩], _, _, by omega, by simp; omega, hA, ho6, h3, (sub_take _ _ _).trans hsub, T6⟩
      case nB =>
        replace hA := hA.keepN [0, 3]
        refine wp_exit (xT (xT (xB (nT (wR ?_)))))
        revert a; refine wo rfl rfl (by decide) (fun ev e h => by simp [go_sem, h] <;> rfl) ?_; intro a hA
        refine wl_new hA rfl rfl (by decide) (fun ev h => by simp [go_sem, h.c]; try first | exact ⟨rfl, rfl⟩ | rfl) fun w2 a (K2 : Blk _ _ _ _) hz2 hb2 hA => ?_
        refine wl_call hA rfl rfl (by decide) (fun ev h => exec_call Tryz.func49 (by kernel_rfl) rfl (h.f _) (by first | (simp only [mL, h.get 26 rfl, h.get 27 rfl, h.c] <;> rfl) | (simp [mL, h.get 26 rfl, h.get 27 rfl, h.c] <;> rfl))) (takeP_any pr [4] _ 1 l' b _ (h0.below hb2) K2 (by decide) (by have := hsub.1; omega)) ?_
        rintro e w3 ⟨rfl, h3, T3⟩
        refine ⟨_, rfl, fun a hA => ?_⟩
        replace T3 := (TurnR.of (pr := pr) hb2).trans T3
        replace hA := hA.keepN [0, 3]
        refine wN (nT ?_)
        exact ⟨V, L, _, _, hA, ownR_turn ho hpw T3 (fun _ => rfl), by omega, h3, (sub_take _ _ _).trans hsub, T0.trans T3⟩
  clear hA h hnx h1 T1 hb1 hz1
  rintro a wx ⟨V, L, l', b, hA, ho, hL, h0, hsub, T0⟩
  obtain ⟨AV, cV, rfl, hrV, -⟩ := ho.reads
  refine wS (wS (wR ?_))
  revert a; (iterate 4 refine wo rfl rfl (by decide) (fun ev e h => by simp [go_sem, h] <;> rfl) ?_); (iterate 3 refine wg _ rfl rfl rfl rfl (by decide) (fun hq ev e h => by simp [go_sem, h, ↓gw_t (beq_t hq)] <;> rfl) ?_); refine wko rfl rfl (by decide) rfl rfl rfl ?_; refine wo rfl rfl (by decide) (fun ev e h => by simp [go_sem, h] <;> rfl) ?_; refine wg _ rfl rfl rfl rfl (by decide) (fun hq ev e h => by simp [go_sem, h, ↓gw_t (beq_t hq)] <;> rfl) ?_; intro a hA
  replace hA := hA.keepN [0, 3, 37, 38]
  refine wl_gcallv _ hA rfl rfl rfl rfl (by decide) (fun hq ev h => exec_call Tryz.func156 (by kernel_rfl) rfl (h.f _) (by first | (simp only [mL, ((h.get 38 rfl).trans (gw_t (beq_t hq))), h.c, h.f] <;> rfl) | (simp [mL, ((h.get 38 rfl).trans (gw_t (beq_t hq))), h.c, h.f] <;> rfl))) (fun hq => hasItem_any AV cV L _ hrV (by omega)) fun a w2 hb2 hA => ?_
  replace h0 := h0.below hb2
  obtain ⟨q, hq8⟩ : ∃ q : Bool, decide (0 ≤ idxP (fun x : ItemI => x.k == 0) L) = q := ⟨_, rfl⟩
  rw [hq8] at hA
  have T2 := T0.below hb2
  obtain ⟨A, c, K, hr, hc, htk⟩ := h0.ex
  have K00 := K
  revert a; refine wko rfl rfl (by decide) rfl rfl rfl ?_; intro a hA
  replace hA := hA.keepN [0, 3, 40]
  refine wN (nT ?_)
  refine wp_if hA 40 _ rfl (fun hq => ?yC) (fun hq => ?nC)
  case yC =>
    refine wR ?_
    revert a; (iterate 3 refine wo rfl rfl (by decide) (fun ev e h => by simp [go_sem, h] <;> rfl) ?_); intro a hA
    refine wl_setf ([.slice A l'.length c, .bool true]) _ hA rfl rfl K (j := 1) (by rfl) (fun ev h => by simp [go_sem, h.c, h.get 43 rfl, K.cell, K.frozen]; try first | exact ⟨rfl, rfl⟩ | rfl) fun w4 (K : Blk _ _ _ _) hs4 => ?_
    obtain ⟨hr4, ht4⟩ := rows_turnP hr htk K00 (Apart.only (Apart.refl (fun i => i = pr) _) hs4 (.inr rfl))
    replace hA := hA.keepN [3]
    refine wN (nT (wS (wR ?_)))
    revert a; (iterate 2 refine wo rfl rfl (by decide) (fun ev e h => by simp [go_sem, h] <;> rfl) ?_); intro a hA
    replace hA := hA.keepN [2]
    refine wN (nT (wp_ret ?_))
    refine ret_1 hA 2 rfl rfl ?_
    exact ⟨_, _, _, _, _, rfl, ⟨A, c, K, hr4, hc, ht4⟩, hsub, T2.only hs4⟩
  case nC =>
    refine wp_skip (nT (wS (wR ?_)))
    revert a; (iterate 2 refine wo rfl rfl (by decide) (fun ev e h => by simp [go_sem, h] <;> rfl) ?_); intro a hA
    replace hA := hA.keepN [2]
    refine wN (nT (wp_ret ?_))
    refine ret_1 hA 2 rfl rfl ?_
    exact ⟨_, _, _, _, _, rfl, ⟨A, c, K, hr, hc, htk⟩, hsub, T2⟩
end Go.Proofs.YtjhaccmcjlbllaaGreatDoor
/-
  Walks: flag.Parse; the reader of parse: flags.
-/
namespace Go.Proofs.YtjhaccmcjlbllaaGreatDoor
open Go.RowKit
set_option linter.unusedSimpArgs false
set_option linter.unusedVariables false
set_option linter.unusedSimpArgs false
set_option linter.unusedVariables false
def strSh : Sh (List UInt8) := ⟨9, 77, 1, 16, .string ⟨#[]⟩, fun x => [.string (St x)], fun _ => [], fun _ => rfl, fun x u hu => by
  rw [List.mem_singleton.1 hu]
  rfl, Tryz.underlying77, by kernel_rfl, rfl, by decide, by decide⟩
set_option maxRecDepth 100000 in
set_option maxHeartbeats 4000000 in
theorem flagParse_any (A : Option Addr) (c : Nat) (L : List (List UInt8)) (w : World) (hr : RowR strSh w A L) (hl : L.length ≤ 10000000) (hs : ∀ s ∈ L, s.length ≤ 1048576) : Calls Tryz.prog 148 #[.slice A L.length c] w fun ev w' => ∃ k b, ev = .returned (.tuple #[.int .i64 k, .bool b]) ∧ Below w.heap.size w w' := by
  refine calls_at 25 Tryz.func148 rfl rfl (Nat.le_of_ble_eq_true rfl) ?_
  intro a hA; replace hA := hA.norm
  refine wS (wR ?_)
  revert a; (iterate 2 refine wo rfl rfl (by decide) (fun ev e h => by simp [go_sem, h] <;> rfl) ?_); intro a hA
  replace hA := hA.keepN [0]
  refine wN (nT (wS (wR ?_)))
  revert a; refine wo rfl rfl (by decide) (fun ev e h => by simp [go_sem, h] <;> rfl) ?_; intro a hA
  replace hA := hA.keepN [0, 4]
  refine wN (nT (wS (wS (wR ?_))))
  revert a; (iterate 3 refine wo rfl rfl (by decide) (fun ev e h => by simp [go_sem, h] <;> rfl) ?_); intro a hA
  replace hA := hA.keepN [4, 8, 9, 10]
  refine wN (nT (wB ?_))
  refine wp_loop_at (fun f a wx => ∃ (j : Nat) (fl : Int), j + f = L.length ∧ Below w.heap.size w wx ∧ At 25 [(4, .int .i64 fl), (8, .slice A L.length c), (9, .int .i64 (L.length : Nat)), (10, .int .i64 (j : Nat))] a) (L.length) ?_ ?_
  · exact ⟨0, 0, by omega, Below.refl _ _, hA⟩
  clear hA
  rintro f a wx ⟨j, fl, hjf, HB, hA⟩
  refine wS (wR ?_)
  revert a; refine wo rfl rfl (by decide) (fun ev e h => by simp [go_sem, h] <;> rfl) ?_; intro a hA
  replace hA := hA.keepN [4, 8, 9, 10, 11]
  refine wN (nT (wS ?_))
  refine wp_if hA 11 _ rfl (fun hq => ?yA) (fun hq => ?nA)
  case nA =>
    replace hA := hA.keepN [4]
    refine wp_exit (xT (xT (xB (nT (wS (wR ?_))))))
    revert a; (iterate 3 refine wo rfl rfl (by decide) (fun ev e h => by simp [go_sem, h] <;> rfl) ?_); intro a hA
    replace hA := hA.keepN [2, 3]
    refine wN (nT (wp_ret ?_))
    refine ret_2 hA 2 3 rfl rfl rfl ?_
    exact ⟨_, _, rfl, HB⟩
  case yA =>
    have hjn : j < L.length := by simp at hq; omega
    obtain ⟨x, hx⟩ : ∃ x, L[j]? = some x := ⟨_, List.getElem?_eq_getElem hjn⟩
    have hxs := hs x (List.mem_of_getElem? hx)
    obtain ⟨ad, rfl, hadl, k0, -⟩ := (hr.below HB).cell hx
    have z0 : wx.cell? (ad.add j) = some (.string (St x)) := by
      have h1 : wx.cell? (ad.add (j * 1)) = some (.string (St x)) := k0 _ rfl
      rwa [Nat.mul_one] at h1
    have jj0 : (0 : Int) ≤ (j : Int) := by omega
    have jj1 : (j : Int) < (L.length : Int) := by omega
    have i3 : IntKind.i64.wrap (((j : Nat) : Int) + 1) = ((j + 1 : Nat) : Int) := by rw [IntWalk.i64_in _ (by omega)]; omega
    refine wp_skip (nT (wS (wB (wS (wR ?_)))))
    revert a; (iterate 2 refine wo rfl rfl (by decide) (fun ev e h => by simp [go_sem, h, z0, jj0, jj1] <;> rfl) ?_); intro a hA
    refine wl_local [.string (St x)] hA rfl rfl (by decide) (fun ev h => by simp [go_sem, z0, jj0, jj1]; try first | exact ⟨rfl, rfl⟩ | rfl) rfl rfl (by rfl) (fun w1 g ev hb h => by simp [go_sem, h.get 6 rfl, h.get 13 rfl, z0, jj0, jj1, setAll, hb.cell, hb.frozen]) fun w2 a (K2 : Blk _ _ _ _) hz2 hb2 hA => ?_
    replace HB := HB.trans (hb2.mono HB.size)
    replace hA := hA.keepN [4, 6, 8, 9, 10]
    refine wN (nT (wS (wR ?_)))
    refine wl_call hA rfl rfl (by decide) (fun ev h => exec_call Tryz.func82 (by kernel_rfl) rfl (h.f _) (by first | (simp only [mL, h.c] <;> rfl) | (simp [mL, h.c, z0, jj0, jj1] <;> rfl))) (names_any _) ?_
    rintro e w3 ⟨rfl, KN, hz3, hb3⟩
    refine ⟨_, rfl, fun a hA => ?_⟩
    replace HB := HB.trans (hb3.mono HB.size)
    replace K2 := K2.below hb3 K2.lt
    revert a; refine wo rfl rfl (by decide) (fun ev e h => by simp [go_sem, h, z0, jj0, jj1] <;> rfl) ?_; intro a hA
    refine wl_call hA rfl rfl (by decide) (fun ev h => exec_call Tryz.func198 (by kernel_rfl) rfl (h.f _) (by first | (simp only [mL, h.get 14 rfl, h.get 15 rfl, h.c] <;> rfl) | (simp [mL, h.get 14 rfl, h.get 15 rfl, h.c, z0, jj0, jj1] <;> rfl))) (indexF_any x _ _ 5 w3 flagNs KN K2 hxs (by decide) (by decide)) ?_
    rintro e w4 ⟨rfl, hb4⟩
    refine ⟨_, rfl, fun a hA => ?_⟩
    replace HB := HB.trans (hb4.mono HB.size)
    replace K2 := K2.below hb4 K2.lt
    obtain ⟨i, hi⟩ : ∃ i, idxP (flagEq x) flagNs = i := ⟨_, rfl⟩
    have hil := idxP_lt (flagEq x) flagNs
    rw [hi] at hA hil
    revert a; refine wo rfl rfl (by decide) (fun ev e h => by simp [go_sem, h, z0, jj0, jj1] <;> rfl) ?_; intro a hA
    replace hA := hA.keepN [4, 7, 8, 9, 10]
    refine wN (nT (wS (wS (wR ?_))))
    revert a; (iterate 2 refine wo rfl rfl (by decide) (fun ev e h => by simp [go_sem, h, z0, jj0, jj1] <;> rfl) ?_); intro a hA
    replace hA := hA.keepN [4, 7, 8, 9, 10, 18]
    refine wN (nT ?_)
    refine wp_if hA 18 _ rfl (fun hq2 => ?yB) (fun hq2 => ?nB)
    case yB =>
      refine wS (wR ?_)
      revert a; (iterate 2 refine wo rfl rfl (by decide) (fun ev e h => by simp [go_sem, h, z0, jj0, jj1] <;> rfl) ?_); intro a hA
      replace hA := hA.keepN [2, 3]
      refine wN (nT (wp_ret (rT (rB (rT (rT (rB (rT ?_))))))))
      refine ret_2 hA 2 3 rfl rfl rfl ?_
      exact ⟨_, _, rfl, HB⟩
    case nB =>
      have h0 : 0 ≤ i := by simp at hq2; omega
      refine wp_skip (nT (wR ?_))
      revert a; (iterate 5 refine wo rfl rfl (by decide) (fun ev e h => by simp [go_sem, h, h0, i3] <;> rfl) ?_); intro a hA
      replace hA := hA.keepN [4, 8, 9, 10]
      refine wN (nB (nT (wR ?_)))
      revert a; (iterate 2 refine wo rfl rfl (by decide) (fun ev e h => by simp [go_sem, h, h0, i3] <;> rfl) ?_); intro a hA
      replace hA := hA.keepN [4, 8, 9, 10]
      refine wN (nT ?_)
      exact ⟨f - 1, by omega, j + 1, _, by omega, HB, hA⟩
set_option maxRecDepth 100000 in
set_option maxHeartbeats 8000000 in
theorem flagsP_any (pr : Nat) (l : List TokI) (bad : Bool) (w : World) (h : RdP w pr l bad) (hl : l.length ≤ 1048576) (ht : ∀ t ∈ l, t.t.length ≤ 1048576) : Calls Tryz.prog 107 #[.pointer (some ⟨pr, 0, none⟩)] w fun ev w' => ∃ k l' b, ev = .returned (.int .i64 k) ∧ RdP w' pr l' b ∧ Sub l' l ∧ TurnR pr w w' := by
  have hpw := h.lt
  refine calls_at 37 Tryz.func107 rfl rfl (Nat.le_of_ble_eq_true rfl) ?_
  intro a hA; replace hA := hA.norm
  refine wS (wR ?_)
  revert a; refine wo rfl rfl (by decide) (fun ev e h => by simp [go_sem, h] <;> rfl) ?_; intro a hA
  replace hA := hA.keepN [0]
  refine wN (nT (wS (wR ?_)))
  revert a; refine wo rfl rfl (by decide) (fun ev e h => by simp [go_sem, h] <;> rfl) ?_; intro a hA
  refine wl_new hA rfl rfl (by decide) (fun ev h => by simp [go_sem, h.c]; try first | exact ⟨rfl, rfl⟩ | rfl) fun w2 a (K2 : Blk _ _ _ _) hz2 hb2 hA => ?_
  refine wl_call hA rfl rfl (by decide) (fun ev h => exec_call Tryz.func49 (by kernel_rfl) rfl (h.f _) (by first | (simp only [mL, h.get 6 rfl, h.get 7 rfl, h.c] <;> rfl) | (simp [mL, h.get 6 rfl, h.get 7 rfl, h.c] <;> rfl))) (takeP_any pr [3] _ 1 l bad _ (h.below hb2) K2 (by decide) hl) ?_
  rintro e w3 ⟨rfl, h3, T3⟩
  refine ⟨_, rfl, fun a hA => ?_⟩
  replace T3 := (TurnR.of (pr := pr) hb2).trans T3
  replace hA := hA.keepN [0]
  refine wN (nT (wS (wR ?_)))
  revert a; refine wo rfl rfl (by decide) (fun ev e h => by simp [go_sem, h] <;> rfl) ?_; intro a hA
  replace hA := hA.keepN [0, 3]
  refine wN (nT (wS (wB ?_)))
  refine wp_loop_at (fun f a wx => ∃ (V : Value) (L : List (List UInt8)) (l' : List TokI) (b : Bool), l'.length ≤ f ∧ L.length + l'.length ≤ l.length ∧ (∀ s ∈ L, s.length ≤ 1048576) ∧ At 37 [(0, .pointer (some ⟨pr, 0, none⟩)), (3, V)] a ∧ OwnR strSh w.heap.size wx V L ∧ RdP wx pr l' b ∧ Sub l' l ∧ TurnR pr w wx) (l.length) ?_ ?_
  · exact ⟨_, [], _, _, (takeL_len _ _ _), by simpa using takeL_len [3] l bad, (fun _ h => by cases h), hA, OwnR.nil _ _, h3, sub_take _ _ _, T3⟩
  clear hA h3 T3
  rintro f a wx ⟨V, L, l', b, hf, hLl, hLs, hA, ho, h0, hsub, T0⟩
  refine wS (wS (wR ?_))
  revert a; refine wo rfl rfl (by decide) (fun ev e h => by simp [go_sem, h] <;> rfl) ?_; intro a hA
  refine wl_call hA rfl rfl (by decide) (fun ev h => exec_call Tryz.func106 (by kernel_rfl) rfl (h.f _) (by first | (simp only [mL, h.get 9 rfl, h.c] <;> rfl) | (simp [mL, h.get 9 rfl, h.c] <;> rfl))) (nextP_any pr 1 l' b wx h0) ?_
  rintro e w9 ⟨rfl, hb9⟩
  refine ⟨_, rfl, fun a hA => ?_⟩
  replace h0 := h0.below hb9
  replace T0 := T0.below hb9
  replace ho := ho.below hb9
  obtain ⟨nx, hnx⟩ : ∃ q, nextS 1 l' b = q := ⟨_, rfl⟩
  rw [hnx] at hA
  replace hA := hA.keepN [0, 3, 10]
  refine wN (nT ?_)
  refine wp_if hA 10 _ rfl (fun hq2 => ?yB) (fun hq2 => ?nB)
  case yB =>
    have hq2 : nx = true := by simpa using hq2
    subst hq2
    have htk := take_next hnx
    refine wp_skip (nT (wB (wR ?_)))
    revert a; (iterate 2 refine wo rfl rfl (by decide) (fun ev e h => by simp [go_sem, h] <;> rfl) ?_); intro a hA
    refine wl_new hA rfl rfl (by decide) (fun ev h => by simp [go_sem, h.c]; try first | exact ⟨rfl, rfl⟩ | rfl) fun w2 a (K2 : Blk _ _ _ _) hz2 hb2 hA => ?_
    refine wl_call hA rfl rfl (by decide) (fun ev h => exec_call Tryz.func49 (by kernel_rfl) rfl (h.f _) (by first | (simp only [mL, h.get 12 rfl, h.get 13 rfl, h.c] <;> rfl) | (simp [mL, h.get 12 rfl, h.get 13 rfl, h.c] <;> rfl))) (takeP_any pr [1] _ 1 l' b _ (h0.below hb2) K2 (by decide) (by omega)) ?_
    rintro e w3 ⟨rfl, h3, T3⟩
    refine ⟨_, rfl, fun a hA => ?_⟩
    replace T3 := (TurnR.of (pr := pr) hb2).trans T3
    have hts : (takeT [1] l' b).length ≤ 1048576 := takeT_len (hsub.small ht)
    refine wl_new hA rfl rfl (by decide) (fun ev h => by simp [go_sem, h.get 14 rfl]; try first | exact ⟨rfl, rfl⟩ | rfl) fun w5 a (K5 : Blk _ _ _ _) hz5 hb5 hA => ?_
    replace h3 := h3.below hb5
    replace T3 := T3.below hb5
    have hrow : RowR strSh w5 _ [takeT [1] l' b] := rowR_blk (s := strSh) (x := takeT [1] l' b) K5 (fun p hp => (by cases hp))
    have ho5 : OwnR strSh w.heap.size w5 V L := ownR_turn ho hpw T3 (fun _ => rfl)
    replace T3 := T0.trans T3
    have hB5 : w.heap.size ≤ w5.heap.size := T3.size
    obtain ⟨r, w6, hrun, ho6, hg6, -⟩ := run_appR (s := strSh) (c := 1) ho5 hrow (fun _ _ m _ p hp => (by cases hp)) (by simp <;> omega) hB5
    refine wl_op hA rfl rfl (by decide) (fun ev h => exec_append rfl (h.get 11 rfl) (h.get 15 rfl) hrun) fun a hA => ?_
    replace h3 := rd_grown h3 hg6 (fun g e => (ho5.row.lt g e).1) hpw (fun g k cs e K => own_ne ho5.row K (by decide) g e)
    have T6 := T3.grown hg6 (fun g e => .inl (ho5.row.lt g e).1)
    revert a; refine wo rfl rfl (by decide) (fun ev e h => by simp [go_sem, h] <;> rfl) ?_; intro a hA
    replace hA := hA.keepN [0, 3]
    refine wN (nB (nT ?_))
    refine ⟨f - 1, by omega, r, L ++ [takeT [1] l' b], _, _, by omega, by simp; omega, fun s hs => ?_, hA, ho6, h3, (sub_take _ _ _).trans hsub, T6⟩
    rcases List.mem_append.1 hs with h | h
    · exact hLs s h
    · rw [List.mem_singleton.1 h]; exact hts
  case nB =>
    replace hA := hA.keepN [0, 3]
    refine wp_exit (xT (xT (xB (nT (wS (wR ?_))))))
    revert a; refine wo rfl rfl (by decide) (fun ev e h => by simp [go_sem, h] <;> rfl) ?_; intro a hA
    refine wl_new hA rfl rfl (by decide) (fun ev h => by simp [go_sem, h.c]; try first | exact ⟨rfl, rfl⟩ | rfl) fun w2 a (K2 : Blk _ _ _ _) hz2 hb2 hA => ?_
    refine wl_call hA rfl rfl (by decide) (fun ev h => exec_call Tryz.func49 (by kernel_rfl) rfl (h.f _) (by first | (simp only [mL, h.get 17 rfl, h.get 18 rfl, h.c] <;> rfl) | (simp [mL, h.get 17 rfl, h.get 18 rfl, h.c] <;> rfl))) (takeP_any pr [4] _ 1 l' b _ (h0.below hb2) K2 (by decide) (by have := hsub.1; omega)) ?_
    rintro e w3 ⟨rfl, h3, T3⟩
    refine ⟨_, rfl, fun a hA => ?_⟩
    replace T3 := (TurnR.of (pr := pr) hb2).trans T3
    replace ho := ownR_turn ho hpw T3 (fun _ => rfl)
    replace T3 := T0.trans T3
    obtain ⟨AV, cV, rfl, hrV, -⟩ := ho.reads
    replace hA := hA.keepN [0, 3]
    refine wN (nT (wS (wR ?_)))
    revert a; refine wo rfl rfl (by decide) (fun ev e h => by simp [go_sem, h] <;> rfl) ?_; intro a hA
    refine wl_call hA rfl rfl (by decide) (fun ev h => exec_call Tryz.func148 (by kernel_rfl) rfl (h.f _) (by first | (simp only [mL, h.get 21 rfl, h.c] <;> rfl) | (simp [mL, h.get 21 rfl, h.c] <;> rfl))) (flagParse_any AV cV L _ hrV (by omega) hLs) ?_
    rintro e w4 ⟨k, ok, rfl, hb4⟩
    refine ⟨_, rfl, fun a hA => ?_⟩
    replace h3 := h3.below hb4
    have T4 := T3.below hb4
    obtain ⟨A, c, K, hr, hc, htk⟩ := h3.ex
    have K00 := K
    revert a; (iterate 5 refine wo rfl rfl (by decide) (fun ev e h => by simp [go_sem, h, K.cell] <;> rfl) ?_); intro a hA
    replace hA := hA.keepN [0, 4, 5]
    refine wN (nT (wS (wR ?_)))
    revert a; (iterate 6 refine wo rfl rfl (by decide) (fun ev e h => by simp [go_sem, h, K.cell] <;> rfl) ?_); (iterate 2 refine wg _ rfl rfl rfl rfl (by decide) (fun hq ev e h => by simp [go_sem, h, ↓gw_t (beq_t hq), K.cell] <;> rfl) ?_); refine wko rfl rfl (by decide) rfl rfl rfl ?_; refine wo rfl rfl (by decide) (fun ev e h => by simp [go_sem, h, K.cell] <;> rfl) ?_; intro a hA
    replace hA := hA.keepN [4, 33, 34]
    revert a; refine wo rfl rfl (by decide) (fun ev e h => by simp [go_sem, h, K.cell] <;> rfl) ?_; intro a hA
    refine wl_setf ([.slice A (takeL [4] l' b).length c, .bool (!okT [4] l' b || !ok)]) _ hA rfl rfl K (j := 1) (by rfl) (fun ev h => by simp [go_sem, h.get 35 rfl, h.get 33 rfl, K.cell, K.cell, K.frozen]; try first | exact ⟨rfl, rfl⟩ | rfl) fun w7 (K : Blk _ _ _ _) hs7 => ?_
    obtain ⟨hr4, ht4⟩ := rows_turnP hr htk K00 (Apart.only (Apart.refl (fun i => i = pr) _) hs7 (.inr rfl))
    replace hA := hA.keepN [4]
    refine wN (nT (wS (wR ?_)))
    revert a; (iterate 2 refine wo rfl rfl (by decide) (fun ev e h => by simp [go_sem, h, K.cell] <;> rfl) ?_); intro a hA
    replace hA := hA.keepN [2]
    refine wN (nT (wp_ret ?_))
    refine ret_1 hA 2 rfl rfl ?_
    exact ⟨_, _, _, rfl, ⟨A, c, K, hr4, hc, ht4⟩, (sub_take _ _ _).trans hsub, T4.only hs7⟩
end Go.Proofs.YtjhaccmcjlbllaaGreatDoor
/-
  Walks: the reader of parse: keys.
-/
namespace Go.Proofs.YtjhaccmcjlbllaaGreatDoor
open Go.RowKit
set_option linter.unusedSimpArgs false
set_option linter.unusedVariables false
set_option linter.unusedSimpArgs false
set_option linter.unusedVariables false
set_option maxRecDepth 100000 in
set_option maxHeartbeats 4000000 in
theorem cloneT_any (A : Option Addr) (c : Nat) (l : List TokI) (w : World) (hr : RowR tokISh w A l) (hl : l.length ≤ 1048576) : Calls Tryz.prog 69 #[.slice A l.length c] w fun ev w' => ∃ A2 c2, ev = .returned (.slice A2 l.length c2) ∧ RowR tokISh w' A2 l ∧ Below w.heap.size w w' := by
  have HB := Below.refl w.heap.size w
  refine calls_at 8 Tryz.func69 rfl rfl (Nat.le_of_ble_eq_true rfl) ?_
  intro a hA; replace hA := hA.norm
  refine wS (wR ?_)
  revert a; refine wo rfl rfl (by decide) (fun ev e h => by simp [go_sem, h] <;> rfl) ?_; intro a hA
  replace hA := hA.keepN [0]
  refine wN (nT (wS (wS (wR ?_))))
  cases A with
  | none =>
    have hl0 : l = [] := by
      cases l with
      | nil => rfl
      | cons x r =>
        obtain ⟨ad, e, _⟩ := hr.cell (i := 0) (x := x) rfl
        cases e
    subst hl0
    revert a; (iterate 2 refine wo rfl rfl (by decide) (fun ev e h => by simp [go_sem, h] <;> rfl) ?_); intro a hA
    replace hA := hA.keepN [0, 4]
    refine wN (nT ?_)
    refine wp_if hA 4 _ rfl (fun hq => ?yA) (fun hq => ?nA)
    case nA => simp at hq
    case yA =>
      refine wS (wR ?_)
      revert a; refine wo rfl rfl (by decide) (fun ev e h => by simp [go_sem, h] <;> rfl) ?_; intro a hA
      replace hA := hA.keepN [2]
      refine wN (nT (wp_ret (rT ?_)))
      refine ret_1 hA 2 rfl rfl ?_
      exact ⟨_, _, rfl, RowR.nil _, HB⟩
  | some ad =>
    revert a; (iterate 2 refine wo rfl rfl (by decide) (fun ev e h => by simp [go_sem, h] <;> rfl) ?_); intro a hA
    replace hA := hA.keepN [0, 4]
    refine wN (nT ?_)
    refine wp_if hA 4 _ rfl (fun hq => ?yB) (fun hq => ?nB)
    case yB => simp at hq
    case nB =>
      refine wp_skip (nT (wS (wR ?_)))
      refine wl_new hA rfl rfl (by decide) (fun ev h => by simp [go_sem]; try first | exact ⟨rfl, rfl⟩ | rfl) fun w1 a (K1 : Blk _ _ _ _) hz1 hb1 hA => ?_
      replace HB := HB.trans (hb1.mono HB.size)
      replace hr := hr.below hb1
      revert a; refine wo rfl rfl (by decide) (fun ev e h => by simp [go_sem, h] <;> rfl) ?_; intro a hA
      obtain ⟨r, w4, hrun, ho4, hg4, -⟩ := run_appR (s := tokISh) (c := c) (OwnR.empty K1 (Nat.le_refl _)) hr (fun _ _ m _ p hp => by cases hp) (by simp; omega) HB.size
      refine wl_op hA rfl rfl (by decide) (fun ev h => exec_append rfl (h.get 5 rfl) (h.get 6 rfl) hrun) fun a hA => ?_
      revert a; refine wo rfl rfl (by decide) (fun ev e h => by simp [go_sem, h] <;> rfl) ?_; intro a hA
      replace hA := hA.keepN [2]
      refine wN (nT (wp_ret ?_))
      refine ret_1 hA 2 rfl rfl ?_
      obtain ⟨A4, c4, rfl, hr4, -⟩ := ho4.reads
      exact ⟨_, _, rfl, hr4, HB.grown hg4 HB.size fun g e => by rw [← Option.some.inj e]; exact Nat.le_refl _⟩
set_option maxRecDepth 100000 in
set_option maxHeartbeats 4000000 in
theorem keysP_any (pr : Nat) (l : List TokI) (bad : Bool) (w : World) (h : RdP w pr l bad) (hl : l.length ≤ 1048576) : Calls Tryz.prog 112 #[.pointer (some ⟨pr, 0, none⟩)] w fun ev w' => ∃ A c b, ev = .returned (.slice A l.length c) ∧ RdP w' pr [] b ∧ TurnR pr w w' := by
  obtain ⟨A, c, K, hr, hc, htk⟩ := h.ex
  have K00 := K
  refine calls_at 25 Tryz.func112 rfl rfl (Nat.le_of_ble_eq_true rfl) ?_
  intro a hA; replace hA := hA.norm
  refine wS (wR ?_)
  revert a; refine wo rfl rfl (by decide) (fun ev e h => by simp [go_sem, h, K.cell] <;> rfl) ?_; intro a hA
  replace hA := hA.keepN [0]
  refine wN (nT (wS (wR ?_)))
  revert a; (iterate 4 refine wo rfl rfl (by decide) (fun ev e h => by simp [go_sem, h, K.cell] <;> rfl) ?_); intro a hA
  refine wl_call hA rfl rfl (by decide) (fun ev h => exec_call Tryz.func69 (by kernel_rfl) rfl (h.f _) (by first | (simp only [mL, h.get 7 rfl, h.c] <;> rfl) | (simp [mL, h.get 7 rfl, h.c, K.cell] <;> rfl))) (cloneT_any A c l w hr hl) ?_
  rintro e w1 ⟨A2, c2, rfl, hr2, hb1⟩
  refine ⟨_, rfl, fun a hA => ?_⟩
  replace K := K.below hb1 K.lt
  have T1 := TurnR.of (pr := pr) hb1
  revert a; refine wo rfl rfl (by decide) (fun ev e h => by simp [go_sem, h, K.cell] <;> rfl) ?_; intro a hA
  replace hA := hA.keepN [0, 3]
  refine wN (nT (wS (wR ?_)))
  revert a; (iterate 6 refine wo rfl rfl (by decide) (fun ev e h => by simp [go_sem, h, K.cell] <;> rfl) ?_); (iterate 3 refine wg _ rfl rfl rfl rfl (by decide) (fun hq ev e h => by simp [go_sem, h, ↓gw_t (beq_t hq), K.cell] <;> rfl) ?_); refine wko rfl rfl (by decide) rfl rfl rfl ?_; intro a hA
  replace hA := hA.keepN [0, 3, 9, 18]
  revert a; (iterate 2 refine wo rfl rfl (by decide) (fun ev e h => by simp [go_sem, h, K.cell] <;> rfl) ?_); intro a hA
  refine wl_setf ([.slice A l.length c, .bool (bad || (((l.length : Nat) : Int) == 0))]) _ hA rfl rfl K (j := 1) (by rfl) (fun ev h => by simp [go_sem, h.get 20 rfl, h.get 18 rfl, K.cell, K.cell, K.frozen]; try first | exact ⟨rfl, rfl⟩ | rfl) fun w2 (K : Blk _ _ _ _) hs2 => ?_
  replace hA := hA.keepN [0, 3]
  refine wN (nT (wS (wR ?_)))
  revert a; (iterate 3 refine wo rfl rfl (by decide) (fun ev e h => by simp [go_sem, h, K.cell] <;> rfl) ?_); intro a hA
  refine wl_setf ([.slice none 0 0, .bool (bad || (((l.length : Nat) : Int) == 0))]) _ hA rfl rfl K (j := 0) (by rfl) (fun ev h => by simp [go_sem, h.c, h.get 23 rfl, K.cell, K.cell, K.frozen]; try first | exact ⟨rfl, rfl⟩ | rfl) fun w3 (K : Blk _ _ _ _) hs3 => ?_
  replace hA := hA.keepN [3]
  refine wN (nT (wS (wR ?_)))
  revert a; (iterate 2 refine wo rfl rfl (by decide) (fun ev e h => by simp [go_sem, h, K.cell] <;> rfl) ?_); intro a hA
  replace hA := hA.keepN [2]
  refine wN (nT (wp_ret ?_))
  refine ret_1 hA 2 rfl rfl ?_
  exact ⟨_, _, _, rfl, ⟨none, 0, K, RowR.nil _, Nat.le_refl _, fun ad e => by cases e⟩, (T1.only hs2).only hs3⟩
end Go.Proofs.YtjhaccmcjlbllaaGreatDoor
/-
  DERIVED: THE SHELF's CONTRACTS AT THIS DUMP, IN PLAIN WORDS (tools/lay-plain.mjs out of 'TryzShelf.lean', which tools/lay-shelf.mjs wrote): THE SAME DECLARATIONS UNDER THE SAME NAMES: 'import', 'namespace', 'open', 'def', 'theorem' AND NOTHING ELSE: no command of the shelf's: FOR A HAND-IN. Each laying: the table of numbers ('.._ren') and one theorem, a field a fact of the dump's own or the kernel's comparison; each contract: ONE APPLICATION.
-/
namespace Go.Proofs
open Go.Shelf
def Tryz.lays159_ren : Go.Shelf.Ren := ⟨fun | 159 => 201 | 165 => 63 | 166 => 64 | 167 => 195 | 169 => 65 | 230 => 196 | 204 => 222 | 240 => 91 | 241 => 92 | 197 => 116 | 118 => 218 | 168 => 219 | 270 => 220 | 262 => 221 | 276 => 123 | 277 => 124 | 260 => 166 | 242 => 230 | 313 => 231 | 278 => 236 | 274 => 237 | 275 => 238 | n => n, fun | 9 => 9 | 4 => 4 | 3 => 3 | 5 => 5 | 72 => 116 | 0 => 0 | 76 => 120 | 75 => 119 | 107 => 210 | 70 => 114 | 20 => 20 | 37 => 23 | 127 => 144 | 21 => 21 | 105 => 161 | 164 => 169 | 162 => 241 | 203 => 239 | 119 => 217 | 46 => 73 | 139 => 220 | 138 => 219 | 51 => 22 | 160 => 245 | 208 => 254 | 206 => 252 | 80 => 122 | n => n, fun | 13 => 6 | 3 => 2 | 4 => 3 | n => n⟩
theorem Tryz.lays159 : Go.Proofs.Lays.n159 Tryz.prog Tryz.lays159_ren := {
  mixed := by kernel_rfl
  f118 := Tryz.func218.trans (congrArg some (by kernel_rfl))
  f159 := Tryz.func201.trans (congrArg some (by kernel_rfl))
  f165 := Tryz.func63.trans (congrArg some (by kernel_rfl))
  f166 := Tryz.func64.trans (congrArg some (by kernel_rfl))
  f167 := Tryz.func195.trans (congrArg some (by kernel_rfl))
  f168 := Tryz.func219.trans (congrArg some (by kernel_rfl))
  f169 := Tryz.func65.trans (congrArg some (by kernel_rfl))
  f197 := Tryz.func116.trans (congrArg some (by kernel_rfl))
  f204 := Tryz.func222.trans (congrArg some (by kernel_rfl))
  f230 := Tryz.func196.trans (congrArg some (by kernel_rfl))
  f240 := Tryz.func91.trans (congrArg some (by kernel_rfl))
  f241 := Tryz.func92.trans (congrArg some (by kernel_rfl))
  f242 := Tryz.func230.trans (congrArg some (by kernel_rfl))
  f260 := Tryz.func166.trans (congrArg some (by kernel_rfl))
  f262 := Tryz.func221.trans (congrArg some (by kernel_rfl))
  f270 := Tryz.func220.trans (congrArg some (by kernel_rfl))
  f274 := Tryz.func237.trans (congrArg some (by kernel_rfl))
  f275 := Tryz.func238.trans (congrArg some (by kernel_rfl))
  f276 := Tryz.func123.trans (congrArg some (by kernel_rfl))
  f277 := Tryz.func124.trans (congrArg some (by kernel_rfl))
  f278 := Tryz.func236.trans (congrArg some (by kernel_rfl))
  f313 := Tryz.func231.trans (congrArg some (by kernel_rfl))
  t0 := Tryz.underlying0
  a0 := Tryz.isAgg0
  z0 := Tryz.sizeOf0
  v0 := Tryz.zeroValue0
  t3 := Tryz.underlying3
  a3 := Tryz.isAgg3
  z3 := Tryz.sizeOf3
  v3 := Tryz.zeroValue3
  t4 := Tryz.underlying4
  a4 := Tryz.isAgg4
  z4 := Tryz.sizeOf4
  v4 := Tryz.zeroValue4
  t5 := Tryz.underlying5
  a5 := Tryz.isAgg5
  z5 := Tryz.sizeOf5
  v5 := Tryz.zeroValue5
  t9 := Tryz.underlying9
  a9 := Tryz.isAgg9
  z9 := Tryz.sizeOf9
  v9 := Tryz.zeroValue9
  t20 := Tryz.underlying20
  a20 := Tryz.isAgg20
  z20 := Tryz.sizeOf20
  v20 := Tryz.zeroValue20
  t21 := Tryz.underlying21
  a21 := Tryz.isAgg21
  z21 := Tryz.sizeOf21
  v21 := Tryz.zeroValue21
  t37 := Tryz.underlying23
  a37 := Tryz.isAgg23
  z37 := Tryz.sizeOf23
  v37 := Tryz.zeroValue23
  t46 := Tryz.underlying73
  a46 := Tryz.isAgg73
  z46 := Tryz.sizeOf73
  v46 := Tryz.zeroValue73
  t51 := Tryz.underlying22
  a51 := Tryz.isAgg22
  z51 := Tryz.sizeOf22
  v51 := Tryz.zeroValue22
  t70 := Tryz.underlying114
  a70 := Tryz.isAgg114
  z70 := Tryz.sizeOf114
  v70 := Tryz.zeroValue114
  t72 := Tryz.underlying116
  a72 := Tryz.isAgg116
  z72 := Tryz.sizeOf116
  v72 := Tryz.zeroValue116
  t75 := Tryz.underlying119
  a75 := Tryz.isAgg119
  z75 := Tryz.sizeOf119
  v75 := Tryz.zeroValue119
  t76 := Tryz.underlying120
  a76 := Tryz.isAgg120
  z76 := Tryz.sizeOf120
  v76 := Tryz.zeroValue120
  t105 := Tryz.underlying161
  a105 := Tryz.isAgg161
  z105 := Tryz.sizeOf161
  v105 := Tryz.zeroValue161
  t107 := Tryz.underlying210
  a107 := Tryz.isAgg210
  z107 := Tryz.sizeOf210
  v107 := Tryz.zeroValue210
  t119 := Tryz.underlying217
  a119 := Tryz.isAgg217
  z119 := Tryz.sizeOf217
  t127 := Tryz.underlying144
  a127 := Tryz.isAgg144
  z127 := Tryz.sizeOf144
  v127 := Tryz.zeroValue144
  t138 := Tryz.underlying219
  a138 := Tryz.isAgg219
  z138 := Tryz.sizeOf219
  v138 := Tryz.zeroValue219
  t139 := Tryz.underlying220
  a139 := Tryz.isAgg220
  z139 := Tryz.sizeOf220
  v139 := Tryz.zeroValue220
  t160 := Tryz.underlying245
  a160 := Tryz.isAgg245
  z160 := Tryz.sizeOf245
  v160 := Tryz.zeroValue245
  t162 := Tryz.underlying241
  a162 := Tryz.isAgg241
  z162 := Tryz.sizeOf241
  v162 := Tryz.zeroValue241
  t164 := Tryz.underlying169
  a164 := Tryz.isAgg169
  z164 := Tryz.sizeOf169
  v164 := Tryz.zeroValue169
  t203 := Tryz.underlying239
  a203 := Tryz.isAgg239
  z203 := Tryz.sizeOf239
  v203 := Tryz.zeroValue239
  t206 := Tryz.underlying252
  a206 := Tryz.isAgg252
  z206 := Tryz.sizeOf252
  v206 := Tryz.zeroValue252
  t208 := Tryz.underlying254
  a208 := Tryz.isAgg254
  z208 := Tryz.sizeOf254
  v208 := Tryz.zeroValue254
  g3 := by kernel_rfl
  g4 := by kernel_rfl
  g13 := by kernel_rfl }
theorem Tryz.Builder_Extra_159 : Builder.Extra Tryz.prog Tryz.lays159_ren := {
  sizeBuilder := by kernel_rfl
  liesBuilder := by kernel_rfl
  t5 := Tryz.underlying5
  a5 := Tryz.isAgg5
  z5 := Tryz.sizeOf5
  v5 := Tryz.zeroValue5
  infoByte := by kernel_rfl
  cellsByte := by kernel_rfl
  sizeByte := by kernel_rfl
  neB5 := by decide }
open Go.RowKit in
/-- strings.ToLower: "ToLower returns s with all Unicode letters mapped to their lower case.": ON ASCII TEXT OF AT MOST 2^47 BYTES. Below the heap's end the world is as it was: where a letter turns, the call makes a builder and its buffer. (LAID: no walk: one application.) -/
theorem Tryz.strings_ToLower_ascii (s : ByteArray) (w : World) (hs : s.size ≤ 140737488355328) (hascii : ∀ (j : Nat) (b : UInt8), s.data.toList[j]? = some b → b.toNat < 128) :
    Calls Tryz.prog 201 #[.string s] w fun e w' => e = .returned (.string ⟨(Lib.toLowerA s.data.toList).toArray⟩) ∧ Below w.heap.size w w' := Any.strings_ToLower_ascii Tryz.lays159 Tryz.Builder_Extra_159 s w hs hascii
end Go.Proofs
/-
  New memory, under a guard that is known.
-/
namespace Go.Proofs.YtjhaccmcjlbllaaGreatDoor
open Go Go.RowKit
/-- new memory, under a guard that is so -/
theorem wl_gnew {P : Program} {Q : Exit → Act → World → Prop} {a : Act} {w : World} {n : Nat} {Γ : Env} {l rest : List Oper} {o : Oper} {t gi gt : Nat} {b : Bool} {v : Value} {x : Obj} (hA : At n Γ a) (hg : o.guard = some (gi, b)) (hgd : (l[gi]?).bind (·.dst) = some gt) (hl : look Γ gt = some (.bool b)) (hd : o.dst = some t) (ht : t < n)
    (hrun : ∀ ev, EvIn Γ ev → (execOp ev o).run P w = .ok (.value v) (w.alloc x))
    (hk : ∀ w1 a', w1.heap[w.heap.size]? = some x → w1.heap.size = w.heap.size + 1 → Below w.heap.size w w1 → At n ((t, v) :: Γ) a' → wpList P l.toArray Q rest a' w1) : wpList P l.toArray Q (o :: rest) a w := by
  have hw : Region.wanted o (yielded l.toArray a.tmps) = true := by
    rw [wanted_eq]
    exact wanted_bool (r := true) hg hgd (hA.evin.get gt hl) (by cases b <;> rfl)
  refine wpList_step fun K hK => ?_
  rw [hw, if_pos rfl]
  unfold Oper.wp
  rw [hrun _ hA.evin, Oper.upon_value, hd]
  exact hK _ _ (hk _ _ (heap_alloc_new w x) (by simp) ((Below.refl _ _).alloc (Nat.le_refl _) x) (hA.put ht v))
/-- a call under a guard that is so -/
theorem wl_kcall {P : Program} {Q : Exit → Act → World → Prop} {a : Act} {w : World} {n : Nat} {Γ : Env} {l rest : List Oper} {o : Oper} {t gi gt : Nat} {b : Bool} {f : FuncId} {args : Array Value} {R : Ending → World → Prop} (hA : At n Γ a) (hg : o.guard = some (gi, b)) (hgd : (l[gi]?).bind (·.dst) = some gt) (hl : look Γ gt = some (.bool b)) (hd : o.dst = some t) (ht : t < n)
    (hrun : ∀ ev, EvIn Γ ev → (execOp ev o).run P w = .ok (.enter f args) w) (hc : Calls P f args w R)
    (hk : ∀ e w', R e w' → ∃ v, e = .returned v ∧ ∀ a', At n ((t, v) :: Γ) a' → wpList P l.toArray Q rest a' w') : wpList P l.toArray Q (o :: rest) a w := by
  have hw : Region.wanted o (yielded l.toArray a.tmps) = true := by
    rw [wanted_eq]
    exact wanted_bool (r := true) hg hgd (hA.evin.get gt hl) (by cases b <;> rfl)
  refine wpList_step fun K hK => ?_
  rw [hw, if_pos rfl]
  unfold Oper.wp
  rw [hrun _ hA.evin, Oper.upon_enter]
  refine Calls.mono hc fun e w' hR => ?_
  obtain ⟨v, rfl, h⟩ := hk e w' hR
  rw [hd]
  exact hK _ _ (h _ (hA.put ht v))
end Go.Proofs.YtjhaccmcjlbllaaGreatDoor
/-
  Walks: date.Parse answers, whatever the text.
-/
namespace Go.Proofs.YtjhaccmcjlbllaaGreatDoor
open Go.RowKit
set_option linter.unusedSimpArgs false
set_option linter.unusedVariables false
set_option linter.unusedSimpArgs false
set_option linter.unusedVariables false
theorem extract_st (l : List UInt8) (a b : Nat) : (St l).extract a b = St (l.extract a b) := by
  apply ByteArray.ext
  apply Array.ext'
  simp
/-- the number that bytes are -/
def numW : List UInt8 → Int → Int
  | [], n => n
  | c :: r, n => if (decide ((c.toNat : Int) < 48) || decide (57 < (c.toNat : Int))) = true then -1 else numW r (IntKind.i64.wrap (IntKind.i64.wrap (n * 10) + IntKind.i64.wrap (IntKind.u8.wrap ((c.toNat : Int) - 48))))
theorem numW_drop {l : List UInt8} {j : Nat} {x : UInt8} (hx : l[j]? = some x) (n : Int) : numW (l.drop j) n = if (decide ((x.toNat : Int) < 48) || decide (57 < (x.toNat : Int))) = true then -1 else numW (l.drop (j + 1)) (IntKind.i64.wrap (IntKind.i64.wrap (n * 10) + IntKind.i64.wrap (IntKind.u8.wrap ((x.toNat : Int) - 48)))) := by
  have hj := (List.getElem?_eq_some_iff.1 hx).1
  rw [List.drop_eq_getElem_cons hj, (List.getElem?_eq_some_iff.1 hx).2]
  rfl
set_option maxRecDepth 100000 in
set_option maxHeartbeats 4000000 in
theorem numberW_any (s : List UInt8) (w : World) (hs : s.length ≤ 1000000000) : Calls Tryz.prog 151 #[.string (St s)] w fun ev w' => ev = .returned (.int .i64 (numW s 0)) ∧ Below w.heap.size w w' := by
  have hsz : (St s).size = s.length := rfl
  refine calls_at 30 Tryz.func151 rfl rfl (Nat.le_of_ble_eq_true rfl) ?_
  intro a hA; replace hA := hA.norm
  refine wS (wR ?_)
  revert a; refine wo rfl rfl (by decide) (fun ev e h => by simp [go_sem, h, hsz] <;> rfl) ?_; intro a hA
  replace hA := hA.keepN [0]
  refine wN (nT (wS (wR ?_)))
  revert a; refine wo rfl rfl (by decide) (fun ev e h => by simp [go_sem, h, hsz] <;> rfl) ?_; intro a hA
  replace hA := hA.keepN [0, 3]
  refine wN (nT (wS (wS (wR ?_))))
  revert a; (iterate 3 refine wo rfl rfl (by decide) (fun ev e h => by simp [go_sem, h, hsz] <;> rfl) ?_); intro a hA
  replace hA := hA.keepN [0, 3, 6, 7]
  refine wN (nT (wB ?_))
  refine wp_loop_at (fun f a wx => ∃ (j : Nat) (n : Int), j + f = s.length ∧ numW s 0 = numW (s.drop j) n ∧ Below w.heap.size w wx ∧ At 30 [(0, .string (St s)), (3, .int .i64 n), (6, .int .i64 (s.length : Nat)), (7, .int .i64 (j : Nat))] a) (s.length) ?_ ?_
  · exact ⟨0, 0, by omega, rfl, Below.refl _ _, hA⟩
  clear hA
  rintro f a wx ⟨j, n, hjf, hn, HB, hA⟩
  refine wS (wR ?_)
  revert a; refine wo rfl rfl (by decide) (fun ev e h => by simp [go_sem, h] <;> rfl) ?_; intro a hA
  replace hA := hA.keepN [0, 3, 6, 7, 8]
  refine wN (nT (wS ?_))
  refine wp_if hA 8 _ rfl (fun hq => ?yA) (fun hq => ?nA)
  case nA =>
    have hjn : s.length ≤ j := by simp at hq; omega
    replace hA := hA.keepN [3]
    refine wp_exit (xT (xT (xB (nT (wS (wR ?_))))))
    revert a; (iterate 2 refine wo rfl rfl (by decide) (fun ev e h => by simp [go_sem, h] <;> rfl) ?_); intro a hA
    replace hA := hA.keepN [2]
    refine wN (nT (wp_ret ?_))
    refine ret_1 hA 2 rfl rfl ?_
    exact ⟨by rw [hn, List.drop_of_length_le hjn]; rfl, HB⟩
  case yA =>
    have hjn : j < s.length := by simp at hq; omega
    obtain ⟨x, hx⟩ : ∃ x, s[j]? = some x := ⟨_, List.getElem?_eq_getElem hjn⟩
    have g1 : ∀ h : j < (St s).size, (St s)[j] = x := fun h => (List.getElem?_eq_some_iff.1 hx).2
    have jj0 : (0 : Int) ≤ (j : Int) := by omega
    have jj1 : (j : Int) < (s.length : Int) := by omega
    have i3 : IntKind.i64.wrap (((j : Nat) : Int) + 1) = ((j + 1 : Nat) : Int) := by rw [IntWalk.i64_in _ (by omega)]; omega
    rw [numW_drop hx] at hn
    refine wp_skip (nT (wS (wB (wS (wR ?_)))))
    revert a; (iterate 2 refine wo rfl rfl (by decide) (fun ev e h => by simp [go_sem, h, hsz, g1, jj0, jj1, hjn] <;> rfl) ?_); intro a hA
    replace hA := hA.keepN [0, 3, 4, 6, 7]
    refine wN (nT (wS (wS (wR ?_))))
    revert a; (iterate 5 refine wo rfl rfl (by decide) (fun ev e h => by simp [go_sem, h, hsz, g1, jj0, jj1, hjn] <;> rfl) ?_); (iterate 4 refine wg _ rfl rfl rfl rfl (by decide) (fun hq ev e h => by simp [go_sem, h, ↓gw_t (beq_t hq), hsz, g1, jj0, jj1, hjn] <;> rfl) ?_); (first | refine wko rfl rfl (by decide) rfl rfl rfl ?_ | refine wo rfl rfl (by decide) (fun ev e h => by simp [go_sem, h, gv_or, gv_and, hsz, g1, jj0, jj1, hjn] <;> rfl) ?_); intro a hA
    replace hA := hA.keepN [0, 3, 4, 6, 7, 19]
    refine wN (nT ?_)
    refine wp_if hA 19 _ rfl (fun hq2 => ?yB) (fun hq2 => ?nB)
    case yB =>
      rw [if_pos hq2] at hn
      refine wS (wR ?_)
      revert a; refine wo rfl rfl (by decide) (fun ev e h => by simp [go_sem, h, hsz, g1, jj0, jj1, hjn] <;> rfl) ?_; intro a hA
      replace hA := hA.keepN [2]
      refine wN (nT (wp_ret (rT (rB (rT (rT (rB (rT ?_))))))))
      refine ret_1 hA 2 rfl rfl ?_
      exact ⟨by rw [hn], HB⟩
    case nB =>
      rw [if_neg (by rw [hq2]; decide)] at hn
      have hx8 : x.toNat < 256 := x.toNat_lt
      refine wp_skip (nT (wR ?_))
      revert a; (iterate 6 refine wo rfl rfl (by decide) (fun ev e h => by simp [go_sem, h, hsz, g1, jj0, jj1, hjn, i3] <;> rfl) ?_); intro a hA
      refine wl_op hA rfl rfl (by decide) (fun ev h => by simp [go_sem, h.get 25 rfl, hsz, g1, jj0, jj1, hjn, i3]; try first | exact ⟨rfl, rfl⟩ | rfl) fun a hA => ?_
      revert a; (iterate 2 refine wo rfl rfl (by decide) (fun ev e h => by simp [go_sem, h, hsz, g1, jj0, jj1, hjn, i3] <;> rfl) ?_); intro a hA
      replace hA := hA.keepN [0, 3, 6, 7]
      refine wN (nB (nT (wR ?_)))
      revert a; (iterate 2 refine wo rfl rfl (by decide) (fun ev e h => by simp [go_sem, h, hsz, g1, jj0, jj1, hjn, i3] <;> rfl) ?_); intro a hA
      replace hA := hA.keepN [0, 3, 6, 7]
      refine wN (nT ?_)
      exact ⟨f - 1, by omega, j + 1, _, by omega, hn, HB, hA⟩
def low7 (c : UInt8) : Bool := decide (c.toNat < 128)
set_option maxRecDepth 100000 in
set_option maxHeartbeats 4000000 in
theorem ascii_all (s : List UInt8) (w : World) (hs : s.length ≤ 1000000000) : Calls Tryz.prog 149 #[.string (St s)] w fun ev w' => ev = .returned (.bool (s.all low7)) ∧ Below w.heap.size w w' := by
  have hsz : (St s).size = s.length := rfl
  refine calls_at 14 Tryz.func149 rfl rfl (Nat.le_of_ble_eq_true rfl) ?_
  intro a hA; replace hA := hA.norm
  refine wS (wR ?_)
  revert a; refine wo rfl rfl (by decide) (fun ev e h => by simp [go_sem, h, hsz] <;> rfl) ?_; intro a hA
  replace hA := hA.keepN [0]
  refine wN (nT (wS (wS (wR ?_))))
  revert a; (iterate 3 refine wo rfl rfl (by decide) (fun ev e h => by simp [go_sem, h, hsz] <;> rfl) ?_); intro a hA
  replace hA := hA.keepN [0, 5, 6]
  refine wN (nT (wB ?_))
  refine wp_loop_at (fun f a wx => ∃ (j : Nat), j + f = s.length ∧ (s.take j).all low7 = true ∧ Below w.heap.size w wx ∧ At 14 [(0, .string (St s)), (5, .int .i64 (s.length : Nat)), (6, .int .i64 (j : Nat))] a) (s.length) ?_ ?_
  · exact ⟨0, by omega, rfl, Below.refl _ _, hA⟩
  clear hA
  rintro f a wx ⟨j, hjf, hall, HB, hA⟩
  refine wS (wR ?_)
  revert a; refine wo rfl rfl (by decide) (fun ev e h => by simp [go_sem, h] <;> rfl) ?_; intro a hA
  replace hA := hA.keepN [0, 5, 6, 7]
  refine wN (nT (wS ?_))
  refine wp_if hA 7 _ rfl (fun hq => ?yA) (fun hq => ?nA)
  case nA =>
    have hjn : s.length ≤ j := by simp at hq; omega
    rw [List.take_of_length_le hjn] at hall
    replace hA := hA.keepN []
    refine wp_exit (xT (xT (xB (nT (wS (wR ?_))))))
    revert a; refine wo rfl rfl (by decide) (fun ev e h => by simp [go_sem, h] <;> rfl) ?_; intro a hA
    replace hA := hA.keepN [2]
    refine wN (nT (wp_ret ?_))
    refine ret_1 hA 2 rfl rfl ?_
    exact ⟨by rw [hall], HB⟩
  case yA =>
    have hjn : j < s.length := by simp at hq; omega
    obtain ⟨x, hx⟩ : ∃ x, s[j]? = some x := ⟨_, List.getElem?_eq_getElem hjn⟩
    have g1 : ∀ h : j < (St s).size, (St s)[j] = x := fun h => (List.getElem?_eq_some_iff.1 hx).2
    have jj0 : (0 : Int) ≤ (j : Int) := by omega
    have jj1 : (j : Int) < (s.length : Int) := by omega
    have i3 : IntKind.i64.wrap (((j : Nat) : Int) + 1) = ((j + 1 : Nat) : Int) := by rw [IntWalk.i64_in _ (by omega)]; omega
    refine wp_skip (nT (wS (wB (wS (wR ?_)))))
    revert a; (iterate 2 refine wo rfl rfl (by decide) (fun ev e h => by simp [go_sem, h, hsz, g1, jj0, jj1, hjn] <;> rfl) ?_); intro a hA
    replace hA := hA.keepN [0, 3, 5, 6]
    refine wN (nT (wS (wR ?_)))
    revert a; (iterate 4 refine wo rfl rfl (by decide) (fun ev e h => by simp [go_sem, h, hsz, g1, jj0, jj1, hjn] <;> rfl) ?_); intro a hA
    replace hA := hA.keepN [0, 5, 6, 12]
    refine wN (nT ?_)
    refine wp_if hA 12 _ rfl (fun hq2 => ?yB) (fun hq2 => ?nB)
    case yB =>
      have hn : low7 x = false := by unfold low7; simp at hq2 ⊢; omega
      refine wS (wR ?_)
      revert a; refine wo rfl rfl (by decide) (fun ev e h => by simp [go_sem, h, hsz, g1, jj0, jj1, hjn] <;> rfl) ?_; intro a hA
      replace hA := hA.keepN [2]
      refine wN (nT (wp_ret (rB (rT (rT (rB (rT ?_)))))))
      refine ret_1 hA 2 rfl rfl ?_
      exact ⟨ret_bool (by rw [all_bad hx hn]), HB⟩
    case nB =>
      have hn : low7 x = true := by unfold low7; simp at hq2 ⊢; omega
      refine wp_skip (nB (nT (wR ?_)))
      revert a; (iterate 2 refine wo rfl rfl (by decide) (fun ev e h => by simp [go_sem, h, i3] <;> rfl) ?_); intro a hA
      replace hA := hA.keepN [0, 5, 6]
      refine wN (nT ?_)
      exact ⟨f - 1, by omega, j + 1, by omega, by rw [all_at hx, hall, hn]; rfl, HB, hA⟩
def monAll : List UInt8 := [74, 97, 110, 70, 101, 98, 77, 97, 114, 65, 112, 114, 77, 97, 121, 74, 117, 110, 74, 117, 108, 65, 117, 103, 83, 101, 112, 79, 99, 116, 78, 111, 118, 68, 101, 99]
def monS (k : Nat) : List UInt8 := monAll.extract (3 * k) (3 * k + 3)
theorem monS_low : ∀ k : Fin 12, (monS k.1).all low7 = true := by decide +kernel
theorem monS_len : ∀ k : Fin 12, (monS k.1).length ≤ 36 := by decide +kernel
set_option maxRecDepth 100000 in
set_option maxHeartbeats 4000000 in
theorem monthS_any (k : Nat) (hk : k < 12) (w : World) : Calls Tryz.prog 85 #[.int .i64 ((k : Int) + 1)] w fun ev w' => ev = .returned (.string (St (monS k))) ∧ Below w.heap.size w w' := by
  have i1 : IntKind.i64.wrap (k : Int) = (k : Int) := by rw [IntWalk.i64_in _ (by omega)]
  have i2 : IntKind.i64.wrap (3 * (k : Int)) = ((3 * k : Nat) : Int) := by rw [IntWalk.i64_in _ (by omega)]; omega
  have i3 : IntKind.i64.wrap (3 * ((k : Int) + 1)) = ((3 * k + 3 : Nat) : Int) := by rw [IntWalk.i64_in _ (by omega)]; omega
  obtain ⟨a, ha⟩ : ∃ a, 3 * k = a := ⟨_, rfl⟩
  obtain ⟨b, hb⟩ : ∃ b, 3 * k + 3 = b := ⟨_, rfl⟩
  have hE : (⟨#[74, 97, 110, 70, 101, 98, 77, 97, 114, 65, 112, 114, 77, 97, 121, 74, 117, 110, 74, 117, 108, 65, 117, 103, 83, 101, 112, 79, 99, 116, 78, 111, 118, 68, 101, 99]⟩ : ByteArray).extract a b = St (monS k) := by show (St monAll).extract a b = _; rw [extract_st]; unfold monS; rw [hb, ha]
  rw [ha] at i2
  rw [hb] at i3
  have q1 : (0 : Int) ≤ (a : Int) := by omega
  have q2 : (a : Int) ≤ (b : Int) := by omega
  have q3 : (b : Int) ≤ 36 := by omega
  refine calls_at 9 Tryz.func85 rfl rfl (Nat.le_of_ble_eq_true rfl) ?_
  intro a hA; replace hA := hA.norm
  refine wS (wR ?_)
  revert a; refine wo rfl rfl (by decide) (fun ev e h => by simp [go_sem, h, i1, i2, i3, q1, q2, q3, hE] <;> rfl) ?_; intro a hA
  replace hA := hA.keepN [0]
  refine wN (nT (wS (wR ?_)))
  revert a; (iterate 7 refine wo rfl rfl (by decide) (fun ev e h => by simp [go_sem, h, i1, i2, i3, q1, q2, q3, hE] <;> rfl) ?_); intro a hA
  replace hA := hA.keepN [2]
  refine wN (nT (wp_ret ?_))
  refine ret_1 hA 2 rfl rfl ?_
  exact ⟨rfl, Below.refl _ _⟩
theorem low_size {l : List UInt8} (h : l.all low7 = true) (j : Nat) (b : UInt8) (hb : (St l).data.toList[j]? = some b) : b.toNat < 128 := by
  have := List.all_eq_true.1 h b (List.mem_of_getElem? hb)
  simpa [low7] using this
def lowEq (s : List UInt8) (k : Nat) : Bool := Lib.toLowerA s == Lib.toLowerA (monS k)
def namedI (s : List UInt8) : Int := match (List.range 12).find? (lowEq s) with
  | some k => (k : Int) + 1
  | none => 0
theorem namedI_at {s : List UInt8} {j : Nat} (hj : j < 12) (h : lowEq s j = true) (hno : ∀ i, i < j → lowEq s i = false) : namedI s = (j : Int) + 1 := by
  unfold namedI
  rw [show (List.range 12).find? (lowEq s) = some j from by
    rw [List.find?_range_eq_some]
    exact ⟨h, List.mem_range.2 hj, fun i hi => by rw [hno i hi]; rfl⟩]
theorem namedI_none {s : List UInt8} (hno : ∀ i, i < 12 → lowEq s i = false) : namedI s = 0 := by
  unfold namedI
  rw [show (List.range 12).find? (lowEq s) = none from List.find?_eq_none.2 fun i hi => by rw [hno i (List.mem_range.1 hi)]; decide]
set_option maxRecDepth 100000 in
set_option maxHeartbeats 4000000 in
theorem namedW_any (s : List UInt8) (w : World) (hs : s.length ≤ 1000000000) (hl : s.all low7 = true) : Calls Tryz.prog 152 #[.string (St s)] w fun ev w' => ev = .returned (.int .i64 (namedI s)) ∧ Below w.heap.size w w' := by
  refine calls_at 15 Tryz.func152 rfl rfl (Nat.le_of_ble_eq_true rfl) ?_
  intro a hA; replace hA := hA.norm
  refine wS (wR ?_)
  revert a; refine wo rfl rfl (by decide) (fun ev e h => by simp [go_sem, h] <;> rfl) ?_; intro a hA
  replace hA := hA.keepN [0]
  refine wN (nT (wS (wS (wR ?_))))
  revert a; refine wo rfl rfl (by decide) (fun ev e h => by simp [go_sem, h] <;> rfl) ?_; intro a hA
  replace hA := hA.keepN [0, 3]
  refine wN (nT (wB ?_))
  refine wp_loop_at (fun f a wx => ∃ (j : Nat), j + f = 12 ∧ (∀ i, i < j → lowEq s i = false) ∧ Below w.heap.size w wx ∧ At 15 [(0, .string (St s)), (3, .int .i64 ((j : Int) + 1))] a) (12) ?_ ?_
  · exact ⟨0, by omega, fun i hi => absurd hi (Nat.not_lt_zero _), Below.refl _ _, hA⟩
  clear hA
  rintro f a wx ⟨j, hjf, hno, HB, hA⟩
  refine wS (wS (wR ?_))
  revert a; (iterate 2 refine wo rfl rfl (by decide) (fun ev e h => by simp [go_sem, h] <;> rfl) ?_); intro a hA
  replace hA := hA.keepN [0, 3, 5]
  refine wN (nT ?_)
  refine wp_if hA 5 _ rfl (fun hq => ?yA) (fun hq => ?nA)
  case nA =>
    have hjn : j = 12 := by simp at hq; omega
    subst hjn
    replace hA := hA.keepN []
    refine wp_exit (xT (xT (xB (nT (wS (wR ?_))))))
    revert a; refine wo rfl rfl (by decide) (fun ev e h => by simp [go_sem, h] <;> rfl) ?_; intro a hA
    replace hA := hA.keepN [2]
    refine wN (nT (wp_ret ?_))
    refine ret_1 hA 2 rfl rfl ?_
    exact ⟨by rw [namedI_none hno], HB⟩
  case yA =>
    have hjn : j < 12 := by simp at hq; omega
    refine wp_skip (nT (wS (wB (wS (wR ?_)))))
    revert a; refine wo rfl rfl (by decide) (fun ev e h => by simp [go_sem, h] <;> rfl) ?_; intro a hA
    refine wl_call hA rfl rfl (by decide) (fun ev h => exec_call Tryz.func201 (by kernel_rfl) rfl (h.f _) (by first | (simp only [mL, h.get 8 rfl, h.c] <;> rfl) | (simp [mL, h.get 8 rfl, h.c] <;> rfl))) (Tryz.strings_ToLower_ascii (St s) _ (by show s.length ≤ _; omega) (low_size hl)) ?_
    rintro e w2 ⟨rfl, hb2⟩
    refine ⟨_, rfl, fun a hA => ?_⟩
    replace HB := HB.trans (hb2.mono HB.size)
    revert a; refine wo rfl rfl (by decide) (fun ev e h => by simp [go_sem, h] <;> rfl) ?_; intro a hA
    refine wl_call hA rfl rfl (by decide) (fun ev h => exec_call Tryz.func85 (by kernel_rfl) rfl (h.f _) (by first | (simp only [mL, h.get 10 rfl, h.c] <;> rfl) | (simp [mL, h.get 10 rfl, h.c] <;> rfl))) (monthS_any j hjn _) ?_
    rintro e w3 ⟨rfl, hb3⟩
    refine ⟨_, rfl, fun a hA => ?_⟩
    replace HB := HB.trans (hb3.mono HB.size)
    have hml : (St (monS j)).size ≤ 36 := monS_len ⟨j, hjn⟩
    refine wl_call hA rfl rfl (by decide) (fun ev h => exec_call Tryz.func201 (by kernel_rfl) rfl (h.f _) (by first | (simp only [mL, h.get 11 rfl, h.c] <;> rfl) | (simp [mL, h.get 11 rfl, h.c] <;> rfl))) (Tryz.strings_ToLower_ascii (St (monS j)) _ (by omega) (low_size (monS_low ⟨j, hjn⟩))) ?_
    rintro e w4 ⟨rfl, hb4⟩
    refine ⟨_, rfl, fun a hA => ?_⟩
    replace HB := HB.trans (hb4.mono HB.size)
    revert a; refine wo rfl rfl (by decide) (fun ev e h => by simp [go_sem, h] <;> rfl) ?_; intro a hA
    replace hA := hA.keepN [0, 3, 13]
    refine wN (nT ?_)
    obtain ⟨b, hb⟩ : ∃ b, (Lib.toLowerA s == Lib.toLowerA (monS j)) = b := ⟨_, rfl⟩
    rw [hb] at hA
    refine wp_if hA 13 _ rfl (fun hq2 => ?yB) (fun hq2 => ?nB)
    case yB =>
      have hb3 : b = true := by simpa using hq2
      subst hb3
      refine wS (wR ?_)
      revert a; (iterate 2 refine wo rfl rfl (by decide) (fun ev e h => by simp [go_sem, h] <;> rfl) ?_); intro a hA
      replace hA := hA.keepN [2]
      refine wN (nT (wp_ret (rB (rT (rT (rB (rT ?_)))))))
      refine ret_1 hA 2 rfl rfl ?_
      exact ⟨by rw [namedI_at hjn hb hno], HB⟩
    case nB =>
      have hb3 : b = false := by simpa using hq2
      subst hb3
      have i3 : IntKind.i64.wrap ((j : Int) + 1 + 1) = (j : Int) + 1 + 1 := by rw [IntWalk.i64_in _ (by omega)]
      refine wp_skip (nB (nT (wR ?_)))
      revert a; (iterate 3 refine wo rfl rfl (by decide) (fun ev e h => by simp [go_sem, h, i3] <;> rfl) ?_); intro a hA
      replace hA := hA.keepN [0, 3]
      refine wN (nT ?_)
      refine ⟨f - 1, by omega, j + 1, by omega, fun i hi => ?_, HB, hA⟩
      by_cases e : i = j
      · rw [e]; exact hb
      · exact hno i (by omega)
set_option maxRecDepth 100000 in
set_option maxHeartbeats 4000000 in
theorem sinceW_any (y m d : Int) (w : World) : Calls Tryz.prog 153 #[.int .i64 y, .int .i64 m, .int .i64 d] w fun ev w' => ∃ n, ev = .returned (.int .i64 n) ∧ w' = w := by
  refine calls_at 44 Tryz.func153 rfl rfl (Nat.le_of_ble_eq_true rfl) ?_
  intro a hA; replace hA := hA.norm
  refine wS (wR ?_)
  revert a; refine wo rfl rfl (by decide) (fun ev e h => by simp [go_sem, h] <;> rfl) ?_; intro a hA
  replace hA := hA.keepN [0, 1, 2]
  refine wN (nT (wS (wS (wR ?_))))
  revert a; (iterate 2 refine wo rfl rfl (by decide) (fun ev e h => by simp [go_sem, h] <;> rfl) ?_); intro a hA
  replace hA := hA.keepN [0, 1, 2, 11]
  refine wN (nT ?_)
  refine wp_if hA 11 _ rfl (fun hq => ?yA) (fun hq => ?nA)
  case yA =>
    refine wS (wR ?_)
    revert a; (iterate 3 refine wo rfl rfl (by decide) (fun ev e h => by simp [go_sem, h] <;> rfl) ?_); intro a hA
    replace hA := hA.keepN [0, 1, 2]
    refine wN (nT (wR ?_))
    revert a; (iterate 3 refine wo rfl rfl (by decide) (fun ev e h => by simp [go_sem, h] <;> rfl) ?_); intro a hA
    replace hA := hA.keepN [0, 1, 2]
    refine wN (nT (wS (wR ?_)))
    revert a; (iterate 3 refine wo rfl rfl (by decide) (fun ev e h => by simp [go_sem, h] <;> rfl) ?_); intro a hA
    replace hA := hA.keepN [0, 1, 2, 7]
    refine wN (nT (wS (wR ?_)))
    revert a; (iterate 5 refine wo rfl rfl (by decide) (fun ev e h => by simp [go_sem, h] <;> rfl) ?_); intro a hA
    replace hA := hA.keepN [1, 2, 7, 8]
    refine wN (nT (wS (wR ?_)))
    revert a; (iterate 9 refine wo rfl rfl (by decide) (fun ev e h => by simp [go_sem, h] <;> rfl) ?_); intro a hA
    replace hA := hA.keepN [7, 8, 9]
    refine wN (nT (wS (wR ?_)))
    revert a; (iterate 10 refine wo rfl rfl (by decide) (fun ev e h => by simp [go_sem, h] <;> rfl) ?_); intro a hA
    replace hA := hA.keepN [9, 37, 39]
    revert a; (iterate 5 refine wo rfl rfl (by decide) (fun ev e h => by simp [go_sem, h] <;> rfl) ?_); intro a hA
    replace hA := hA.keepN [6]
    refine wN (nT (wp_ret ?_))
    refine ret_1 hA 6 rfl rfl ?_
    exact ⟨_, rfl, rfl⟩
  case nA =>
    refine wp_skip (nT (wS (wR ?_)))
    revert a; (iterate 3 refine wo rfl rfl (by decide) (fun ev e h => by simp [go_sem, h] <;> rfl) ?_); intro a hA
    replace hA := hA.keepN [0, 1, 2, 7]
    refine wN (nT (wS (wR ?_)))
    revert a; (iterate 5 refine wo rfl rfl (by decide) (fun ev e h => by simp [go_sem, h] <;> rfl) ?_); intro a hA
    replace hA := hA.keepN [1, 2, 7, 8]
    refine wN (nT (wS (wR ?_)))
    revert a; (iterate 9 refine wo rfl rfl (by decide) (fun ev e h => by simp [go_sem, h] <;> rfl) ?_); intro a hA
    replace hA := hA.keepN [7, 8, 9]
    refine wN (nT (wS (wR ?_)))
    revert a; (iterate 10 refine wo rfl rfl (by decide) (fun ev e h => by simp [go_sem, h] <;> rfl) ?_); intro a hA
    replace hA := hA.keepN [9, 37, 39]
    revert a; (iterate 5 refine wo rfl rfl (by decide) (fun ev e h => by simp [go_sem, h] <;> rfl) ?_); intro a hA
    replace hA := hA.keepN [6]
    refine wN (nT (wp_ret ?_))
    refine ret_1 hA 6 rfl rfl ?_
    exact ⟨_, rfl, rfl⟩
set_option maxRecDepth 100000 in
set_option maxHeartbeats 4000000 in
theorem civilW_any (d : Int) (w : World) : Calls Tryz.prog 83 #[.int .i64 d] w fun ev w' => ∃ a b c, ev = .returned (.tuple #[.int .i64 a, .int .i64 b, .int .i64 c]) ∧ w' = w := by
  refine calls_at 68 Tryz.func83 rfl rfl (Nat.le_of_ble_eq_true rfl) ?_
  intro a hA; replace hA := hA.norm
  refine wS (wR ?_)
  revert a; (iterate 3 refine wo rfl rfl (by decide) (fun ev e h => by simp [go_sem, h] <;> rfl) ?_); intro a hA
  replace hA := hA.keepN [0]
  refine wN (nT (wS (wR ?_)))
  revert a; (iterate 3 refine wo rfl rfl (by decide) (fun ev e h => by simp [go_sem, h] <;> rfl) ?_); intro a hA
  replace hA := hA.keepN [0]
  refine wN (nT (wS (wR ?_)))
  revert a; (iterate 3 refine wo rfl rfl (by decide) (fun ev e h => by simp [go_sem, h] <;> rfl) ?_); intro a hA
  replace hA := hA.keepN [0, 5]
  refine wN (nT (wS (wR ?_)))
  revert a; (iterate 5 refine wo rfl rfl (by decide) (fun ev e h => by simp [go_sem, h] <;> rfl) ?_); intro a hA
  replace hA := hA.keepN [5, 6]
  refine wN (nT (wS (wR ?_)))
  revert a; (iterate 10 refine wo rfl rfl (by decide) (fun ev e h => by simp [go_sem, h] <;> rfl) ?_); intro a hA
  replace hA := hA.keepN [5, 6, 28]
  revert a; (iterate 2 refine wo rfl rfl (by decide) (fun ev e h => by simp [go_sem, h] <;> rfl) ?_); intro a hA
  replace hA := hA.keepN [5, 6, 7]
  refine wN (nT (wS (wR ?_)))
  revert a; (iterate 10 refine wo rfl rfl (by decide) (fun ev e h => by simp [go_sem, h] <;> rfl) ?_); intro a hA
  replace hA := hA.keepN [5, 7, 39]
  revert a; refine wo rfl rfl (by decide) (fun ev e h => by simp [go_sem, h] <;> rfl) ?_; intro a hA
  replace hA := hA.keepN [5, 7, 8]
  refine wN (nT (wS (wR ?_)))
  revert a; (iterate 5 refine wo rfl rfl (by decide) (fun ev e h => by simp [go_sem, h] <;> rfl) ?_); intro a hA
  replace hA := hA.keepN [5, 7, 8, 9]
  refine wN (nT (wS (wR ?_)))
  revert a; (iterate 8 refine wo rfl rfl (by decide) (fun ev e h => by simp [go_sem, h] <;> rfl) ?_); intro a hA
  replace hA := hA.keepN [5, 7, 9, 10]
  refine wN (nT (wS (wS (wR ?_))))
  revert a; (iterate 2 refine wo rfl rfl (by decide) (fun ev e h => by simp [go_sem, h] <;> rfl) ?_); intro a hA
  replace hA := hA.keepN [5, 7, 9, 10, 52]
  refine wN (nT ?_)
  refine wp_if hA 52 _ rfl (fun hq => ?yA) (fun hq => ?nA)
  case yA =>
    refine wS (wR ?_)
    revert a; (iterate 10 refine wo rfl rfl (by decide) (fun ev e h => by simp [go_sem, h] <;> rfl) ?_); intro a hA
    replace hA := hA.keepN [2, 3, 4]
    refine wN (nT (wp_ret (rT ?_)))
    refine ret_3 hA 2 3 4 rfl rfl rfl rfl ?_
    exact ⟨_, _, _, rfl, rfl⟩
  case nA =>
    refine wp_skip (nT (wS (wR ?_)))
    revert a; (iterate 10 refine wo rfl rfl (by decide) (fun ev e h => by simp [go_sem, h] <;> rfl) ?_); intro a hA
    replace hA := hA.keepN [2, 3, 67]
    revert a; refine wo rfl rfl (by decide) (fun ev e h => by simp [go_sem, h] <;> rfl) ?_; intro a hA
    replace hA := hA.keepN [2, 3, 4]
    refine wN (nT (wp_ret ?_))
    refine ret_3 hA 2 3 4 rfl rfl rfl rfl ?_
    exact ⟨_, _, _, rfl, rfl⟩
set_option maxRecDepth 100000 in
set_option maxHeartbeats 4000000 in
theorem signsW_any (s : List UInt8) (hs : s.length = 26) (w : World) : Calls Tryz.prog 150 #[.string (St s)] w fun ev w' => ∃ b, ev = .returned (.bool b) ∧ w' = w := by
  have hsz : (St s).size = 26 := hs
  obtain ⟨x2, h2⟩ : ∃ x, s[2]? = some x := ⟨_, List.getElem?_eq_getElem (by omega)⟩
  have g2 : ∀ h : 2 < (St s).size, (St s)[2] = x2 := fun h => (List.getElem?_eq_some_iff.1 h2).2
  obtain ⟨x6, h6⟩ : ∃ x, s[6]? = some x := ⟨_, List.getElem?_eq_getElem (by omega)⟩
  have g6 : ∀ h : 6 < (St s).size, (St s)[6] = x6 := fun h => (List.getElem?_eq_some_iff.1 h6).2
  obtain ⟨x11, h11⟩ : ∃ x, s[11]? = some x := ⟨_, List.getElem?_eq_getElem (by omega)⟩
  have g11 : ∀ h : 11 < (St s).size, (St s)[11] = x11 := fun h => (List.getElem?_eq_some_iff.1 h11).2
  obtain ⟨x14, h14⟩ : ∃ x, s[14]? = some x := ⟨_, List.getElem?_eq_getElem (by omega)⟩
  have g14 : ∀ h : 14 < (St s).size, (St s)[14] = x14 := fun h => (List.getElem?_eq_some_iff.1 h14).2
  obtain ⟨x17, h17⟩ : ∃ x, s[17]? = some x := ⟨_, List.getElem?_eq_getElem (by omega)⟩
  have g17 : ∀ h : 17 < (St s).size, (St s)[17] = x17 := fun h => (List.getElem?_eq_some_iff.1 h17).2
  obtain ⟨x20, h20⟩ : ∃ x, s[20]? = some x := ⟨_, List.getElem?_eq_getElem (by omega)⟩
  have g20 : ∀ h : 20 < (St s).size, (St s)[20] = x20 := fun h => (List.getElem?_eq_some_iff.1 h20).2
  obtain ⟨x21, h21⟩ : ∃ x, s[21]? = some x := ⟨_, List.getElem?_eq_getElem (by omega)⟩
  have g21 : ∀ h : 21 < (St s).size, (St s)[21] = x21 := fun h => (List.getElem?_eq_some_iff.1 h21).2
  refine calls_at 41 Tryz.func150 rfl rfl (Nat.le_of_ble_eq_true rfl) ?_
  intro a hA; replace hA := hA.norm
  refine wS (wR ?_)
  revert a; refine wo rfl rfl (by decide) (fun ev e h => by simp [go_sem, h, hsz, g2, g6, g11, g14, g17, g20, g21] <;> rfl) ?_; intro a hA
  replace hA := hA.keepN [0]
  refine wN (nT (wS (wR ?_)))
  revert a; (iterate 4 refine wo rfl rfl (by decide) (fun ev e h => by simp [go_sem, h, hsz, g2, g6, g11, g14, g17, g20, g21] <;> rfl) ?_); (iterate 3 refine wg _ rfl rfl rfl rfl (by decide) (fun hq ev e h => by simp [go_sem, h, ↓gw_t (beq_t hq), hsz, g2, g6, g11, g14, g17, g20, g21] <;> rfl) ?_); (first | refine wka rfl rfl (by decide) rfl rfl rfl ?_ | refine wo rfl rfl (by decide) (fun ev e h => by simp [go_sem, h, gv_or, gv_and, hsz, g2, g6, g11, g14, g17, g20, g21] <;> rfl) ?_); refine wo rfl rfl (by decide) (fun ev e h => by simp [go_sem, h, hsz, g2, g6, g11, g14, g17, g20, g21] <;> rfl) ?_; refine wg _ rfl rfl rfl rfl (by decide) (fun hq ev e h => by simp [go_sem, h, ↓gw_t (beq_t hq), hsz, g2, g6, g11, g14, g17, g20, g21] <;> rfl) ?_; intro a hA
  replace hA := hA.keepN [0, 11, 12]
  revert a; (iterate 2 refine wg _ rfl rfl rfl rfl (by decide) (fun hq ev e h => by simp [go_sem, h, ↓gw_t (beq_t hq), hsz, g2, g6, g11, g14, g17, g20, g21] <;> rfl) ?_); (first | refine wka rfl rfl (by decide) rfl rfl rfl ?_ | refine wo rfl rfl (by decide) (fun ev e h => by simp [go_sem, h, gv_or, gv_and, hsz, g2, g6, g11, g14, g17, g20, g21] <;> rfl) ?_); refine wo rfl rfl (by decide) (fun ev e h => by simp [go_sem, h, hsz, g2, g6, g11, g14, g17, g20, g21] <;> rfl) ?_; (iterate 3 refine wg _ rfl rfl rfl rfl (by decide) (fun hq ev e h => by simp [go_sem, h, ↓gw_t (beq_t hq), hsz, g2, g6, g11, g14, g17, g20, g21] <;> rfl) ?_); (first | refine wka rfl rfl (by decide) rfl rfl rfl ?_ | refine wo rfl rfl (by decide) (fun ev e h => by simp [go_sem, h, gv_or, gv_and, hsz, g2, g6, g11, g14, g17, g20, g21] <;> rfl) ?_); refine wo rfl rfl (by decide) (fun ev e h => by simp [go_sem, h, hsz, g2, g6, g11, g14, g17, g20, g21] <;> rfl) ?_; refine wg _ rfl rfl rfl rfl (by decide) (fun hq ev e h => by simp [go_sem, h, ↓gw_t (beq_t hq), hsz, g2, g6, g11, g14, g17, g20, g21] <;> rfl) ?_; intro a hA
  replace hA := hA.keepN [0, 21, 22]
  revert a; (iterate 2 refine wg _ rfl rfl rfl rfl (by decide) (fun hq ev e h => by simp [go_sem, h, ↓gw_t (beq_t hq), hsz, g2, g6, g11, g14, g17, g20, g21] <;> rfl) ?_); (first | refine wka rfl rfl (by decide) rfl rfl rfl ?_ | refine wo rfl rfl (by decide) (fun ev e h => by simp [go_sem, h, gv_or, gv_and, hsz, g2, g6, g11, g14, g17, g20, g21] <;> rfl) ?_); refine wo rfl rfl (by decide) (fun ev e h => by simp [go_sem, h, hsz, g2, g6, g11, g14, g17, g20, g21] <;> rfl) ?_; (iterate 3 refine wg _ rfl rfl rfl rfl (by decide) (fun hq ev e h => by simp [go_sem, h, ↓gw_t (beq_t hq), hsz, g2, g6, g11, g14, g17, g20, g21] <;> rfl) ?_); (first | refine wka rfl rfl (by decide) rfl rfl rfl ?_ | refine wo rfl rfl (by decide) (fun ev e h => by simp [go_sem, h, gv_or, gv_and, hsz, g2, g6, g11, g14, g17, g20, g21] <;> rfl) ?_); refine wo rfl rfl (by decide) (fun ev e h => by simp [go_sem, h, hsz, g2, g6, g11, g14, g17, g20, g21] <;> rfl) ?_; refine wg _ rfl rfl rfl rfl (by decide) (fun hq ev e h => by simp [go_sem, h, ↓gw_t (beq_t hq), hsz, g2, g6, g11, g14, g17, g20, g21] <;> rfl) ?_; intro a hA
  replace hA := hA.keepN [0, 31, 32]
  revert a; (iterate 3 refine wg _ rfl rfl rfl rfl (by decide) (fun hq ev e h => by simp [go_sem, h, ↓gw_t (beq_t hq), hsz, g2, g6, g11, g14, g17, g20, g21] <;> rfl) ?_); (iterate 3 refine wg2 _ _ rfl rfl rfl rfl (by decide) (fun hq hr ev e h => by simp [go_sem, h, ↓gw_t (and_beq hq hr), ↓gw_t hq, hsz, g2, g6, g11, g14, g17, g20, g21] <;> rfl) ?_); intro a hA
  refine wl_guard _ hA rfl rfl rfl rfl (by decide) (fun hq ev h => by exact pick_or rfl (((h.get 35 rfl).trans (gw_t (beq_t hq)))) (h.c _) (((h.get 38 rfl).trans (gw_a (beq_t hq))))) fun a hA => ?_
  revert a; (first | refine wka rfl rfl (by decide) rfl rfl rfl ?_ | refine wo rfl rfl (by decide) (fun ev e h => by simp [go_sem, h, gv_or, gv_and, hsz, g2, g6, g11, g14, g17, g20, g21] <;> rfl) ?_); refine wo rfl rfl (by decide) (fun ev e h => by simp [go_sem, h, hsz, g2, g6, g11, g14, g17, g20, g21] <;> rfl) ?_; intro a hA
  replace hA := hA.keepN [2]
  refine wN (nT (wp_ret ?_))
  refine ret_1 hA 2 rfl rfl ?_
  exact ⟨_, rfl, rfl⟩
theorem extract_all {l : List UInt8} {f : UInt8 → Bool} (h : l.all f = true) (a b : Nat) : (l.extract a b).all f = true := by
  rw [List.all_eq_true] at h ⊢
  intro x hx
  rw [List.extract_eq_take_drop] at hx
  exact h x (List.mem_of_mem_drop (List.mem_of_mem_take hx))
theorem extract_len (l : List UInt8) (a b : Nat) : (l.extract a b).length ≤ l.length := by
  rw [List.extract_eq_take_drop, List.length_take, List.length_drop]
  omega
set_option maxRecDepth 100000 in
set_option maxHeartbeats 8000000 in
theorem dateW_any (s : List UInt8) (w : World) (hs : s.length ≤ 1000000000) : Calls Tryz.prog 108 #[.string (St s)] w fun ev w' => ∃ t b, ev = .returned (.tuple #[.int .i64 t, .bool b]) ∧ Below w.heap.size w w' := by
  have HB := Below.refl w.heap.size w
  have hsz : (St s).size = s.length := rfl
  refine calls_at 167 Tryz.func108 rfl rfl (Nat.le_of_ble_eq_true rfl) ?_
  intro a hA; replace hA := hA.norm
  refine wS (wR ?_)
  revert a; (iterate 2 refine wo rfl rfl (by decide) (fun ev e h => by simp [go_sem, h] <;> rfl) ?_); intro a hA
  replace hA := hA.keepN [0]
  refine wN (nT (wS (wS (wR ?_))))
  by_cases h26 : s.length = 26
  case pos =>
    revert a; (iterate 4 refine wo rfl rfl (by decide) (fun ev e h => by simp [go_sem, h, hsz, h26] <;> rfl) ?_); refine wg _ rfl rfl rfl rfl (by decide) (fun hq ev e h => by simp [go_sem, h, ↓gw_t (beq_t hq), hsz, h26] <;> rfl) ?_; intro a hA
    refine wl_kcall hA rfl rfl rfl rfl (by decide) (fun ev h => exec_call Tryz.func149 (by kernel_rfl) rfl (h.f _) (by first | (simp only [mL, h.get 23 rfl, h.c] <;> rfl) | (simp [mL, h.get 23 rfl, h.c, hsz, h26] <;> rfl))) (ascii_all s w hs) ?_
    rintro e w1 ⟨rfl, hb1⟩
    refine ⟨_, rfl, fun a hA => ?_⟩
    replace HB := HB.trans (hb1.mono HB.size)
    obtain ⟨ax, hax⟩ : ∃ b, s.all low7 = b := ⟨_, rfl⟩
    rw [hax] at hA
    cases ax with
    | false =>
      revert a; refine wg _ rfl rfl rfl rfl (by decide) (fun hq ev e h => by simp [go_sem, h, ↓gw_t (beq_t hq), hsz, h26] <;> rfl) ?_; (first | refine wko rfl rfl (by decide) rfl rfl rfl ?_ | refine wo rfl rfl (by decide) (fun ev e h => by simp [go_sem, h, gv_or, gv_and, hsz, h26] <;> rfl) ?_); refine wo rfl rfl (by decide) (fun ev e h => by simp [go_sem, h, hsz, h26] <;> rfl) ?_; refine wg _ rfl rfl rfl rfl (by decide) (fun hq ev e h => by simp [go_sem, h, ↓gw_t (beq_t hq), hsz, h26] <;> rfl) ?_; intro a hA
      refine wl_guard _ (v := .bool false) hA rfl rfl rfl rfl (by decide) (fun hq ev h => by first | (cases hq; done) | (cases hr; done)) fun a hA => ?_
      replace hA := hA.keepN [0, 27, 29]
      refine wl_guard _ (v := .bool false) hA rfl rfl rfl rfl (by decide) (fun hq ev h => by first | (cases hq; done) | (cases hr; done)) fun a hA => ?_
      revert a; (first | refine wko rfl rfl (by decide) rfl rfl rfl ?_ | refine wo rfl rfl (by decide) (fun ev e h => by simp [go_sem, h, gv_or, gv_and, hsz, h26] <;> rfl) ?_); intro a hA
      replace hA := hA.keepN [0, 31]
      refine wN (nT ?_)
      refine wp_if hA 31 _ rfl (fun hq => ?yA) (fun hq => ?nA)
      case nA => simp at hq
      case yA =>
        refine wS (wR ?_)
        revert a; (iterate 2 refine wo rfl rfl (by decide) (fun ev e h => by simp [go_sem, h, hsz, h26] <;> rfl) ?_); intro a hA
        replace hA := hA.keepN [2, 3]
        refine wN (nT (wp_ret (rT ?_)))
        refine ret_2 hA 2 3 rfl rfl rfl ?_
        exact ⟨_, _, rfl, HB⟩
    | true =>
      revert a; refine wg _ rfl rfl rfl rfl (by decide) (fun hq ev e h => by simp [go_sem, h, ↓gw_t (beq_t hq), hsz, h26] <;> rfl) ?_; (first | refine wko rfl rfl (by decide) rfl rfl rfl ?_ | refine wo rfl rfl (by decide) (fun ev e h => by simp [go_sem, h, gv_or, gv_and, hsz, h26] <;> rfl) ?_); refine wo rfl rfl (by decide) (fun ev e h => by simp [go_sem, h, hsz, h26] <;> rfl) ?_; refine wg _ rfl rfl rfl rfl (by decide) (fun hq ev e h => by simp [go_sem, h, ↓gw_t (beq_t hq), hsz, h26] <;> rfl) ?_; intro a hA
      refine wl_kcall hA rfl rfl rfl rfl (by decide) (fun ev h => exec_call Tryz.func150 (by kernel_rfl) rfl (h.f _) (by first | (simp only [mL, h.get 28 rfl, h.c] <;> rfl) | (simp [mL, h.get 28 rfl, h.c, hsz, h26] <;> rfl))) (signsW_any s h26 _) ?_
      rintro e w2 ⟨sg, rfl, rfl⟩
      refine ⟨_, rfl, fun a hA => ?_⟩
      revert a; refine wg _ rfl rfl rfl rfl (by decide) (fun hq ev e h => by simp [go_sem, h, ↓gw_t (beq_t hq), hsz, h26] <;> rfl) ?_; (first | refine wko rfl rfl (by decide) rfl rfl rfl ?_ | refine wo rfl rfl (by decide) (fun ev e h => by simp [go_sem, h, gv_or, gv_and, hsz, h26] <;> rfl) ?_); intro a hA
      replace hA := hA.keepN [0, 31]
      refine wN (nT ?_)
      refine wp_if hA 31 _ rfl (fun hq => ?yB) (fun hq => ?nB)
      case yB =>
        refine wS (wR ?_)
        revert a; (iterate 2 refine wo rfl rfl (by decide) (fun ev e h => by simp [go_sem, h, hsz, h26] <;> rfl) ?_); intro a hA
        replace hA := hA.keepN [2, 3]
        refine wN (nT (wp_ret (rT ?_)))
        refine ret_2 hA 2 3 rfl rfl rfl ?_
        exact ⟨_, _, rfl, HB⟩
      case nB =>
        have e1 : (2 : Int) ≤ 26 := by decide
        obtain ⟨x0, h0⟩ : ∃ x, s[0]? = some x := ⟨_, List.getElem?_eq_getElem (by omega)⟩
        obtain ⟨x21, h21⟩ : ∃ x, s[21]? = some x := ⟨_, List.getElem?_eq_getElem (by omega)⟩
        have g21 : ∀ h : 21 < (St s).size, (St s)[21] = x21 := fun h => (List.getElem?_eq_some_iff.1 h21).2
        refine wp_skip (nT (wS (wR ?_)))
        revert a; (iterate 3 refine wo rfl rfl (by decide) (fun ev e h => by simp [go_sem, h, hsz, h26, extract_st] <;> rfl) ?_); intro a hA
        replace hA := hA.keepN [0, 4]
        refine wN (nT (wS (wS (wR ?_))))
        revert a; (iterate 3 refine wo rfl rfl (by decide) (fun ev e h => by simp [go_sem, h, hsz, h26, extract_st] <;> rfl) ?_); intro a hA
        replace hA := hA.keepN [0, 4, 36]
        refine wN (nT ?_)
        refine wp_join (fun a wx => ∃ D : List UInt8, D.length ≤ 100 ∧ wx = w2 ∧ At 167 [(0, .string (St s)), (4, .string (St D))] a) ?jfJ ?jrJ
        case jfJ =>
          refine wp_if hA 36 _ rfl (fun hq2 => ?yC) (fun hq2 => ?nC)
          case yC =>
            have q1 : ¬ 9223372036854775807 < 1 + (List.take 2 s).length := by rw [List.length_take]; omega
            have q2 : ((List.take 2 s).length : Int) = 2 := by rw [List.length_take]; omega
            refine wR ?_
            revert a; (iterate 4 refine wo rfl rfl (by decide) (fun ev e h => by simp [go_sem, h, extract_st, st_app, h26] <;> rfl) ?_); intro a hA
            replace hA := hA.keepN [0, 4]
            refine wN (nT ?_)
            refine ⟨_, ?_, rfl, hA⟩
            rw [List.length_cons]
            simp
            omega
          case nC =>
            replace hA := hA.keepN [0, 4]
            refine wp_skip (nT ?_)
            exact ⟨_, by rw [List.length_take]; omega, rfl, hA⟩
        clear hA
        rintro a wx ⟨D, hD, rfl, hA⟩
        have hlo : (List.take 3 (List.drop 3 s)).all low7 = true := by
          rw [List.all_eq_true] at hax ⊢
          exact fun x hx => hax x (List.mem_of_mem_drop (List.mem_of_mem_take hx))
        refine wS ?_
        refine wp_any_at hA [(.det ?dE0), (.det ?dE1), (.det ?dE2), (.det ?dE3), (.det ?dE4), (.det ?dE5), (.det ?dE6), (.det ?dE7), (.det ?dE8), (.det ?dE9), (.det ?dE10)] [] (fun wy => Below w.heap.size w wy) (TSp [] Grows) (by kernel_rfl) rfl (by kernel_rfl) (by kernel_rfl) rfl (HB.drew) (stab_sp [] [true, true, true, true, true, true, true, true, true, true, true] [true, true, true, true, true, true, true, true, true, true, true] [] rfl rfl rfl (by kernel_rfl) ⟨trivial, trivial, trivial, trivial, trivial, trivial, trivial, trivial, trivial, trivial, trivial, trivial⟩ trivial) (fun _ h => by cases h) (fun _ _ _ _ _ h => by cases h) (fun _ h => by cases h) ⟨?oE0, ?oE1, ?oE2, ?oE3, ?oE4, ?oE5, ?oE6, ?oE7, ?oE8, ?oE9, ?oE10, trivial⟩ (by kernel_rfl) ?fE
        case oE0 => intro ev wo hev hC hs hph; have x0 := se hA hs 4; exact od rfl rfl (by kernel_rfl) hC (TSp.of rfl (Grows.refl _)) (by simp [go_sem, x0, extract_st, hsz, h26] <;> rfl)
        case oE1 =>
          intro ev wo hev hC hs hph
          have e40 := sd hs 40 0
          exact ob_dcall (wanted_none rfl) rfl (by kernel_rfl) ((numberW_any D wo (by omega)).mono fun e w' h => ⟨h.1, h.2⟩) (exec_call Tryz.func151 (by kernel_rfl) rfl (hev.func _) (by first | (simp only [mL, e40, hev.const] <;> rfl) | (simp [mL, e40, hev.const] <;> rfl))) (by rfl) (fun w3 hb3 => ⟨hC.trans (hb3.mono hC.size), TSp.of rfl hb3⟩)
        case oE2 => intro ev wo hev hC hs hph; have x0 := se hA hs 0; exact od rfl rfl (by kernel_rfl) hC (TSp.of rfl (Grows.refl _)) (by simp [go_sem, x0, extract_st, hsz, h26] <;> rfl)
        case oE3 => intro ev wo hev hC hs hph; have x0 := sd hs 42 2; exact od rfl rfl (by kernel_rfl) hC (TSp.of rfl (Grows.refl _)) (by simp [go_sem, x0, hev.const, extract_st, hsz, h26] <;> rfl)
        case oE4 =>
          intro ev wo hev hC hs hph
          have e43 := sd hs 43 3
          exact ob_dcall (wanted_none rfl) rfl (by kernel_rfl) (namedW_any (List.take 3 (List.drop 3 s)) wo (by simp; omega) hlo) (exec_call Tryz.func152 (by kernel_rfl) rfl (hev.func _) (by first | (simp only [mL, e43, hev.const] <;> rfl) | (simp [mL, e43, hev.const] <;> rfl))) (by rfl) (fun w3 hb3 => ⟨hC.trans (hb3.mono hC.size), TSp.of rfl hb3⟩)
        case oE5 => intro ev wo hev hC hs hph; have x0 := se hA hs 0; exact od rfl rfl (by kernel_rfl) hC (TSp.of rfl (Grows.refl _)) (by simp [go_sem, x0, extract_st, hsz, h26] <;> rfl)
        case oE6 => intro ev wo hev hC hs hph; have x0 := sd hs 45 5; exact od rfl rfl (by kernel_rfl) hC (TSp.of rfl (Grows.refl _)) (by simp [go_sem, x0, hev.const, extract_st, hsz, h26] <;> rfl)
        case oE7 =>
          intro ev wo hev hC hs hph
          have e46 := sd hs 46 6
          exact ob_dcall (wanted_none rfl) rfl (by kernel_rfl) (numberW_any (List.take 4 (List.drop 7 s)) wo (by simp; omega)) (exec_call Tryz.func151 (by kernel_rfl) rfl (hev.func _) (by first | (simp only [mL, e46, hev.const] <;> rfl) | (simp [mL, e46, hev.const] <;> rfl))) (by rfl) (fun w3 hb3 => ⟨hC.trans (hb3.mono hC.size), TSp.of rfl hb3⟩)
        case oE8 => intro ev wo hev hC hs hph; have x0 := sd hs 41 1; exact od rfl rfl (by kernel_rfl) hC (TSp.of rfl (Grows.refl _)) (by simp [go_sem, x0, extract_st, hsz, h26] <;> rfl)
        case oE9 => intro ev wo hev hC hs hph; have x0 := sd hs 44 4; exact od rfl rfl (by kernel_rfl) hC (TSp.of rfl (Grows.refl _)) (by simp [go_sem, x0, extract_st, hsz, h26] <;> rfl)
        case oE10 => intro ev wo hev hC hs hph; have x0 := sd hs 47 7; exact od rfl rfl (by kernel_rfl) hC (TSp.of rfl (Grows.refl _)) (by simp [go_sem, x0, extract_st, hsz, h26] <;> rfl)
        intro sg wf hC hph
        intro a hA
        replace hA := hA.keepN [0, 5, 6, 7]
        refine nT ?_
        clear HB
        have HB := hC
        clear hC
        obtain ⟨d, hd⟩ : ∃ q, numW D 0 = q := ⟨_, rfl⟩
        obtain ⟨m, hm⟩ : ∃ q, namedI (List.take 3 (List.drop 3 s)) = q := ⟨_, rfl⟩
        obtain ⟨y, hy⟩ : ∃ q, numW (List.take 4 (List.drop 7 s)) 0 = q := ⟨_, rfl⟩
        rw [hd, hm, hy] at hA
        clear hd hm hy
        refine wS ?_
        refine wp_any_at hA [(.det ?dF0), (.det ?dF1), (.det ?dF2), (.det ?dF3), (.det ?dF4), (.det ?dF5), (.det ?dF6), (.det ?dF7), (.det ?dF8), (.det ?dF9), (.det ?dF10), (.det ?dF11)] [] (fun wy => Below w.heap.size w wy) (TSp [] Grows) (by kernel_rfl) rfl (by kernel_rfl) (by kernel_rfl) rfl (HB.drew) (stab_sp [] [true, true, true, true, true, true, true, true, true, true, true, true] [true, true, true, true, true, true, true, true, true, true, true, true] [] rfl rfl rfl (by kernel_rfl) ⟨trivial, trivial, trivial, trivial, trivial, trivial, trivial, trivial, trivial, trivial, trivial, trivial, trivial⟩ trivial) (fun _ h => by cases h) (fun _ _ _ _ _ h => by cases h) (fun _ h => by cases h) ⟨?oF0, ?oF1, ?oF2, ?oF3, ?oF4, ?oF5, ?oF6, ?oF7, ?oF8, ?oF9, ?oF10, ?oF11, trivial⟩ (by kernel_rfl) ?fF
        case oF0 => intro ev wo hev hC hs hph; have x0 := se hA hs 0; exact od rfl rfl (by kernel_rfl) hC (TSp.of rfl (Grows.refl _)) (by simp [go_sem, x0, extract_st, hsz, h26] <;> rfl)
        case oF1 => intro ev wo hev hC hs hph; have x0 := sd hs 48 0; exact od rfl rfl (by kernel_rfl) hC (TSp.of rfl (Grows.refl _)) (by simp [go_sem, x0, hev.const, extract_st, hsz, h26] <;> rfl)
        case oF2 =>
          intro ev wo hev hC hs hph
          have e49 := sd hs 49 1
          exact ob_dcall (wanted_none rfl) rfl (by kernel_rfl) (numberW_any (List.take 2 (List.drop 12 s)) wo (by simp; omega)) (exec_call Tryz.func151 (by kernel_rfl) rfl (hev.func _) (by first | (simp only [mL, e49, hev.const] <;> rfl) | (simp [mL, e49, hev.const] <;> rfl))) (by rfl) (fun w3 hb3 => ⟨hC.trans (hb3.mono hC.size), TSp.of rfl hb3⟩)
        case oF3 => intro ev wo hev hC hs hph; have x0 := se hA hs 0; exact od rfl rfl (by kernel_rfl) hC (TSp.of rfl (Grows.refl _)) (by simp [go_sem, x0, extract_st, hsz, h26] <;> rfl)
        case oF4 => intro ev wo hev hC hs hph; have x0 := sd hs 51 3; exact od rfl rfl (by kernel_rfl) hC (TSp.of rfl (Grows.refl _)) (by simp [go_sem, x0, hev.const, extract_st, hsz, h26] <;> rfl)
        case oF5 =>
          intro ev wo hev hC hs hph
          have e52 := sd hs 52 4
          exact ob_dcall (wanted_none rfl) rfl (by kernel_rfl) (numberW_any (List.take 2 (List.drop 15 s)) wo (by simp; omega)) (exec_call Tryz.func151 (by kernel_rfl) rfl (hev.func _) (by first | (simp only [mL, e52, hev.const] <;> rfl) | (simp [mL, e52, hev.const] <;> rfl))) (by rfl) (fun w3 hb3 => ⟨hC.trans (hb3.mono hC.size), TSp.of rfl hb3⟩)
        case oF6 => intro ev wo hev hC hs hph; have x0 := se hA hs 0; exact od rfl rfl (by kernel_rfl) hC (TSp.of rfl (Grows.refl _)) (by simp [go_sem, x0, extract_st, hsz, h26] <;> rfl)
        case oF7 => intro ev wo hev hC hs hph; have x0 := sd hs 54 6; exact od rfl rfl (by kernel_rfl) hC (TSp.of rfl (Grows.refl _)) (by simp [go_sem, x0, hev.const, extract_st, hsz, h26] <;> rfl)
        case oF8 =>
          intro ev wo hev hC hs hph
          have e55 := sd hs 55 7
          exact ob_dcall (wanted_none rfl) rfl (by kernel_rfl) (numberW_any (List.take 2 (List.drop 18 s)) wo (by simp; omega)) (exec_call Tryz.func151 (by kernel_rfl) rfl (hev.func _) (by first | (simp only [mL, e55, hev.const] <;> rfl) | (simp [mL, e55, hev.const] <;> rfl))) (by rfl) (fun w3 hb3 => ⟨hC.trans (hb3.mono hC.size), TSp.of rfl hb3⟩)
        case oF9 => intro ev wo hev hC hs hph; have x0 := sd hs 50 2; exact od rfl rfl (by kernel_rfl) hC (TSp.of rfl (Grows.refl _)) (by simp [go_sem, x0, extract_st, hsz, h26] <;> rfl)
        case oF10 => intro ev wo hev hC hs hph; have x0 := sd hs 53 5; exact od rfl rfl (by kernel_rfl) hC (TSp.of rfl (Grows.refl _)) (by simp [go_sem, x0, extract_st, hsz, h26] <;> rfl)
        case oF11 => intro ev wo hev hC hs hph; have x0 := sd hs 56 8; exact od rfl rfl (by kernel_rfl) hC (TSp.of rfl (Grows.refl _)) (by simp [go_sem, x0, extract_st, hsz, h26] <;> rfl)
        intro sg wf hC hph
        intro a hA
        replace hA := hA.keepN [0, 5, 6, 7, 8, 9, 10]
        refine nT ?_
        clear HB
        have HB := hC
        clear hC
        obtain ⟨hh, hhh⟩ : ∃ q, numW (List.take 2 (List.drop 12 s)) 0 = q := ⟨_, rfl⟩
        obtain ⟨mi, hmi⟩ : ∃ q, numW (List.take 2 (List.drop 15 s)) 0 = q := ⟨_, rfl⟩
        obtain ⟨sc, hsc⟩ : ∃ q, numW (List.take 2 (List.drop 18 s)) 0 = q := ⟨_, rfl⟩
        rw [hhh, hmi, hsc] at hA
        clear hhh hmi hsc
        refine wS ?_
        refine wp_any_at hA [(.det ?dG0), (.det ?dG1), (.det ?dG2), (.det ?dG3), (.det ?dG4), (.det ?dG5), (.det ?dG6), (.det ?dG7)] [] (fun wy => Below w.heap.size w wy) (TSp [] Grows) (by kernel_rfl) rfl (by kernel_rfl) (by kernel_rfl) rfl (HB.drew) (stab_sp [] [true, true, true, true, true, true, true, true] [true, true, true, true, true, true, true, true] [] rfl rfl rfl (by kernel_rfl) ⟨trivial, trivial, trivial, trivial, trivial, trivial, trivial, trivial, trivial⟩ trivial) (fun _ h => by cases h) (fun _ _ _ _ _ h => by cases h) (fun _ h => by cases h) ⟨?oG0, ?oG1, ?oG2, ?oG3, ?oG4, ?oG5, ?oG6, ?oG7, trivial⟩ (by kernel_rfl) ?fG
        case oG0 => intro ev wo hev hC hs hph; have x0 := se hA hs 0; exact od rfl rfl (by kernel_rfl) hC (TSp.of rfl (Grows.refl _)) (by simp [go_sem, x0, extract_st, hsz, h26] <;> rfl)
        case oG1 => intro ev wo hev hC hs hph; have x0 := sd hs 57 0; exact od rfl rfl (by kernel_rfl) hC (TSp.of rfl (Grows.refl _)) (by simp [go_sem, x0, hev.const, extract_st, hsz, h26] <;> rfl)
        case oG2 =>
          intro ev wo hev hC hs hph
          have e58 := sd hs 58 1
          exact ob_dcall (wanted_none rfl) rfl (by kernel_rfl) (numberW_any (List.take 2 (List.drop 22 s)) wo (by simp; omega)) (exec_call Tryz.func151 (by kernel_rfl) rfl (hev.func _) (by first | (simp only [mL, e58, hev.const] <;> rfl) | (simp [mL, e58, hev.const] <;> rfl))) (by rfl) (fun w3 hb3 => ⟨hC.trans (hb3.mono hC.size), TSp.of rfl hb3⟩)
        case oG3 => intro ev wo hev hC hs hph; have x0 := se hA hs 0; exact od rfl rfl (by kernel_rfl) hC (TSp.of rfl (Grows.refl _)) (by simp [go_sem, x0, extract_st, hsz, h26] <;> rfl)
        case oG4 => intro ev wo hev hC hs hph; have x0 := sd hs 60 3; exact od rfl rfl (by kernel_rfl) hC (TSp.of rfl (Grows.refl _)) (by simp [go_sem, x0, hev.const, extract_st, hsz, h26] <;> rfl)
        case oG5 =>
          intro ev wo hev hC hs hph
          have e61 := sd hs 61 4
          exact ob_dcall (wanted_none rfl) rfl (by kernel_rfl) (numberW_any (List.take 2 (List.drop 24 s)) wo (by simp; omega)) (exec_call Tryz.func151 (by kernel_rfl) rfl (hev.func _) (by first | (simp only [mL, e61, hev.const] <;> rfl) | (simp [mL, e61, hev.const] <;> rfl))) (by rfl) (fun w3 hb3 => ⟨hC.trans (hb3.mono hC.size), TSp.of rfl hb3⟩)
        case oG6 => intro ev wo hev hC hs hph; have x0 := sd hs 59 2; exact od rfl rfl (by kernel_rfl) hC (TSp.of rfl (Grows.refl _)) (by simp [go_sem, x0, extract_st, hsz, h26] <;> rfl)
        case oG7 => intro ev wo hev hC hs hph; have x0 := sd hs 62 5; exact od rfl rfl (by kernel_rfl) hC (TSp.of rfl (Grows.refl _)) (by simp [go_sem, x0, extract_st, hsz, h26] <;> rfl)
        intro sg wf hC hph
        intro a hA
        replace hA := hA.keepN [0, 5, 6, 7, 8, 9, 10, 11, 12]
        refine nT ?_
        clear HB
        have HB := hC
        clear hC
        obtain ⟨zh, hzh⟩ : ∃ q, numW (List.take 2 (List.drop 22 s)) 0 = q := ⟨_, rfl⟩
        obtain ⟨zm, hzm⟩ : ∃ q, numW (List.take 2 (List.drop 24 s)) 0 = q := ⟨_, rfl⟩
        rw [hzh, hzm] at hA
        clear hzh hzm
        refine wS (wB (wS (wR ?_)))
        revert a; (iterate 3 refine wo rfl rfl (by decide) (fun ev e h => by simp [go_sem, h] <;> rfl) ?_); (iterate 2 refine wg _ rfl rfl rfl rfl (by decide) (fun hq ev e h => by simp [go_sem, h, ↓gw_t (beq_t hq)] <;> rfl) ?_); (first | refine wko rfl rfl (by decide) rfl rfl rfl ?_ | refine wo rfl rfl (by decide) (fun ev e h => by simp [go_sem, h, gv_or, gv_and] <;> rfl) ?_); refine wo rfl rfl (by decide) (fun ev e h => by simp [go_sem, h] <;> rfl) ?_; (iterate 2 refine wg _ rfl rfl rfl rfl (by decide) (fun hq ev e h => by simp [go_sem, h, ↓gw_t (beq_t hq)] <;> rfl) ?_); (first | refine wko rfl rfl (by decide) rfl rfl rfl ?_ | refine wo rfl rfl (by decide) (fun ev e h => by simp [go_sem, h, gv_or, gv_and] <;> rfl) ?_); intro a hA
        replace hA := hA.keepN [0, 5, 6, 7, 8, 9, 10, 11, 12, 73]
        revert a; refine wo rfl rfl (by decide) (fun ev e h => by simp [go_sem, h] <;> rfl) ?_; (iterate 2 refine wg _ rfl rfl rfl rfl (by decide) (fun hq ev e h => by simp [go_sem, h, ↓gw_t (beq_t hq)] <;> rfl) ?_); (first | refine wko rfl rfl (by decide) rfl rfl rfl ?_ | refine wo rfl rfl (by decide) (fun ev e h => by simp [go_sem, h, gv_or, gv_and] <;> rfl) ?_); refine wo rfl rfl (by decide) (fun ev e h => by simp [go_sem, h] <;> rfl) ?_; (iterate 2 refine wg _ rfl rfl rfl rfl (by decide) (fun hq ev e h => by simp [go_sem, h, ↓gw_t (beq_t hq)] <;> rfl) ?_); (first | refine wko rfl rfl (by decide) rfl rfl rfl ?_ | refine wo rfl rfl (by decide) (fun ev e h => by simp [go_sem, h, gv_or, gv_and] <;> rfl) ?_); refine wo rfl rfl (by decide) (fun ev e h => by simp [go_sem, h] <;> rfl) ?_; refine wg _ rfl rfl rfl rfl (by decide) (fun hq ev e h => by simp [go_sem, h, ↓gw_t (beq_t hq)] <;> rfl) ?_; intro a hA
        replace hA := hA.keepN [0, 5, 6, 7, 8, 9, 10, 11, 12, 82, 83]
        revert a; refine wg _ rfl rfl rfl rfl (by decide) (fun hq ev e h => by simp [go_sem, h, ↓gw_t (beq_t hq)] <;> rfl) ?_; (first | refine wko rfl rfl (by decide) rfl rfl rfl ?_ | refine wo rfl rfl (by decide) (fun ev e h => by simp [go_sem, h, gv_or, gv_and] <;> rfl) ?_); refine wo rfl rfl (by decide) (fun ev e h => by simp [go_sem, h] <;> rfl) ?_; (iterate 2 refine wg _ rfl rfl rfl rfl (by decide) (fun hq ev e h => by simp [go_sem, h, ↓gw_t (beq_t hq)] <;> rfl) ?_); (first | refine wko rfl rfl (by decide) rfl rfl rfl ?_ | refine wo rfl rfl (by decide) (fun ev e h => by simp [go_sem, h, gv_or, gv_and] <;> rfl) ?_); refine wo rfl rfl (by decide) (fun ev e h => by simp [go_sem, h] <;> rfl) ?_; (iterate 2 refine wg _ rfl rfl rfl rfl (by decide) (fun hq ev e h => by simp [go_sem, h, ↓gw_t (beq_t hq)] <;> rfl) ?_); (first | refine wko rfl rfl (by decide) rfl rfl rfl ?_ | refine wo rfl rfl (by decide) (fun ev e h => by simp [go_sem, h, gv_or, gv_and] <;> rfl) ?_); intro a hA
        replace hA := hA.keepN [0, 5, 6, 7, 8, 9, 10, 11, 12, 93]
        revert a; refine wo rfl rfl (by decide) (fun ev e h => by simp [go_sem, h] <;> rfl) ?_; (iterate 2 refine wg _ rfl rfl rfl rfl (by decide) (fun hq ev e h => by simp [go_sem, h, ↓gw_t (beq_t hq)] <;> rfl) ?_); (first | refine wko rfl rfl (by decide) rfl rfl rfl ?_ | refine wo rfl rfl (by decide) (fun ev e h => by simp [go_sem, h, gv_or, gv_and] <;> rfl) ?_); refine wo rfl rfl (by decide) (fun ev e h => by simp [go_sem, h] <;> rfl) ?_; intro a hA
        replace hA := hA.keepN [0, 5, 6, 7, 8, 9, 10, 11, 12, 63]
        refine wN (nT ?_)
        refine wp_if hA 63 _ rfl (fun hq3 => ?yH) (fun hq3 => ?nH)
        case yH =>
          refine wS (wR ?_)
          revert a; (iterate 2 refine wo rfl rfl (by decide) (fun ev e h => by simp [go_sem, h] <;> rfl) ?_); intro a hA
          replace hA := hA.keepN [2, 3]
          refine wN (nT (wp_ret (rB (rT ?_))))
          refine ret_2 hA 2 3 rfl rfl rfl ?_
          exact ⟨_, _, rfl, HB⟩
        case nH =>
          refine wS (wR ?_)
          revert a; (iterate 3 refine wo rfl rfl (by decide) (fun ev e h => by simp [go_sem, h] <;> rfl) ?_); (iterate 2 refine wg _ rfl rfl rfl rfl (by decide) (fun hq ev e h => by simp [go_sem, h, ↓gw_t (beq_t hq)] <;> rfl) ?_); (first | refine wko rfl rfl (by decide) rfl rfl rfl ?_ | refine wo rfl rfl (by decide) (fun ev e h => by simp [go_sem, h, gv_or, gv_and] <;> rfl) ?_); refine wo rfl rfl (by decide) (fun ev e h => by simp [go_sem, h] <;> rfl) ?_; (iterate 2 refine wg _ rfl rfl rfl rfl (by decide) (fun hq ev e h => by simp [go_sem, h, ↓gw_t (beq_t hq)] <;> rfl) ?_); (first | refine wko rfl rfl (by decide) rfl rfl rfl ?_ | refine wo rfl rfl (by decide) (fun ev e h => by simp [go_sem, h, gv_or, gv_and] <;> rfl) ?_); intro a hA
          replace hA := hA.keepN [0, 5, 6, 7, 8, 9, 10, 11, 12, 108]
          revert a; refine wo rfl rfl (by decide) (fun ev e h => by simp [go_sem, h] <;> rfl) ?_; (iterate 2 refine wg _ rfl rfl rfl rfl (by decide) (fun hq ev e h => by simp [go_sem, h, ↓gw_t (beq_t hq)] <;> rfl) ?_); (first | refine wko rfl rfl (by decide) rfl rfl rfl ?_ | refine wo rfl rfl (by decide) (fun ev e h => by simp [go_sem, h, gv_or, gv_and] <;> rfl) ?_); refine wo rfl rfl (by decide) (fun ev e h => by simp [go_sem, h] <;> rfl) ?_; intro a hA
          replace hA := hA.keepN [0, 5, 6, 7, 8, 9, 10, 11, 12, 98]
          refine wN (nT ?_)
          refine wp_if hA 98 _ rfl (fun hq4 => ?yK) (fun hq4 => ?nK)
          case yK =>
            refine wS (wR ?_)
            revert a; (iterate 2 refine wo rfl rfl (by decide) (fun ev e h => by simp [go_sem, h] <;> rfl) ?_); intro a hA
            replace hA := hA.keepN [2, 3]
            refine wN (nT (wp_ret (rB (rT ?_))))
            refine ret_2 hA 2 3 rfl rfl rfl ?_
            exact ⟨_, _, rfl, HB⟩
          case nK =>
            refine wp_skip (nB (nT (wS (wR ?_))))
            revert a; (iterate 3 refine wo rfl rfl (by decide) (fun ev e h => by simp [go_sem, h] <;> rfl) ?_); intro a hA
            refine wl_call hA rfl rfl (by decide) (fun ev h => exec_call Tryz.func153 (by kernel_rfl) rfl (h.f _) (by first | (simp only [mL, h.get 113 rfl, h.get 114 rfl, h.get 115 rfl, h.c] <;> rfl) | (simp [mL, h.get 113 rfl, h.get 114 rfl, h.get 115 rfl, h.c] <;> rfl))) (sinceW_any y m d _) ?_
            rintro e w3 ⟨days, rfl, rfl⟩
            refine ⟨_, rfl, fun a hA => ?_⟩
            revert a; refine wo rfl rfl (by decide) (fun ev e h => by simp [go_sem, h] <;> rfl) ?_; intro a hA
            replace hA := hA.keepN [0, 5, 6, 7, 8, 9, 10, 11, 12, 13]
            refine wN (nT (wS (wS (wR ?_))))
            revert a; (iterate 2 refine wo rfl rfl (by decide) (fun ev e h => by simp [go_sem, h] <;> rfl) ?_); intro a hA
            replace hA := hA.keepN [0, 5, 6, 7, 8, 9, 10, 11, 12, 13, 118]
            refine wN (nT ?_)
            refine wp_if hA 118 _ rfl (fun hq5 => ?yL) (fun hq5 => ?nL)
            case yL =>
              refine wS (wR ?_)
              revert a; (iterate 2 refine wo rfl rfl (by decide) (fun ev e h => by simp [go_sem, h] <;> rfl) ?_); intro a hA
              replace hA := hA.keepN [2, 3]
              refine wN (nT (wp_ret (rT ?_)))
              refine ret_2 hA 2 3 rfl rfl rfl ?_
              exact ⟨_, _, rfl, HB⟩
            case nL =>
              refine wp_skip (nT (wS (wS (wR ?_))))
              revert a; refine wo rfl rfl (by decide) (fun ev e h => by simp [go_sem, h] <;> rfl) ?_; intro a hA
              refine wl_call hA rfl rfl (by decide) (fun ev h => exec_call Tryz.func83 (by kernel_rfl) rfl (h.f _) (by first | (simp only [mL, h.get 120 rfl, h.c] <;> rfl) | (simp [mL, h.get 120 rfl, h.c] <;> rfl))) (civilW_any days _) ?_
              rintro e w4 ⟨y2, m2, d2, rfl, rfl⟩
              refine ⟨_, rfl, fun a hA => ?_⟩
              revert a; (iterate 7 refine wo rfl rfl (by decide) (fun ev e h => by simp [go_sem, h] <;> rfl) ?_); intro a hA
              replace hA := hA.keepN [0, 5, 6, 7, 8, 9, 10, 11, 12, 13, 14, 15, 16]
              refine wN (nT (wS (wR ?_)))
              revert a; (iterate 4 refine wo rfl rfl (by decide) (fun ev e h => by simp [go_sem, h] <;> rfl) ?_); (iterate 3 refine wg _ rfl rfl rfl rfl (by decide) (fun hq ev e h => by simp [go_sem, h, ↓gw_t (beq_t hq)] <;> rfl) ?_); (first | refine wko rfl rfl (by decide) rfl rfl rfl ?_ | refine wo rfl rfl (by decide) (fun ev e h => by simp [go_sem, h, gv_or, gv_and] <;> rfl) ?_); refine wo rfl rfl (by decide) (fun ev e h => by simp [go_sem, h] <;> rfl) ?_; refine wg _ rfl rfl rfl rfl (by decide) (fun hq ev e h => by simp [go_sem, h, ↓gw_t (beq_t hq)] <;> rfl) ?_; intro a hA
              replace hA := hA.keepN [0, 5, 8, 9, 10, 11, 12, 13, 133, 134]
              revert a; (iterate 2 refine wg _ rfl rfl rfl rfl (by decide) (fun hq ev e h => by simp [go_sem, h, ↓gw_t (beq_t hq)] <;> rfl) ?_); (first | refine wko rfl rfl (by decide) rfl rfl rfl ?_ | refine wo rfl rfl (by decide) (fun ev e h => by simp [go_sem, h, gv_or, gv_and] <;> rfl) ?_); intro a hA
              replace hA := hA.keepN [0, 8, 9, 10, 11, 12, 13, 137]
              refine wN (nT ?_)
              refine wp_if hA 137 _ rfl (fun hq6 => ?yM) (fun hq6 => ?nM)
              case yM =>
                refine wS (wR ?_)
                revert a; (iterate 2 refine wo rfl rfl (by decide) (fun ev e h => by simp [go_sem, h] <;> rfl) ?_); intro a hA
                replace hA := hA.keepN [2, 3]
                refine wN (nT (wp_ret (rT ?_)))
                refine ret_2 hA 2 3 rfl rfl rfl ?_
                exact ⟨_, _, rfl, HB⟩
              case nM =>
                refine wp_skip (nT (wS (wR ?_)))
                revert a; (iterate 6 refine wo rfl rfl (by decide) (fun ev e h => by simp [go_sem, h, hsz, h26, g21] <;> rfl) ?_); intro a hA
                replace hA := hA.keepN [0, 8, 9, 10, 13, 17]
                refine wN (nT (wS (wS (wR ?_))))
                revert a; (iterate 3 refine wo rfl rfl (by decide) (fun ev e h => by simp [go_sem, h, hsz, h26, g21] <;> rfl) ?_); intro a hA
                replace hA := hA.keepN [8, 9, 10, 13, 17, 145]
                refine wN (nT ?_)
                refine wp_if hA 145 _ rfl (fun hq7 => ?yN) (fun hq7 => ?nN)
                case yN =>
                  refine wR ?_
                  revert a; (iterate 3 refine wo rfl rfl (by decide) (fun ev e h => by simp [go_sem, h, hsz, h26, g21] <;> rfl) ?_); intro a hA
                  replace hA := hA.keepN [8, 9, 10, 13, 17]
                  refine wN (nT (wS (wR ?_)))
                  revert a; (iterate 10 refine wo rfl rfl (by decide) (fun ev e h => by simp [go_sem, h, hsz, h26, g21] <;> rfl) ?_); intro a hA
                  replace hA := hA.keepN [17, 157]
                  revert a; (iterate 3 refine wo rfl rfl (by decide) (fun ev e h => by simp [go_sem, h, hsz, h26, g21] <;> rfl) ?_); intro a hA
                  replace hA := hA.keepN [18]
                  refine wN (nT (wS (wS (wR ?_))))
                  revert a; (iterate 3 refine wo rfl rfl (by decide) (fun ev e h => by simp [go_sem, h, hsz, h26, g21] <;> rfl) ?_); (iterate 2 refine wg _ rfl rfl rfl rfl (by decide) (fun hq ev e h => by simp [go_sem, h, ↓gw_t (beq_t hq), hsz, h26, g21] <;> rfl) ?_); (first | refine wko rfl rfl (by decide) rfl rfl rfl ?_ | refine wo rfl rfl (by decide) (fun ev e h => by simp [go_sem, h, gv_or, gv_and, hsz, h26, g21] <;> rfl) ?_); intro a hA
                  replace hA := hA.keepN [18, 165]
                  refine wN (nT ?_)
                  refine wp_if hA 165 _ rfl (fun hq8 => ?yP) (fun hq8 => ?nP)
                  case yP =>
                    refine wS (wR ?_)
                    revert a; (iterate 2 refine wo rfl rfl (by decide) (fun ev e h => by simp [go_sem, h, hsz, h26, g21] <;> rfl) ?_); intro a hA
                    replace hA := hA.keepN [2, 3]
                    refine wN (nT (wp_ret (rT ?_)))
                    refine ret_2 hA 2 3 rfl rfl rfl ?_
                    exact ⟨_, _, rfl, HB⟩
                  case nP =>
                    refine wp_skip (nT (wS (wR ?_)))
                    revert a; (iterate 3 refine wo rfl rfl (by decide) (fun ev e h => by simp [go_sem, h, hsz, h26, g21] <;> rfl) ?_); intro a hA
                    replace hA := hA.keepN [2, 3]
                    refine wN (nT (wp_ret ?_))
                    refine ret_2 hA 2 3 rfl rfl rfl ?_
                    exact ⟨_, _, rfl, HB⟩
                case nN =>
                  refine wp_skip (nT (wS (wR ?_)))
                  revert a; (iterate 10 refine wo rfl rfl (by decide) (fun ev e h => by simp [go_sem, h, hsz, h26, g21] <;> rfl) ?_); intro a hA
                  replace hA := hA.keepN [17, 157]
                  revert a; (iterate 3 refine wo rfl rfl (by decide) (fun ev e h => by simp [go_sem, h, hsz, h26, g21] <;> rfl) ?_); intro a hA
                  replace hA := hA.keepN [18]
                  refine wN (nT (wS (wS (wR ?_))))
                  revert a; (iterate 3 refine wo rfl rfl (by decide) (fun ev e h => by simp [go_sem, h, hsz, h26, g21] <;> rfl) ?_); (iterate 2 refine wg _ rfl rfl rfl rfl (by decide) (fun hq ev e h => by simp [go_sem, h, ↓gw_t (beq_t hq), hsz, h26, g21] <;> rfl) ?_); (first | refine wko rfl rfl (by decide) rfl rfl rfl ?_ | refine wo rfl rfl (by decide) (fun ev e h => by simp [go_sem, h, gv_or, gv_and, hsz, h26, g21] <;> rfl) ?_); intro a hA
                  replace hA := hA.keepN [18, 165]
                  refine wN (nT ?_)
                  refine wp_if hA 165 _ rfl (fun hq9 => ?yQ) (fun hq9 => ?nQ)
                  case yQ =>
                    refine wS (wR ?_)
                    revert a; (iterate 2 refine wo rfl rfl (by decide) (fun ev e h => by simp [go_sem, h, hsz, h26, g21] <;> rfl) ?_); intro a hA
                    replace hA := hA.keepN [2, 3]
                    refine wN (nT (wp_ret (rT ?_)))
                    refine ret_2 hA 2 3 rfl rfl rfl ?_
                    exact ⟨_, _, rfl, HB⟩
                  case nQ =>
                    refine wp_skip (nT (wS (wR ?_)))
                    revert a; (iterate 3 refine wo rfl rfl (by decide) (fun ev e h => by simp [go_sem, h, hsz, h26, g21] <;> rfl) ?_); intro a hA
                    replace hA := hA.keepN [2, 3]
                    refine wN (nT (wp_ret ?_))
                    refine ret_2 hA 2 3 rfl rfl rfl ?_
                    exact ⟨_, _, rfl, HB⟩
  case neg =>
    have hn : ((s.length : Int) != 26) = true := by simp; omega
    revert a; (iterate 4 refine wo rfl rfl (by decide) (fun ev e h => by simp [go_sem, h, hsz, hn] <;> rfl) ?_); intro a hA
    refine wl_guard _ (v := .bool false) hA rfl rfl rfl rfl (by decide) (fun hq ev h => by first | (cases hq; done) | (cases hr; done)) fun a hA => ?_
    refine wl_guard _ (v := .bool false) hA rfl rfl rfl rfl (by decide) (fun hq ev h => by first | (cases hq; done) | (cases hr; done)) fun a hA => ?_
    refine wl_guard _ (v := .bool false) hA rfl rfl rfl rfl (by decide) (fun hq ev h => by first | (cases hq; done) | (cases hr; done)) fun a hA => ?_
    revert a; (first | refine wko rfl rfl (by decide) rfl rfl rfl ?_ | refine wo rfl rfl (by decide) (fun ev e h => by simp [go_sem, h, gv_or, gv_and, hsz, hn] <;> rfl) ?_); intro a hA
    refine wl_op hA rfl rfl (by decide) (fun ev h => by simp [go_sem, h.get 26 rfl, hsz, hn]; try first | exact ⟨rfl, rfl⟩ | rfl) fun a hA => ?_
    refine wl_guard _ (v := .bool false) hA rfl rfl rfl rfl (by decide) (fun hq ev h => by first | (cases hq; done) | (cases hr; done)) fun a hA => ?_
    replace hA := hA.keepN [0, 27, 28]
    refine wl_guard _ (v := .bool false) hA rfl rfl rfl rfl (by decide) (fun hq ev h => by first | (cases hq; done) | (cases hr; done)) fun a hA => ?_
    refine wl_guard _ (v := .bool false) hA rfl rfl rfl rfl (by decide) (fun hq ev h => by first | (cases hq; done) | (cases hr; done)) fun a hA => ?_
    revert a; (first | refine wko rfl rfl (by decide) rfl rfl rfl ?_ | refine wo rfl rfl (by decide) (fun ev e h => by simp [go_sem, h, gv_or, gv_and, hsz, hn] <;> rfl) ?_); intro a hA
    replace hA := hA.keepN [0, 31]
    refine wN (nT ?_)
    refine wp_if hA 31 _ rfl (fun hq => ?yA) (fun hq => ?nA)
    case nA => simp at hq
    case yA =>
      refine wS (wR ?_)
      revert a; (iterate 2 refine wo rfl rfl (by decide) (fun ev e h => by simp [go_sem, h, hsz, hn] <;> rfl) ?_); intro a hA
      replace hA := hA.keepN [2, 3]
      refine wN (nT (wp_ret (rT ?_)))
      refine ret_2 hA 2 3 rfl rfl rfl ?_
      exact ⟨_, _, rfl, HB⟩
end Go.Proofs.YtjhaccmcjlbllaaGreatDoor
