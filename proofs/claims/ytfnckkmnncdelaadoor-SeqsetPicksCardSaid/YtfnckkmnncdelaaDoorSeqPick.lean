/-
  Walks of seqset's Pick, of the law's ours, and of awake.
-/
import Derived.Test.YtfnckkmnncdelaaDoorSeqHas
import Derived.Test.YtfnckkmnncdelaaDoorSeqParse
namespace Go.Proofs.YtfnckkmnncdelaaDoor
open Go.RowKit
theorem own_slice {w : World} {base size n : Nat} {e : TypeId} {v : Value} {xs : List Value} (h : w.ownsRow base e size v n xs) : ∃ A c, v = .slice A n c ∧ Reads w w.heap.size size A n xs := by
  rcases Nat.eq_zero_or_pos n with h0 | h0
  · subst h0
    rcases h.2 with ⟨rfl, _⟩ | ⟨g, cap, cur, rfl, _, _, _⟩
    · exact ⟨none, 0, rfl, h.1, fun hn => absurd hn (by omega)⟩
    · exact ⟨_, cap, rfl, h.1, fun hn => absurd hn (by omega)⟩
  · obtain ⟨g, cap, rfl, _⟩ := h.form h0
    exact ⟨_, cap, rfl, Reads.of_own h⟩
set_option maxHeartbeats 1600000 in
set_option maxRecDepth 100000 in
theorem ours_any (A : Option Addr) (c : Nat) (l : List (Nat × Nat)) (hlen : l.length ≤ 65536) (w : World)
    (hr : Reads w w.heap.size 2 A l.length (spanCells l)) :
    Calls Tryd.prog 30 #[.slice A l.length c] w fun e w' => ∃ v, e = .returned v ∧ w'.ownsRow w.heap.size 43 2 v l.length (spanCells l) ∧ Below w.heap.size w w' := by
  obtain ⟨i0, hi0, hz0, hz1, hz2⟩ := info_parts refSpan_info
  have HR := Lib.hid hr
  clear hr
  go_enter Tryd.func30, Tryd.ntmps30
  go_wp2
  go_loopw [3, 7] (fun v i wr => ∃ k : Nat, i = .int .i64 k ∧ k ≤ l.length ∧ Hid (wr.ownsRow w.heap.size 43 2 v k (spanCells (l.take k))) ∧ Hid (Below w.heap.size w wr)) (fun _ i _ => l.length - (intOf i).toNat)
  case atStart => exact ⟨0, rfl, by omega, World.ownsRow_nil _ _ _ _, Below.refl _ _⟩
  case round =>
    obtain ⟨k, rfl, hk, hout, hbr⟩ := hrel
    by_cases hlt : k < l.length
    · obtain ⟨x, hx⟩ : ∃ x, l[k]? = some x := ⟨_, List.getElem?_eq_getElem hlt⟩
      obtain ⟨a, b⟩ := x
      obtain ⟨ad, rfl, hab, hcs⟩ := (HR.out.below hbr.out).2 (by omega)
      obtain ⟨e1, e2⟩ := spanCells_at l k _ hx
      have hc1 := hcs _ _ e1
      have hc2 := hcs _ _ e2
      rw [add_succ] at hc2
      have htk : l.take (k + 1) = l.take k ++ [(a, b)] := by rw [List.take_add_one, hx]; rfl
      have Htk := Lib.hid htk
      clear hx hcs e1 e2 htk
      have hwr := hbr.out.size
      go_wp2_with (first
        | (at_builtin; refine wpList_append_own _ rfl (.tmp 10) (.tmp 15) _ rfl w.heap.size 43 i0 _ 2 8 Tryd.underlying38 hi0 hz0 hz1 hz2 rfl (by omega) _ _ _ rfl (hout.out.alloc _) ⟨wr.heap.size, 0, none⟩ 1 1 [.int .u32 (a : Nat), .int .u32 (b : Nat)] rfl rfl ?c1 ?c2 ?c3 ?c4 ?c5 ?_))
      case c2 => exact ⟨rfl, rfl⟩
      case c3 => unfold maxLen; omega
      case c4 => omega
      case c5 => first | omega | (simp; omega)
      intro v' w3 hown' hgrow _
      have hb' : Below w.heap.size w w3 := (hbr.out.alloc hwr _).grown hgrow (by simp; omega) (fun g' hg' => (hout.out.lt g' hg').1)
      have Hown' := Lib.hid hown'
      have Hb' := Lib.hid hb'
      clear hown' hgrow hb'
      go_wp2
      go_roundw
      case rel =>
        refine ⟨k + 1, by go_num, by omega, ?_, Hb'⟩
        rw [Htk.out, spanCells_append]
        exact Hown'.out
      case measure => simp [intOf]; omega
    · obtain rfl : k = l.length := by omega
      rw [List.take_of_length_le (Nat.le_refl _)] at hout
      go_wp2
      go_ret
      exact ⟨_, rfl, hout.out, hbr.out⟩
/-- a row of numbers -/
def numCells (l : List Nat) : List Value := l.map fun (n : Nat) => Value.int .u32 (n : Int)
/-- those that are picked -/
def picked (l : List (Nat × Nat)) (all : List Nat) (g : Nat) : List Nat := all.filter fun n => inSet l n g
theorem u32_info : (Tryd.prog.info? 41).map (fun i => (i.zero, i.size, i.bytes)) = some (some (.int .u32 0), 1, 4) := by kernel_rfl
set_option maxHeartbeats 1600000 in
set_option maxRecDepth 100000 in
theorem pick_any (A D : Option Addr) (c d : Nat) (l : List (Nat × Nat)) (all : List Nat) (hl : ∀ x ∈ l, x.1 ≤ 4294967295 ∧ x.2 ≤ 4294967295) (hn : ∀ n ∈ all, n ≤ 4294967295) (hlen : l.length ≤ 65536) (halen : all.length ≤ 65536) (w : World)
    (hr : Reads w w.heap.size 2 A l.length (spanCells l)) (ha : Reads w w.heap.size 1 D all.length (numCells all)) :
    Calls Tryd.prog 31 #[.slice A l.length c, .slice D all.length d] w fun e w' => ∃ v, e = .returned v ∧
      w'.ownsRow w.heap.size 41 1 v (picked l all (all.getLast?.getD 0)).length (numCells (picked l all (all.getLast?.getD 0))) ∧ Below w.heap.size w w' := by
  obtain ⟨i0, hi0, hz0, hz1, hz2⟩ := info_parts u32_info
  have HR := Lib.hid hr
  have HA := Lib.hid ha
  have HN := Lib.hid hn
  clear hr ha hn
  go_enter Tryd.func31, Tryd.ntmps31
  go_wp2
  go_loopw [5, 10] (fun v i wr => ∃ k : Nat, i = .int .i64 k ∧ k ≤ all.length ∧ Hid (wr.ownsRow w.heap.size 41 1 v (picked l (all.take k) (all.getLast?.getD 0)).length (numCells (picked l (all.take k) (all.getLast?.getD 0)))) ∧ Hid (Below w.heap.size w wr)) (fun _ i _ => all.length - (intOf i).toNat)
  case atStart => exact ⟨0, rfl, by omega, World.ownsRow_nil _ _ _ _, Below.refl _ _⟩
  case round =>
    obtain ⟨k, rfl, hk, hout, hbr⟩ := hrel
    by_cases hlt : k < all.length
    · obtain ⟨n, hx⟩ : ∃ n, all[k]? = some n := ⟨_, List.getElem?_eq_getElem hlt⟩
      have hnn := HN.out n (List.mem_of_getElem? hx)
      obtain ⟨ad, rfl, hab, hcs⟩ := (HA.out.below hbr.out).2 (by omega)
      have hc1 := hcs k (.int .u32 (n : Nat)) (by unfold numCells; rw [List.getElem?_map, hx]; rfl)
      obtain ⟨g, hg⟩ : ∃ g, all.getLast? = some g := ⟨_, List.getLast?_eq_some_getLast (by intro e; rw [e] at hlt; simp at hlt)⟩
      have hc2 := hcs (all.length - 1) (.int .u32 (g : Nat)) (by unfold numCells; rw [List.getElem?_map, ← List.getLast?_eq_getElem?, hg]; rfl)
      rw [hg, Option.getD_some] at hout ⊢
      have hgm : g ∈ all := List.mem_of_getLast? hg
      have hgg := HN.out g hgm
      have htk : all.take (k + 1) = all.take k ++ [n] := by rw [List.take_add_one, hx]; rfl
      have Htk := Lib.hid htk
      have hpl : (picked l (all.take k) g).length ≤ 65536 := by
        have := List.length_filter_le (fun n => inSet l n g) (all.take k)
        unfold picked
        rw [List.length_take] at this
        omega
      have hstep : picked l (all.take (k + 1)) g = picked l (all.take k) g ++ (if inSet l n g = true then [n] else []) := by
        unfold picked
        rw [htk, List.filter_append]
        congr 1
        by_cases h : inSet l n g = true
        · rw [if_pos h]; simp [h]
        · rw [if_neg h]; simp [h]
      have Hstep := Lib.hid hstep
      have Hh := Lib.hid (has_any A c l n g hl hlen wr ((HR.out.below hbr.out).more hbr.out.size))
      clear hx hcs htk hg hgm hstep
      have hwr := hbr.out.size
      rcases Bool.eq_false_or_eq_true (inSet l n g) with hb | hb
      · have Hs : Hid (picked l (all.take (k + 1)) g = picked l (all.take k) g ++ [n]) := by
          show _ = _
          rw [Hstep.out, if_pos hb]
        rw [hb] at Hh
        clear Hstep hb
        generalize picked l (all.take k) g = P at *
        go_wp2_with fail
        refine Hh.out.mono ?_
        rintro e w2 ⟨rfl, hb2⟩
        have hout2 := Lib.hid (own_below hout.out hb2)
        have HB2 := Lib.hid (hbr.out.trans (hb2.mono hwr))
        have hw2 := HB2.out.size
        clear hb2
        go_wp2_with (first
          | (at_builtin; refine wpList_append_own _ rfl (.tmp 23) (.tmp 25) _ rfl w.heap.size 41 i0 _ 1 4 Tryd.underlying48 hi0 hz0 hz1 hz2 rfl (by omega) _ _ _ rfl (hout2.out.alloc _) ⟨w2.heap.size, 0, none⟩ 1 1 [.int .u32 (n : Nat)] rfl rfl ?c1 ?c2 ?c3 ?c4 ?c5 ?_))
        case c1 =>
          intro j u hj
          match j, hj with
          | 0, hj => simp at hj; subst hj; simp [Addr.add]
        case c2 => intro u hu; simp at hu; subst hu; rfl
        case c3 => unfold maxLen; omega
        case c4 => omega
        case c5 => simp; omega
        intro v' w3 hown' hgrow _
        have hb' : Below w.heap.size w w3 := (HB2.out.alloc hw2 _).grown hgrow (by simp; omega) (fun g' hg' => (hout2.out.lt g' hg').1)
        have Hown' := Lib.hid hown'
        have Hb' := Lib.hid hb'
        clear hown' hgrow hb'
        go_wp2
        go_roundw
        case rel =>
          refine ⟨k + 1, by go_num, by omega, ?_, Hb'⟩
          rw [Hs.out, show (P ++ [n]).length = P.length + 1 from by simp, show numCells (P ++ [n]) = numCells P ++ [.int .u32 (n : Nat)] from by simp [numCells]]
          exact Hown'.out
        case measure => simp [intOf]; omega
      · have Hs : Hid (picked l (all.take (k + 1)) g = picked l (all.take k) g) := by
          show _ = _
          rw [Hstep.out, if_neg (by rw [hb]; simp), List.append_nil]
        rw [hb] at Hh
        clear Hstep hb
        go_wp2_with fail
        refine Hh.out.mono ?_
        rintro e w2 ⟨rfl, hb2⟩
        have hout2 := Lib.hid (own_below hout.out hb2)
        have HB2 := Lib.hid (hbr.out.trans (hb2.mono hwr))
        clear hb2
        go_wp2
        go_roundw
        case rel =>
          refine ⟨k + 1, by go_num, by omega, ?_, HB2⟩
          rw [Hs.out]
          exact hout2.out
        case measure => simp [intOf]; omega
    · obtain rfl : k = all.length := by omega
      rw [List.take_of_length_le (Nat.le_refl _)] at hout
      go_wp2
      go_ret
      exact ⟨_, rfl, hout.out, hbr.out⟩
theorem awake_spec : setOk [50, 58, 52, 44, 42] = true ∧ setVals [50, 58, 52, 44, 42] = [(2, 4), (0, 0)] := by
  have h1 : splitC 44 [50, 58, 52, 44, 42] = [[50, 58, 52], [42]] := by decide
  have h2 : Lib.cut [50, 58, 52] [58] = ([50], [52], true) := by decide
  have h3 : Lib.cut [42] [58] = ([42], [], false) := by decide
  unfold setOk setVals
  rw [h1]
  simp only [List.all_cons, List.all_nil, List.map_cons, List.map_nil]
  unfold partOk partVal partA partB
  rw [h2, h3]
  simp only [num_one]
  decide
set_option maxHeartbeats 1600000 in
set_option maxRecDepth 100000 in
theorem awake13 (w : World) (hw : Fine w) : Calls Tryd.prog 25 #[] w fun e w' => e = .returned (.bool true) ∧ Below w.heap.size w w' := by
  have hp := parse_any ⟨#[50, 58, 52, 44, 42]⟩ (by decide) w hw
  have e1 : setOk (⟨#[50, 58, 52, 44, 42]⟩ : ByteArray).data.toList = true := awake_spec.1
  have e2 : setVals (⟨#[50, 58, 52, 44, 42]⟩ : ByteArray).data.toList = [(2, 4), (0, 0)] := awake_spec.2
  rw [e1, e2] at hp
  have HP := Lib.hid hp
  clear hp e1 e2
  go_enter Tryd.func25, Tryd.ntmps25
  go_wp2_with fail
  refine HP.out.mono ?_
  rintro e w1 ⟨v, rfl, ho, _, hb⟩
  obtain ⟨A, c, rfl, hr⟩ := own_slice (ho rfl)
  have Hh := Lib.hid (has_any A c [(2, 4), (0, 0)] 3 9 (by decide) (by decide) w1 hr)
  have HB := Lib.hid hb
  clear hb ho hr HP
  go_wp2_with fail
  refine Hh.out.mono ?_
  rintro e w2 ⟨rfl, hb2⟩
  have HB2 := Lib.hid (HB.out.trans (hb2.mono HB.out.size))
  rw [show inSet [(2, 4), (0, 0)] 3 9 = true from by decide]
  clear hb2
  go_wp2
  go_ret
  exact ⟨rfl, HB2.out⟩
end Go.Proofs.YtfnckkmnncdelaaDoor
