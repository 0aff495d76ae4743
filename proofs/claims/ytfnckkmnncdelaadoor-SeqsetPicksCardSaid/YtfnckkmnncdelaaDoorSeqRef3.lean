/-
  Walk of the document's answer for a set.
-/
import Derived.Test.YtfnckkmnncdelaaDoorSeqRef2
namespace Go.Proofs.YtfnckkmnncdelaaDoor
open Go.RowKit
theorem own_below {w w' : World} {B e size n : Nat} {v : Value} {xs : List Value} (h : w.ownsRow B e size v n xs) (hb : Below w.heap.size w w') : w'.ownsRow B e size v n xs := by
  refine ⟨h.1, ?_⟩
  rcases h.2 with hn | ⟨g, cap, cur, rfl, hg, hgg, rest⟩
  · exact .inl hn
  · exact .inr ⟨g, cap, cur, rfl, hg, by rw [hb.block g (Array.getElem?_eq_some_iff.1 hgg).1]; exact hgg, rest⟩
theorem own_mono {w : World} {base base' : Nat} {e : TypeId} {size : Nat} {v : Value} {n : Nat} {xs : List Value} (h : w.ownsRow base e size v n xs) (hb : base' ≤ base) : w.ownsRow base' e size v n xs :=
  ⟨h.1, h.2.imp id fun ⟨g, cap, cur, h1, h2, h3⟩ => ⟨g, cap, cur, h1, Nat.le_trans hb h2, h3⟩⟩
theorem refSpan_info : (Tryd.prog.info? 43).map (fun i => (i.zero, i.size, i.bytes)) = some (some (.agg #[.int .u32 0, .int .u32 0]), 2, 8) := by kernel_rfl
theorem refOne_c (p : List UInt8) (b : Bool) (hs : p.length ≤ 2000) (hb : oneOk p = b) (w : World) :
    Calls Tryd.prog 55 #[.string ⟨p.toArray⟩] w fun e w' => e = .returned (.tuple #[.int .u32 (oneV p : Nat), .bool b]) ∧ w = w' := by
  have h := refOne_any ⟨p.toArray⟩ (by simpa [ByteArray.size] using hs) w
  subst hb
  refine h.mono ?_
  rintro e w' ⟨rfl, rfl⟩
  exact ⟨rfl, rfl⟩
theorem spanCells_one (L : List (Nat × Nat)) : ∀ u ∈ spanCells L, u.oneCell' = true := by
  intro u hu
  simp only [spanCells, List.mem_flatMap] at hu
  obtain ⟨x, _, hx⟩ := hu
  simp at hx
  rcases hx with rfl | rfl <;> rfl
/-- what Parse and Set leave -/
def SetPost (t : TypeId) (ok : Bool) (vals : List (Nat × Nat)) (v : Value) (w w' : World) : Prop :=
  (ok = true → w'.ownsRow w.heap.size t 2 v vals.length (spanCells vals)) ∧ (ok = false → v = .slice none 0 0) ∧ Below w.heap.size w w'
theorem SetPost.bad {t : TypeId} {vals : List (Nat × Nat)} {w w' : World} (h : Below w.heap.size w w') : SetPost t false vals (.slice none 0 0) w w' := ⟨by simp, fun _ => rfl, h⟩
theorem SetPost.good {t : TypeId} {vals : List (Nat × Nat)} {v : Value} {w w' : World} (ho : w'.ownsRow w.heap.size t 2 v vals.length (spanCells vals)) (h : Below w.heap.size w w') : SetPost t true vals v w w' := ⟨fun _ => ho, by simp, h⟩
set_option maxHeartbeats 800000 in
set_option maxRecDepth 100000 in
theorem refSet_any (s : ByteArray) (hs : s.size ≤ 2000) (w : World) :
    Calls Tryd.prog 27 #[.string s] w fun e w' =>
      ∃ v, e = .returned (.tuple #[v, .bool (setOk s.data.toList)]) ∧ SetPost 43 (setOk s.data.toList) (setVals s.data.toList) v w w' := by
  obtain ⟨i0, hi0, hz0, hz1, hz2⟩ := info_parts refSpan_info
  have Hsp := Lib.hid (refSplit_any s 44 hs w)
  have hmem := splitC_mem_le 44 s.data.toList
  have hpos := splitC_length_pos 44 s.data.toList
  have hle := splitC_length_le 44 s.data.toList
  have hsl : s.data.toList.length ≤ 2000 := hs
  have HV : Hid (setOk s.data.toList = (decide ((splitC 44 s.data.toList).length ≤ 100) && (splitC 44 s.data.toList).all partOk) ∧ setVals s.data.toList = (splitC 44 s.data.toList).map partVal) := ⟨rfl, rfl⟩
  generalize setOk s.data.toList = ok at *
  generalize setVals s.data.toList = vals at *
  generalize splitC 44 s.data.toList = L at *
  have hmem' : ∀ p ∈ L, p.length ≤ 2000 := fun p hp => by have := hmem p hp; omega
  have HM := Lib.hid hmem'
  have hL : L.length ≤ 2001 := by omega
  clear hmem hmem' hle hsl
  go_enter Tryd.func27, Tryd.ntmps27
  go_wp2_with fail
  refine Hsp.out.mono ?_
  rintro e w1 ⟨v, rfl, hown, hb⟩
  obtain ⟨g, cap, rfl, hg1, hg2⟩ := hown.form hpos
  have HB := Lib.hid hb
  have HO := Lib.hid hown
  clear hb hown Hsp
  by_cases h100 : 100 < L.length
  · have hok : ok = false := by rw [HV.out.1]; simp; omega
    subst hok
    clear HO HV HM
    go_wp2
    go_ret2
    exact ⟨_, rfl, SetPost.bad HB.out⟩
  go_wp2
  go_loopw [5, 19] (fun v i wr => ∃ k : Nat, i = .int .i64 k ∧ k ≤ L.length ∧ Hid ((L.take k).all partOk = true) ∧ Hid (wr.ownsRow w1.heap.size 43 2 v k (spanCells ((L.take k).map partVal))) ∧ Hid (Below w1.heap.size w1 wr)) (fun _ i _ => L.length - (intOf i).toNat)
  case atStart => exact ⟨0, rfl, by omega, rfl, World.ownsRow_nil _ _ _ _, Below.refl _ _⟩
  case round =>
    obtain ⟨k, rfl, hk, hall, hout, hbr⟩ := hrel
    by_cases hlt : k < L.length
    · obtain ⟨p, hp⟩ : ∃ p, L[k]? = some p := ⟨_, List.getElem?_eq_getElem hlt⟩
      have hpm : p ∈ L := List.mem_of_getElem? hp
      have hpl := HM.out p hpm
      have hcell : wr.cell? ⟨g, k, none⟩ = some (sv p) := by
        rw [hbr.out.cell (p := ⟨g, k, none⟩) (by exact hg2), HO.out.cellAt k (by omega), svs, List.getElem?_map, hp]; rfl
      have htk : L.take (k + 1) = L.take k ++ [p] := by rw [List.take_add_one, hp]; rfl
      have Htk := Lib.hid htk
      have Hp := Lib.hid hp
      clear htk hp hpm
      unfold sv at hcell
      obtain ⟨h, t, hsp, hpo, hpv⟩ := part_ref p
      have Hs2 := Lib.hid (refSplit_any ⟨p.toArray⟩ 58 (by simpa [ByteArray.size] using hpl) wr)
      have hq : ∀ q ∈ h :: t, q.length ≤ 2000 := fun q hq => by
        have := splitC_mem_le 58 p q (by rw [hsp]; exact hq)
        omega
      have htl : t.length ≤ 2000 := by
        have := splitC_length_le 58 p
        rw [hsp] at this; simp at this; omega
      have hh := hq h (by simp)
      have hl := hq _ (List.getLast_mem (l := h :: t) (by simp))
      have hlast : (svs (h :: t))[t.length]? = some (sv ((h :: t).getLast (by simp))) := by
        unfold svs
        rw [List.getElem?_map, List.getLast_eq_getElem]
        simp
      generalize hG : (h :: t).getLast (by simp) = q at *
      have Hlast := Lib.hid hlast
      have HPO := Lib.hid hpo
      have HPV := Lib.hid hpv
      have HSP := Lib.hid hsp
      clear hlast hpo hpv hsp hq hG
      go_wp2_with fail
      refine Hs2.out.mono ?_
      rintro e w2 ⟨v2, rfl, hown2, hb2⟩
      change w2.ownsRow _ _ _ _ (splitC 58 p).length (svs (splitC 58 p)) at hown2
      rw [HSP.out] at hown2
      obtain ⟨g2, cap2, rfl, hg3, hg4⟩ := hown2.form (by simp)
      have hc0 : w2.cell? ⟨g2, 0, none⟩ = some (sv h) := by rw [hown2.cellAt 0 (by simp)]; rfl
      have hcl : w2.cell? ⟨g2, t.length, none⟩ = some (sv q) := by rw [hown2.cellAt t.length (by simp)]; exact Hlast.out
      have HB2 := Lib.hid hb2
      clear hb2 hown2 Hs2 Hlast
      unfold sv at hc0 hcl
      have hbw : Below w.heap.size w w2 := (HB.out.trans (hbr.out.mono HB.out.size)).trans (HB2.out.mono (by have := HB.out.size; have := hbr.out.size; omega))
      have HBW := Lib.hid hbw
      clear hbw
      by_cases hpok : partOk p = true
      · have hpo := HPO.out
        rw [hpok] at hpo
        have hpo' := hpo.symm
        rw [Bool.and_eq_true, Bool.and_eq_true, decide_eq_true_eq] at hpo'
        obtain ⟨⟨h1, h2⟩, h3⟩ := hpo'
        have hlen2 : t.length ≤ 1 := by simpa using h3
        have H1 := Lib.hid (refOne_c h true hh h1)
        have H2 := Lib.hid (refOne_c q true hl h2)
        have hv : partVal p = (oneV h, oneV q) := by
          obtain ⟨ea, eb⟩ := HPV.out hpok
          unfold partVal oneV
          rw [ea, eb, h1, h2]; rfl
        have Hv := Lib.hid hv
        have Hpok := Lib.hid hpok
        have hout2 := own_below hout.out HB2.out
        have Hout2 := Lib.hid hout2
        clear hpo h1 h2 h3 hv hpok hout2 HPO HPV
        have hw2 : w1.heap.size ≤ w2.heap.size := by have := HB2.out.size; have := hbr.out.size; omega
        generalize oneV h = a at *
        generalize oneV q = b at *
        go_wp2_with fail
        refine (H1.out _).mono ?_
        rintro e w3 ⟨rfl, rfl⟩
        go_wp2_with fail
        refine (H2.out _).mono ?_
        rintro e w3 ⟨rfl, rfl⟩
        go_wp2_with (first
          | (at_builtin
             refine wpList_append_own _ rfl (.tmp 55) (.tmp 59) _ rfl w1.heap.size 43 i0 _ 2 8 Tryd.underlying38 hi0 hz0 hz1 hz2 rfl (by omega) _ _ _ rfl (Hout2.out.alloc _) ⟨w2.heap.size, 0, none⟩ 1 1 [.int .u32 (a : Nat), .int .u32 (b : Nat)] rfl rfl ?c1 ?c2 ?c3 ?c4 ?c5 ?_))
        case c1 =>
          intro j u hj
          match j, hj with
          | 0, hj => simp at hj; subst hj; simp [Addr.add]
          | 1, hj => simp at hj; subst hj; simp [Addr.add]
        case c2 => intro u hu; simp at hu; rcases hu with rfl | rfl <;> rfl
        case c3 => unfold maxLen; omega
        case c4 => omega
        case c5 => simp; omega
        intro v' w3 hown' hgrow _
        have hb' : Below w1.heap.size w1 w3 := (((hbr.out.trans (HB2.out.mono hbr.out.size))).alloc hw2 _).grown hgrow (by simp; omega) (fun g' hg' => (Hout2.out.lt g' hg').1)
        have Hown' := Lib.hid hown'
        have Hb' := Lib.hid hb'
        clear hown' hgrow hb'
        go_wp2
        go_roundw
        case rel =>
          refine ⟨k + 1, by go_num, by omega, ?_, ?_, Hb'.out⟩
          · show List.all (L.take (k + 1)) partOk = true
            rw [Htk.out, List.all_append, hall.out]; simp [Hpok.out]
          · rw [Htk.out, List.map_append, spanCells_append, List.map_take]
            have e2 : spanCells (List.map partVal [p]) = [Value.int .u32 (a : Nat), Value.int .u32 (b : Nat)] := by
              simp [spanCells, Hv.out]
            rw [e2]
            exact Hown'.out
        case measure => simp [intOf]; omega
      · have hokf : ok = false := by
          rw [HV.out.1]
          have : L.all partOk = false := by
            rw [List.all_eq_false]; exact ⟨p, List.mem_of_getElem? Hp.out, hpok⟩
          rw [this]; simp
        subst hokf
        have hpo := HPO.out
        have hpf : partOk p = false := by simpa using hpok
        rw [hpf] at hpo
        clear HPO HPV HV HM hpf hpok
        rcases Bool.eq_false_or_eq_true (oneOk h) with h1 | h1
        · rcases Bool.eq_false_or_eq_true (oneOk q) with h2 | h2
          · have h3 : 1 < t.length := by rw [h1, h2] at hpo; simp at hpo; omega
            have H1 := Lib.hid (refOne_c h true hh h1)
            have H2 := Lib.hid (refOne_c q true hl h2)
            clear h1 h2 hpo
            go_wp2_with fail
            refine (H1.out _).mono ?_
            rintro e w3 ⟨rfl, rfl⟩
            go_wp2_with fail
            refine (H2.out _).mono ?_
            rintro e w3 ⟨rfl, rfl⟩
            go_wp2
            go_ret2
            exact ⟨_, rfl, SetPost.bad HBW.out⟩
          · have H1 := Lib.hid (refOne_c h true hh h1)
            have H2 := Lib.hid (refOne_c q false hl h2)
            clear h1 h2 hpo
            go_wp2_with fail
            refine (H1.out _).mono ?_
            rintro e w3 ⟨rfl, rfl⟩
            go_wp2_with fail
            refine (H2.out _).mono ?_
            rintro e w3 ⟨rfl, rfl⟩
            go_wp2
            go_ret2
            exact ⟨_, rfl, SetPost.bad HBW.out⟩
        · have H1 := Lib.hid (refOne_c h false hh h1)
          have H2 := Lib.hid (refOne_c q _ hl rfl)
          clear h1 hpo
          generalize oneOk q = bq at *
          go_wp2_with fail
          refine (H1.out _).mono ?_
          rintro e w3 ⟨rfl, rfl⟩
          go_wp2_with fail
          refine (H2.out _).mono ?_
          rintro e w3 ⟨rfl, rfl⟩
          go_wp2
          go_ret2
          exact ⟨_, rfl, SetPost.bad HBW.out⟩
    · obtain rfl : k = L.length := by omega
      have e : L.take L.length = L := List.take_of_length_le (Nat.le_refl _)
      rw [e] at hout hall
      have hok : ok = true := by rw [HV.out.1, hall.out]; simp; omega
      subst hok
      have hvl : vals.length = L.length := by rw [HV.out.2]; simp
      go_wp2
      go_ret2
      refine ⟨_, rfl, SetPost.good ?_ (HB.out.trans (hbr.out.mono HB.out.size))⟩
      rw [hvl, HV.out.2]
      exact own_mono hout.out HB.out.size
end Go.Proofs.YtfnckkmnncdelaaDoor
