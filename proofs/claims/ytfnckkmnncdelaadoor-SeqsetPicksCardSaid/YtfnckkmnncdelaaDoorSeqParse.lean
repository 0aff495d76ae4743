/-
  Walk of seqset's Parse.
-/
import Derived.Test.YtfnckkmnncdelaaDoorSeqNum
import Derived.Test.YtfnckkmnncdelaaDoorSeqRef3
import Derived.Lib.Split
namespace Go.Proofs.YtfnckkmnncdelaaDoor
open Go.RowKit
theorem splitB_svs (s : ByteArray) : (Lib.splitB ⟨#[44]⟩ 0 (Lib.countB s ⟨#[44]⟩) s).map Value.string = svs (splitC 44 s.data.toList) := by
  have h := Lib.splitB_data ⟨#[44]⟩ 0 (Lib.countB s ⟨#[44]⟩) s
  rw [show (⟨#[44]⟩ : ByteArray).data.toList = [44] from rfl, show Lib.countB s ⟨#[44]⟩ = Lib.count s.data.toList [44] from rfl, splitC_eq] at h
  rw [← h]
  unfold svs
  rw [List.map_map]
  apply List.map_congr_left
  intro x _
  show _ = Value.string ⟨x.data.toList.toArray⟩
  rw [Array.toArray_toList]
theorem countB_len (s : ByteArray) : Lib.countB s ⟨#[44]⟩ + 1 = (splitC 44 s.data.toList).length := by
  have h := congrArg List.length (splitB_svs s)
  rw [List.length_map, Lib.splitB_all ⟨#[44]⟩ (by decide) 0 _ s rfl] at h
  rw [h]; simp [svs]
theorem splitP_any (s : ByteArray) (hs : s.size ≤ 2000) (w : World) (hw : Fine w) :
    Calls Tryd.prog 32 #[.string s, .string ⟨#[44]⟩] w fun e w' => e = .returned (.slice (some ⟨w.heap.size, 0, none⟩) (splitC 44 s.data.toList).length (splitC 44 s.data.toList).length) ∧ w' = w.alloc (.cells (svs (splitC 44 s.data.toList)).toArray 9) := by
  obtain ⟨m, hm⟩ := hw.len
  have h := Tryd.strings_Split s ⟨#[44]⟩ m w (by omega) hm (by decide)
  rw [countB_len, splitB_svs] at h
  exact h
theorem cut_c (p a b : List UInt8) (f : Bool) (hp : p.length ≤ 2000) (hc : Lib.cut p [58] = (a, b, f)) (w : World) (hw : Fine w) :
    Calls Tryd.prog 52 #[.string ⟨p.toArray⟩, .string ⟨#[58]⟩] w fun e w' => e = .returned (.tuple #[.string ⟨a.toArray⟩, .string ⟨b.toArray⟩, .bool f]) ∧ Below w.heap.size w w' := by
  obtain ⟨m, hm⟩ := hw.len
  have h := Tryd.strings_Cut ⟨p.toArray⟩ ⟨#[58]⟩ m w (by simp [ByteArray.size]; omega) hm
  rw [show (⟨p.toArray⟩ : ByteArray).data.toList = p from rfl, show (⟨#[58]⟩ : ByteArray).data.toList = [58] from rfl, hc] at h
  refine h.mono ?_
  rintro e w' ⟨rfl, n, rfl⟩
  exact ⟨rfl, below_drewN (Below.refl _ _) n⟩
theorem num_c (p : List UInt8) (b : Bool) (hp : p.length ≤ 2000) (hb : numOk p = b) (w : World) (hw : Fine w) :
    Calls Tryd.prog 53 #[.string ⟨p.toArray⟩] w fun e w' => ∃ v : Nat, e = .returned (.tuple #[.int .u32 v, .bool b]) ∧ (b = true → v = numVal p) ∧ Below w.heap.size w w' := by
  subst hb
  exact num_any ⟨p.toArray⟩ (by simpa [ByteArray.size] using hp) w hw
theorem num_t (p : List UInt8) (hp : p.length ≤ 2000) (hb : numOk p = true) (w : World) (hw : Fine w) :
    Calls Tryd.prog 53 #[.string ⟨p.toArray⟩] w fun e w' => e = .returned (.tuple #[.int .u32 (numVal p : Nat), .bool true]) ∧ Below w.heap.size w w' := by
  refine (num_c p true hp hb w hw).mono ?_
  rintro e w' ⟨v, rfl, hv, hb⟩
  rw [hv rfl]
  exact ⟨rfl, hb⟩
theorem cut_len (p a b : List UInt8) (f : Bool) (hc : Lib.cut p [58] = (a, b, f)) : a.length ≤ p.length ∧ b.length ≤ p.length := by
  rcases cut_spec 58 p with ⟨_, h, _⟩ | ⟨a', b', h0, _, h, _⟩
  · rw [h] at hc; simp only [Prod.mk.injEq] at hc; obtain ⟨rfl, rfl, rfl⟩ := hc; simp
  · rw [h] at hc; simp only [Prod.mk.injEq] at hc; obtain ⟨rfl, rfl, rfl⟩ := hc; rw [h0]; simp; omega
theorem span_info : (Tryd.prog.info? 44).map (fun i => (i.zero, i.size, i.bytes)) = some (some (.agg #[.int .u32 0, .int .u32 0]), 2, 8) := by kernel_rfl
set_option maxHeartbeats 3200000 in
set_option maxRecDepth 100000 in
theorem parse_any (s : ByteArray) (hs : s.size ≤ 2000) (w : World) (hw : Fine w) :
    Calls Tryd.prog 26 #[.string s] w fun e w' =>
      ∃ v, e = .returned (.tuple #[v, .bool (setOk s.data.toList)]) ∧ SetPost 44 (setOk s.data.toList) (setVals s.data.toList) v w w' := by
  obtain ⟨i0, hi0, hz0, hz1, hz2⟩ := info_parts span_info
  have Hsp := Lib.hid (splitP_any s hs w hw)
  have hmem := splitC_mem_le 44 s.data.toList
  have hpos := splitC_length_pos 44 s.data.toList
  have hle := splitC_length_le 44 s.data.toList
  have hsl : s.data.toList.length ≤ 2000 := hs
  have HV : Hid (setOk s.data.toList = (decide ((splitC 44 s.data.toList).length ≤ 100) && (splitC 44 s.data.toList).all partOk) ∧ setVals s.data.toList = (splitC 44 s.data.toList).map partVal) := ⟨rfl, rfl⟩
  generalize setOk s.data.toList = ok at *
  generalize setVals s.data.toList = vals at *
  generalize splitC 44 s.data.toList = L at *
  have hmem' : ∀ p ∈ L, p.length ≤ 2000 := fun p hp => by have := hmem p hp; omega
  have HM := Lib.hid hmem'
  have HW := Lib.hid hw
  have hL : L.length ≤ 2001 := by omega
  clear hmem hmem' hle hsl hw
  go_enter Tryd.func26, Tryd.ntmps26
  go_wp2_with fail
  refine Hsp.out.mono ?_
  rintro e w1' ⟨rfl, hw1⟩
  obtain ⟨w1, hw1e⟩ : ∃ w1, w1 = w1' := ⟨_, rfl⟩
  subst hw1e
  have hb1 : Below w.heap.size w w1 := by rw [hw1]; exact (Below.refl _ _).alloc (Nat.le_refl _) _
  have hs1 : w1.heap.size = w.heap.size + 1 := by rw [hw1]; simp
  have hblk : Blk w1 w.heap.size 9 (svs L).toArray := by rw [hw1]; exact Blk.new _ _ _
  have HB := Lib.hid hb1
  have HK := Lib.hid hblk
  have HS1 := Lib.hid hs1
  clear hw1 hb1 hblk Hsp hs1
  by_cases h100 : 100 < L.length
  · have hok : ok = false := by rw [HV.out.1]; simp; omega
    subst hok
    clear HV HM
    go_wp2
    go_ret2
    exact ⟨_, rfl, SetPost.bad HB.out⟩
  go_wp2
  go_loopw [5, 22] (fun v i wr => ∃ k : Nat, i = .int .i64 k ∧ k ≤ L.length ∧ Hid ((L.take k).all partOk = true) ∧ Hid (wr.ownsRow w1.heap.size 44 2 v k (spanCells ((L.take k).map partVal))) ∧ Hid (Below w1.heap.size w1 wr)) (fun _ i _ => L.length - (intOf i).toNat)
  case atStart => exact ⟨0, rfl, by omega, rfl, World.ownsRow_nil _ _ _ _, Below.refl _ _⟩
  case round =>
    obtain ⟨k, rfl, hk, hall, hout, hbr⟩ := hrel
    by_cases hlt : k < L.length
    · obtain ⟨p, hp⟩ : ∃ p, L[k]? = some p := ⟨_, List.getElem?_eq_getElem hlt⟩
      have hpm : p ∈ L := List.mem_of_getElem? hp
      have hpl := HM.out p hpm
      have hcell : wr.cell? ⟨w.heap.size, k, none⟩ = some (sv p) := by
        rw [hbr.out.cell (p := ⟨w.heap.size, k, none⟩) (by show w.heap.size < _; have := HS1.out; omega), HK.out.cell, List.getElem?_toArray, svs, List.getElem?_map, hp]; rfl
      have htk : L.take (k + 1) = L.take k ++ [p] := by rw [List.take_add_one, hp]; rfl
      have Htk := Lib.hid htk
      have Hp := Lib.hid hp
      clear htk hp hpm
      unfold sv at hcell
      obtain ⟨a, b0, f, hcut⟩ : ∃ a b0 f, Lib.cut p [58] = (a, b0, f) := ⟨_, _, _, rfl⟩
      obtain ⟨hal, hbl⟩ := cut_len p a b0 f hcut
      have HC := Lib.hid (cut_c p a b0 f hpl hcut)
      have HPV : Hid (partVal p = (numVal a, numVal (if f = true then b0 else a)) ∧ partOk p = (numOk a && numOk (if f = true then b0 else a))) := by
        refine ⟨?_, ?_⟩
        · unfold partVal partA partB; rw [hcut]
        · unfold partOk partA partB; rw [hcut]
      have hwr : Fine wr := (HW.out.below HB.out).below hbr.out
      have HWR := Lib.hid hwr
      have hw1r : w1.heap.size ≤ wr.heap.size := hbr.out.size
      have hbw : Below w.heap.size w wr := HB.out.trans (hbr.out.mono HB.out.size)
      have HBW := Lib.hid hbw
      clear hcut hwr hbw
      by_cases hpok : partOk p = true
      · have Hpok := Lib.hid hpok
        have hpo := HPV.out.2
        rw [hpok] at hpo
        have hpo' := hpo.symm
        rw [Bool.and_eq_true] at hpo'
        obtain ⟨h1, h2⟩ := hpo'
        clear hpo hpok
        have H1 := Lib.hid (num_t a (by omega) h1)
        have H2 := Lib.hid (num_t _ (by split <;> omega) h2)
        have Hv := Lib.hid HPV.out.1
        clear h1 h2 HPV
        generalize numVal (if f = true then b0 else a) = v2 at *
        generalize numVal a = v1 at *
        cases f
        all_goals
          simp only [Bool.false_eq_true, if_false, if_true] at H2
          go_wp2_with fail
          refine (HC.out _ HWR.out).mono ?_
          rintro e w2 ⟨rfl, hb2⟩
          have HB2 := Lib.hid hb2
          have hW2 := HWR.out.below hb2
          clear hb2
          go_wp2_with fail
          refine (H1.out _ hW2).mono ?_
          rintro e w3 ⟨rfl, hb3⟩
          have HB3 := Lib.hid (HB2.out.trans (hb3.mono HB2.out.size))
          have hW3 := hW2.below hb3
          clear hb3 hW2
          go_wp2_with fail
          refine (H2.out _ hW3).mono ?_
          rintro e w4 ⟨rfl, hb4⟩
          have HB4 := Lib.hid (HB3.out.trans (hb4.mono HB3.out.size))
          clear hb4 hW3 HB2 HB3 H1 H2
          have hout2 := own_below hout.out HB4.out
          have Hout2 := Lib.hid hout2
          have hw2 : w1.heap.size ≤ w4.heap.size := by have := HB4.out.size; omega
          clear hout2
          go_wp2_with (first
            | (at_builtin; refine wpList_append_own _ rfl (.tmp 51) (.tmp 55) _ rfl w1.heap.size 44 i0 _ 2 8 Tryd.underlying35 hi0 hz0 hz1 hz2 rfl (by omega) _ _ _ rfl (Hout2.out.alloc _) ⟨w4.heap.size, 0, none⟩ 1 1 [.int .u32 (v1 : Nat), .int .u32 (v2 : Nat)] rfl rfl ?c1 ?c2 ?c3 ?c4 ?c5 ?_))
          case c1 =>
            intro j u hj
            match j, hj with
            | 0, hj => simp at hj; subst hj; simp [Addr.add]
            | 1, hj => simp at hj; subst hj; simp [Addr.add]
          case c2 => intro u hu; simp at hu; rcases hu with rfl | rfl <;> rfl
          case c3 => unfold maxLen; omega
          case c4 => omega
          case c5 => simp; omega
          intro v' w3 hown' hgrow _
          have hb' : Below w1.heap.size w1 w3 := (((hbr.out.trans (HB4.out.mono hbr.out.size))).alloc hw2 _).grown hgrow (by simp; omega) (fun g' hg' => (Hout2.out.lt g' hg').1)
          have Hown' := Lib.hid hown'
          have Hb' := Lib.hid hb'
          clear hown' hgrow hb'
          go_wp2
          go_roundw
          case rel =>
            refine ⟨k + 1, by go_num, by omega, ?_, ?_, Hb'.out⟩
            · show List.all (L.take (k + 1)) partOk = true
              rw [Htk.out, List.all_append, hall.out]; simp [Hpok.out]
            · rw [Htk.out, List.map_append, spanCells_append, List.map_take]
              rw [show List.map partVal [p] = [partVal p] from rfl, Hv.out]
              exact Hown'.out
          case measure => simp [intOf]; omega
      · have hokf : ok = false := by
          rw [HV.out.1]
          have : L.all partOk = false := by
            rw [List.all_eq_false]; exact ⟨p, List.mem_of_getElem? Hp.out, hpok⟩
          rw [this]; simp
        subst hokf
        have hpo := HPV.out.2
        have hpf : partOk p = false := by simpa using hpok
        rw [hpf] at hpo
        clear HPV HV HM hpf hpok hout
        rcases Bool.eq_false_or_eq_true (numOk a) with h1 | h1
        · have h2 : numOk (if f = true then b0 else a) = false := by rw [h1] at hpo; simpa using hpo.symm
          have H1 := Lib.hid (num_c a true (by omega) h1)
          have H2 := Lib.hid (num_c _ false (by split <;> omega) h2)
          clear h1 h2 hpo
          cases f
          all_goals
            simp only [Bool.false_eq_true, if_false, if_true] at H2
            go_wp2_with fail
            refine (HC.out _ HWR.out).mono ?_
            rintro e w2 ⟨rfl, hb2⟩
            have HB2 := Lib.hid (HBW.out.trans (hb2.mono HBW.out.size))
            have hW2 := HWR.out.below hb2
            clear hb2
            go_wp2_with fail
            refine (H1.out _ hW2).mono ?_
            rintro e w3 ⟨v1, rfl, _, hb3⟩
            have HB3 := Lib.hid (HB2.out.trans (hb3.mono HB2.out.size))
            have hW3 := hW2.below hb3
            clear hb3 hW2
            go_wp2_with fail
            refine (H2.out _ hW3).mono ?_
            rintro e w4 ⟨v2, rfl, _, hb4⟩
            have HB4 := Lib.hid (HB3.out.trans (hb4.mono HB3.out.size))
            clear hb4 hW3 HB2 HB3
            go_wp2
            go_ret2
            exact ⟨_, rfl, SetPost.bad HB4.out⟩
        · have H1 := Lib.hid (num_c a false (by omega) h1)
          have H2 := Lib.hid (num_c (if f = true then b0 else a) _ (by split <;> omega) rfl)
          clear h1 hpo
          cases f
          all_goals
            simp only [Bool.false_eq_true, if_false, if_true] at H2
            go_wp2_with fail
            refine (HC.out _ HWR.out).mono ?_
            rintro e w2 ⟨rfl, hb2⟩
            have HB2 := Lib.hid (HBW.out.trans (hb2.mono HBW.out.size))
            have hW2 := HWR.out.below hb2
            clear hb2
            go_wp2_with fail
            refine (H1.out _ hW2).mono ?_
            rintro e w3 ⟨v1, rfl, _, hb3⟩
            have HB3 := Lib.hid (HB2.out.trans (hb3.mono HB2.out.size))
            have hW3 := hW2.below hb3
            clear hb3 hW2
            go_wp2_with fail
            refine (H2.out _ hW3).mono ?_
            rintro e w4 ⟨v2, rfl, _, hb4⟩
            have HB4 := Lib.hid (HB3.out.trans (hb4.mono HB3.out.size))
            clear hb4 hW3 HB2 HB3
            first | generalize numOk a = bb at * | generalize numOk b0 = bb at * | skip
            go_wp2
            go_ret2
            exact ⟨_, rfl, SetPost.bad HB4.out⟩
    · obtain rfl : k = L.length := by omega
      have e : L.take L.length = L := List.take_of_length_le (Nat.le_refl _)
      rw [e] at hout hall
      have hok : ok = true := by rw [HV.out.1, hall.out]; simp; omega
      subst hok
      have hvl : vals.length = L.length := by rw [HV.out.2]; simp
      go_wp2
      go_ret2
      refine ⟨_, rfl, SetPost.good ?_ (HB.out.trans (hbr.out.mono HB.out.size))⟩
      rw [hvl, HV.out.2]
      exact own_mono hout.out HB.out.size
end Go.Proofs.YtfnckkmnncdelaaDoor
