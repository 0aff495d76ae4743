/-
  Walk of the statement on picks.
-/
import Derived.Test.YtfnckkmnncdelaaDoorSeqBody
import Derived.BigQuiet
import Derived.Deep.QuietTactic
import Derived.Deep.RegionHeld3
import Derived.Deep.DrawnRows
namespace Go.Proofs.YtfnckkmnncdelaaDoor
open Go.RowKit
theorem numCells_at (l : List Nat) (k n : Nat) (h : l[k]? = some n) : (numCells l)[k]? = some (.int .u32 (n : Nat)) := by
  unfold numCells; rw [List.getElem?_map, h]; rfl
theorem picked_step (l : List (Nat × Nat)) (all : List Nat) (g k n : Nat) (h : all[k]? = some n) : picked l (all.take (k + 1)) g = picked l (all.take k) g ++ (if inSet l n g = true then [n] else []) := by
  unfold picked
  rw [List.take_add_one, h, List.filter_append]
  congr 1
  by_cases hb : inSet l n g = true
  · rw [if_pos hb]; simp [hb]
  · rw [if_neg hb]; simp [hb]
theorem picked_at (l : List (Nat × Nat)) (all : List Nat) (g k n : Nat) (h : all[k]? = some n) (hb : inSet l n g = true) :
    (picked l all g)[(picked l (all.take k) g).length]? = some n ∧ (picked l (all.take k) g).length < (picked l all g).length := by
  have e : picked l all g = picked l (all.take k) g ++ (n :: picked l (all.drop (k + 1)) g) := by
    have hk : k < all.length := by
      rcases Nat.lt_or_ge k all.length with h' | h'
      · exact h'
      · rw [List.getElem?_eq_none h'] at h; cases h
    have hd : all.drop k = n :: all.drop (k + 1) := by
      rw [List.drop_eq_getElem_cons hk]
      rw [List.getElem?_eq_getElem hk] at h
      injection h with h
      rw [h]
    have := List.take_append_drop k all
    unfold picked
    conv => lhs; rw [← this, List.filter_append, hd]
    rw [List.filter_cons, if_pos hb]
  rw [e]
  refine ⟨?_, by simp⟩
  rw [List.getElem?_append_right (Nat.le_refl _)]
  simp
set_option maxHeartbeats 3200000 in
set_option maxRecDepth 100000 in
theorem seqPicks (A D : Option Addr) (c d : Nat) (l : List (Nat × Nat)) (all : List Nat) (hl : ∀ x ∈ l, x.1 ≤ 4294967295 ∧ x.2 ≤ 4294967295) (hn : ∀ n ∈ all, n ≤ 4294967295) (len alen : Nat) (hlen : len = l.length) (halen : alen = all.length) (w : World) (hw : Fine w)
    (hr : Reads w w.heap.size 2 A l.length (spanCells l)) (ha : Reads w w.heap.size 1 D all.length (numCells all)) :
    Calls Tryd.prog 11 #[.slice A len c, .slice D alen d] w fun e w' => e = .returned (.bool true) ∧ Below w.heap.size w w' := by
  subst hlen halen
  have Haw := Lib.hid (awake13 w hw)
  have HW := Lib.hid hw
  by_cases hs : 100 < l.length ∨ 200 < all.length
  · clear hw hr hl ha hn
    by_cases hs1 : 100 < l.length
    all_goals
      go_enter Tryd.func11, Tryd.ntmps11
      go_wp2_with fail
      refine Haw.out.mono ?_
      rintro e w1 ⟨rfl, hb1⟩
      have Haw2 := Lib.hid (awake13 w1 (HW.out.below hb1))
      have HB1 := Lib.hid hb1
      clear hb1
      have hs2 : ¬ 100 < l.length → 200 < all.length := by omega
      try (have hs2 := hs2 hs1)
      go_wp2_with fail
      refine Haw2.out.mono ?_
      rintro e w2 ⟨rfl, hb2⟩
      have HB2 := Lib.hid (HB1.out.trans (hb2.mono HB1.out.size))
      clear hb2
      go_wp2
      go_ret
      exact ⟨rfl, HB2.out⟩
  have hs1 : ¬ 100 < l.length := fun h => hs (.inl h)
  have hs2 : ¬ 200 < all.length := fun h => hs (.inr h)
  have HR := Lib.hid hr
  have HA := Lib.hid ha
  have HL := Lib.hid hl
  have HN := Lib.hid hn
  clear hw hr hl ha hn hs
  go_enter Tryd.func11, Tryd.ntmps11
  go_wp2_with fail
  refine Haw.out.mono ?_
  rintro e w1 ⟨rfl, hb1⟩
  have HB1 := Lib.hid hb1
  have HR1 := Lib.hid ((HR.out.below hb1).more hb1.size)
  have HA1 := Lib.hid ((HA.out.below hb1).more hb1.size)
  clear hb1 Haw HR HA
  go_wp2
  go_loopw [24] (fun i wr => ∃ k : Nat, i = .int .i64 k ∧ k ≤ all.length ∧ Hid (Below w1.heap.size w1 wr)) (fun i _ => all.length - (intOf i).toNat)
  case atStart => exact ⟨0, rfl, by omega, Below.refl _ _⟩
  case round =>
    obtain ⟨k, rfl, hk, hbr⟩ := hrel
    by_cases hlt : k < all.length
    · obtain ⟨n, hx⟩ : ∃ n, all[k]? = some n := ⟨_, List.getElem?_eq_getElem hlt⟩
      have hnn := HN.out n (List.mem_of_getElem? hx)
      obtain ⟨ad, rfl, hab, hcs⟩ := (HA1.out.below hbr.out).2 (by omega)
      have hc1 := hcs _ _ (numCells_at _ _ _ hx)
      have hbd : Below w1.heap.size w1 wr.drew := hbr.out.drew
      have HBD := Lib.hid hbd
      have HE := Lib.hid (HB1.out.trans (hbd.mono HB1.out.size))
      clear hbd
      have hkI : (0 : Int) ≤ (k : Int) := by omega
      have hkL : (k : Int) < (all.length : Int) := by omega
      by_cases h1 : n = 0
      · have hd1 : decide (((n : Nat) : Int) < 1) = true := by simp; omega
        clear hcs hx h1
        go_wp2
        go_quiet (fail)
        go_wp2
        go_ret
        exact ⟨rfl, below_drewN (HB1.out.trans (hbr.out.mono HB1.out.size)) _⟩
      · have hd1 : decide (((n : Nat) : Int) < 1) = false := by simp; omega
        cases k with
        | zero =>
          have hc1' : wr.cell? ad = some (.int .u32 (n : Nat)) := by simpa [Addr.add] using hc1
          have hlp : (0 : Int) < (all.length : Int) := by omega
          clear hcs hx h1 hc1
          go_wp2
          go_quiet (fail)
          go_wp2
          go_roundw
          case rel => exact ⟨1, by go_num, by omega, below_drewN hbr.out _⟩
          case measure => simp [intOf]; omega
        | succ k =>
          obtain ⟨m, hy⟩ : ∃ m, all[k]? = some m := ⟨_, List.getElem?_eq_getElem (by omega)⟩
          have hc0 := hcs _ _ (numCells_at _ _ _ hy)
          have hmm := HN.out m (List.mem_of_getElem? hy)
          have hk2 : (k : Int) + 1 - 1 = k := by omega
          have hkI2 : (0 : Int) ≤ (k : Int) := by omega
          have hkL2 : (k : Int) < (all.length : Int) := by omega
          have hk3 : (0 : Int) < (k : Int) + 1 := by omega
          have hk4 : (0 : Int) ≤ (k : Int) + 1 := by omega
          have hk5 : (k : Int) + 1 < (all.length : Int) := by omega
          have hc1' : wr.cell? ⟨ad.block, ad.off + (k + 1), none⟩ = some (.int .u32 (n : Nat)) := by
            have e : ad.add (k + 1) = ⟨ad.block, ad.off + (k + 1), none⟩ := by unfold Addr.add; rw [if_neg (by omega)]
            rw [← e]; exact hc1
          clear hcs hx hy h1
          by_cases h2 : n ≤ m
          · have hd2 : decide (((m : Nat) : Int) ≥ ((n : Nat) : Int)) = true := by simp; omega
            go_wp2
            go_quiet (fail)
            go_wp2
            go_ret
            exact ⟨rfl, below_drewN (HB1.out.trans (hbr.out.mono HB1.out.size)) _⟩
          · have hd2 : decide (((m : Nat) : Int) ≥ ((n : Nat) : Int)) = false := by simp; omega
            go_wp2
            go_quiet (fail)
            go_wp2
            go_roundw
            case rel => exact ⟨k + 1 + 1, by go_num, by omega, below_drewN hbr.out _⟩
            case measure => simp [intOf]; omega
    · obtain rfl : k = all.length := by omega
      have HR2 := Lib.hid ((HR1.out.below hbr.out).more hbr.out.size)
      have HA2 := Lib.hid ((HA1.out.below hbr.out).more hbr.out.size)
      have HB2 := Lib.hid (HB1.out.trans (hbr.out.mono HB1.out.size))
      clear hbr hk hlt
      go_wp2_with fail
      refine (pick_any A D c d l all HL.out HN.out (by omega) (by omega) wr HR2.out HA2.out).mono ?_
      rintro e w3 ⟨v, rfl, ho, hb3⟩
      obtain ⟨G, gc, rfl, hrg⟩ := own_slice ho
      have HG := Lib.hid hrg
      have HR3 := Lib.hid ((HR2.out.below hb3).more hb3.size)
      have HA3 := Lib.hid ((HA2.out.below hb3).more hb3.size)
      have HB3 := Lib.hid (HB2.out.trans (hb3.mono HB2.out.size))
      clear ho hrg hb3 HR1 HA1 HB1 HR2 HA2 HB2 HW
      obtain ⟨g, hg⟩ : ∃ g, all.getLast?.getD 0 = g := ⟨_, rfl⟩
      rw [hg] at HG ⊢
      have HLG := Lib.hid hg
      clear hg
      go_wp2
      go_loopw [7, 54] (fun u v wr => ∃ k : Nat, v = .int .i64 k ∧ k ≤ all.length ∧ u = .int .i64 ((picked l (all.take k) g).length : Nat) ∧ Hid (Below w3.heap.size w3 wr)) (fun _ v _ => all.length - (intOf v).toNat)
      case atStart => exact ⟨0, rfl, by omega, rfl, Below.refl _ _⟩
      case round =>
        obtain ⟨k, rfl, hk, rfl, hbr⟩ := hrel
        by_cases hlt : k < all.length
        · obtain ⟨n, hx⟩ : ∃ n, all[k]? = some n := ⟨_, List.getElem?_eq_getElem hlt⟩
          have hnn := HN.out n (List.mem_of_getElem? hx)
          have hgl : all[all.length - 1]? = some g := by
            have : all.getLast? = some (all[all.length - 1]'(by omega)) := by rw [List.getLast?_eq_getElem?, List.getElem?_eq_getElem (by omega)]
            rw [← List.getLast?_eq_getElem?]
            have h2 := HLG.out
            rw [this] at h2 ⊢
            simpa using h2
          have hgg := HN.out g (List.mem_of_getElem? hgl)
          obtain ⟨ad, rfl, hab, hcs⟩ := (HA3.out.below hbr.out).2 (by omega)
          have hc1 := hcs _ _ (numCells_at _ _ _ hx)
          have hc2 := hcs _ _ (numCells_at _ _ _ hgl)
          have C1 := Lib.hid hc1
          have C2 := Lib.hid hc2
          have hstep := picked_step l all g k n hx
          have hat := fun hb => picked_at l all g k n hx hb
          have hkI : (0 : Int) ≤ (k : Int) := by omega
          have hkL : (k : Int) < (all.length : Int) := by omega
          have hlI : (all.length : Int) - 1 = ((all.length - 1 : Nat) : Int) := by omega
          have hlW : IntKind.i64.wrap ((all.length : Int) - 1) = ((all.length - 1 : Nat) : Int) := by
            rw [IntKind.wrap_i64]
            omega
          have hlW2 : IntKind.i64.wrap ((all.length - 1 : Nat) : Int) = ((all.length - 1 : Nat) : Int) := by
            rw [IntKind.wrap_i64]
            omega
          have hlm0 : (0 : Int) ≤ ((all.length - 1 : Nat) : Int) := by omega
          have hlm1 : ((all.length - 1 : Nat) : Int) < (all.length : Int) := by omega
          have hpl : (picked l (all.take k) g).length ≤ 200 := by
            have := List.length_filter_le (fun n => inSet l n g) (all.take k)
            unfold picked
            rw [List.length_take] at this
            omega
          have hpL : (picked l all g).length ≤ 200 := by
            have := List.length_filter_le (fun n => inSet l n g) all
            unfold picked
            omega
          have HST := Lib.hid hstep
          have HAT : Hid (inSet l n g = true → (picked l all g)[(picked l (all.take k) g).length]? = some n ∧ (picked l (all.take k) g).length < (picked l all g).length) := hat
          have HO := Lib.hid (ours_any A c l (by omega) wr.drew (((HR3.out.below hbr.out).more hbr.out.size).drew))
          clear hcs hx hgl hstep hat
          generalize all.length - 1 = lm at *
          go_wp2
          go_region_held3 (fun w' => w'.cell? (ad.add k) = some (.int .u32 (n : Nat)) ∧ w'.cell? (ad.add lm) = some (.int .u32 (g : Nat))) (go_keep)
            (first | (go_at_call 30; refine HO.out.mono ?_; rintro e w4 ⟨v, rfl, ho4, hb4⟩; have hb4' : Below wr.heap.size wr w4 := ⟨hb4.os, hb4.tape, hb4.output, hb4.size, hb4.block⟩; obtain ⟨D4, d4, rfl, hr4⟩ := own_slice ho4; have HO4 := Lib.hid hr4; have HB4 := Lib.hid hb4'; have y1 : w4.cell? (ad.add k) = some (.int .u32 (n : Nat)) := (hb4'.cell (by rw [block_of_add]; exact Nat.lt_of_lt_of_le hab hbr.out.size)).trans C1.out; have y2 : w4.cell? (ad.add lm) = some (.int .u32 (g : Nat)) := (hb4'.cell (by rw [block_of_add]; exact Nat.lt_of_lt_of_le hab hbr.out.size)).trans C2.out; clear ho4 hb4 hb4' hr4) | (go_at_call 29; refine (refHas_any _ _ l n g HL.out hnn hgg (by omega) _ HO4.out).mono ?_; rintro e w5 ⟨rfl, hb5⟩; have HB5 := Lib.hid (HB4.out.trans (hb5.mono HB4.out.size)); have z1 : w5.cell? (ad.add k) = some (.int .u32 (n : Nat)) := (hb5.cell (by rw [block_of_add]; exact Nat.lt_of_lt_of_le hab (Nat.le_trans hbr.out.size HB4.out.size))).trans y1; have z2 : w5.cell? (ad.add lm) = some (.int .u32 (g : Nat)) := (hb5.cell (by rw [block_of_add]; exact Nat.lt_of_lt_of_le hab (Nat.le_trans hbr.out.size HB4.out.size))).trans y2; clear hb5))
          have HBJ := Lib.hid (hbr.out.trans (HB5.out.mono hbr.out.size))
          clear y1 y2 hc1 hc2 z2 HO4 HO HB4 hlW hlW2 hlI hlm0 hlm1
          generalize hbb : inSet l n g = bb at *
          cases bb with
          | false =>
            have hlen1 : (picked l (all.take (k + 1)) g).length = (picked l (all.take k) g).length := by rw [HST.out, if_neg (by simp), List.append_nil]
            have HL1 := Lib.hid hlen1
            clear hbb hlen1
            go_wp2
            go_roundw
            case rel => exact ⟨k + 1, by go_num, by omega, by rw [HL1.out], HBJ⟩
            case measure => simp [intOf]; omega
          | true =>
            obtain ⟨hp1, hp2⟩ := HAT.out rfl
            have hlen1 : (picked l (all.take (k + 1)) g).length = (picked l (all.take k) g).length + 1 := by rw [HST.out, if_pos rfl, List.length_append]; rfl
            have HL1 := Lib.hid hlen1
            obtain ⟨gd, rfl, hgb, hgc⟩ := (HG.out.below HBJ.out).2 (by omega)
            have hk1 := hgc _ _ (numCells_at _ _ _ hp1)
            obtain ⟨kk, hkk⟩ : ∃ kk, (picked l (all.take k) g).length = kk := ⟨_, rfl⟩
            rw [hkk] at hp2 hk1 hpl ⊢
            have hi1 : (0 : Int) ≤ (kk : Int) := by omega
            have hi2 : (kk : Int) < ((picked l all g).length : Int) := by omega
            have hi3 : decide ((kk : Int) ≥ ((picked l all g).length : Int)) = false := by simp; omega
            have HKK := Lib.hid hkk
            clear hbb hlen1 hp1 hgc hkk
            go_wp2
            go_quiet (fail)
            go_wp2
            go_roundw
            case rel => exact ⟨k + 1, by go_num, by omega, by rw [HL1.out, HKK.out]; go_num, below_drewN HBJ.out _⟩
            case measure => simp [intOf]; omega
        · obtain rfl : k = all.length := by omega
          rw [List.take_of_length_le (Nat.le_refl _)]
          have HB4 := Lib.hid (HB3.out.trans (hbr.out.mono HB3.out.size))
          clear hbr
          go_wp2
          go_ret
          exact ⟨by simp, HB4.out⟩
end Go.Proofs.YtfnckkmnncdelaaDoor
