/-
  The document's disk: Sync.
-/
import Derived.Test.YtplbclbeccoegaaRefActR
import Derived.BigRegion
namespace Go.Proofs.Ytplbclbeccoegaa
open Go.RowKit Go.Maps
theorem set_self {V : Type} {l : List V} {i : Nat} {x : V} (h : l[i]? = some x) : l.set i x = l := by
  apply List.ext_getElem?
  intro j
  rw [List.getElem?_set]
  split
  · rename_i e
    subst e
    obtain ⟨hi, e⟩ := List.getElem?_eq_some_iff.1 h
    rw [if_pos hi, h]
  · rfl
theorem sync_fin {w : World} {B q g cap n c0 : Nat} {es : List (Key × FV)} {fuse : Int} {lost : Bool} (h : RefAt w B q (.slice (some ⟨g, 0, none⟩) es.length c0) es cap fuse lost) {k : Key} {f f' : FV} (hn : es[n]? = some (k, f)) (hf' : f' = ⟨⟨f.m.b, f.m.b.length, true⟩, f.a, f.c⟩) :
    (∃ v', RefAt ((w.setCell ⟨g, n * 4 + 2, none⟩ (.int .i64 (f.m.b.length : Nat))).setCell ⟨g, n * 4 + 3, none⟩ (.bool true)) B q v' (fput k f' es) cap fuse lost) ∧
    TBut B q w ((w.setCell ⟨g, n * 4 + 2, none⟩ (.int .i64 (f.m.b.length : Nat))).setCell ⟨g, n * 4 + 3, none⟩ (.bool true)) := by
  subst hf'
  have hnl : n < es.length := (List.getElem?_eq_some_iff.1 hn).1
  have hpure := h.row.pure g rfl
  have hB : B ≤ g := (h.row.own.lt g rfl).1
  have o3 := (h.row.own.stored (n * 4 + 2) (.int .i64 (f.m.b.length : Nat))).1
  have o4 := (o3.stored (n * 4 + 3) (.bool true)).1
  have e0 : (rcells es)[n * 4]? = some (.string ⟨k.toArray⟩) := by have := rcells_at es n _ hn 0 (by omega); rw [Nat.add_zero] at this; rw [this]; rfl
  have e1 : (rcells es)[n * 4 + 1]? = some (.slice f.a f.m.b.length f.c) := by rw [rcells_at es n _ hn 1 (by omega)]; rfl
  have er := rcells_set (l := es) (n := n) (k, (⟨⟨f.m.b, f.m.b.length, true⟩, f.a, f.c⟩ : FV)) hnl
  simp only at er
  rw [set_self e0, set_self e1] at er
  rw [← er] at o4
  have p3 := hpure.set_ g (n * 4 + 2) (.int .i64 (f.m.b.length : Nat)) (fun _ h => by cases h)
  have p4 := p3.set_ g (n * 4 + 3) (.bool true) (fun _ h => by cases h)
  have t4 := ((TBut.refl B q w).setRow hpure hB (n * 4 + 2) (.int .i64 (f.m.b.length : Nat))).setRow p3 hB (n * 4 + 3) (.bool true)
  have hqg : q ≠ g := by
    intro e
    obtain ⟨cur, p, hc, _⟩ := hpure
    have hq := h.cells
    subst e
    unfold Blk at hq
    rw [hq] at hc
    injection hc with hc
    injection hc with _ hc
    exact absurd hc (by decide)
  have hl : (es.set n (k, (⟨⟨f.m.b, f.m.b.length, true⟩, f.a, f.c⟩ : FV))).length = es.length := List.length_set
  have q3 := h.cells.far (p := ⟨g, n * 4 + 2, none⟩) hqg (.int .i64 (f.m.b.length : Nat))
  have q4 := q3.far (p := ⟨g, n * 4 + 3, none⟩) hqg (.bool true)
  have hup : Up (es.set n (k, (⟨⟨f.m.b, f.m.b.length, true⟩, f.a, f.c⟩ : FV))) := by rw [← fput_set h.up hn]; exact up_fput h.up
  rw [fput_set h.up hn]
  generalize (w.setCell ⟨g, n * 4 + 2, none⟩ (.int .i64 (f.m.b.length : Nat))).setCell ⟨g, n * 4 + 3, none⟩ (.bool true) = w' at *
  have hrow : FRow w' B (.slice (some ⟨g, 0, none⟩) es.length c0) (es.set n (k, (⟨⟨f.m.b, f.m.b.length, true⟩, f.a, f.c⟩ : FV))) := ⟨by rw [hl]; exact o4, fun g' hg' => by injection hg' with hg'; subst hg'; exact p4⟩
  refine ⟨⟨.slice (some ⟨g, 0, none⟩) es.length c0, h.turn t4 q4 hrow hup (fun x hx => ?_)⟩, t4⟩
  rcases mem_set_of hx with rfl | hx
  · exact .inr (Bytes8.tbut (f := ⟨⟨f.m.b, f.m.b.length, true⟩, f.a, f.c⟩) (h.bytes _ (List.mem_of_getElem? hn)) (by decide) h.cells t4)
  · exact .inl ⟨x, hx, rfl⟩
set_option maxRecDepth 100000 in
set_option maxHeartbeats 800000 in
theorem ract_sync {w : World} {B q : Nat} {d : DiskM} (h : Ref w B q d) (hf : WFD d) (hN : d.files.length ≤ 90000) (a b : ByteArray) (at_ : Int) (dA : Option Addr) (dn dc : Nat) :
    Calls Try.prog 11 #[.pointer (some ⟨q, 0, none⟩), .int .i64 1, .string a, .string b, .int .i64 at_, .slice dA dn dc] w fun e w' => e = .returned (.int .i64 (dSync d a.data.toList).1) ∧ Ref w' B q (dSync d a.data.toList).2 ∧ TBut B q w w' := by
  unfold dSync
  by_cases hl : d.lost = true
  · rw [if_pos hl]
    exact (ract_lost h hl _ _ _ _ _ _ _).mono fun e w' ⟨h1, h2⟩ => by subst h2; exact ⟨h1, h, TBut.refl _ _ _⟩
  · rw [if_neg hl]
    have hf0 := hf.fuse0
    have hf1 := hf.fuse1
    obtain ⟨cap, files, fuse, lost⟩ := d
    obtain ⟨v, es, hfi, hr⟩ := h
    obtain rfl : files = fmap FV.m es := hfi
    have hle : es.length ≤ 90000 := by simpa [fmap] using hN
    simp only at hl hf0 hf1 hr
    obtain rfl : lost = false := by simpa using hl
    have c3 := hr.c3
    have HR := Lib.hid hr
    clear hl hf hN
    simp only [fget_m]
    cases hg : fget a.data.toList es with
    | none =>
      have HA := Lib.hid (at_none hr a hg (by omega))
      clear hr hg
      simp only [Option.map_none]
      go_enter Try.func11, Try.ntmps11
      go_wp2_with fail
      refine HA.out.mono ?_
      rintro e w1 ⟨rfl, rfl⟩
      go_wp2
      go_ret
      exact ⟨rfl, ⟨v, es, rfl, HR.out⟩, TBut.refl _ _ _⟩
    | some f =>
      obtain ⟨n, hn⟩ := get_of_fget hg
      have HA := Lib.hid (at_some hr a hn (by omega))
      have HU := Lib.hid (refBurns_at hr rfl hf0 hf1)
      have HG := Lib.hid hn
      have hnl : n < es.length := (List.getElem?_eq_some_iff.1 hn).1
      clear hg hn hf0 hf1
      simp only [Option.map_some]
      by_cases hz : fuse = 0
      · rw [if_pos hz]
        subst hz
        clear hr
        go_enter Try.func11, Try.ntmps11
        go_wp2_with fail
        refine HA.out.mono ?_
        rintro e w1 ⟨rfl, rfl⟩
        go_wp2_with fail
        refine HU.out.mono ?_
        rintro e w2 ⟨rfl, h2, hb2⟩
        have H2 := Lib.hid h2
        have HB2 := Lib.hid hb2
        clear h2 hb2
        go_wp2
        go_ret
        exact ⟨rfl, ⟨v, es, rfl, H2.out⟩, HB2.out⟩
      · rw [if_neg hz]
        have hz' : decide (fuse = 0) = false := by simp [hz]
        rw [hz'] at HU
        obtain ⟨g, c0, rfl, _, _⟩ := hr.row.own.form (by omega)
        clear hr
        go_enter Try.func11, Try.ntmps11
        go_wp2_with fail
        refine HA.out.mono ?_
        rintro e w1 ⟨rfl, rfl⟩
        go_wp2_with fail
        refine HU.out.mono ?_
        rintro e w2 ⟨rfl, h2, hb2⟩
        have c1 := h2.c1
        have hcell : ∀ j, j < 4 → w2.cell? ⟨g, n * 4 + j, none⟩ = (rcell (a.data.toList, f))[j]? := fun j hj => by
          rw [h2.row.own.cellAt (n * 4 + j) (by omega), rcells_at es n _ HG.out j hj]
        have k1 : w2.cell? ⟨g, n * 4 + 1, none⟩ = some (.slice f.a f.m.b.length f.c) := hcell 1 (by omega)
        have k2 : w2.cell? ⟨g, n * 4 + 2, none⟩ = some (.int .i64 (f.m.safe : Nat)) := hcell 2 (by omega)
        have k3 : w2.cell? ⟨g, n * 4 + 3, none⟩ = some (.bool f.m.ever) := hcell 3 (by omega)
        have f2 := h2.row.own.frozenAt (n * 4 + 2)
        have f3 := h2.row.own.frozenAt (n * 4 + 3)
        have i0 : (0 : Int) ≤ (n : Int) := by omega
        have i1 : (n : Int) < (es.length : Int) := by omega
        have H2 := Lib.hid h2
        have HB2 := Lib.hid hb2
        clear h2 hb2 hcell HU
        go_wp2
        go_region
        all_goals (try go_wp2)
        all_goals
          go_ret
          obtain ⟨⟨v', h1⟩, h2⟩ := sync_fin H2.out HG.out rfl
          refine ⟨rfl, ⟨v', _, (fput_fmap FV.m _ (⟨⟨f.m.b, f.m.b.length, true⟩, f.a, f.c⟩ : FV) es).symm, ?_⟩, (HB2.out.trans h2).drew⟩
          have h3 := h1.below (Below.refl _ _).drew
          simpa [DiskM.burn, hz'] using h3
end Go.Proofs.Ytplbclbeccoegaa
