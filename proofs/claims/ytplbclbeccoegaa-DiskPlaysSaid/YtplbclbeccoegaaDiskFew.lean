/-
  Walks of the law's awake and Few.
-/
import Derived.Test.YtplbclbeccoegaaDiskArgs
import Derived.BigQuiet
import Derived.Deep.QuietTactic
namespace Go.Proofs.Ytplbclbeccoegaa
open Go.RowKit Go.Maps
def d9 : DiskM := ⟨9, [], -1, false⟩
theorem wf9 : WFD d9 := ⟨up_nil, by decide, by decide, by decide, by decide, fun q hq => by cases hq⟩
theorem room9 : d9.room = 9 := rfl
set_option maxRecDepth 100000 in
theorem awake_any (w : World) : Calls Try.prog 7 #[] w fun e w' => e = .returned (.bool true) ∧ Below w.heap.size w w' := by
  have hn := new_at 9 (by omega) w
  have HN := Lib.hid hn
  clear hn
  go_enter Try.func7, Try.ntmps7
  go_wp2_with fail
  refine HN.out.mono ?_
  rintro e w1 ⟨p, mb, rfl, hd, hp, hm, hb⟩
  have H1 : Hid (Disk w1 p mb d9) := ⟨[], rfl, hd⟩
  have HB := Lib.hid hb
  have hr := room_at H1.out wf9
  rw [room9] at hr
  have HR := Lib.hid hr
  clear hd hb hr
  go_wp2_with fail
  refine HR.out.mono ?_
  rintro e w2 ⟨rfl, hb2⟩
  have H2 := Lib.hid (H1.out.below hb2)
  have HB2 := Lib.hid (HB.out.trans (hb2.mono HB.out.size))
  have HS := Lib.hid (sync_at H2.out wf9 (by decide) ⟨#[97]⟩ (by decide))
  have hbp : w.heap.size ≤ w2.heap.size := HB2.out.size
  clear hb2
  go_wp2_with fail
  refine HS.out.mono ?_
  rintro e w3 ⟨rfl, _, hb3⟩
  have HB3 := Lib.hid (HB2.out.trans (hb3.toBelow hbp hp hm))
  clear hb3
  rw [show (dSync d9 (⟨#[97]⟩ : ByteArray).data.toList).1 = 7 from rfl]
  go_wp2
  go_ret
  exact ⟨rfl, HB3.out⟩
def ActM.size (x : ActM) : Nat := x.a.size + x.b.size + x.dl.length + x.kl.length
def fewGo (most : Nat) : Nat → Nat → List ActM → Bool
  | _, _, [] => true
  | i, n, x :: r => if most ≤ i ∨ 100000 < n + x.size then false else fewGo most (i + 1) (n + x.size) r
theorem fewGo_some {most : Nat} : ∀ (l : List ActM) (i n : Nat), fewGo most i n l = true → n ≤ 100000 → i + l.length ≤ max most i ∧ ∀ x ∈ l, x.size ≤ 100000
  | [], i, n, _, _ => ⟨by simp; omega, fun x hx => by cases hx⟩
  | y :: r, i, n, h, hn => by
    unfold fewGo at h
    split at h
    · cases h
    · rename_i hc
      obtain ⟨h1, h2⟩ := fewGo_some r (i + 1) (n + y.size) h (by omega)
      refine ⟨by rw [List.length_cons]; omega, fun x hx => ?_⟩
      rcases List.mem_cons.1 hx with rfl | hx
      · omega
      · exact h2 x hx
set_option maxHeartbeats 800000 in
set_option maxRecDepth 100000 in
theorem few_any (A : Option Addr) (c : Nat) (l : List ActM) (most : Nat) (hmost : most ≤ 1000000) (w : World) (B : Nat) (hr : Reads w B 6 A l.length (actCells l)) (hok : ∀ x ∈ l, ActOk w B x) (hsm : ∀ x ∈ l, ActSmall x 140737488355328) (hlen : l.length ≤ 140737488355328) :
    Calls Try.prog 8 #[.slice A l.length c, .int .i64 (most : Nat)] w fun e w' => e = .returned (.bool (fewGo most 0 0 l)) ∧ Below w.heap.size w w' := by
  have HR := Lib.hid hr
  have HO := Lib.hid hok
  have HM := Lib.hid hsm
  clear hr hok hsm
  go_enter Try.func8, Try.ntmps8
  go_wp2
  go_loopw [5, 9] (fun u v wr => ∃ k n : Nat, v = .int .i64 k ∧ k ≤ l.length ∧ u = .int .i64 n ∧ n ≤ 100000 ∧ Hid (fewGo most 0 0 l = fewGo most k n (l.drop k)) ∧ Hid (Below w.heap.size w wr) ∧ wr.heap = w.heap) (fun _ v _ => l.length - (intOf v).toNat)
  case atStart => exact ⟨0, 0, rfl, by omega, rfl, by omega, rfl, Below.refl _ _, rfl⟩
  case round =>
    obtain ⟨k, n, rfl, hk, rfl, hn, hf, hb, hh⟩ := hrel
    by_cases hlt : k < l.length
    · obtain ⟨x, hx⟩ : ∃ x, l[k]? = some x := ⟨_, List.getElem?_eq_getElem hlt⟩
      have hxm := List.mem_of_getElem? hx
      have hs := HM.out x hxm
      have hdr : l.drop k = x :: l.drop (k + 1) := by
        rw [List.drop_eq_getElem_cons hlt]
        rw [List.getElem?_eq_getElem hlt] at hx
        injection hx with hx
        rw [hx]
      obtain ⟨ad, rfl, _, hcs⟩ := HR.out.2 (by omega)
      have hcell : ∀ j u, j < 6 → x.cells[j]? = some u → wr.cell? (ad.add (k * 6 + j)) = some u := fun j u hj hu => by
        have h1 := hcs (k * 6 + j) u (by rw [actCells_at l k x hx j hj]; exact hu)
        rw [← h1]
        unfold World.cell?
        rw [hh]
      have k1 := hcell 1 _ (by omega) rfl
      have k2 := hcell 2 _ (by omega) rfl
      have k4 := hcell 4 _ (by omega) rfl
      have k5 := hcell 5 _ (by omega) rfl
      rw [add_k _ _ _ (by omega)] at k1 k2 k4 k5
      have s1 := hs.a
      have s2 := hs.b
      have s3 := hs.d
      have s4 := hs.k
      have hfg : fewGo most k n (x :: l.drop (k + 1)) = (if most ≤ k ∨ 100000 < n + x.size then false else fewGo most (k + 1) (n + x.size) (l.drop (k + 1))) := rfl
      have hsz : x.size = x.a.size + x.b.size + x.dl.length + x.kl.length := rfl
      have HFG : Hid (fewGo most 0 0 l = if most ≤ k ∨ 100000 < n + x.size then false else fewGo most (k + 1) (n + x.size) (l.drop (k + 1))) := by show _ = _; rw [hf.out, hdr, hfg]
      have hnat : n + x.a.size + x.b.size + x.dl.length + x.kl.length = n + x.size := by rw [hsz]; omega
      generalize x.size = z at *
      clear hx hxm hs hdr hcs hcell hfg hsz
      have hsum : (n : Int) + x.a.size + x.b.size + x.dl.length + x.kl.length = ((n + z : Nat) : Int) := by omega
      by_cases hc1 : most ≤ k
      · have Hv : Hid (fewGo most 0 0 l = false) := by show _ = _; rw [HFG.out, if_pos (.inl hc1)]
        go_wp2
        go_quiet (fail)
        go_wp2
        go_ret
        exact ⟨by rw [Hv.out]; rfl, below_drewN hb.out _⟩
      · by_cases hc2 : 100000 < n + z
        · have Hv : Hid (fewGo most 0 0 l = false) := by show _ = _; rw [HFG.out, if_pos (.inr hc2)]
          go_wp2
          go_quiet (fail)
          go_wp2
          go_ret
          exact ⟨by rw [Hv.out]; rfl, below_drewN hb.out _⟩
        · have Hv : Hid (fewGo most 0 0 l = fewGo most (k + 1) (n + z) (l.drop (k + 1))) := by show _ = _; rw [HFG.out, if_neg (by omega)]
          go_wp2
          go_quiet (fail)
          go_wp2
          go_roundw
          case rel => exact ⟨k + 1, n + z, by go_num, by omega, by first | go_num | (congr 1; omega), by omega, Hv, below_drewN hb.out _, hh⟩
          case measure => simp [intOf]; omega
    · obtain rfl : k = l.length := by omega
      have Hv : Hid (fewGo most 0 0 l = true) := by show _ = _; rw [hf.out, List.drop_eq_nil_of_le (Nat.le_refl _)]; rfl
      go_wp2
      go_ret
      exact ⟨by rw [Hv.out]; rfl, hb.out⟩
end Go.Proofs.Ytplbclbeccoegaa
