/-
  The document's disk: Append, all of it.
-/
import Derived.Test.YtplbclbeccoegaaRefActA2
namespace Go.Proofs.Ytplbclbeccoegaa
open Go.RowKit Go.Maps
theorem dAppend_live {cap : Nat} {files : List (Key × FileM)} {fuse : Int} {k : Key} {b : List UInt8} (hr : right k = true) (hfull : ¬ (cap - used files < b.length)) (hz : ¬ fuse = 0) :
    dAppend ⟨cap, files, fuse, false⟩ k b = (0, ⟨cap, fput k ⟨((fget k files).getD FileM.none_).b ++ b, ((fget k files).getD FileM.none_).safe, ((fget k files).getD FileM.none_).ever⟩ files, if 0 < fuse then fuse - 1 else fuse, false⟩) := by
  unfold dAppend
  rw [if_neg (by simp), if_neg (by rw [hr]; simp), if_neg (by exact hfull), if_neg (by rintro ⟨h, _⟩; exact hz h)]
  simp [DiskM.burn, DiskM.gone, halved, hz]
theorem dAppend_burn {cap : Nat} {files : List (Key × FileM)} {fuse : Int} {k : Key} {b : List UInt8} (hr : right k = true) (hfull : ¬ (cap - used files < b.length)) (hz : fuse = 0) (hne : fget k files = none → b.length / 2 ≠ 0) :
    dAppend ⟨cap, files, fuse, false⟩ k b = (6, ⟨cap, fput k ⟨((fget k files).getD FileM.none_).b ++ b.take (b.length / 2), ((fget k files).getD FileM.none_).safe, ((fget k files).getD FileM.none_).ever⟩ files, if 0 < fuse then fuse - 1 else fuse, true⟩) := by
  have e : halved ⟨cap, files, fuse, false⟩ b = b.take (b.length / 2) := by unfold halved; rw [if_pos hz]
  unfold dAppend
  rw [if_neg (by simp), if_neg (by rw [hr]; simp), if_neg (by exact hfull), if_neg (by
    rintro ⟨_, h1, h2⟩
    rw [e, List.length_take] at h2
    have := hne h1
    omega), e]
  simp [DiskM.burn, DiskM.gone, hz]
theorem dAppend_gone {cap : Nat} {files : List (Key × FileM)} {fuse : Int} {k : Key} {b : List UInt8} (hr : right k = true) (hfull : ¬ (cap - used files < b.length)) (hz : fuse = 0) (hg : fget k files = none) (hh : b.length / 2 = 0) :
    dAppend ⟨cap, files, fuse, false⟩ k b = (6, ⟨cap, files, if 0 < fuse then fuse - 1 else fuse, true⟩) := by
  have e : halved ⟨cap, files, fuse, false⟩ b = b.take (b.length / 2) := by unfold halved; rw [if_pos hz]
  unfold dAppend
  rw [if_neg (by simp), if_neg (by rw [hr]; simp), if_neg (by exact hfull), if_pos ⟨hz, hg, by rw [e, List.length_take]; omega⟩]
  simp [DiskM.burn, hz]
set_option maxRecDepth 100000 in
set_option maxHeartbeats 800000 in
theorem ract_append {w : World} {B q : Nat} {d : DiskM} (h : Ref w B q d) (hf : WFD d) (hB : B ≤ w.heap.size) (hN : d.files.length ≤ 90000) (a b : ByteArray) (ha : a.size ≤ 1000000000) (at_ : Int) (dA : Option Addr) (dn dc : Nat) (dl : List UInt8) (hdl : dl.length = dn) (hdc : dn ≤ dc) (hdn : dn ≤ 1000000) (hd : Reads w w.heap.size 1 dA dn (u8s dl)) :
    Calls Try.prog 11 #[.pointer (some ⟨q, 0, none⟩), .int .i64 0, .string a, .string b, .int .i64 at_, .slice dA dn dc] w fun e w' => e = .returned (.int .i64 (dAppend d a.data.toList dl).1) ∧ Ref w' B q (dAppend d a.data.toList dl).2 ∧ TBut B q w w' := by
  subst hdl
  by_cases hl : d.lost = true
  · have e : dAppend d a.data.toList dl = (6, d) := by unfold dAppend; rw [if_pos hl]
    rw [e]
    exact (ract_lost h hl _ _ _ _ _ _ _).mono fun e w' ⟨h1, h2⟩ => by subst h2; exact ⟨h1, h, TBut.refl _ _ _⟩
  have hcap := hf.cap
  have hroom := hf.room
  have hf0 := hf.fuse0
  have hf1 := hf.fuse1
  obtain ⟨cap, files, fuse, lost⟩ := d
  obtain ⟨v, es, hfi, hr⟩ := h
  obtain rfl : files = fmap FV.m es := hfi
  have hle : es.length ≤ 90000 := by simpa [fmap] using hN
  simp only at hl hr hcap hroom hf0 hf1
  obtain rfl : lost = false := by simpa using hl
  cases hrt : right a.data.toList with
  | false =>
    have e : dAppend ⟨cap, fmap FV.m es, fuse, false⟩ a.data.toList dl = (1, ⟨cap, fmap FV.m es, fuse, false⟩) := by unfold dAppend; rw [if_neg (by simp), if_pos hrt]
    rw [e]
    have c3 := hr.c3
    have HR := Lib.hid hr
    have HRT : Hid (∀ w, _) := fun w => refRight_any a ha w
    rw [hrt] at HRT
    obtain ⟨i, Ha⟩ := at_any hr a (by omega)
    have HA := Lib.hid Ha
    clear hl hf hB hN hd hr Ha hrt e
    go_enter Try.func11, Try.ntmps11
    go_wp2_with fail
    refine HA.out.mono ?_
    rintro e w1 ⟨rfl, rfl⟩
    go_wp2_with fail
    refine (HRT.out _).mono ?_
    rintro e w2 ⟨rfl, rfl⟩
    go_wp2
    go_ret
    exact ⟨rfl, ⟨v, es, rfl, HR.out⟩, TBut.refl _ _ _⟩
  | true =>
    by_cases hfull : cap - used (fmap FV.m es) < dl.length
    · have e : dAppend ⟨cap, fmap FV.m es, fuse, false⟩ a.data.toList dl = (4, ⟨cap, fmap FV.m es, fuse, false⟩) := by unfold dAppend; rw [if_neg (by simp), if_neg (by rw [hrt]; simp), if_pos (by exact hfull)]
      rw [e]
      have c3 := hr.c3
      have HRT : Hid (∀ w, _) := fun w => refRight_any a ha w
      rw [hrt] at HRT
      have HRO := Lib.hid (refRoom_at hr hcap hroom (by omega))
      have HR := Lib.hid hr
      have hroc : (cap - used (fmap FV.m es) : Nat) ≤ 4194304 := by omega
      obtain ⟨i, Ha⟩ := at_any hr a (by omega)
      have HA := Lib.hid Ha
      clear hl hf hB hN hd hr Ha hrt e
      generalize (cap - used (fmap FV.m es) : Nat) = ro at *
      go_enter Try.func11, Try.ntmps11
      go_wp2_with fail
      refine HA.out.mono ?_
      rintro e w1 ⟨rfl, rfl⟩
      go_wp2_with fail
      refine (HRT.out _).mono ?_
      rintro e w2 ⟨rfl, rfl⟩
      go_wp2_with fail
      refine HRO.out.mono ?_
      rintro e w3 ⟨rfl, rfl⟩
      go_wp2
      go_ret
      exact ⟨rfl, ⟨v, es, rfl, HR.out⟩, TBut.refl _ _ _⟩
    · cases hg : fget a.data.toList es with
      | none =>
        have hgm : fget a.data.toList (fmap FV.m es) = none := by rw [fget_m, hg]; rfl
        by_cases hz : fuse = 0
        · by_cases hh : dl.length / 2 = 0
          · rw [dAppend_gone hrt hfull hz hgm hh]
            cases dA with
            | some da => exact ract_append_nonezzs rfl hr hcap hroom hB hle hf0 hf1 hz a b ha hrt hg at_ da dc dl hdc hdn hd hfull hh
            | none => exact ract_append_nonezzn rfl hr hcap hroom hB hle hf0 hf1 hz a b ha hrt hg at_ dc dl hdc hdn hd hfull hh
          · rw [dAppend_burn hrt hfull hz (fun _ => hh), hgm]
            cases dA with
            | some da => exact ract_append_nonez rfl hr hcap hroom hB hle hf0 hf1 hz a b ha hrt hg at_ da dc dl hdc hdn hd hfull hh
            | none =>
              exfalso
              obtain ⟨_, e, _⟩ := hd.2 (by omega)
              cases e
        · rw [dAppend_live hrt hfull hz, hgm]
          exact ract_append_none rfl hr hcap hroom hB hle hf0 hf1 (by simpa using hz) a b ha hrt hg at_ dA dc dl hdc hdn hd hfull
      | some f =>
        obtain ⟨n, hn⟩ := get_of_fget hg
        have hgm : fget a.data.toList (fmap FV.m es) = some f.m := by rw [fget_m, hg]; rfl
        by_cases hz : fuse = 0
        · rw [dAppend_burn hrt hfull hz (fun h => by rw [hgm] at h; cases h), hgm]
          cases dA with
          | some da => exact ract_append_somezs rfl hr hcap hroom hB hle hf0 hf1 hz a b ha hrt hn at_ da dc dl hdc hdn hd hfull
          | none => exact ract_append_somezn rfl hr hcap hroom hB hle hf0 hf1 hz a b ha hrt hn at_ dc dl hdc hdn hd hfull
        · rw [dAppend_live hrt hfull hz, hgm]
          exact ract_append_some rfl hr hcap hroom hB hle hf0 hf1 (by simpa using hz) a b ha hrt hn at_ dA dc dl hdc hdn hd hfull
end Go.Proofs.Ytplbclbeccoegaa
