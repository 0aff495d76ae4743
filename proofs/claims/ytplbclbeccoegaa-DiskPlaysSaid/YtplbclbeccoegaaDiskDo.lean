/-
  Walk: an act done to a disk.
-/
import Derived.Test.YtplbclbeccoegaaDiskNilW
namespace Go.Proofs.Ytplbclbeccoegaa
open Go.RowKit Go.Maps
/-- what an act answers, and what is left -/
def dAct (d : DiskM) (x : ActM) : Int × DiskM :=
  if x.kind = 0 then dAppend d x.a.data.toList x.dl
  else if x.kind = 1 then dSync d x.a.data.toList
  else if x.kind = 2 then dRename d x.a.data.toList x.b.data.toList
  else if x.kind = 3 then dRemove d x.a.data.toList
  else if x.kind = 4 then dFuse d x.at_
  else if x.kind = 5 then dHarm d x.a.data.toList x.dl
  else if x.kind = 6 then dLose d x.a.data.toList
  else (0, dRestart d x.kl)
theorem WFD.act {d : DiskM} (h : WFD d) (x : ActM) (hx : x.at_ ≤ 9223372036854775807) : WFD (dAct d x).2 := by
  unfold dAct
  split
  · exact h.append _ _
  · split
    · exact h.sync _
    · split
      · exact h.rename _ _
      · split
        · exact h.remove _
        · split
          · exact h.fuse _ hx
          · split
            · exact h.harm _ _
            · split
              · exact h.lose _
              · exact h.restart _
theorem length_put_le (d : List (Key × FileM)) (hup : Up d) (k : Key) (f : FileM) : (fput k f d).length ≤ d.length + 1 := by
  rw [length_fput hup]; split <;> omega
theorem act_length {d : DiskM} (h : WFD d) (x : ActM) : (dAct d x).2.files.length ≤ d.files.length + 1 := by
  unfold dAct
  split
  · unfold dAppend
    repeat' split
    all_goals first
      | exact Nat.le_succ _
      | exact length_put_le _ h.up _ _
  · split
    · unfold dSync
      repeat' split
      all_goals first
        | exact Nat.le_succ _
        | exact length_put_le _ h.up _ _
    · split
      · unfold dRename
        repeat' split
        all_goals first
          | exact Nat.le_succ _
          | exact Nat.le_trans (length_fdel_le _ _) (length_put_le _ h.up _ _)
      · split
        · unfold dRemove
          repeat' split
          all_goals first
            | exact Nat.le_succ _
            | exact Nat.le_trans (length_fdel_le _ _) (Nat.le_succ _)
        · split
          · unfold dFuse
            repeat' split
            all_goals exact Nat.le_succ _
          · split
            · unfold dHarm
              repeat' split
              all_goals first
                | exact Nat.le_succ _
                | exact length_put_le _ h.up _ _
            · split
              · unfold dLose
                repeat' split
                all_goals first
                  | exact Nat.le_succ _
                  | exact Nat.le_trans (length_fdel_le _ _) (Nat.le_succ _)
              · exact Nat.le_trans (length_restartL _ _ _) (Nat.le_succ _)
theorem Reads.up_to {w w' : World} {B size n : Nat} {A : Option Addr} {xs : List Value} (h : Reads w B size A n xs) (hb : Below B w w') (hB : B ≤ w.heap.size) : Reads w' w'.heap.size size A n xs := (h.below hb).more (Nat.le_trans hB hb.size)
set_option maxHeartbeats 800000 in
set_option maxRecDepth 100000 in
theorem do_at {w : World} {p mb : Nat} {d : DiskM} (h : Disk w p mb d) (hf : WFD d) (hN : d.files.length < 1000000) (x : ActM) (B : Nat) (hok : ActOk w B x) (hsz : x.size ≤ 100000) (hB : B ≤ w.heap.size) (hBp : B ≤ p) (hBm : B ≤ mb) :
    Calls Try.prog 10 #[.pointer (some ⟨p, 0, none⟩), .agg #[.int .u8 (x.kind : Nat), .string x.a, .string x.b, .int .i64 x.at_, .slice x.dA x.dl.length x.dc, .slice x.kA x.kl.length x.kc]] w fun e w' => e = .returned (.int .i64 (dAct d x).1) ∧ Disk w' p mb (dAct d x).2 ∧ But p mb w w' := by
  obtain ⟨kind, a, b, at_, dA, dl, dc, kA, kl, kc⟩ := x
  have hs1 : a.size ≤ 100000 ∧ b.size ≤ 100000 ∧ dl.length ≤ 100000 ∧ kl.length ≤ 100000 := by
    unfold ActM.size at hsz; simp only at hsz; omega
  have h0 : Below w.heap.size w (w.alloc (.cells #[.int .u8 (kind : Nat), .string a, .string b, .int .i64 at_, .slice dA dl.length dc, .slice kA kl.length kc] 36)) := (Below.refl _ _).alloc (Nat.le_refl _) _
  have hD := h.below h0
  have hdr := hok.dr.up_to (h0.mono hB) hB
  have hkr := hok.kr.below (h0.mono hB)
  have hb0 := But.of_below (p := p) (m := mb) h0
  have hk8 := hok.kind
  have hdlc := hok.dlc.1
  have hkv := hok.kv
  have hB' := Nat.le_trans hB h0.size
  simp only at hdr hkr hk8 hdlc hkv
  generalize hW : w.alloc (.cells #[.int .u8 (kind : Nat), .string a, .string b, .int .i64 at_, .slice dA dl.length dc, .slice kA kl.length kc] 36) = w1 at *
  have HW := Lib.hid hW
  have HD := Lib.hid hD
  have HB0 := Lib.hid hb0
  have HDR := Lib.hid hdr
  have HKR := Lib.hid hkr
  have HKV := Lib.hid hkv
  clear h hok hsz h0 hD hdr hkr hb0 hW hkv hB
  unfold dAct
  simp only
  have hcase : kind = 0 ∨ kind = 1 ∨ kind = 2 ∨ kind = 3 ∨ kind = 4 ∨ kind = 5 ∨ kind = 6 ∨ 6 < kind := by omega
  rcases hcase with rfl | rfl | rfl | rfl | rfl | rfl | rfl | hbig
  · rw [if_pos rfl]
    go_enter Try.func10, Try.ntmps10
    go_wp2_with fail
    rw [show w.alloc (.cells #[.int .u8 0, .string a, .string b, .int .i64 at_, .slice dA dl.length dc, .slice kA kl.length kc] 36) = w1 from HW.out]
    refine (append_at HD.out hf hN a (by omega) dA dl.length dc dl rfl (by omega) hdlc HDR.out).mono ?_
    rintro e w2 ⟨rfl, h2, hb2⟩
    have H2 := Lib.hid h2
    have HB2 := Lib.hid (HB0.out.trans hb2)
    clear h2 hb2
    go_wp2
    go_ret
    exact ⟨rfl, H2.out, HB2.out⟩
  · iterate 1 rw [if_neg (by omega)]
    rw [if_pos rfl]
    go_enter Try.func10, Try.ntmps10
    go_wp2_with fail
    rw [show w.alloc (.cells #[.int .u8 1, .string a, .string b, .int .i64 at_, .slice dA dl.length dc, .slice kA kl.length kc] 36) = w1 from HW.out]
    refine (sync_at HD.out hf hN a (by unfold maxLen; omega)).mono ?_
    rintro e w2 ⟨rfl, h2, hb2⟩
    have H2 := Lib.hid h2
    have HB2 := Lib.hid (HB0.out.trans hb2)
    clear h2 hb2
    go_wp2
    go_ret
    exact ⟨rfl, H2.out, HB2.out⟩
  · iterate 2 rw [if_neg (by omega)]
    rw [if_pos rfl]
    go_enter Try.func10, Try.ntmps10
    go_wp2_with fail
    rw [show w.alloc (.cells #[.int .u8 2, .string a, .string b, .int .i64 at_, .slice dA dl.length dc, .slice kA kl.length kc] 36) = w1 from HW.out]
    refine (rename_at HD.out hf hN a b (by omega) (by omega)).mono ?_
    rintro e w2 ⟨rfl, h2, hb2⟩
    have H2 := Lib.hid h2
    have HB2 := Lib.hid (HB0.out.trans hb2)
    clear h2 hb2
    go_wp2
    go_ret
    exact ⟨rfl, H2.out, HB2.out⟩
  · iterate 3 rw [if_neg (by omega)]
    rw [if_pos rfl]
    go_enter Try.func10, Try.ntmps10
    go_wp2_with fail
    rw [show w.alloc (.cells #[.int .u8 3, .string a, .string b, .int .i64 at_, .slice dA dl.length dc, .slice kA kl.length kc] 36) = w1 from HW.out]
    refine (remove_at HD.out hf a (by unfold maxLen; omega)).mono ?_
    rintro e w2 ⟨rfl, h2, hb2⟩
    have H2 := Lib.hid h2
    have HB2 := Lib.hid (HB0.out.trans hb2)
    clear h2 hb2
    go_wp2
    go_ret
    exact ⟨rfl, H2.out, HB2.out⟩
  · iterate 4 rw [if_neg (by omega)]
    rw [if_pos rfl]
    go_enter Try.func10, Try.ntmps10
    go_wp2_with fail
    rw [show w.alloc (.cells #[.int .u8 4, .string a, .string b, .int .i64 at_, .slice dA dl.length dc, .slice kA kl.length kc] 36) = w1 from HW.out]
    refine (fuse_at HD.out at_).mono ?_
    rintro e w2 ⟨rfl, h2, hb2⟩
    have H2 := Lib.hid h2
    have HB2 := Lib.hid (HB0.out.trans hb2)
    clear h2 hb2
    go_wp2
    go_ret
    exact ⟨rfl, H2.out, HB2.out⟩
  · iterate 5 rw [if_neg (by omega)]
    rw [if_pos rfl]
    go_enter Try.func10, Try.ntmps10
    go_wp2_with fail
    rw [show w.alloc (.cells #[.int .u8 5, .string a, .string b, .int .i64 at_, .slice dA dl.length dc, .slice kA kl.length kc] 36) = w1 from HW.out]
    refine (harm_at HD.out hf hN a (by omega) dA dl.length dc dl rfl (by omega) HDR.out).mono ?_
    rintro e w2 ⟨rfl, h2, hb2⟩
    have H2 := Lib.hid h2
    have HB2 := Lib.hid (HB0.out.trans hb2)
    clear h2 hb2
    go_wp2
    go_ret
    exact ⟨rfl, H2.out, HB2.out⟩
  · iterate 6 rw [if_neg (by omega)]
    rw [if_pos rfl]
    go_enter Try.func10, Try.ntmps10
    go_wp2_with fail
    rw [show w.alloc (.cells #[.int .u8 6, .string a, .string b, .int .i64 at_, .slice dA dl.length dc, .slice kA kl.length kc] 36) = w1 from HW.out]
    refine (lose_at HD.out a (by unfold maxLen; omega)).mono ?_
    rintro e w2 ⟨rfl, h2, hb2⟩
    have H2 := Lib.hid h2
    have HB2 := Lib.hid (HB0.out.trans hb2)
    clear h2 hb2
    go_wp2
    go_ret
    exact ⟨rfl, H2.out, HB2.out⟩
  · iterate 7 rw [if_neg (by omega)]
    have n0 : (((kind : Nat) : Int) == 0) = false := by simp; omega
    have n1 : (((kind : Nat) : Int) == 1) = false := by simp; omega
    have n2 : (((kind : Nat) : Int) == 2) = false := by simp; omega
    have n3 : (((kind : Nat) : Int) == 3) = false := by simp; omega
    have n4 : (((kind : Nat) : Int) == 4) = false := by simp; omega
    have n5 : (((kind : Nat) : Int) == 5) = false := by simp; omega
    have n6 : (((kind : Nat) : Int) == 6) = false := by simp; omega
    go_enter Try.func10, Try.ntmps10
    go_wp2_with fail
    rw [show w.alloc (.cells #[.int .u8 (kind : Nat), .string a, .string b, .int .i64 at_, .slice dA dl.length dc, .slice kA kl.length kc] 36) = w1 from HW.out]
    refine (restart_at HD.out hf hN B kA kl.length kc kl rfl (by omega) HKV.out HKR.out hB' hBp hBm).mono ?_
    rintro e w2 ⟨rfl, h2, hb2⟩
    have H2 := Lib.hid h2
    have HB2 := Lib.hid (HB0.out.trans hb2)
    clear h2 hb2
    go_wp2
    go_ret
    exact ⟨rfl, H2.out, HB2.out⟩
end Go.Proofs.Ytplbclbeccoegaa
