/-
  Walk of the disk's Harm.
-/
import Derived.Test.YtplbclbeccoegaaDiskAppend
import Derived.Lib.QuietBelow
import Derived.Deep.RegionHeld3
import Derived.Deep.DrawnRows
namespace Go.Proofs.Ytplbclbeccoegaa
open Go.RowKit Go.Maps
theorem harm_nil (s : ByteArray) (A : Option Addr) (n c : Nat) (w : World) : Calls Try.prog 26 #[.pointer none, .string s, .slice A n c] w fun e w' => e = .returned (.int .i64 1) ∧ Below w.heap.size w w' := by
  have Hg := Lib.hid (gone_nil w)
  go_enter Try.func26, Try.ntmps26
  go_wp2_with fail
  refine Hg.out.mono ?_
  rintro e w1 ⟨rfl, rfl⟩
  go_wp2
  go_ret
  exact ⟨rfl, Below.refl _ _⟩
theorem Disk.below {w w' : World} {p mb : Nat} {d : DiskM} (h : Disk w p mb d) (hb : Below w.heap.size w w') : Disk w' p mb d := by
  obtain ⟨es, hf, hd⟩ := h
  exact ⟨es, hf, hd.below hb⟩
set_option maxHeartbeats 1000000 in
set_option maxRecDepth 100000 in
theorem harm_main {w : World} {p mb : Nat} {d : DiskM} (h : Disk w p mb d) (hf : WFD d) (hN : d.files.length < 1000000) (s : ByteArray) (hsm : s.size ≤ maxLen) (A : Option Addr) (n c : Nat) (l : List UInt8) (hl : l.length = n) (hn : n ≤ 10000000) (hr : Reads w w.heap.size 1 A n (u8s l))
    (hlo : d.lost = false) (hg : Calls Try.prog 41 #[.pointer (some ⟨p, 0, none⟩)] w fun e w' => e = .returned (.int .i64 (if false = true then 6 else 0)) ∧ w' = w)
    (hrt : Calls Try.prog 42 #[.string s] w fun e w' => e = .returned (.bool true) ∧ w' = w) :
    Calls Try.prog 26 #[.pointer (some ⟨p, 0, none⟩), .string s, .slice A n c] w fun e w' =>
      e = .returned (.int .i64 (if d.room + d.len s.data.toList < l.length then (4, d) else (0, { d with files := fput s.data.toList ⟨l, l.length, true⟩ d.files })).1) ∧
      Disk w' p mb (if d.room + d.len s.data.toList < l.length then ((4 : Int), d) else (0, { d with files := fput s.data.toList ⟨l, l.length, true⟩ d.files })).2 ∧ But p mb w w' := by
  have hrm := hf.room
  have hcp := hf.cap
  have Hro : Hid (∀ dd os, Calls Try.prog 16 #[.pointer (some ⟨p, 0, none⟩)] (Sort.grow (redrawn w dd) os) fun e w' => e = .returned (.int .i64 (d.room : Nat)) ∧ Below (Sort.grow (redrawn w dd) os).heap.size (Sort.grow (redrawn w dd) os) w') := fun dd os => room_at (h.below (below_regrown w dd os)) hf
  have hrc : d.room ≤ 4194304 := by unfold DiskM.room; omega
  have HW := Lib.hid hf
  generalize hro' : d.room = ro at *
  obtain ⟨cap, files, fuse, lost⟩ := d
  obtain rfl : lost = false := hlo
  obtain ⟨es, hfi, h⟩ := h
  obtain rfl : files = fmap FV.m es := hfi
  have hN' : es.length < 1000000 := by simpa [fmap] using hN
  obtain ⟨fv, hv⟩ : ∃ fv, (fget s.data.toList es).getD zeroFV = fv := ⟨_, rfl⟩
  have e1 : DiskM.len ⟨cap, fmap FV.m es, fuse, false⟩ s.data.toList = fv.m.b.length := by unfold DiskM.len; rw [fget_m, ← hv]; cases fget s.data.toList es <;> rfl
  have hfl : fv.m.b.length ≤ 4194304 := by
    cases hq : fget s.data.toList es with
    | none => rw [hq] at hv; subst hv; simp [zeroFV, FileM.none_]
    | some g => rw [hq] at hv; obtain rfl : g = fv := hv; have := used_get (k := s.data.toList) (f := g.m) (l := fmap FV.m es) (by rw [fget_m, hq]; rfl); simp only at hrm hcp; omega
  rw [e1]
  subst hl
  have hc1 : ∀ dd os, (Sort.grow (redrawn w dd) os).cell? ⟨p, 1, none⟩ = some (.map (some mb)) := fun dd os => cell_regrown h.c1 dd os
  have hlk : ∀ dd os, (Instr.lookup 53 (.map (some mb)) (.string s) false).run Try.prog (Sort.grow (redrawn w dd) os) = .ok (.agg #[.slice fv.a fv.m.b.length fv.c, .int .i64 (fv.m.safe : Nat), .bool fv.m.ever]) (Sort.grow (redrawn w dd) os) := fun dd os => look_get1 (h.below (below_regrown w dd os)).map s hsm fv hv
  have Hg := Lib.hid hg
  have Hr := Lib.hid hrt
  have HR := Lib.hid hr
  have H := Lib.hid h
  have hfr := field_run fv.a fv.m.b.length fv.c (fv.m.safe : Nat) fv.m.ever
  clear hf hrm hcp hro' hN hv e1 hg hrt hr h
  by_cases hroom : ro + fv.m.b.length < l.length
  · rw [if_pos hroom]
    go_enter Try.func26, Try.ntmps26
    go_wp2_with fail
    refine Hg.out.mono ?_
    rintro e w1 ⟨rfl, rfl⟩
    go_wp2_with fail
    refine Hr.out.mono ?_
    rintro e w1 ⟨rfl, rfl⟩
    go_wp2
    refine wp_region_quiet_below (by kernel_rfl) (by kernel_rfl) ?_
    repeat (go_big_quiet_step (first | (go_at_call 16; exact Calls.regrown_of (Hro.out _ _))))
    refine wpQuiet_nil ?_
    intro w2 hw2
    have hb2 : Below w1.heap.size w1 w2 := by
      obtain ⟨p, hw2⟩ := hw2
      rw [hw2]; exact below_regrown _ _ _
    clear hw2
    go_wp2
    go_ret
    exact ⟨rfl, ⟨es, rfl, H.out.below hb2⟩, But.of_below hb2⟩
  · rw [if_neg hroom]
    go_enter Try.func26, Try.ntmps26
    go_wp2_with fail
    refine Hg.out.mono ?_
    rintro e w1 ⟨rfl, rfl⟩
    go_wp2_with fail
    refine Hr.out.mono ?_
    rintro e w1 ⟨rfl, rfl⟩
    go_wp2
    refine wp_region_quiet_below (by kernel_rfl) (by kernel_rfl) ?_
    repeat (go_big_quiet_step (first | (go_at_call 16; exact Calls.regrown_of (Hro.out _ _))))
    refine wpQuiet_nil ?_
    intro w2 hw2
    have hb2 : Below w1.heap.size w1 w2 := by
      obtain ⟨p, hw2⟩ := hw2
      rw [hw2]; exact below_regrown _ _ _
    have H2 := Lib.hid (H.out.below hb2)
    have HB2 := Lib.hid hb2
    have HR2 := Lib.hid ((HR.out.below hb2).more hb2.size)
    have x1 : w2.cell? ⟨p, 1, none⟩ = some (.map (some mb)) := H2.out.c1
    clear hw2 hb2 hc1 hlk Hro
    go_wp2
    go_region_held3 (fun w' => w'.cell? ⟨p, 1, none⟩ = some (.map (some mb))) (go_keep)
      (first | (go_at_call 35; refine (clone_any A l.length c l w2.drew rfl (by omega) HR2.out).mono ?_; rintro e w3 ⟨A', c', rfl, hr3, hc3, hb3⟩; have hb3' : Below w2.heap.size w2 w3 := ⟨hb3.os, hb3.tape, hb3.output, hb3.size, hb3.block⟩; clear hb3; have x3 : w3.cell? ⟨p, 1, none⟩ = some (.map (some mb)) := (H2.out.below hb3').c1; obtain ⟨w4, hrun, hm4, ht4⟩ := store_some (w := w3) (H2.out.below hb3').map H2.out.up (by unfold maxLen; omega) s hsm l l.length true A' c'; have x4 : w4.cell? ⟨p, 1, none⟩ = some (.map (some mb)) := (World.cell?_of_block (ht4.grown.block p (H2.out.below hb3').cells.lt (fun e => (H2.out).ne (by injection e)))).trans x3))
    have h3 := H2.out.below hb3'
    obtain ⟨h4, hb4⟩ := h3.store (But.refl _ _ _) h3.cells s.data.toList ⟨⟨l, l.length, true⟩, A', c'⟩ hm4 ht4 ⟨h3.reads_but ((But.refl _ _ _).turned ht4) hr3, hc3⟩
    have H4 := Lib.hid h4
    have HB4 := Lib.hid ((But.of_below (p := p) (m := mb) (HB2.out.trans (hb3'.mono HB2.out.size))).trans hb4)
    clear h3 h4 hb4 hm4 ht4 hr3 hc3 hb3' x3 x4 hrun
    go_wp2
    go_ret
    exact ⟨rfl, ⟨_, (fput_fmap FV.m _ ⟨⟨l, l.length, true⟩, A', c'⟩ es).symm, H4.out⟩, HB4.out⟩
set_option maxRecDepth 100000 in
theorem harm_at {w : World} {p mb : Nat} {d : DiskM} (h : Disk w p mb d) (hf : WFD d) (hN : d.files.length < 1000000) (s : ByteArray) (hs : s.size ≤ 1000000000) (A : Option Addr) (n c : Nat) (l : List UInt8) (hl : l.length = n) (hn : n ≤ 10000000) (hr : Reads w w.heap.size 1 A n (u8s l)) :
    Calls Try.prog 26 #[.pointer (some ⟨p, 0, none⟩), .string s, .slice A n c] w fun e w' => e = .returned (.int .i64 (dHarm d s.data.toList l).1) ∧ Disk w' p mb (dHarm d s.data.toList l).2 ∧ But p mb w w' := by
  have hsm : s.size ≤ maxLen := by unfold maxLen; omega
  unfold dHarm
  have Hgo := fun (lo : Bool) (e : d.lost = lo) => gone_at p lo w (by rw [← e]; exact h.choose_spec.2.c3)
  have HD := Lib.hid h
  have HR := Lib.hid hr
  have HF := Lib.hid hf
  clear h hr hf
  cases hlo : d.lost with
  | true =>
    have Hg := Lib.hid (Hgo true hlo)
    clear Hgo hlo
    rw [if_pos rfl]
    go_enter Try.func26, Try.ntmps26
    go_wp2_with fail
    refine Hg.out.mono ?_
    rintro e w1 ⟨rfl, rfl⟩
    go_wp2
    go_ret
    exact ⟨rfl, HD.out, But.refl _ _ _⟩
  | false =>
    have Hg := Lib.hid (Hgo false hlo)
    have Hr := Lib.hid (right_any s hs w)
    have HLO := Lib.hid hlo
    clear Hgo hlo
    rw [if_neg (by simp)]
    cases hrt : right s.data.toList with
    | false =>
      rw [hrt] at Hr
      rw [if_pos rfl]
      clear hrt
      go_enter Try.func26, Try.ntmps26
      go_wp2_with fail
      refine Hg.out.mono ?_
      rintro e w1 ⟨rfl, rfl⟩
      go_wp2_with fail
      refine Hr.out.mono ?_
      rintro e w1 ⟨rfl, rfl⟩
      go_wp2
      go_ret
      exact ⟨rfl, HD.out, But.refl _ _ _⟩
    | true =>
      rw [hrt] at Hr
      rw [if_neg (by simp)]
      have hm := harm_main HD.out HF.out hN s hsm A n c l hl hn HR.out HLO.out Hg.out Hr.out
      rw [HLO.out] at hm
      exact hm
end Go.Proofs.Ytplbclbeccoegaa
