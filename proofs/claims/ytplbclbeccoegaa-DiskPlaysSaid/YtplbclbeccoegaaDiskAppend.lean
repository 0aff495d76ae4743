/-
  Walk of the disk's Append.
-/
import Derived.Test.YtplbclbeccoegaaDiskRoom
import Derived.Test.YtplbclbeccoegaaDiskRight
import Derived.Test.YtplbclbeccoegaaConcat
namespace Go.Proofs.Ytplbclbeccoegaa
open Go.RowKit Go.Maps
theorem field_run (A : Option Addr) (n c : Nat) (s : Int) (ev : Bool) (w : World) : (Instr.field 65 (.agg #[.slice A n c, .int .i64 s, .bool ev]) 0).run Try.prog w = .ok (.slice A n c) w := by kernel_rfl
def zeroFV : FV := ⟨FileM.none_, none, 0⟩
theorem look_get {w : World} {mb n : Nat} {es : List (Key × FV)} (h : w.ownsMap Try.prog 9 heldR mb n (dmap heldF es)) (s : ByteArray) (hs : s.size ≤ maxLen) (fv : FV) (has : Bool) (hv : (fget s.data.toList es).getD zeroFV = fv) (hb : (fget s.data.toList es).isSome = has) :
    (Instr.lookup 53 (.map (some mb)) (.string s) true).run Try.prog w = .ok (.tuple #[.agg #[.slice fv.a fv.m.b.length fv.c, .int .i64 (fv.m.safe : Nat), .bool fv.m.ever], .bool has]) w := by
  rw [look_run h s hs, hb, ← hv]
  cases fget s.data.toList es <;> rfl
theorem look_get1 {w : World} {mb n : Nat} {es : List (Key × FV)} (h : w.ownsMap Try.prog 9 heldR mb n (dmap heldF es)) (s : ByteArray) (hs : s.size ≤ maxLen) (fv : FV) (hv : (fget s.data.toList es).getD zeroFV = fv) :
    (Instr.lookup 53 (.map (some mb)) (.string s) false).run Try.prog w = .ok (.agg #[.slice fv.a fv.m.b.length fv.c, .int .i64 (fv.m.safe : Nat), .bool fv.m.ever]) w := by
  rw [look_run1 h s hs, ← hv]
  cases fget s.data.toList es <;> rfl
theorem DiskAt.get_reads {w : World} {p mb cap : Nat} {es : List (Key × FV)} {fuse : Int} {lost : Bool} (h : DiskAt w p mb es cap fuse lost) {k : Key} {fv : FV} (hv : (fget k es).getD zeroFV = fv) : Reads w w.heap.size 1 fv.a fv.m.b.length (u8s fv.m.b) ∧ fv.m.b.length ≤ fv.c := by
  cases hg : fget k es with
  | none => rw [hg] at hv; subst hv; exact ⟨Reads.none_, Nat.le_refl _⟩
  | some f => rw [hg] at hv; obtain rfl : f = fv := hv; exact h.bytes _ (fget_mem hg)
theorem append_nil' (s : ByteArray) (A : Option Addr) (n c : Nat) (w : World) : Calls Try.prog 22 #[.pointer none, .string s, .slice A n c] w fun e w' => e = .returned (.int .i64 1) ∧ Below w.heap.size w w' := by
  have Hg := Lib.hid (gone_nil w)
  go_enter Try.func22, Try.ntmps22
  go_wp2_with fail
  refine Hg.out.mono ?_
  rintro e w1 ⟨rfl, rfl⟩
  go_wp2
  go_ret
  exact ⟨rfl, Below.refl _ _⟩
theorem Reads.take {w : World} {B n : Nat} {A : Option Addr} {l : List UInt8} (h : Reads w B 1 A n (u8s l)) {k : Nat} (hk : k ≤ n) : Reads w B 1 A k (u8s (l.take k)) := by
  refine ⟨?_, fun hk0 => ?_⟩
  · have := h.1; rw [u8s_length] at this; rw [u8s_length, List.length_take]; omega
  · obtain ⟨ad, e, hb, hc⟩ := h.2 (by omega)
    refine ⟨ad, e, hb, fun j u hu => hc j u ?_⟩
    rw [u8s_get] at hu ⊢
    rw [← hu]
    rw [List.getElem?_take]
    split
    · rfl
    · rename_i hj
      rw [List.getElem?_take, if_neg hj] at hu
      cases hu
theorem file_away {w : World} {g n c : Nat} {A : Option Addr} {s : Int} {ev : Bool} {t : TypeId} (h : Blk w g t #[.slice A n c, .int .i64 s, .bool ev]) {ad : Addr} {x : Int} (hc : w.cell? ad = some (.int .u8 x)) : ad.block ≠ g := by
  intro e
  unfold Blk at h
  unfold World.cell? at hc
  rw [e, h] at hc
  simp only at hc
  split at hc
  · cases hc
  · rcases ho : ad.off with _ | _ | _ | n <;> rw [ho] at hc <;> simp at hc
theorem reads_set {w : World} {B g n : Nat} {A : Option Addr} {l : List UInt8} (h : Reads w B 1 A n (u8s l)) (haw : ∀ (ad : Addr) (x : Int), w.cell? ad = some (.int .u8 x) → ad.block ≠ g) (i : Nat) (u : Value) : Reads (w.setCell ⟨g, i, none⟩ u) B 1 A n (u8s l) := by
  refine ⟨h.1, fun hn => ?_⟩
  obtain ⟨ad, rfl, hlt, hc⟩ := h.2 hn
  refine ⟨ad, rfl, hlt, fun j v hj => ?_⟩
  have h0 := hc j v hj
  have hv : ∃ x, v = .int .u8 x := by
    rw [u8s_get] at hj
    cases hl : l[j]? with
    | none => rw [hl] at hj; cases hj
    | some b => rw [hl] at hj; injection hj with hj; exact ⟨_, hj.symm⟩
  obtain ⟨x, rfl⟩ := hv
  have := haw _ _ h0
  rw [← h0]
  exact World.cell?_of_block (Below.heap_setCell _ _ _ _ this)
theorem concat_two' (g : Nat) (A1 A2 : Option Addr) (c1 c2 : Nat) (l1 l2 : List UInt8) (k : Nat) (hk : l2.length = k) (h1 : l1.length ≤ 100000000) (h2 : k ≤ 100000000) (w : World) (hg : Blk w g 33 #[.slice A1 l1.length c1, .slice A2 k c2])
    (r1 : Reads w w.heap.size 1 A1 l1.length (u8s l1)) (r2 : Reads w w.heap.size 1 A2 k (u8s l2)) :
    Calls Try.prog 43 #[.slice (some ⟨g, 0, none⟩) 2 2] w fun e w' => ∃ A c, e = .returned (.slice A (l1 ++ l2).length c) ∧ Reads w' w'.heap.size 1 A (l1 ++ l2).length (u8s (l1 ++ l2)) ∧ (l1 ++ l2).length ≤ c ∧ Below w.heap.size w w' := by
  subst hk
  exact concat_two g A1 A2 c1 c2 l1 l2 h1 h2 w hg r1 r2
set_option maxHeartbeats 1000000 in
set_option maxRecDepth 100000 in
theorem append_main {w : World} {p mb : Nat} {d : DiskM} (h : Disk w p mb d) (hf : WFD d) (hN : d.files.length < 1000000) (s : ByteArray) (hsm : s.size ≤ maxLen) (A : Option Addr) (n c : Nat) (l : List UInt8) (hl : l.length = n) (hn : n ≤ 10000000) (hnc : n ≤ c) (hr : Reads w w.heap.size 1 A n (u8s l))
    (hlo : d.lost = false) (hroom : ¬ d.room < n) (hg : Calls Try.prog 41 #[.pointer (some ⟨p, 0, none⟩)] w fun e w' => e = .returned (.int .i64 (if false = true then 6 else 0)) ∧ w' = w)
    (hrt : Calls Try.prog 42 #[.string s] w fun e w' => e = .returned (.bool true) ∧ w' = w)
    (hro : Calls Try.prog 16 #[.pointer (some ⟨p, 0, none⟩)] w fun e w' => e = .returned (.int .i64 (d.room : Nat)) ∧ Below w.heap.size w w') :
    Calls Try.prog 22 #[.pointer (some ⟨p, 0, none⟩), .string s, .slice A n c] w fun e w' =>
      e = .returned (.int .i64 (if d.fuse = 0 ∧ fget s.data.toList d.files = none ∧ (halved d l).length = 0 then (6, d.burn) else (d.burn.gone, { d.burn with files := fput s.data.toList { (fget s.data.toList d.files).getD FileM.none_ with b := ((fget s.data.toList d.files).getD FileM.none_).b ++ halved d l } d.files })).1) ∧
      Disk w' p mb (if d.fuse = 0 ∧ fget s.data.toList d.files = none ∧ (halved d l).length = 0 then (6, d.burn) else (d.burn.gone, { d.burn with files := fput s.data.toList { (fget s.data.toList d.files).getD FileM.none_ with b := ((fget s.data.toList d.files).getD FileM.none_).b ++ halved d l } d.files })).2 ∧ But p mb w w' := by
  have hf0 := hf.fuse0
  have hf1 := hf.fuse1
  have hrm := hf.room
  have hcp := hf.cap
  generalize hro' : d.room = ro at *
  obtain ⟨cap, files, fuse, lost⟩ := d
  obtain rfl : lost = false := hlo
  obtain ⟨es, hfi, h⟩ := h
  obtain rfl : files = fmap FV.m es := hfi
  have hN' : es.length < 1000000 := by simpa [fmap] using hN
  obtain ⟨fv, hv⟩ : ∃ fv, (fget s.data.toList es).getD zeroFV = fv := ⟨_, rfl⟩
  obtain ⟨has, hb⟩ : ∃ has, (fget s.data.toList es).isSome = has := ⟨_, rfl⟩
  have e1 : (fget s.data.toList (fmap FV.m es)).getD FileM.none_ = fv.m := by rw [fget_m, ← hv]; cases fget s.data.toList es <;> rfl
  have e2 : (fget s.data.toList (fmap FV.m es) = none) ↔ has = false := by rw [fget_m, ← hb]; cases fget s.data.toList es <;> simp
  have hfl : fv.m.b.length ≤ 4194304 := by
    cases hq : fget s.data.toList es with
    | none => rw [hq] at hv; subst hv; simp [zeroFV, FileM.none_]
    | some g => rw [hq] at hv; obtain rfl : g = fv := hv; have := used_get (k := s.data.toList) (f := g.m) (l := fmap FV.m es) (by rw [fget_m, hq]; rfl); simp only at hrm hcp; omega
  simp only [e1, e2]
  have Hg := Lib.hid hg
  have Hr := Lib.hid hrt
  have Hro := Lib.hid hro
  have HR := Lib.hid hr
  have H := Lib.hid h
  have HV := Lib.hid hv
  have HB := Lib.hid hb
  clear hf hrm hcp hro' hN hv hb e1 e2 hg hrt hro hr h
  simp only at hf0 hf1
  subst hl
  by_cases hz : fuse = 0
  · obtain ⟨k, hk⟩ : ∃ k, l.length / 2 = k := ⟨_, rfl⟩
    obtain ⟨lk, hlk⟩ : ∃ lk, l.take k = lk := ⟨_, rfl⟩
    have hlkl : lk.length = k := by rw [← hlk, List.length_take]; omega
    have hrk : Hid (Reads w w.heap.size 1 A k (u8s lk)) := by rw [← hlk]; exact HR.out.take (by omega)
    have HLK := Lib.hid hlkl
    have e3 : halved ⟨cap, fmap FV.m es, fuse, false⟩ l = lk := by unfold halved; rw [if_pos hz, hk, hlk]
    have hkn : k ≤ l.length := by omega
    have hki : ((l.length : Nat) : Int).tdiv 2 = (k : Nat) := by rw [← hk]; exact Int.ofNat_tdiv _ _
    rw [e3, hlkl]
    have hd : decide (fuse = 0) = true := by simp [hz]
    have HZ := Lib.hid hz
    clear e3 hlkl hlk hz
    cases has with
    | true =>
      rw [if_neg (by simp)]
      go_enter Try.func22, Try.ntmps22
      go_wp2_with fail
      refine Hg.out.mono ?_
      rintro e w1 ⟨rfl, rfl⟩
      go_wp2_with fail
      refine Hr.out.mono ?_
      rintro e w1 ⟨rfl, rfl⟩
      go_wp2_with fail
      refine Hro.out.mono ?_
      rintro e w2 ⟨rfl, hb⟩
      have h2 := H.out.below hb
      have HB2 := Lib.hid hb
      have H2 := Lib.hid h2
      have c1 := h2.c1
      have hlk := look_get h2.map s hsm fv true HV.out HB.out
      clear h2 hb
      go_wp2_with fail
      have hA0 : But p mb w1 (w2.alloc (.cells #[.slice fv.a fv.m.b.length fv.c, .int .i64 (fv.m.safe : Nat), .bool fv.m.ever] 65)) := (But.of_below HB2.out).alloc _
      have h2a := H2.out.below ((Below.refl _ _).alloc (Nat.le_refl _) (.cells #[.slice fv.a fv.m.b.length fv.c, .int .i64 (fv.m.safe : Nat), .bool fv.m.ever] 65))
      have hF := Blk.new w2 65 #[.slice fv.a fv.m.b.length fv.c, .int .i64 (fv.m.safe : Nat), .bool fv.m.ever]
      have hpg : p ≠ w2.heap.size := Nat.ne_of_lt H2.out.cells.lt
      have hmg : mb ≠ w2.heap.size := Nat.ne_of_lt H2.out.map.lt
      have Hu := Lib.hid (burns_at h2a hf0 hf1)
      have hwg : w1.heap.size ≤ w2.heap.size := HB2.out.size
      refine Hu.out.mono ?_
      rintro e w3 ⟨rfl, h3, hb3⟩
      rw [hd] at h3 ⊢
      have hF3 : Blk w3 w2.heap.size 65 #[.slice fv.a fv.m.b.length fv.c, .int .i64 (fv.m.safe : Nat), .bool fv.m.ever] := (hb3.block _ (by simp) (fun e => hpg e.symm) (fun e => hmg e.symm)).trans hF
      have hA1 := hA0.trans hb3
      generalize w2.heap.size = gf at *
      have H3 := Lib.hid h3
      have HF3 := Lib.hid hF3
      have HA1 := Lib.hid hA1
      have HPG : Hid (p ≠ gf) := hpg
      have HMG : Hid (mb ≠ gf) := hmg
      have x0 : w3.cell? ⟨gf, 0, none⟩ = some (.slice fv.a fv.m.b.length fv.c) := by rw [hF3.cell]; rfl
      have FR := HR.out
      have HR3 : Hid (Reads w3 w3.heap.size 1 A k (u8s lk)) := H.out.reads_but hA1 hrk.out
      have HV3 := Lib.hid (h3.get_reads HV.out)
      clear hF3 h3 hb3 hF h2a hA0 hA1 hlk c1 Hu hpg hmg FR
      go_wp2_with fail
      have Hcat := Lib.hid (concat_two' w3.heap.size fv.a A fv.c c fv.m.b lk k HLK.out (by omega) (by omega) (w3.alloc (.cells #[.slice fv.a fv.m.b.length fv.c, .slice A k c] 33)) (Blk.new _ _ _) ((HV3.out.1.alloc (Nat.le_refl _) _).more (by simp)) ((HR3.out.alloc (Nat.le_refl _) _).more (by simp)))
      refine Hcat.out.mono ?_
      rintro e w4 ⟨A', c', rfl, hr4, hc4, hb4⟩
      obtain ⟨nl, hnl⟩ : ∃ nl, (fv.m.b ++ lk).length = nl := ⟨_, rfl⟩
      have hnl2 : nl = fv.m.b.length + k := by rw [← hnl, List.length_append, HLK.out]
      rw [hnl] at hr4 hc4 ⊢
      have hb4' : Below w3.heap.size w3 w4 := ((Below.refl _ _).alloc (Nat.le_refl _) _).trans (hb4.mono (by simp))
      have hF4 := HF3.out.below hb4' HF3.out.lt
      have hA4 := HA1.out.below hb4'
      have h4 := H3.out.below hb4'
      have y0 : (w4.cell? ⟨gf, 0, none⟩).isSome = true := by rw [hF4.cell]; rfl
      have x0' : w4.cell? ⟨gf, 0, none⟩ = some (.slice fv.a fv.m.b.length fv.c) := by rw [hF4.cell]; rfl
      have f0 := hF4.frozen 0
      obtain ⟨w5, hw5⟩ : ∃ w5, w5 = w4.setCell ⟨gf, 0, none⟩ (.slice A' nl c') := ⟨_, rfl⟩
      have hA5 : But p mb w1 w5 := by rw [hw5]; exact hA4.setNew hwg _
      have hF5 : Blk w5 gf 65 #[.slice A' nl c', .int .i64 (fv.m.safe : Nat), .bool fv.m.ever] := by rw [hw5]; exact hF4.set_ 0 _
      have h5c : Blk w5 p 55 (dcells mb cap (if 0 < fuse then fuse - 1 else fuse) true) := by rw [hw5]; exact h4.cells.far HPG.out _
      have h5m : w5.ownsMap Try.prog 9 heldR mb es.length (dmap heldF es) := by rw [hw5]; exact h4.map.setCell HMG.out _
      have hr5 : Reads w5 w5.heap.size 1 A' nl (u8s (fv.m.b ++ lk)) := by
        have := reads_set hr4 (fun ad x hc => file_away hF4 hc) 0 (.slice A' nl c')
        rw [← hw5] at this
        exact this.more (by rw [hw5]; simp [World.setCell])
      have h5 := H.out.turn hA5 h5c h5m H.out.up (fun q hq => .inl hq)
      obtain ⟨w6, hrun, hm6, ht6⟩ := store_some (w := w5.drew) h5m.drew H.out.up (by unfold maxLen; omega) s hsm (fv.m.b ++ lk) fv.m.safe fv.m.ever A' c'
      rw [hnl] at hrun
      obtain ⟨h6, hA6⟩ := H.out.store hA5.drew h5c.drew s.data.toList ⟨⟨fv.m.b ++ lk, fv.m.safe, fv.m.ever⟩, A', c'⟩ hm6 ht6 ⟨by rw [hnl]; exact h5.reads_but (((But.refl _ _ _).drew).turned ht6) hr5, by rw [hnl]; exact hc4⟩
      have z0 : w5.cell? ⟨gf, 0, none⟩ = some (.slice A' nl c') := by rw [hF5.cell]; rfl
      have z1 : w5.cell? ⟨gf, 1, none⟩ = some (.int .i64 (fv.m.safe : Nat)) := by rw [hF5.cell]; rfl
      have z2 : w5.cell? ⟨gf, 2, none⟩ = some (.bool fv.m.ever) := by rw [hF5.cell]; rfl
      have z3 : w5.cell? ⟨p, 1, none⟩ = some (.map (some mb)) := h5.c1
      have Hgo := Lib.hid (gone_at p _ w6 h6.c3)
      have H6 := Lib.hid h6
      have HA6 := Lib.hid hA6
      have HW5 := Lib.hid hw5
      have HNL := Lib.hid hnl
      clear h6 hA6 hm6 ht6 h5 h5m h5c hF5 hA5 hr5 hr4 hc4 hb4 hb4' hF4 hA4 h4 y0 hw5 hnl hnl2
      go_upto_region 15 with (first | fail)
      rw [← HW5.out]
      go_region
      go_wp2_with fail
      refine Hgo.out.mono ?_
      rintro e w7 ⟨rfl, rfl⟩
      go_wp2
      go_ret
      refine ⟨?_, ⟨fput s.data.toList ⟨⟨fv.m.b ++ lk, fv.m.safe, fv.m.ever⟩, A', c'⟩ es, ?_, ?_⟩, HA6.out⟩
      · show _ = Ending.returned (.int .i64 (if (decide (fuse = 0)) = true then 6 else 0))
        rw [hd]
        rfl
      · show _ = fmap FV.m (fput _ ⟨⟨fv.m.b ++ lk, fv.m.safe, fv.m.ever⟩, A', c'⟩ es)
        rw [fput_fmap]
      · show DiskAt _ _ _ _ _ _ (decide (fuse = 0))
        rw [hd]
        exact H6.out
    | false =>
      by_cases hk0 : k = 0
      · rw [if_pos ⟨HZ.out, rfl, hk0⟩]
        have hk1 : ((k : Nat) : Int) = 0 := by omega
        go_enter Try.func22, Try.ntmps22
        go_wp2_with fail
        refine Hg.out.mono ?_
        rintro e w1 ⟨rfl, rfl⟩
        go_wp2_with fail
        refine Hr.out.mono ?_
        rintro e w1 ⟨rfl, rfl⟩
        go_wp2_with fail
        refine Hro.out.mono ?_
        rintro e w2 ⟨rfl, hb⟩
        have h2 := H.out.below hb
        have HB2 := Lib.hid hb
        have H2 := Lib.hid h2
        have c1 := h2.c1
        have hlk := look_get h2.map s hsm fv false HV.out HB.out
        clear h2 hb
        go_wp2_with fail
        have hA0 : But p mb w1 (w2.alloc (.cells #[.slice fv.a fv.m.b.length fv.c, .int .i64 (fv.m.safe : Nat), .bool fv.m.ever] 65)) := (But.of_below HB2.out).alloc _
        have h2a := H2.out.below ((Below.refl _ _).alloc (Nat.le_refl _) (.cells #[.slice fv.a fv.m.b.length fv.c, .int .i64 (fv.m.safe : Nat), .bool fv.m.ever] 65))
        have hF := Blk.new w2 65 #[.slice fv.a fv.m.b.length fv.c, .int .i64 (fv.m.safe : Nat), .bool fv.m.ever]
        have hpg : p ≠ w2.heap.size := Nat.ne_of_lt H2.out.cells.lt
        have hmg : mb ≠ w2.heap.size := Nat.ne_of_lt H2.out.map.lt
        have Hu := Lib.hid (burns_at h2a hf0 hf1)
        have hwg : w1.heap.size ≤ w2.heap.size := HB2.out.size
        refine Hu.out.mono ?_
        rintro e w3 ⟨rfl, h3, hb3⟩
        rw [hd] at h3 ⊢
        have hF3 : Blk w3 w2.heap.size 65 #[.slice fv.a fv.m.b.length fv.c, .int .i64 (fv.m.safe : Nat), .bool fv.m.ever] := (hb3.block _ (by simp) (fun e => hpg e.symm) (fun e => hmg e.symm)).trans hF
        have hA1 := hA0.trans hb3
        generalize w2.heap.size = gf at *
        have H3 := Lib.hid h3
        have HF3 := Lib.hid hF3
        have HA1 := Lib.hid hA1
        have HPG : Hid (p ≠ gf) := hpg
        have HMG : Hid (mb ≠ gf) := hmg
        have x0 : w3.cell? ⟨gf, 0, none⟩ = some (.slice fv.a fv.m.b.length fv.c) := by rw [hF3.cell]; rfl
        have FR := HR.out
        have HR3 : Hid (Reads w3 w3.heap.size 1 A k (u8s lk)) := H.out.reads_but hA1 hrk.out
        have HV3 := Lib.hid (h3.get_reads HV.out)
        clear hF3 h3 hb3 hF h2a hA0 hA1 hlk c1 Hu hpg hmg FR
        go_wp2
        go_ret
        exact ⟨rfl, ⟨es, rfl, by show DiskAt _ _ _ _ _ _ (decide (fuse = 0)); rw [hd]; exact H3.out⟩, HA1.out⟩
      · rw [if_neg (fun h => hk0 h.2.2)]
        have hk1 : (((k : Nat) : Int) == 0) = false := by simp; omega
        go_enter Try.func22, Try.ntmps22
        go_wp2_with fail
        refine Hg.out.mono ?_
        rintro e w1 ⟨rfl, rfl⟩
        go_wp2_with fail
        refine Hr.out.mono ?_
        rintro e w1 ⟨rfl, rfl⟩
        go_wp2_with fail
        refine Hro.out.mono ?_
        rintro e w2 ⟨rfl, hb⟩
        have h2 := H.out.below hb
        have HB2 := Lib.hid hb
        have H2 := Lib.hid h2
        have c1 := h2.c1
        have hlk := look_get h2.map s hsm fv false HV.out HB.out
        clear h2 hb
        go_wp2_with fail
        have hA0 : But p mb w1 (w2.alloc (.cells #[.slice fv.a fv.m.b.length fv.c, .int .i64 (fv.m.safe : Nat), .bool fv.m.ever] 65)) := (But.of_below HB2.out).alloc _
        have h2a := H2.out.below ((Below.refl _ _).alloc (Nat.le_refl _) (.cells #[.slice fv.a fv.m.b.length fv.c, .int .i64 (fv.m.safe : Nat), .bool fv.m.ever] 65))
        have hF := Blk.new w2 65 #[.slice fv.a fv.m.b.length fv.c, .int .i64 (fv.m.safe : Nat), .bool fv.m.ever]
        have hpg : p ≠ w2.heap.size := Nat.ne_of_lt H2.out.cells.lt
        have hmg : mb ≠ w2.heap.size := Nat.ne_of_lt H2.out.map.lt
        have Hu := Lib.hid (burns_at h2a hf0 hf1)
        have hwg : w1.heap.size ≤ w2.heap.size := HB2.out.size
        refine Hu.out.mono ?_
        rintro e w3 ⟨rfl, h3, hb3⟩
        rw [hd] at h3 ⊢
        have hF3 : Blk w3 w2.heap.size 65 #[.slice fv.a fv.m.b.length fv.c, .int .i64 (fv.m.safe : Nat), .bool fv.m.ever] := (hb3.block _ (by simp) (fun e => hpg e.symm) (fun e => hmg e.symm)).trans hF
        have hA1 := hA0.trans hb3
        generalize w2.heap.size = gf at *
        have H3 := Lib.hid h3
        have HF3 := Lib.hid hF3
        have HA1 := Lib.hid hA1
        have HPG : Hid (p ≠ gf) := hpg
        have HMG : Hid (mb ≠ gf) := hmg
        have x0 : w3.cell? ⟨gf, 0, none⟩ = some (.slice fv.a fv.m.b.length fv.c) := by rw [hF3.cell]; rfl
        have FR := HR.out
        have HR3 : Hid (Reads w3 w3.heap.size 1 A k (u8s lk)) := H.out.reads_but hA1 hrk.out
        have HV3 := Lib.hid (h3.get_reads HV.out)
        clear hF3 h3 hb3 hF h2a hA0 hA1 hlk c1 Hu hpg hmg FR
        go_wp2_with fail
        have Hcat := Lib.hid (concat_two' w3.heap.size fv.a A fv.c c fv.m.b lk k HLK.out (by omega) (by omega) (w3.alloc (.cells #[.slice fv.a fv.m.b.length fv.c, .slice A k c] 33)) (Blk.new _ _ _) ((HV3.out.1.alloc (Nat.le_refl _) _).more (by simp)) ((HR3.out.alloc (Nat.le_refl _) _).more (by simp)))
        refine Hcat.out.mono ?_
        rintro e w4 ⟨A', c', rfl, hr4, hc4, hb4⟩
        obtain ⟨nl, hnl⟩ : ∃ nl, (fv.m.b ++ lk).length = nl := ⟨_, rfl⟩
        have hnl2 : nl = fv.m.b.length + k := by rw [← hnl, List.length_append, HLK.out]
        rw [hnl] at hr4 hc4 ⊢
        have hb4' : Below w3.heap.size w3 w4 := ((Below.refl _ _).alloc (Nat.le_refl _) _).trans (hb4.mono (by simp))
        have hF4 := HF3.out.below hb4' HF3.out.lt
        have hA4 := HA1.out.below hb4'
        have h4 := H3.out.below hb4'
        have y0 : (w4.cell? ⟨gf, 0, none⟩).isSome = true := by rw [hF4.cell]; rfl
        have x0' : w4.cell? ⟨gf, 0, none⟩ = some (.slice fv.a fv.m.b.length fv.c) := by rw [hF4.cell]; rfl
        have f0 := hF4.frozen 0
        obtain ⟨w5, hw5⟩ : ∃ w5, w5 = w4.setCell ⟨gf, 0, none⟩ (.slice A' nl c') := ⟨_, rfl⟩
        have hA5 : But p mb w1 w5 := by rw [hw5]; exact hA4.setNew hwg _
        have hF5 : Blk w5 gf 65 #[.slice A' nl c', .int .i64 (fv.m.safe : Nat), .bool fv.m.ever] := by rw [hw5]; exact hF4.set_ 0 _
        have h5c : Blk w5 p 55 (dcells mb cap (if 0 < fuse then fuse - 1 else fuse) true) := by rw [hw5]; exact h4.cells.far HPG.out _
        have h5m : w5.ownsMap Try.prog 9 heldR mb es.length (dmap heldF es) := by rw [hw5]; exact h4.map.setCell HMG.out _
        have hr5 : Reads w5 w5.heap.size 1 A' nl (u8s (fv.m.b ++ lk)) := by
          have := reads_set hr4 (fun ad x hc => file_away hF4 hc) 0 (.slice A' nl c')
          rw [← hw5] at this
          exact this.more (by rw [hw5]; simp [World.setCell])
        have h5 := H.out.turn hA5 h5c h5m H.out.up (fun q hq => .inl hq)
        obtain ⟨w6, hrun, hm6, ht6⟩ := store_some (w := w5.drew) h5m.drew H.out.up (by unfold maxLen; omega) s hsm (fv.m.b ++ lk) fv.m.safe fv.m.ever A' c'
        rw [hnl] at hrun
        obtain ⟨h6, hA6⟩ := H.out.store hA5.drew h5c.drew s.data.toList ⟨⟨fv.m.b ++ lk, fv.m.safe, fv.m.ever⟩, A', c'⟩ hm6 ht6 ⟨by rw [hnl]; exact h5.reads_but (((But.refl _ _ _).drew).turned ht6) hr5, by rw [hnl]; exact hc4⟩
        have z0 : w5.cell? ⟨gf, 0, none⟩ = some (.slice A' nl c') := by rw [hF5.cell]; rfl
        have z1 : w5.cell? ⟨gf, 1, none⟩ = some (.int .i64 (fv.m.safe : Nat)) := by rw [hF5.cell]; rfl
        have z2 : w5.cell? ⟨gf, 2, none⟩ = some (.bool fv.m.ever) := by rw [hF5.cell]; rfl
        have z3 : w5.cell? ⟨p, 1, none⟩ = some (.map (some mb)) := h5.c1
        have Hgo := Lib.hid (gone_at p _ w6 h6.c3)
        have H6 := Lib.hid h6
        have HA6 := Lib.hid hA6
        have HW5 := Lib.hid hw5
        have HNL := Lib.hid hnl
        clear h6 hA6 hm6 ht6 h5 h5m h5c hF5 hA5 hr5 hr4 hc4 hb4 hb4' hF4 hA4 h4 y0 hw5 hnl hnl2
        go_upto_region 15 with (first | fail)
        rw [← HW5.out]
        go_region
        go_wp2_with fail
        refine Hgo.out.mono ?_
        rintro e w7 ⟨rfl, rfl⟩
        go_wp2
        go_ret
        refine ⟨?_, ⟨fput s.data.toList ⟨⟨fv.m.b ++ lk, fv.m.safe, fv.m.ever⟩, A', c'⟩ es, ?_, ?_⟩, HA6.out⟩
        · show _ = Ending.returned (.int .i64 (if (decide (fuse = 0)) = true then 6 else 0))
          rw [hd]
          rfl
        · show _ = fmap FV.m (fput _ ⟨⟨fv.m.b ++ lk, fv.m.safe, fv.m.ever⟩, A', c'⟩ es)
          rw [fput_fmap]
        · show DiskAt _ _ _ _ _ _ (decide (fuse = 0))
          rw [hd]
          exact H6.out
  · have e3 : halved ⟨cap, fmap FV.m es, fuse, false⟩ l = l := by unfold halved; rw [if_neg hz]
    rw [e3, if_neg (fun h => hz h.1)]
    clear e3
    have hd : decide (fuse = 0) = false := by simp [hz]
    go_enter Try.func22, Try.ntmps22
    go_wp2_with fail
    refine Hg.out.mono ?_
    rintro e w1 ⟨rfl, rfl⟩
    go_wp2_with fail
    refine Hr.out.mono ?_
    rintro e w1 ⟨rfl, rfl⟩
    go_wp2_with fail
    refine Hro.out.mono ?_
    rintro e w2 ⟨rfl, hb⟩
    have h2 := H.out.below hb
    have HB2 := Lib.hid hb
    have H2 := Lib.hid h2
    have c1 := h2.c1
    have hlk := look_get h2.map s hsm fv has HV.out HB.out
    clear h2 hb
    go_wp2_with fail
    have hA0 : But p mb w1 (w2.alloc (.cells #[.slice fv.a fv.m.b.length fv.c, .int .i64 (fv.m.safe : Nat), .bool fv.m.ever] 65)) := (But.of_below HB2.out).alloc _
    have h2a := H2.out.below ((Below.refl _ _).alloc (Nat.le_refl _) (.cells #[.slice fv.a fv.m.b.length fv.c, .int .i64 (fv.m.safe : Nat), .bool fv.m.ever] 65))
    have hF := Blk.new w2 65 #[.slice fv.a fv.m.b.length fv.c, .int .i64 (fv.m.safe : Nat), .bool fv.m.ever]
    have hpg : p ≠ w2.heap.size := Nat.ne_of_lt H2.out.cells.lt
    have hmg : mb ≠ w2.heap.size := Nat.ne_of_lt H2.out.map.lt
    have Hu := Lib.hid (burns_at h2a hf0 hf1)
    have hwg : w1.heap.size ≤ w2.heap.size := HB2.out.size
    refine Hu.out.mono ?_
    rintro e w3 ⟨rfl, h3, hb3⟩
    rw [hd] at h3 ⊢
    have hF3 : Blk w3 w2.heap.size 65 #[.slice fv.a fv.m.b.length fv.c, .int .i64 (fv.m.safe : Nat), .bool fv.m.ever] := (hb3.block _ (by simp) (fun e => hpg e.symm) (fun e => hmg e.symm)).trans hF
    have hA1 := hA0.trans hb3
    generalize w2.heap.size = gf at *
    have H3 := Lib.hid h3
    have HF3 := Lib.hid hF3
    have HA1 := Lib.hid hA1
    have HPG : Hid (p ≠ gf) := hpg
    have HMG : Hid (mb ≠ gf) := hmg
    have x0 : w3.cell? ⟨gf, 0, none⟩ = some (.slice fv.a fv.m.b.length fv.c) := by rw [hF3.cell]; rfl
    have FR := HR.out
    have HR3 : Hid (Reads w3 w3.heap.size 1 A l.length (u8s l)) := H.out.reads_but hA1 HR.out
    have HV3 := Lib.hid (h3.get_reads HV.out)
    clear hF3 h3 hb3 hF h2a hA0 hA1 hlk c1 Hu hpg hmg FR
    go_wp2_with fail
    have Hcat := Lib.hid (concat_two w3.heap.size fv.a A fv.c c fv.m.b l (by omega) (by omega) (w3.alloc (.cells #[.slice fv.a fv.m.b.length fv.c, .slice A l.length c] 33)) (Blk.new _ _ _) ((HV3.out.1.alloc (Nat.le_refl _) _).more (by simp)) ((HR3.out.alloc (Nat.le_refl _) _).more (by simp)))
    refine Hcat.out.mono ?_
    rintro e w4 ⟨A', c', rfl, hr4, hc4, hb4⟩
    obtain ⟨nl, hnl⟩ : ∃ nl, (fv.m.b ++ l).length = nl := ⟨_, rfl⟩
    have hnl2 : nl = fv.m.b.length + l.length := by rw [← hnl, List.length_append]
    rw [hnl] at hr4 hc4 ⊢
    have hb4' : Below w3.heap.size w3 w4 := ((Below.refl _ _).alloc (Nat.le_refl _) _).trans (hb4.mono (by simp))
    have hF4 := HF3.out.below hb4' HF3.out.lt
    have hA4 := HA1.out.below hb4'
    have h4 := H3.out.below hb4'
    have y0 : (w4.cell? ⟨gf, 0, none⟩).isSome = true := by rw [hF4.cell]; rfl
    have x0' : w4.cell? ⟨gf, 0, none⟩ = some (.slice fv.a fv.m.b.length fv.c) := by rw [hF4.cell]; rfl
    have f0 := hF4.frozen 0
    obtain ⟨w5, hw5⟩ : ∃ w5, w5 = w4.setCell ⟨gf, 0, none⟩ (.slice A' nl c') := ⟨_, rfl⟩
    have hA5 : But p mb w1 w5 := by rw [hw5]; exact hA4.setNew hwg _
    have hF5 : Blk w5 gf 65 #[.slice A' nl c', .int .i64 (fv.m.safe : Nat), .bool fv.m.ever] := by rw [hw5]; exact hF4.set_ 0 _
    have h5c : Blk w5 p 55 (dcells mb cap (if 0 < fuse then fuse - 1 else fuse) false) := by rw [hw5]; exact h4.cells.far HPG.out _
    have h5m : w5.ownsMap Try.prog 9 heldR mb es.length (dmap heldF es) := by rw [hw5]; exact h4.map.setCell HMG.out _
    have hr5 : Reads w5 w5.heap.size 1 A' nl (u8s (fv.m.b ++ l)) := by
      have := reads_set hr4 (fun ad x hc => file_away hF4 hc) 0 (.slice A' nl c')
      rw [← hw5] at this
      exact this.more (by rw [hw5]; simp [World.setCell])
    have h5 := H.out.turn hA5 h5c h5m H.out.up (fun q hq => .inl hq)
    obtain ⟨w6, hrun, hm6, ht6⟩ := store_some (w := w5.drew) h5m.drew H.out.up (by unfold maxLen; omega) s hsm (fv.m.b ++ l) fv.m.safe fv.m.ever A' c'
    rw [hnl] at hrun
    obtain ⟨h6, hA6⟩ := H.out.store hA5.drew h5c.drew s.data.toList ⟨⟨fv.m.b ++ l, fv.m.safe, fv.m.ever⟩, A', c'⟩ hm6 ht6 ⟨by rw [hnl]; exact h5.reads_but (((But.refl _ _ _).drew).turned ht6) hr5, by rw [hnl]; exact hc4⟩
    have z0 : w5.cell? ⟨gf, 0, none⟩ = some (.slice A' nl c') := by rw [hF5.cell]; rfl
    have z1 : w5.cell? ⟨gf, 1, none⟩ = some (.int .i64 (fv.m.safe : Nat)) := by rw [hF5.cell]; rfl
    have z2 : w5.cell? ⟨gf, 2, none⟩ = some (.bool fv.m.ever) := by rw [hF5.cell]; rfl
    have z3 : w5.cell? ⟨p, 1, none⟩ = some (.map (some mb)) := h5.c1
    have Hgo := Lib.hid (gone_at p _ w6 h6.c3)
    have H6 := Lib.hid h6
    have HA6 := Lib.hid hA6
    have HW5 := Lib.hid hw5
    have HNL := Lib.hid hnl
    clear h6 hA6 hm6 ht6 h5 h5m h5c hF5 hA5 hr5 hr4 hc4 hb4 hb4' hF4 hA4 h4 y0 hw5 hnl hnl2
    go_upto_region 15 with (first | fail)
    rw [← HW5.out]
    go_region
    go_wp2_with fail
    refine Hgo.out.mono ?_
    rintro e w7 ⟨rfl, rfl⟩
    go_wp2
    go_ret
    refine ⟨?_, ⟨fput s.data.toList ⟨⟨fv.m.b ++ l, fv.m.safe, fv.m.ever⟩, A', c'⟩ es, ?_, ?_⟩, HA6.out⟩
    · show _ = Ending.returned (.int .i64 (if (decide (fuse = 0)) = true then 6 else 0))
      rw [hd]
      rfl
    · show _ = fmap FV.m (fput _ ⟨⟨fv.m.b ++ l, fv.m.safe, fv.m.ever⟩, A', c'⟩ es)
      rw [fput_fmap]
    · show DiskAt _ _ _ _ _ _ (decide (fuse = 0))
      rw [hd]
      exact H6.out
set_option maxHeartbeats 1000000 in
set_option maxRecDepth 100000 in
theorem append_at {w : World} {p mb : Nat} {d : DiskM} (h : Disk w p mb d) (hf : WFD d) (hN : d.files.length < 1000000) (s : ByteArray) (hs : s.size ≤ 1000000000) (A : Option Addr) (n c : Nat) (l : List UInt8) (hl : l.length = n) (hn : n ≤ 10000000) (hnc : n ≤ c) (hr : Reads w w.heap.size 1 A n (u8s l)) :
    Calls Try.prog 22 #[.pointer (some ⟨p, 0, none⟩), .string s, .slice A n c] w fun e w' => e = .returned (.int .i64 (dAppend d s.data.toList l).1) ∧ Disk w' p mb (dAppend d s.data.toList l).2 ∧ But p mb w w' := by
  have hsm : s.size ≤ maxLen := by unfold maxLen; omega
  have hf0 := hf.fuse0
  have hf1 := hf.fuse1
  have Hro := Lib.hid (room_at h hf)
  have HF := Lib.hid hf
  clear hf
  unfold dAppend
  have Hgo := fun (lo : Bool) (e : d.lost = lo) => gone_at p lo w (by rw [← e]; exact h.choose_spec.2.c3)
  have HD := Lib.hid h
  have HR := Lib.hid hr
  clear h hr
  cases hlo : d.lost with
  | true =>
    have Hg := Lib.hid (Hgo true hlo)
    clear Hgo hlo
    rw [if_pos rfl]
    go_enter Try.func22, Try.ntmps22
    go_wp2_with fail
    refine Hg.out.mono ?_
    rintro e w1 ⟨rfl, rfl⟩
    go_wp2
    go_ret
    exact ⟨rfl, HD.out, But.refl _ _ _⟩
  | false =>
    have Hg := Lib.hid (Hgo false hlo)
    have Hr := Lib.hid (right_any s hs w)
    have HLO := Lib.hid hlo
    clear Hgo hlo
    rw [if_neg (by simp)]
    cases hrt : right s.data.toList with
    | false =>
      rw [hrt] at Hr
      rw [if_pos rfl]
      clear hrt
      go_enter Try.func22, Try.ntmps22
      go_wp2_with fail
      refine Hg.out.mono ?_
      rintro e w1 ⟨rfl, rfl⟩
      go_wp2_with fail
      refine Hr.out.mono ?_
      rintro e w1 ⟨rfl, rfl⟩
      go_wp2
      go_ret
      exact ⟨rfl, HD.out, But.refl _ _ _⟩
    | true =>
      rw [hrt] at Hr
      rw [if_neg (by simp)]
      clear hrt
      by_cases hroom : d.room < l.length
      · rw [if_pos hroom]
        rw [hl] at hroom
        generalize d.room = ro at *
        go_enter Try.func22, Try.ntmps22
        go_wp2_with fail
        refine Hg.out.mono ?_
        rintro e w1 ⟨rfl, rfl⟩
        go_wp2_with fail
        refine Hr.out.mono ?_
        rintro e w1 ⟨rfl, rfl⟩
        go_wp2_with fail
        refine Hro.out.mono ?_
        rintro e w2 ⟨rfl, hb⟩
        go_wp2
        go_ret
        obtain ⟨es, hes, hd⟩ := HD.out
        exact ⟨rfl, ⟨es, hes, hd.below hb⟩, But.of_below hb⟩
      · rw [if_neg hroom]
        rw [hl] at hroom
        exact append_main HD.out HF.out hN s hsm A n c l hl hn hnc HR.out HLO.out hroom Hg.out Hr.out Hro.out
end Go.Proofs.Ytplbclbeccoegaa
