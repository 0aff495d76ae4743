/-
  Walk of the disk's Restart.
-/
import Derived.Test.YtplbclbeccoegaaDiskNames
import Derived.Test.YtplbclbeccoegaaDiskHarm
namespace Go.Proofs.Ytplbclbeccoegaa
open Go.RowKit Go.Maps
theorem restartL_cons (keep : List Int) (i : Nat) (q : Key × FileM) (r : List (Key × FileM)) : restartL keep i (q :: r) = if q.2.whole = true then q :: restartL keep i r else if q.2.ever = false ∧ (cutF keep i q.2).b = [] then restartL keep (i + 1) r else (q.1, cutF keep i q.2) :: restartL keep (i + 1) r := rfl
theorem restartN_cons (q : Key × FileM) (r : List (Key × FileM)) : restartN (q :: r) = if q.2.whole = true then restartN r else restartN r + 1 := rfl
theorem restartL_append (keep : List Int) : ∀ (l m : List (Key × FileM)) (i : Nat), restartL keep i (l ++ m) = restartL keep i l ++ restartL keep (i + restartN l) m
  | [], m, i => rfl
  | q :: r, m, i => by
    rw [List.cons_append, restartL_cons, restartL_cons, restartN_cons]
    by_cases h : q.2.whole = true
    · rw [if_pos h, if_pos h, if_pos h, restartL_append keep r m i]; rfl
    · rw [if_neg h, if_neg h, if_neg h]
      have e : i + 1 + restartN r = i + (restartN r + 1) := by omega
      by_cases h2 : q.2.ever = false ∧ (cutF keep i q.2).b = []
      · rw [if_pos h2, if_pos h2, restartL_append keep r m (i + 1), e]
      · rw [if_neg h2, if_neg h2, restartL_append keep r m (i + 1), e]; rfl
theorem restartN_append : ∀ (l m : List (Key × FileM)), restartN (l ++ m) = restartN l + restartN m
  | [], m => by simp [restartN]
  | q :: r, m => by
    rw [List.cons_append, restartN_cons, restartN_cons, restartN_append r m]
    split <;> omega
theorem restartN_le : ∀ l : List (Key × FileM), restartN l ≤ l.length
  | [] => Nat.le_refl _
  | q :: r => by
    have := restartN_le r
    rw [restartN_cons]
    split <;> simp only [List.length_cons] <;> omega
theorem restart_whole (keep : List Int) (i : Nat) (q : Key × FileM) (h : q.2.whole = true) : restartL keep i [q] = [q] ∧ restartN [q] = 0 := by
  simp [restartL, restartN, h]
theorem restart_gone (keep : List Int) (i : Nat) (q : Key × FileM) (h : q.2.whole = false) (h2 : q.2.ever = false) (h3 : (cutF keep i q.2).b = []) : restartL keep i [q] = [] ∧ restartN [q] = 1 := by
  simp [restartL, restartN, h, h2, h3]
theorem restart_cut (keep : List Int) (i : Nat) (q : Key × FileM) (h : q.2.whole = false) (h2 : ¬ (q.2.ever = false ∧ (cutF keep i q.2).b = [])) : restartL keep i [q] = [(q.1, cutF keep i q.2)] ∧ restartN [q] = 1 := by
  refine ⟨?_, ?_⟩
  · rw [restartL_cons, if_neg (by rw [h]; simp), if_neg h2]; rfl
  · rw [restartN_cons, if_neg (by rw [h]; simp)]; rfl
theorem str_away {w : World} {p mb cap : Nat} {fuse : Int} {lost : Bool} {t : TypeId} (h : Blk w p t (dcells mb cap fuse lost)) {ad : Addr} {x : ByteArray} (hc : w.cell? ad = some (.string x)) : ad.block ≠ p := by
  intro e
  unfold Blk at h
  unfold World.cell? at hc
  rw [e, h] at hc
  simp only [dcells] at hc
  split at hc
  · cases hc
  · rcases ho : ad.off with _ | _ | _ | _ | n <;> rw [ho] at hc <;> simp at hc
/-- a row of names, while a disk turns -/
theorem DiskAt.names_but {V : Type} {w w' : World} {p mb cap : Nat} {es : List (Key × FV)} {fuse : Int} {lost : Bool} (hd : DiskAt w p mb es cap fuse lost) (hb : But p mb w w') {A : Option Addr} {n : Nat} {l : List (Key × V)} (h : Reads w w.heap.size 1 A n (keyCells l)) : Reads w' w'.heap.size 1 A n (keyCells l) := by
  refine ⟨h.1, fun hn => ?_⟩
  obtain ⟨ad, rfl, hlt, hc⟩ := h.2 hn
  have hl : 0 < l.length := by have := h.1; simp [keyCells] at this; omega
  have h0 := hc 0 _ (by unfold keyCells; rw [List.getElem?_map, List.getElem?_eq_getElem hl]; rfl)
  have a1 := str_away hd.cells h0
  have a2 := map_away hd.map h0
  rw [block_of_add] at a1 a2
  refine ⟨ad, rfl, Nat.lt_of_lt_of_le hlt hb.size, fun j u hu => ?_⟩
  have hk := hb.block ad.block hlt a1 a2
  exact (World.cell?_of_block (by rw [block_of_add]; exact hk)).trans (hc j u hu)
def i64s (l : List Int) : List Value := l.map fun v => Value.int .i64 v
theorem restart_nil (K : Option Addr) (n c : Nat) (w : World) : Calls Try.prog 19 #[.pointer none, .slice K n c] w fun e w' => e = .returned (.tuple #[]) ∧ w' = w := by
  go_enter Try.func19, Try.ntmps19
  go_wp2
  refine bodyPost_ret (results_none rfl _ _ _) rfl ?_
  exact ⟨rfl, rfl⟩
theorem fmap_append {V U : Type} (g : V → U) (l m : List (Key × V)) : fmap g (l ++ m) = fmap g l ++ fmap g m := by simp [fmap]
set_option maxHeartbeats 1600000 in
set_option maxRecDepth 100000 in
theorem restart_at {w : World} {p mb : Nat} {d : DiskM} (h : Disk w p mb d) (hf : WFD d) (hN : d.files.length < 1000000) (B : Nat) (K : Option Addr) (n c : Nat) (keep : List Int) (hn : keep.length = n) (hn2 : n ≤ 10000000) (hk : ∀ v ∈ keep, -9223372036854775808 ≤ v ∧ v ≤ 9223372036854775807) (hr : Reads w B 1 K n (i64s keep)) (hB : B ≤ w.heap.size) (hBp : B ≤ p) (hBm : B ≤ mb) :
    Calls Try.prog 19 #[.pointer (some ⟨p, 0, none⟩), .slice K n c] w fun e w' => e = .returned (.tuple #[]) ∧ Disk w' p mb (dRestart d keep) ∧ But p mb w w' := by
  have Hnm := Lib.hid (names_at h hN)
  obtain ⟨cap, files, fuse, lost⟩ := d
  obtain ⟨es, hfi, h⟩ := h
  obtain rfl : files = fmap FV.m es := hfi
  have hN' : es.length < 1000000 := by simpa [fmap] using hN
  have heach : ∀ q ∈ es, q.2.m.safe ≤ q.2.m.b.length ∧ q.1.length ≤ 40 ∧ q.2.m.b.length ≤ 4194304 := fun q hq => by
    have hm : (q.1, q.2.m) ∈ fmap FV.m es := List.mem_map.2 ⟨q, hq, rfl⟩
    have h1 := hf.each _ hm
    have h2 := used_get (k := q.1) (f := q.2.m) (l := fmap FV.m es) (fget_of_mem hf.up hm)
    have h3 := hf.room
    have h4 := hf.cap
    simp only at h1 h3 h4
    exact ⟨h1.1, h1.2, by omega⟩
  have HE : Hid (∀ q ∈ es, q.2.m.safe ≤ q.2.m.b.length ∧ q.1.length ≤ 40 ∧ q.2.m.b.length ≤ 4194304) := heach
  have H := Lib.hid h
  have HR := Lib.hid hr
  have HK := Lib.hid hk
  have HU := Lib.hid h.up
  have ef : (fmap FV.m es).length = es.length := by simp [fmap]
  simp only [ef, keyCells_fmap] at Hnm
  clear h hf hN heach hr hk ef
  go_enter Try.func19, Try.ntmps19
  go_wp2_with fail
  refine Hnm.out.mono ?_
  rintro e w1 ⟨A, cc, rfl, hrn, hb1⟩
  have H1 := Lib.hid (H.out.below hb1)
  have HB1 := Lib.hid (But.of_below (p := p) (m := mb) hb1)
  have HRN := Lib.hid hrn
  have HR1 := Lib.hid (HR.out.below (hb1.mono hB))
  have HS1 := Lib.hid hb1.size
  clear hb1 hrn
  go_wp2
  go_loopw [4, 15] (fun u v wr => ∃ (j : Nat) (E1 E2 : List (Key × FV)), v = .int .i64 j ∧ j ≤ es.length ∧ u = .int .i64 (restartN (fmap FV.m (es.take j)) : Nat) ∧ Hid (fmap FV.m E1 = restartL keep 0 (fmap FV.m (es.take j))) ∧ Hid (E2 = es.drop j) ∧ Hid (DiskAt wr p mb (E1 ++ E2) cap fuse lost) ∧ Hid (But p mb w1 wr)) (fun _ v _ => es.length - (intOf v).toNat)
  case atStart => exact ⟨0, [], es, rfl, by omega, rfl, rfl, rfl, H1, But.refl _ _ _⟩
  case round =>
    obtain ⟨j, E1, E2, rfl, hj, rfl, he1, he2, hd, hb⟩ := hrel
    by_cases hlt : j < es.length
    · obtain ⟨q, hq⟩ : ∃ q, es[j]? = some q := ⟨_, List.getElem?_eq_getElem hlt⟩
      have hqm : q ∈ es := List.mem_of_getElem? hq
      have hdr : es.drop j = q :: es.drop (j + 1) := by
        rw [List.drop_eq_getElem_cons hlt]
        rw [List.getElem?_eq_getElem hlt] at hq
        injection hq with hq
        rw [hq]
      have htk : es.take (j + 1) = es.take j ++ [q] := by rw [List.take_add_one, hq]; rfl
      obtain ⟨x, ⟨⟨b, sf, ev⟩, A2, c2⟩⟩ := q
      have hqe := HE.out _ hqm
      simp only at hqe
      have hkc : (keyCells es)[j]? = some (.string ⟨x.toArray⟩) := by unfold keyCells; rw [List.getElem?_map, hq]; rfl
      obtain ⟨ad, rfl, hab, hcs⟩ := (H1.out.names_but hb.out HRN.out).2 (by omega)
      have hcx := hcs _ _ hkc
      have he2' : E2 = (x, ⟨⟨b, sf, ev⟩, A2, c2⟩) :: es.drop (j + 1) := he2.out.trans hdr
      subst he2'
      have hks : (⟨x.toArray⟩ : ByteArray).size ≤ maxLen := by
        have : (⟨x.toArray⟩ : ByteArray).size = x.length := by simp [ByteArray.size]
        rw [this]; unfold maxLen; omega
      have hgx : fget (⟨x.toArray⟩ : ByteArray).data.toList (E1 ++ (x, ⟨⟨b, sf, ev⟩, A2, c2⟩) :: es.drop (j + 1)) = some ⟨⟨b, sf, ev⟩, A2, c2⟩ := by
        have e : (⟨x.toArray⟩ : ByteArray).data.toList = x := by simp
        rw [e]; exact fget_at hd.out.up
      have hl := look1_some hd.out.map ⟨x.toArray⟩ hks hgx
      have c1 := hd.out.c1
      obtain ⟨bw, hbw⟩ : ∃ bw, (ev && decide (sf = b.length)) = bw := ⟨_, rfl⟩
      have hF := Blk.new wr 65 #[.slice A2 b.length c2, .int .i64 (sf : Nat), .bool ev]
      have hd2 := hd.out.below ((Below.refl _ _).alloc (Nat.le_refl _) (.cells #[.slice A2 b.length c2, .int .i64 (sf : Nat), .bool ev] 65))
      have hb2 := hb.out.alloc (.cells #[.slice A2 b.length c2, .int .i64 (sf : Nat), .bool ev] 65)
      have Hw := Lib.hid (whole_any A2 b.length c2 sf ev (wr.alloc (.cells #[.slice A2 b.length c2, .int .i64 (sf : Nat), .bool ev] 65)))
      rw [hbw] at Hw
      have hpg : p ≠ wr.heap.size := Nat.ne_of_lt hd.out.cells.lt
      have hmg : mb ≠ wr.heap.size := Nat.ne_of_lt hd.out.map.lt
      have HTK := Lib.hid htk
      have HBW := Lib.hid hbw
      have HKS := Lib.hid hks
      have HF := Lib.hid hF
      have HD2 := Lib.hid hd2
      have HB2 := Lib.hid hb2
      have HPG : Hid (p ≠ wr.heap.size ∧ mb ≠ wr.heap.size) := ⟨hpg, hmg⟩
      have HSZ : Hid (w1.heap.size ≤ wr.heap.size) := hb.out.size
      have HGW : Hid (wr.heap.size ≤ wr.heap.size) := Nat.le_refl _
      have HBW2 := Lib.hid ((But.refl p mb wr).alloc (.cells #[.slice A2 b.length c2, .int .i64 (sf : Nat), .bool ev] 65))
      clear hq hqm hdr htk hkc hcs he2 hks hgx hbw hF hd2 hb2 hpg hmg
      go_wp2_with fail
      refine Hw.out.mono ?_
      rintro e w3 ⟨rfl, hb3⟩
      have HF3 := Lib.hid (HF.out.below hb3 HF.out.lt)
      have HD3 := Lib.hid (HD2.out.below hb3)
      have HB3 := Lib.hid (HB2.out.below hb3)
      have HBW3 := Lib.hid (HBW2.out.below hb3)
      clear hb3 hcx c1 hl hab
      obtain ⟨gf, hgf⟩ : ∃ gf, wr.heap.size = gf := ⟨_, rfl⟩
      have HGW' : Hid (wr.heap.size ≤ gf) := by show _ ≤ _; omega
      clear HGW HBW2
      rw [hgf] at HF3 HPG HSZ ⊢
      clear hgf HF HB2 HD2 Hw
      cases bw with
      | true =>
        obtain ⟨r1, r2⟩ := restart_whole keep (0 + restartN (fmap FV.m (es.take j))) (x, ⟨b, sf, ev⟩) HBW.out
        have hu : restartN (fmap FV.m (es.take (j + 1))) = restartN (fmap FV.m (es.take j)) := by
          rw [HTK.out, fmap_append, restartN_append]
          show _ + restartN [(x, ⟨b, sf, ev⟩)] = _
          rw [r2]; rfl
        have hn1 : fmap FV.m (E1 ++ [(x, ⟨⟨b, sf, ev⟩, A2, c2⟩)]) = restartL keep 0 (fmap FV.m (es.take (j + 1))) := by
          rw [HTK.out, fmap_append, fmap_append, restartL_append, he1.out]
          show _ ++ [(x, ⟨b, sf, ev⟩)] = _ ++ restartL keep _ [(x, ⟨b, sf, ev⟩)]
          rw [r1]
        have HN1 := Lib.hid hn1
        have HU1 := Lib.hid hu
        clear hu hn1 r1 r2
        go_wp2
        go_roundw
        case rel => exact ⟨j + 1, E1 ++ [(x, ⟨⟨b, sf, ev⟩, A2, c2⟩)], es.drop (j + 1), by go_num, by omega, by rw [HU1.out], HN1, rfl, by rw [List.append_assoc]; exact HD3, HB3⟩
        case measure => simp [intOf]; omega
      | false =>
        obtain ⟨ri, hri⟩ : ∃ ri, restartN (fmap FV.m (es.take j)) = ri := ⟨_, rfl⟩
        have hri2 : ri ≤ 1000000 := by
          have := restartN_le (fmap FV.m (es.take j))
          rw [hri] at this
          simp only [fmap, List.length_map, List.length_take] at this
          omega
        obtain ⟨N, hN1⟩ : ∃ N, b.length - sf + 1 = N := ⟨_, rfl⟩
        obtain ⟨mo, hmo⟩ : ∃ mo, keepN keep ri N = mo := ⟨_, rfl⟩
        have hmN : mo < N := by rw [← hmo]; exact keepN_lt keep ri N (by omega)
        have hc2 : b.length ≤ c2 := (hd.out.bytes (x, ⟨⟨b, sf, ev⟩, A2, c2⟩) (by simp)).2
        have hNI : (b.length : Int) - (sf : Nat) + 1 = (N : Nat) := by omega
        obtain ⟨kk, hkk⟩ : ∃ kk, sf + mo = kk := ⟨_, rfl⟩
        have hkI : (sf : Int) + (mo : Nat) = (kk : Nat) := by omega
        have hkb : kk ≤ b.length := by omega
        have hkc2 : kk ≤ c2 := by omega
        have hbl : (b.take kk).length = kk := by rw [List.length_take]; omega
        have hcut : cutF keep (0 + restartN (fmap FV.m (es.take j))) ⟨b, sf, ev⟩ = ⟨b.take kk, kk, true⟩ := by unfold cutF; simp only; rw [Nat.zero_add, hri, hN1, hmo, hkk, hbl]
        have hll : (E1 ++ (x, (⟨⟨b, sf, ev⟩, A2, c2⟩ : FV)) :: es.drop (j + 1)).length < maxLen := by
          have e1 : E1.length = (fmap FV.m E1).length := by simp [fmap]
          have e2 := length_restartL keep (fmap FV.m (es.take j)) 0
          rw [← he1.out, ← e1] at e2
          simp only [fmap, List.length_map, List.length_take] at e2
          rw [List.length_append, List.length_cons, List.length_drop]
          unfold maxLen; omega
        have hwn : FileM.whole ⟨b, sf, ev⟩ = false := HBW.out
        have HLL : Hid (_ < maxLen) := hll
        have HWN := Lib.hid hwn
        have HCUT := Lib.hid hcut
        have HBL := Lib.hid hbl
        have HRI := Lib.hid hri
        clear hcut hbl hll hwn
        have y0 : w3.cell? ⟨gf, 0, none⟩ = some (.slice A2 b.length c2) := by rw [HF3.out.cell]; rfl
        have y1 : w3.cell? ⟨gf, 1, none⟩ = some (.int .i64 (sf : Nat)) := by rw [HF3.out.cell]; rfl
        have y2 : w3.cell? ⟨gf, 2, none⟩ = some (.bool ev) := by rw [HF3.out.cell]; rfl
        have f0 := HF3.out.frozen 0
        have f1 := HF3.out.frozen 1
        have f2 := HF3.out.frozen 2
        rw [hri]
        by_cases hn0 : n = 0
        · subst hn0
          have hm0 : mo = 0 := by
            rw [← hmo, List.length_eq_zero_iff.1 hn]; rfl
          subst hm0
          clear hmo hri hN1 hNI
          obtain rfl : kk = sf := by omega
          cases ev with
          | true =>
            obtain ⟨w4, hw4⟩ : ∃ w4, w4 = ((w3.setCell ⟨gf, 0, none⟩ (.slice A2 kk c2)).setCell ⟨gf, 1, none⟩ (.int .i64 (kk : Nat))).setCell ⟨gf, 2, none⟩ (.bool true) := ⟨_, rfl⟩
            have hF4 : Blk w4 gf 65 #[.slice A2 kk c2, .int .i64 (kk : Nat), .bool true] := by rw [hw4]; exact ((HF3.out.set_ 0 _).set_ 1 _).set_ 2 _
            have hb4 : But p mb wr w4 := by rw [hw4]; exact ((HBW3.out.setNew (q := ⟨gf, 0, none⟩) HGW'.out _).setNew (q := ⟨gf, 1, none⟩) HGW'.out _).setNew (q := ⟨gf, 2, none⟩) HGW'.out _
            have hb4' : But p mb w1 w4 := by rw [hw4]; exact ((HB3.out.setNew (q := ⟨gf, 0, none⟩) HSZ.out _).setNew (q := ⟨gf, 1, none⟩) HSZ.out _).setNew (q := ⟨gf, 2, none⟩) HSZ.out _
            have hc4 : Blk w4 p 55 (dcells mb cap fuse lost) := by rw [hw4]; exact ((HD3.out.cells.far (p := ⟨gf, 0, none⟩) HPG.out.1 _).far (p := ⟨gf, 1, none⟩) HPG.out.1 _).far (p := ⟨gf, 2, none⟩) HPG.out.1 _
            have hm4 : w4.ownsMap Try.prog 9 heldR mb (E1 ++ (x, (⟨⟨b, kk, true⟩, A2, c2⟩ : FV)) :: es.drop (j + 1)).length (dmap heldF (E1 ++ (x, (⟨⟨b, kk, true⟩, A2, c2⟩ : FV)) :: es.drop (j + 1))) := by rw [hw4]; exact ((HD3.out.map.setCell (a := ⟨gf, 0, none⟩) HPG.out.2 _).setCell (a := ⟨gf, 1, none⟩) HPG.out.2 _).setCell (a := ⟨gf, 2, none⟩) HPG.out.2 _
            have h4 := hd.out.turn hb4 hc4 hm4 hd.out.up (fun q hq => .inl hq)
            have hrd := (h4.bytes (x, (⟨⟨b, kk, true⟩, A2, c2⟩ : FV)) (by simp)).1.take hkb
            obtain ⟨w5, hrun, hm5, ht5⟩ := store_some (w := w4.drew) hm4.drew h4.up HLL.out ⟨x.toArray⟩ HKS.out (b.take kk) kk true A2 c2
            rw [HBL.out] at hrun
            have ex : (⟨x.toArray⟩ : ByteArray).data.toList = x := by simp
            rw [ex] at hm5
            have hrd2 : Reads w5 w5.heap.size 1 A2 kk (u8s (b.take kk)) := h4.reads_but (((But.refl _ _ _).drew).turned ht5) hrd
            obtain ⟨h5, hb5⟩ := h4.store ((But.refl _ _ _).drew) hc4.drew x ⟨⟨b.take kk, kk, true⟩, A2, c2⟩ hm5 ht5 ⟨by show Reads w5 w5.heap.size 1 A2 (b.take kk).length _; rw [HBL.out]; exact hrd2, by show (b.take kk).length ≤ c2; rw [HBL.out]; exact hkc2⟩
            rw [fput_at h4.up] at h5
            have z0 : w4.cell? ⟨gf, 0, none⟩ = some (.slice A2 kk c2) := by rw [hF4.cell]; rfl
            have z1 : w4.cell? ⟨gf, 1, none⟩ = some (.int .i64 (kk : Nat)) := by rw [hF4.cell]; rfl
            have z2 : w4.cell? ⟨gf, 2, none⟩ = some (.bool true) := by rw [hF4.cell]; rfl
            have z3 : w4.cell? ⟨p, 1, none⟩ = some (.map (some mb)) := h4.c1
            have hbb := hb4'.trans hb5
            obtain ⟨r1, r2⟩ := restart_cut keep (0 + restartN (fmap FV.m (es.take j))) (x, ⟨b, kk, true⟩) HWN.out (fun h => by cases h.1)
            have hu : restartN (fmap FV.m (es.take (j + 1))) = ri + 1 := by
              rw [HTK.out, fmap_append, restartN_append, HRI.out]
              show _ + restartN [(x, ⟨b, kk, true⟩)] = _
              rw [r2]
            have hn1 : fmap FV.m (E1 ++ [(x, ⟨⟨b.take kk, kk, true⟩, A2, c2⟩)]) = restartL keep 0 (fmap FV.m (es.take (j + 1))) := by
              rw [HTK.out, fmap_append, fmap_append, restartL_append, he1.out]
              show _ ++ [(x, ⟨b.take kk, kk, true⟩)] = _ ++ restartL keep _ [(x, ⟨b, kk, true⟩)]
              rw [r1]
              show _ = _ ++ [(x, cutF keep _ ⟨b, kk, true⟩)]
              rw [HCUT.out]
            have h5' : DiskAt w5 p mb ((E1 ++ [(x, ⟨⟨b.take kk, kk, true⟩, A2, c2⟩)]) ++ es.drop (j + 1)) cap fuse lost := by rw [List.append_assoc]; exact h5
            have HN1 := Lib.hid hn1
            have HU1 := Lib.hid hu
            have H5 := Lib.hid h5'
            have HB5 := Lib.hid hbb
            have HW4 := Lib.hid hw4
            clear hu hn1 r1 r2 h4 h5 h5' hb5 hbb hm5 ht5 hc4 hm4 hb4 hb4' ex hrd hrd2 hF4 hw4
            go_upto_region 16 with (fail)
            rw [← HW4.out]
            clear y0 y1 y2 f0 f1 f2
            go_region
            go_wp2
            go_roundw
            case rel => exact ⟨j + 1, E1 ++ [(x, ⟨⟨b.take kk, kk, true⟩, A2, c2⟩)], es.drop (j + 1), by go_num, by omega, by rw [HU1.out]; go_num, HN1, rfl, H5, HB5⟩
            case measure => simp [intOf]; omega
          | false =>
            by_cases hk0 : kk = 0
            · have HK0 := Lib.hid hk0
              clear hk0
              have hc4 : Blk (w3.setCell ⟨gf, 0, none⟩ (.slice A2 0 c2)) p 55 (dcells mb cap fuse lost) := HD3.out.cells.far (p := ⟨gf, 0, none⟩) HPG.out.1 _
              have hm4 : (w3.setCell ⟨gf, 0, none⟩ (.slice A2 0 c2)).ownsMap Try.prog 9 heldR mb (E1 ++ (x, (⟨⟨b, kk, false⟩, A2, c2⟩ : FV)) :: es.drop (j + 1)).length (dmap heldF (E1 ++ (x, (⟨⟨b, kk, false⟩, A2, c2⟩ : FV)) :: es.drop (j + 1))) := HD3.out.map.setCell (a := ⟨gf, 0, none⟩) HPG.out.2 _
              have hb4 : But p mb wr (w3.setCell ⟨gf, 0, none⟩ (.slice A2 0 c2)) := HBW3.out.setNew HGW'.out _
              have h4 := hd.out.turn hb4 hc4 hm4 hd.out.up (fun q hq => .inl hq)
              obtain ⟨w5, hrun, hm5, ht5⟩ := drop_run h4.map ⟨x.toArray⟩ HKS.out 0
              have ex : (⟨x.toArray⟩ : ByteArray).data.toList = x := by simp
              rw [ex] at hm5
              obtain ⟨h5, hb5⟩ := h4.drop x hm5 ht5
              rw [fdel_at h4.up] at h5
              have c4 := h4.c1
              have hbb := (HB3.out.setNew (q := ⟨gf, 0, none⟩) HSZ.out (.slice A2 0 c2)).trans hb5
              obtain ⟨r1, r2⟩ := restart_gone keep (0 + restartN (fmap FV.m (es.take j))) (x, ⟨b, kk, false⟩) HWN.out rfl (by rw [HCUT.out]; show b.take kk = []; rw [HK0.out]; rfl)
              have hu : restartN (fmap FV.m (es.take (j + 1))) = ri + 1 := by
                rw [HTK.out, fmap_append, restartN_append, HRI.out]
                show _ + restartN [(x, ⟨b, kk, false⟩)] = _
                rw [r2]
              have hn1 : fmap FV.m E1 = restartL keep 0 (fmap FV.m (es.take (j + 1))) := by
                rw [HTK.out, fmap_append, restartL_append, he1.out]
                show _ = _ ++ restartL keep _ [(x, ⟨b, kk, false⟩)]
                rw [r1, List.append_nil]
              have HN1 := Lib.hid hn1
              have HU1 := Lib.hid hu
              have H5 := Lib.hid h5
              have HB5 := Lib.hid hbb
              have hk0 := HK0.out
              clear hu hn1 r1 r2 h4 h5 hb5 hbb hm5 ht5 hc4 hm4 hb4 ex
              go_wp2
              go_roundw
              case rel => exact ⟨j + 1, E1, es.drop (j + 1), by go_num, by omega, by rw [HU1.out]; go_num, HN1, rfl, H5, HB5⟩
              case measure => simp [intOf]; omega
            · have hk1 : ((kk : Nat) : Int) ≠ 0 := by omega
              have hk2 : (((kk : Nat) : Int) == 0) = false := by simpa using hk1
              obtain ⟨w4, hw4⟩ : ∃ w4, w4 = ((w3.setCell ⟨gf, 0, none⟩ (.slice A2 kk c2)).setCell ⟨gf, 1, none⟩ (.int .i64 (kk : Nat))).setCell ⟨gf, 2, none⟩ (.bool true) := ⟨_, rfl⟩
              have hF4 : Blk w4 gf 65 #[.slice A2 kk c2, .int .i64 (kk : Nat), .bool true] := by rw [hw4]; exact ((HF3.out.set_ 0 _).set_ 1 _).set_ 2 _
              have hb4 : But p mb wr w4 := by rw [hw4]; exact ((HBW3.out.setNew (q := ⟨gf, 0, none⟩) HGW'.out _).setNew (q := ⟨gf, 1, none⟩) HGW'.out _).setNew (q := ⟨gf, 2, none⟩) HGW'.out _
              have hb4' : But p mb w1 w4 := by rw [hw4]; exact ((HB3.out.setNew (q := ⟨gf, 0, none⟩) HSZ.out _).setNew (q := ⟨gf, 1, none⟩) HSZ.out _).setNew (q := ⟨gf, 2, none⟩) HSZ.out _
              have hc4 : Blk w4 p 55 (dcells mb cap fuse lost) := by rw [hw4]; exact ((HD3.out.cells.far (p := ⟨gf, 0, none⟩) HPG.out.1 _).far (p := ⟨gf, 1, none⟩) HPG.out.1 _).far (p := ⟨gf, 2, none⟩) HPG.out.1 _
              have hm4 : w4.ownsMap Try.prog 9 heldR mb (E1 ++ (x, (⟨⟨b, kk, false⟩, A2, c2⟩ : FV)) :: es.drop (j + 1)).length (dmap heldF (E1 ++ (x, (⟨⟨b, kk, false⟩, A2, c2⟩ : FV)) :: es.drop (j + 1))) := by rw [hw4]; exact ((HD3.out.map.setCell (a := ⟨gf, 0, none⟩) HPG.out.2 _).setCell (a := ⟨gf, 1, none⟩) HPG.out.2 _).setCell (a := ⟨gf, 2, none⟩) HPG.out.2 _
              have h4 := hd.out.turn hb4 hc4 hm4 hd.out.up (fun q hq => .inl hq)
              have hrd := (h4.bytes (x, (⟨⟨b, kk, false⟩, A2, c2⟩ : FV)) (by simp)).1.take hkb
              obtain ⟨w5, hrun, hm5, ht5⟩ := store_some (w := w4.drew) hm4.drew h4.up HLL.out ⟨x.toArray⟩ HKS.out (b.take kk) kk true A2 c2
              rw [HBL.out] at hrun
              have ex : (⟨x.toArray⟩ : ByteArray).data.toList = x := by simp
              rw [ex] at hm5
              have hrd2 : Reads w5 w5.heap.size 1 A2 kk (u8s (b.take kk)) := h4.reads_but (((But.refl _ _ _).drew).turned ht5) hrd
              obtain ⟨h5, hb5⟩ := h4.store ((But.refl _ _ _).drew) hc4.drew x ⟨⟨b.take kk, kk, true⟩, A2, c2⟩ hm5 ht5 ⟨by show Reads w5 w5.heap.size 1 A2 (b.take kk).length _; rw [HBL.out]; exact hrd2, by show (b.take kk).length ≤ c2; rw [HBL.out]; exact hkc2⟩
              rw [fput_at h4.up] at h5
              have z0 : w4.cell? ⟨gf, 0, none⟩ = some (.slice A2 kk c2) := by rw [hF4.cell]; rfl
              have z1 : w4.cell? ⟨gf, 1, none⟩ = some (.int .i64 (kk : Nat)) := by rw [hF4.cell]; rfl
              have z2 : w4.cell? ⟨gf, 2, none⟩ = some (.bool true) := by rw [hF4.cell]; rfl
              have z3 : w4.cell? ⟨p, 1, none⟩ = some (.map (some mb)) := h4.c1
              have hbb := hb4'.trans hb5
              obtain ⟨r1, r2⟩ := restart_cut keep (0 + restartN (fmap FV.m (es.take j))) (x, ⟨b, kk, false⟩) HWN.out (fun h => hk0 (by have h2 := h.2; rw [HCUT.out] at h2; have h3 := congrArg List.length h2; simp only at h3; rw [HBL.out] at h3; simpa using h3))
              have hu : restartN (fmap FV.m (es.take (j + 1))) = ri + 1 := by
                rw [HTK.out, fmap_append, restartN_append, HRI.out]
                show _ + restartN [(x, ⟨b, kk, false⟩)] = _
                rw [r2]
              have hn1 : fmap FV.m (E1 ++ [(x, ⟨⟨b.take kk, kk, true⟩, A2, c2⟩)]) = restartL keep 0 (fmap FV.m (es.take (j + 1))) := by
                rw [HTK.out, fmap_append, fmap_append, restartL_append, he1.out]
                show _ ++ [(x, ⟨b.take kk, kk, true⟩)] = _ ++ restartL keep _ [(x, ⟨b, kk, false⟩)]
                rw [r1]
                show _ = _ ++ [(x, cutF keep _ ⟨b, kk, false⟩)]
                rw [HCUT.out]
              have h5' : DiskAt w5 p mb ((E1 ++ [(x, ⟨⟨b.take kk, kk, true⟩, A2, c2⟩)]) ++ es.drop (j + 1)) cap fuse lost := by rw [List.append_assoc]; exact h5
              have HN1 := Lib.hid hn1
              have HU1 := Lib.hid hu
              have H5 := Lib.hid h5'
              have HB5 := Lib.hid hbb
              have HW4 := Lib.hid hw4
              clear hu hn1 r1 r2 h4 h5 h5' hb5 hbb hm5 ht5 hc4 hm4 hb4 hb4' ex hrd hrd2 hF4 hw4
              go_upto_region 16 with (fail)
              rw [← HW4.out]
              clear y0 y1 y2 f0 f1 f2
              go_region
              go_wp2
              go_roundw
              case rel => exact ⟨j + 1, E1 ++ [(x, ⟨⟨b.take kk, kk, true⟩, A2, c2⟩)], es.drop (j + 1), by go_num, by omega, by rw [HU1.out]; go_num, HN1, rfl, H5, HB5⟩
              case measure => simp [intOf]; omega
        · have hmi : ((ri : Int)).tmod (n : Int) = ((ri % n : Nat) : Int) := (Int.ofNat_tmod _ _).symm
          have hmlt : ri % n < n := Nat.mod_lt _ (by omega)
          obtain ⟨v, hv⟩ : ∃ v, keep[ri % n]? = some v := ⟨_, List.getElem?_eq_getElem (by omega)⟩
          have hv2 := HK.out v (List.mem_of_getElem? hv)
          have hB3 : Below B w1 w3 := HB3.out.toBelow (Nat.le_trans hB HS1.out) hBp hBm
          obtain ⟨kd, rfl, _, hkc⟩ := (HR1.out.below hB3).2 (by omega)
          have hkv := hkc (ri % n) (.int .i64 v) (by unfold i64s; rw [List.getElem?_map, hv]; rfl)
          have hmo2 : ((v.tmod N + N).tmod N).toNat = mo := by rw [← hmo]; unfold keepN; rw [hn, hv]
          have hp1 : -(N : Int) < v.tmod N := Int.lt_tmod_of_pos v (by omega)
          have hp2 : v.tmod N < N := Int.tmod_lt_of_pos v (by omega)
          have hp3 : (v.tmod N + N).tmod N = (mo : Nat) := by
            have : 0 ≤ (v.tmod N + N).tmod N := Int.tmod_nonneg _ (by omega)
            omega
          obtain ⟨v1, hv1⟩ : ∃ v1, v.tmod (N : Int) = v1 := ⟨_, rfl⟩
          rw [hv1] at hp1 hp2 hp3
          have hmlt2 : ((ri % n : Nat) : Int) < n := by omega
          clear hmo2 hmo hkc hv hri hN1 hB3
          generalize ri % n = mi at *
          cases ev with
          | true =>
            obtain ⟨w4, hw4⟩ : ∃ w4, w4 = ((w3.setCell ⟨gf, 0, none⟩ (.slice A2 kk c2)).setCell ⟨gf, 1, none⟩ (.int .i64 (kk : Nat))).setCell ⟨gf, 2, none⟩ (.bool true) := ⟨_, rfl⟩
            have hF4 : Blk w4 gf 65 #[.slice A2 kk c2, .int .i64 (kk : Nat), .bool true] := by rw [hw4]; exact ((HF3.out.set_ 0 _).set_ 1 _).set_ 2 _
            have hb4 : But p mb wr w4 := by rw [hw4]; exact ((HBW3.out.setNew (q := ⟨gf, 0, none⟩) HGW'.out _).setNew (q := ⟨gf, 1, none⟩) HGW'.out _).setNew (q := ⟨gf, 2, none⟩) HGW'.out _
            have hb4' : But p mb w1 w4 := by rw [hw4]; exact ((HB3.out.setNew (q := ⟨gf, 0, none⟩) HSZ.out _).setNew (q := ⟨gf, 1, none⟩) HSZ.out _).setNew (q := ⟨gf, 2, none⟩) HSZ.out _
            have hc4 : Blk w4 p 55 (dcells mb cap fuse lost) := by rw [hw4]; exact ((HD3.out.cells.far (p := ⟨gf, 0, none⟩) HPG.out.1 _).far (p := ⟨gf, 1, none⟩) HPG.out.1 _).far (p := ⟨gf, 2, none⟩) HPG.out.1 _
            have hm4 : w4.ownsMap Try.prog 9 heldR mb (E1 ++ (x, (⟨⟨b, sf, true⟩, A2, c2⟩ : FV)) :: es.drop (j + 1)).length (dmap heldF (E1 ++ (x, (⟨⟨b, sf, true⟩, A2, c2⟩ : FV)) :: es.drop (j + 1))) := by rw [hw4]; exact ((HD3.out.map.setCell (a := ⟨gf, 0, none⟩) HPG.out.2 _).setCell (a := ⟨gf, 1, none⟩) HPG.out.2 _).setCell (a := ⟨gf, 2, none⟩) HPG.out.2 _
            have h4 := hd.out.turn hb4 hc4 hm4 hd.out.up (fun q hq => .inl hq)
            have hrd := (h4.bytes (x, (⟨⟨b, sf, true⟩, A2, c2⟩ : FV)) (by simp)).1.take hkb
            obtain ⟨w5, hrun, hm5, ht5⟩ := store_some (w := w4.drew) hm4.drew h4.up HLL.out ⟨x.toArray⟩ HKS.out (b.take kk) kk true A2 c2
            rw [HBL.out] at hrun
            have ex : (⟨x.toArray⟩ : ByteArray).data.toList = x := by simp
            rw [ex] at hm5
            have hrd2 : Reads w5 w5.heap.size 1 A2 kk (u8s (b.take kk)) := h4.reads_but (((But.refl _ _ _).drew).turned ht5) hrd
            obtain ⟨h5, hb5⟩ := h4.store ((But.refl _ _ _).drew) hc4.drew x ⟨⟨b.take kk, kk, true⟩, A2, c2⟩ hm5 ht5 ⟨by show Reads w5 w5.heap.size 1 A2 (b.take kk).length _; rw [HBL.out]; exact hrd2, by show (b.take kk).length ≤ c2; rw [HBL.out]; exact hkc2⟩
            rw [fput_at h4.up] at h5
            have z0 : w4.cell? ⟨gf, 0, none⟩ = some (.slice A2 kk c2) := by rw [hF4.cell]; rfl
            have z1 : w4.cell? ⟨gf, 1, none⟩ = some (.int .i64 (kk : Nat)) := by rw [hF4.cell]; rfl
            have z2 : w4.cell? ⟨gf, 2, none⟩ = some (.bool true) := by rw [hF4.cell]; rfl
            have z3 : w4.cell? ⟨p, 1, none⟩ = some (.map (some mb)) := h4.c1
            have hbb := hb4'.trans hb5
            obtain ⟨r1, r2⟩ := restart_cut keep (0 + restartN (fmap FV.m (es.take j))) (x, ⟨b, sf, true⟩) HWN.out (fun h => by cases h.1)
            have hu : restartN (fmap FV.m (es.take (j + 1))) = ri + 1 := by
              rw [HTK.out, fmap_append, restartN_append, HRI.out]
              show _ + restartN [(x, ⟨b, sf, true⟩)] = _
              rw [r2]
            have hn1 : fmap FV.m (E1 ++ [(x, ⟨⟨b.take kk, kk, true⟩, A2, c2⟩)]) = restartL keep 0 (fmap FV.m (es.take (j + 1))) := by
              rw [HTK.out, fmap_append, fmap_append, restartL_append, he1.out]
              show _ ++ [(x, ⟨b.take kk, kk, true⟩)] = _ ++ restartL keep _ [(x, ⟨b, sf, true⟩)]
              rw [r1]
              show _ = _ ++ [(x, cutF keep _ ⟨b, sf, true⟩)]
              rw [HCUT.out]
            have h5' : DiskAt w5 p mb ((E1 ++ [(x, ⟨⟨b.take kk, kk, true⟩, A2, c2⟩)]) ++ es.drop (j + 1)) cap fuse lost := by rw [List.append_assoc]; exact h5
            have HN1 := Lib.hid hn1
            have HU1 := Lib.hid hu
            have H5 := Lib.hid h5'
            have HB5 := Lib.hid hbb
            have HW4 := Lib.hid hw4
            clear hu hn1 r1 r2 h4 h5 h5' hb5 hbb hm5 ht5 hc4 hm4 hb4 hb4' ex hrd hrd2 hF4 hw4
            go_upto_region 16 with (fail)
            rw [← HW4.out]
            clear y0 y1 y2 f0 f1 f2
            go_region
            go_wp2
            go_roundw
            case rel => exact ⟨j + 1, E1 ++ [(x, ⟨⟨b.take kk, kk, true⟩, A2, c2⟩)], es.drop (j + 1), by go_num, by omega, by rw [HU1.out]; go_num, HN1, rfl, H5, HB5⟩
            case measure => simp [intOf]; omega
          | false =>
            by_cases hk0 : kk = 0
            · have HK0 := Lib.hid hk0
              clear hk0
              have hc4 : Blk (w3.setCell ⟨gf, 0, none⟩ (.slice A2 0 c2)) p 55 (dcells mb cap fuse lost) := HD3.out.cells.far (p := ⟨gf, 0, none⟩) HPG.out.1 _
              have hm4 : (w3.setCell ⟨gf, 0, none⟩ (.slice A2 0 c2)).ownsMap Try.prog 9 heldR mb (E1 ++ (x, (⟨⟨b, sf, false⟩, A2, c2⟩ : FV)) :: es.drop (j + 1)).length (dmap heldF (E1 ++ (x, (⟨⟨b, sf, false⟩, A2, c2⟩ : FV)) :: es.drop (j + 1))) := HD3.out.map.setCell (a := ⟨gf, 0, none⟩) HPG.out.2 _
              have hb4 : But p mb wr (w3.setCell ⟨gf, 0, none⟩ (.slice A2 0 c2)) := HBW3.out.setNew HGW'.out _
              have h4 := hd.out.turn hb4 hc4 hm4 hd.out.up (fun q hq => .inl hq)
              obtain ⟨w5, hrun, hm5, ht5⟩ := drop_run h4.map ⟨x.toArray⟩ HKS.out 0
              have ex : (⟨x.toArray⟩ : ByteArray).data.toList = x := by simp
              rw [ex] at hm5
              obtain ⟨h5, hb5⟩ := h4.drop x hm5 ht5
              rw [fdel_at h4.up] at h5
              have c4 := h4.c1
              have hbb := (HB3.out.setNew (q := ⟨gf, 0, none⟩) HSZ.out (.slice A2 0 c2)).trans hb5
              obtain ⟨r1, r2⟩ := restart_gone keep (0 + restartN (fmap FV.m (es.take j))) (x, ⟨b, sf, false⟩) HWN.out rfl (by rw [HCUT.out]; show b.take kk = []; rw [HK0.out]; rfl)
              have hu : restartN (fmap FV.m (es.take (j + 1))) = ri + 1 := by
                rw [HTK.out, fmap_append, restartN_append, HRI.out]
                show _ + restartN [(x, ⟨b, sf, false⟩)] = _
                rw [r2]
              have hn1 : fmap FV.m E1 = restartL keep 0 (fmap FV.m (es.take (j + 1))) := by
                rw [HTK.out, fmap_append, restartL_append, he1.out]
                show _ = _ ++ restartL keep _ [(x, ⟨b, sf, false⟩)]
                rw [r1, List.append_nil]
              have HN1 := Lib.hid hn1
              have HU1 := Lib.hid hu
              have H5 := Lib.hid h5
              have HB5 := Lib.hid hbb
              have hk0 := HK0.out
              clear hu hn1 r1 r2 h4 h5 hb5 hbb hm5 ht5 hc4 hm4 hb4 ex
              go_wp2
              go_roundw
              case rel => exact ⟨j + 1, E1, es.drop (j + 1), by go_num, by omega, by rw [HU1.out]; go_num, HN1, rfl, H5, HB5⟩
              case measure => simp [intOf]; omega
            · have hk1 : ((kk : Nat) : Int) ≠ 0 := by omega
              have hk2 : (((kk : Nat) : Int) == 0) = false := by simpa using hk1
              obtain ⟨w4, hw4⟩ : ∃ w4, w4 = ((w3.setCell ⟨gf, 0, none⟩ (.slice A2 kk c2)).setCell ⟨gf, 1, none⟩ (.int .i64 (kk : Nat))).setCell ⟨gf, 2, none⟩ (.bool true) := ⟨_, rfl⟩
              have hF4 : Blk w4 gf 65 #[.slice A2 kk c2, .int .i64 (kk : Nat), .bool true] := by rw [hw4]; exact ((HF3.out.set_ 0 _).set_ 1 _).set_ 2 _
              have hb4 : But p mb wr w4 := by rw [hw4]; exact ((HBW3.out.setNew (q := ⟨gf, 0, none⟩) HGW'.out _).setNew (q := ⟨gf, 1, none⟩) HGW'.out _).setNew (q := ⟨gf, 2, none⟩) HGW'.out _
              have hb4' : But p mb w1 w4 := by rw [hw4]; exact ((HB3.out.setNew (q := ⟨gf, 0, none⟩) HSZ.out _).setNew (q := ⟨gf, 1, none⟩) HSZ.out _).setNew (q := ⟨gf, 2, none⟩) HSZ.out _
              have hc4 : Blk w4 p 55 (dcells mb cap fuse lost) := by rw [hw4]; exact ((HD3.out.cells.far (p := ⟨gf, 0, none⟩) HPG.out.1 _).far (p := ⟨gf, 1, none⟩) HPG.out.1 _).far (p := ⟨gf, 2, none⟩) HPG.out.1 _
              have hm4 : w4.ownsMap Try.prog 9 heldR mb (E1 ++ (x, (⟨⟨b, sf, false⟩, A2, c2⟩ : FV)) :: es.drop (j + 1)).length (dmap heldF (E1 ++ (x, (⟨⟨b, sf, false⟩, A2, c2⟩ : FV)) :: es.drop (j + 1))) := by rw [hw4]; exact ((HD3.out.map.setCell (a := ⟨gf, 0, none⟩) HPG.out.2 _).setCell (a := ⟨gf, 1, none⟩) HPG.out.2 _).setCell (a := ⟨gf, 2, none⟩) HPG.out.2 _
              have h4 := hd.out.turn hb4 hc4 hm4 hd.out.up (fun q hq => .inl hq)
              have hrd := (h4.bytes (x, (⟨⟨b, sf, false⟩, A2, c2⟩ : FV)) (by simp)).1.take hkb
              obtain ⟨w5, hrun, hm5, ht5⟩ := store_some (w := w4.drew) hm4.drew h4.up HLL.out ⟨x.toArray⟩ HKS.out (b.take kk) kk true A2 c2
              rw [HBL.out] at hrun
              have ex : (⟨x.toArray⟩ : ByteArray).data.toList = x := by simp
              rw [ex] at hm5
              have hrd2 : Reads w5 w5.heap.size 1 A2 kk (u8s (b.take kk)) := h4.reads_but (((But.refl _ _ _).drew).turned ht5) hrd
              obtain ⟨h5, hb5⟩ := h4.store ((But.refl _ _ _).drew) hc4.drew x ⟨⟨b.take kk, kk, true⟩, A2, c2⟩ hm5 ht5 ⟨by show Reads w5 w5.heap.size 1 A2 (b.take kk).length _; rw [HBL.out]; exact hrd2, by show (b.take kk).length ≤ c2; rw [HBL.out]; exact hkc2⟩
              rw [fput_at h4.up] at h5
              have z0 : w4.cell? ⟨gf, 0, none⟩ = some (.slice A2 kk c2) := by rw [hF4.cell]; rfl
              have z1 : w4.cell? ⟨gf, 1, none⟩ = some (.int .i64 (kk : Nat)) := by rw [hF4.cell]; rfl
              have z2 : w4.cell? ⟨gf, 2, none⟩ = some (.bool true) := by rw [hF4.cell]; rfl
              have z3 : w4.cell? ⟨p, 1, none⟩ = some (.map (some mb)) := h4.c1
              have hbb := hb4'.trans hb5
              obtain ⟨r1, r2⟩ := restart_cut keep (0 + restartN (fmap FV.m (es.take j))) (x, ⟨b, sf, false⟩) HWN.out (fun h => hk0 (by have h2 := h.2; rw [HCUT.out] at h2; have h3 := congrArg List.length h2; simp only at h3; rw [HBL.out] at h3; simpa using h3))
              have hu : restartN (fmap FV.m (es.take (j + 1))) = ri + 1 := by
                rw [HTK.out, fmap_append, restartN_append, HRI.out]
                show _ + restartN [(x, ⟨b, sf, false⟩)] = _
                rw [r2]
              have hn1 : fmap FV.m (E1 ++ [(x, ⟨⟨b.take kk, kk, true⟩, A2, c2⟩)]) = restartL keep 0 (fmap FV.m (es.take (j + 1))) := by
                rw [HTK.out, fmap_append, fmap_append, restartL_append, he1.out]
                show _ ++ [(x, ⟨b.take kk, kk, true⟩)] = _ ++ restartL keep _ [(x, ⟨b, sf, false⟩)]
                rw [r1]
                show _ = _ ++ [(x, cutF keep _ ⟨b, sf, false⟩)]
                rw [HCUT.out]
              have h5' : DiskAt w5 p mb ((E1 ++ [(x, ⟨⟨b.take kk, kk, true⟩, A2, c2⟩)]) ++ es.drop (j + 1)) cap fuse lost := by rw [List.append_assoc]; exact h5
              have HN1 := Lib.hid hn1
              have HU1 := Lib.hid hu
              have H5 := Lib.hid h5'
              have HB5 := Lib.hid hbb
              have HW4 := Lib.hid hw4
              clear hu hn1 r1 r2 h4 h5 h5' hb5 hbb hm5 ht5 hc4 hm4 hb4 hb4' ex hrd hrd2 hF4 hw4
              go_upto_region 16 with (fail)
              rw [← HW4.out]
              clear y0 y1 y2 f0 f1 f2
              go_region
              go_wp2
              go_roundw
              case rel => exact ⟨j + 1, E1 ++ [(x, ⟨⟨b.take kk, kk, true⟩, A2, c2⟩)], es.drop (j + 1), by go_num, by omega, by rw [HU1.out]; go_num, HN1, rfl, H5, HB5⟩
              case measure => simp [intOf]; omega
    · obtain rfl : j = es.length := by omega
      have f2 := hd.out.cells.frozen 2
      have f3 := hd.out.cells.frozen 3
      have c2 := hd.out.c2
      have c3 := hd.out.c3
      go_wp2
      go_end0
      have hb2 := (hb.out.set_ 3 (.bool false)).set_ 2 (.int .i64 (-1))
      have hb3 : But p mb wr _ := ((But.refl p mb wr).set_ 3 (.bool false)).set_ 2 (.int .i64 (-1))
      have hd2 := hd.out.turn hb3 ((hd.out.cells.set_ 3 (.bool false)).set_ 2 (.int .i64 (-1))) ((hd.out.map.setCell (fun e => hd.out.ne e.symm) _).setCell (fun e => hd.out.ne e.symm) _) hd.out.up (fun q hq => .inl hq)
      refine ⟨rfl, ⟨E1 ++ E2, ?_, hd2⟩, HB1.out.trans hb2⟩
      show restartL keep 0 (fmap FV.m es) = _
      rw [fmap_append, he1.out, he2.out, List.take_of_length_le (Nat.le_refl _), List.drop_eq_nil_of_le (Nat.le_refl _)]
      simp [fmap]
end Go.Proofs.Ytplbclbeccoegaa
