/-
  The document's disk: Restart.
-/
import Derived.Test.YtplbclbeccoegaaRefActJ
import Derived.Test.YtplbclbeccoegaaDiskRestart
namespace Go.Proofs.Ytplbclbeccoegaa
open Go.RowKit Go.Maps
theorem tmod_low {v1 N : Int} {mo : Nat} (h1 : -N < v1) (h0 : v1 < 0) (h : (v1 + N).tmod N = (mo : Int)) : v1 + N = (mo : Int) := by
  rw [← h, Int.tmod_eq_of_lt (by omega) (by omega)]
theorem tmod_high {v1 N : Int} {mo : Nat} (h2 : v1 < N) (h0 : 0 ≤ v1) (h : (v1 + N).tmod N = (mo : Int)) : v1 = (mo : Int) := by
  rw [← h, Int.tmod_eq_emod_of_nonneg (by omega), Int.add_emod_right, Int.emod_eq_of_lt h0 h2]
theorem Bytes8.grown {w w' : World} {B : Nat} {v : Value} {l : List (Key × FV)} {f : FV} (h : Bytes8 w f) (hF : FRow w B v l) (hg : w.grownBy w' v.ownBlock) : Bytes8 w' f := h.keep fun g cur p hc => hg.block g (lt_of_get hc) (fun e => by
  obtain ⟨cur', p', h', _⟩ := hF.pure g e.symm
  rw [hc] at h'
  injection h' with h'
  injection h' with _ h'
  exact absurd h' (by decide))
theorem wpList_append_files {ops : Array Oper} {rest : List Oper} {o : Oper} {a : Act} {Q : Exit → Act → World → Prop} {w : World} (hgd : o.guard = none) (s x : Operand) (ho : o.op = Op.call { callee := Callee.builtin Builtin.append, args := #[s, x], argTypes := #[30, 30] })
    {B : Nat} {v : Value} {l gs : List (Key × FV)} {A : Option Addr} {m c Bd : Nat} (hs : a.eval s = v) (hx : a.eval x = .slice A m c) (h : FRow w B v l) (hm : m = gs.length) (hr : Reads w Bd 4 A m (rcells gs)) (hlen : l.length + gs.length ≤ 1000000) (hB : B ≤ w.heap.size)
    (hK : ∀ v' w', FRow w' B v' (l ++ gs) → w.grownBy w' v.ownBlock → wpList Try.prog ops Q rest (a.put o.dst v') w') : wpList Try.prog ops Q (o :: rest) a w := by
  refine wpList_plain hgd fun K hK' => ?_
  obtain ⟨v', w', hrun, h2, h3⟩ := run_append_files h c hm hr hlen hB o.type
  unfold Oper.wp execOp
  simp only [ho, resolve, invoke, builtin, Sem.run_bind, Sem.run_pure, Result.andThen_ok, List.map_toArray, List.map_cons, List.map_nil, hs, hx, hrun]
  exact hK' _ _ (hK v' w' h2 h3)
set_option maxHeartbeats 3200000 in
set_option maxRecDepth 100000 in
theorem refRestart_at {w : World} {B q : Nat} {d : DiskM} (h : Ref w B q d) (hf : WFD d) (hB : B ≤ w.heap.size) (hN : d.files.length ≤ 90000) (K : Option Addr) (n c0 : Nat) (keep : List Int) (hn : keep.length = n) (hn2 : n ≤ 10000000) (hk : ∀ v ∈ keep, -9223372036854775808 ≤ v ∧ v ≤ 9223372036854775807) (hr : Reads w w.heap.size 1 K n (i64s keep)) :
    Calls Try.prog 12 #[.pointer (some ⟨q, 0, none⟩), .slice K n c0] w fun e w' => e = .returned (.tuple #[]) ∧ Ref w' B q (dRestart d keep) ∧ TBut B q w w' := by
  obtain ⟨cap, files, fuse, lost⟩ := d
  obtain ⟨v, es, hfi, h⟩ := h
  obtain rfl : files = fmap FV.m es := hfi
  have hN' : es.length ≤ 90000 := by simpa [fmap] using hN
  have heach : ∀ q ∈ es, q.2.m.safe ≤ q.2.m.b.length ∧ q.2.m.b.length ≤ 4194304 := fun q hq => by
    have hm : (q.1, q.2.m) ∈ fmap FV.m es := List.mem_map.2 ⟨q, hq, rfl⟩
    have h1 := hf.each _ hm
    have h2 := used_get (k := q.1) (f := q.2.m) (l := fmap FV.m es) (fget_of_mem hf.up hm)
    have h3 := hf.room
    have h4 := hf.cap
    simp only at h1 h3 h4
    exact ⟨h1.1, by omega⟩
  have HE : Hid (∀ q ∈ es, q.2.m.safe ≤ q.2.m.b.length ∧ q.2.m.b.length ≤ 4194304) := heach
  have HR := Lib.hid hr
  have HK := Lib.hid hk
  have HB := Lib.hid hB
  have HU : Hid (Up es) := h.up
  obtain ⟨i0', hi0, hz0, hz1, hz2⟩ := info_parts u8_info
  obtain ⟨A, c, rfl, hr4, hc4⟩ := h.row.reads
  have HR4 := Lib.hid hr4
  have H := Lib.hid h
  have hc1 := h.c1
  have hql := h.cells.lt
  clear h hf hN heach hr hk hr4 hB
  go_enter Try.func12, Try.ntmps12
  go_wp2
  go_loopw [4, 5, 15] (fun u z v wr => ∃ (j : Nat) (E1 : List (Key × FV)) (vL : Value), vL = u ∧ v = .int .i64 j ∧ j ≤ es.length ∧ z = .int .i64 (restartN (fmap FV.m (es.take j)) : Nat) ∧ Hid (fmap FV.m E1 = restartL keep 0 (fmap FV.m (es.take j))) ∧ Hid (FRow wr w.heap.size vL E1) ∧ Hid (∀ x ∈ E1, Bytes8 wr x.2) ∧ Hid (Below w.heap.size w wr)) (fun _ _ v _ => es.length - (intOf v).toNat)
  case atStart => exact ⟨0, [], _, rfl, rfl, by omega, rfl, rfl, FRow.nil _ _, fun x hx => (by cases hx), Below.refl _ _⟩
  case round =>
    obtain ⟨j, E1, vL, rfl, rfl, hj, rfl, he1, hl1, hb1, hb⟩ := hrel
    by_cases hlt : j < es.length
    · obtain ⟨q', hq⟩ : ∃ q', es[j]? = some q' := ⟨_, List.getElem?_eq_getElem hlt⟩
      have hqm : q' ∈ es := List.mem_of_getElem? hq
      have htk : es.take (j + 1) = es.take j ++ [q'] := by rw [List.take_add_one, hq]; rfl
      obtain ⟨x, ⟨⟨b, sf, ev⟩, A2, c2⟩⟩ := q'
      have hqe := HE.out _ hqm
      simp only at hqe
      have hr5 := HR4.out.below hb.out
      obtain ⟨ad, rfl, hadl, hcs⟩ := hr5.2 (by omega)
      obtain ⟨k0, k1, k2, k3⟩ := file_at hcs hq
      simp only at k0 k1 k2 k3
      have hadl4 : (ad.add (j * 4)).block < wr.heap.size := by rw [block_of_add]; exact Nat.lt_of_lt_of_le hadl hb.out.size
      have hRr : RefAt wr B q _ es cap fuse lost := H.out.below hb.out
      have c1 := hRr.c1
      have hqlr := hRr.cells.lt
      have jj0 : (0 : Int) ≤ (j : Int) := by omega
      have jj1 : (j : Int) < (es.length : Int) := by omega
      obtain ⟨bw, hbw⟩ : ∃ bw, (ev && decide (sf = b.length)) = bw := ⟨_, rfl⟩
      have hF := Blk.new wr 61 #[.string ⟨x.toArray⟩, .slice A2 b.length c2, .int .i64 (sf : Nat), .bool ev]
      have hbx : Below wr.heap.size wr (wr.alloc (.cells #[.string ⟨x.toArray⟩, .slice A2 b.length c2, .int .i64 (sf : Nat), .bool ev] 61)) := (Below.refl _ _).alloc (Nat.le_refl _) _
      have Hw := Lib.hid (refWhole_some (hRr.below hbx) ⟨x.toArray⟩ (n := j) (f := ⟨⟨b, sf, ev⟩, A2, c2⟩) (by simpa using hq) (by omega))
      rw [show FileM.whole ⟨b, sf, ev⟩ = bw from hbw] at Hw
      have hbx8 := hRr.bytes _ hqm
      have hc2 : b.length ≤ c2 := hbx8.reads.2
      have HX8 := Lib.hid hbx8
      have HTK := Lib.hid htk
      have HBW := Lib.hid hbw
      have HF := Lib.hid hF
      have HBX := Lib.hid hbx
      have HQL : Hid (q < w.heap.size) := hql
      have HLN : Hid (E1.length ≤ es.length) := by
        have e1 : E1.length = (fmap FV.m E1).length := by simp [fmap]
        have e2 := length_restartL keep (fmap FV.m (es.take j)) 0
        rw [← he1.out, ← e1] at e2
        simp only [fmap, List.length_map, List.length_take] at e2
        show _ ≤ _
        omega
      clear hq hqm htk hcs hbw hF hbx hbx8 hr5 hRr hql hc1 hadl
      go_wp2_with fail
      refine Hw.out.mono ?_
      rintro e w3 ⟨rfl, hb3⟩
      have hF3 := HF.out.below hb3 HF.out.lt
      have hbr3 : Below wr.heap.size wr w3 := HBX.out.trans (hb3.mono HBX.out.size)
      have hb03 : Below w.heap.size w w3 := hb.out.trans (hbr3.mono hb.out.size)
      have hl3 : FRow w3 w.heap.size vL E1 := hl1.out.below hbr3
      have hne : ∀ g, vL.ownBlock = some g → g < wr.heap.size := fun g hg => (hl1.out.lt g hg).2
      have hx3 : Bytes8 w3 ⟨⟨b, sf, ev⟩, A2, c2⟩ := HX8.out.below hbr3
      have hy3 : ∀ x ∈ E1, Bytes8 w3 x.2 := fun x hx => (hb1.out x hx).below hbr3
      have hs3 := hb03.size
      have hwr : w.heap.size ≤ wr.heap.size := hb.out.size
      clear hb3 k0 k1 k2 k3 c1 hbr3 hadl4 hqlr
      obtain ⟨gf, hgf⟩ : ∃ gf, wr.heap.size = gf := ⟨_, rfl⟩
      rw [hgf] at hF3 hne hwr ⊢
      have hgf3 : gf < w3.heap.size := hF3.lt
      have HF3 := Lib.hid hF3
      have HB3 := Lib.hid hb03
      have HL3 := Lib.hid hl3
      have HNE := Lib.hid hne
      have HX3 := Lib.hid hx3
      have HY3 := Lib.hid hy3
      clear hgf HF HBX HX8 Hw hb03 hl3 hne hx3 hy3 hF3 hl1 hb1 hb
      have y0 : w3.cell? ⟨gf, 0, none⟩ = some (.string ⟨x.toArray⟩) := by rw [HF3.out.cell]; rfl
      have y1 : w3.cell? ⟨gf, 1, none⟩ = some (.slice A2 b.length c2) := by rw [HF3.out.cell]; rfl
      have y2 : w3.cell? ⟨gf, 2, none⟩ = some (.int .i64 (sf : Nat)) := by rw [HF3.out.cell]; rfl
      have y3 : w3.cell? ⟨gf, 3, none⟩ = some (.bool ev) := by rw [HF3.out.cell]; rfl
      cases bw with
      | true =>
        obtain ⟨r1, r2⟩ := restart_whole keep (0 + restartN (fmap FV.m (es.take j))) (x, ⟨b, sf, ev⟩) HBW.out
        have hu : restartN (fmap FV.m (es.take (j + 1))) = restartN (fmap FV.m (es.take j)) := by
          rw [HTK.out, fmap_append, restartN_append]
          show _ + restartN [(x, ⟨b, sf, ev⟩)] = _
          rw [r2]; rfl
        have hn1 : fmap FV.m (E1 ++ [(x, ⟨⟨b, sf, ev⟩, A2, c2⟩)]) = restartL keep 0 (fmap FV.m (es.take (j + 1))) := by
          rw [HTK.out, fmap_append, fmap_append, restartL_append, he1.out]
          show _ ++ [(x, ⟨b, sf, ev⟩)] = _ ++ restartL keep _ [(x, ⟨b, sf, ev⟩)]
          rw [r1]
        have HN1 := Lib.hid hn1
        have HU1 := Lib.hid hu
        have hal := (Below.refl w3.heap.size w3).alloc (Nat.le_refl _) (.cells #[.string ⟨x.toArray⟩, .slice A2 b.length c2, .int .i64 (sf : Nat), .bool ev] 61)
        clear hu hn1 r1 r2
        go_wp2_with (first | (at_builtin; refine wpList_append_files rfl _ _ rfl rfl rfl (HL3.out.alloc _) (gs := [(x, ⟨⟨b, sf, ev⟩, A2, c2⟩)]) rfl (lit_reads (Blk.new w3 61 #[.string ⟨x.toArray⟩, .slice A2 b.length c2, .int .i64 (sf : Nat), .bool ev]) (by simp [rcell])) ?c1 (Nat.le_trans hs3 hal.size) ?_))
        case c1 => have := HLN.out; simp only [List.length_singleton]; omega
        intro v4 w4 ho4 hg4
        have hb4 := (HB3.out.alloc hs3 (.cells #[.string ⟨x.toArray⟩, .slice A2 b.length c2, .int .i64 (sf : Nat), .bool ev] 61)).grown hg4 (Nat.le_trans hs3 hal.size) (fun k hk => (HL3.out.lt k hk).1)
        have hy4 : ∀ y ∈ E1 ++ [(x, (⟨⟨b, sf, ev⟩, A2, c2⟩ : FV))], Bytes8 w4 y.2 := fun y hy => by
          rcases List.mem_append.1 hy with hy | hy
          · exact ((HY3.out y hy).below hal).grown (HL3.out.alloc _) hg4
          · rw [List.mem_singleton] at hy
            subst hy
            exact (HX3.out.below hal).grown (HL3.out.alloc _) hg4
        have HO4 := Lib.hid ho4
        have HB4 := Lib.hid hb4
        have HY4 := Lib.hid hy4
        clear ho4 hg4 hb4 hy4 hal
        go_wp2
        go_roundw
        case rel => exact ⟨j + 1, E1 ++ [(x, ⟨⟨b, sf, ev⟩, A2, c2⟩)], _, rfl, by go_num, by omega, by rw [HU1.out], HN1, HO4, HY4, HB4⟩
        case measure => simp [intOf]; omega
      | false =>
        obtain ⟨ri, hri⟩ : ∃ ri, restartN (fmap FV.m (es.take j)) = ri := ⟨_, rfl⟩
        have hri2 : ri ≤ 1000000 := by
          have := restartN_le (fmap FV.m (es.take j))
          rw [hri] at this
          simp only [fmap, List.length_map, List.length_take] at this
          omega
        obtain ⟨N, hN1⟩ : ∃ N, b.length - sf + 1 = N := ⟨_, rfl⟩
        obtain ⟨mo, hmo⟩ : ∃ mo, keepN keep ri N = mo := ⟨_, rfl⟩
        have hmN : mo < N := by rw [← hmo]; exact keepN_lt keep ri N (by omega)
        have hNI : (b.length : Int) - (sf : Nat) + 1 = (N : Nat) := by omega
        obtain ⟨kk, hkk⟩ : ∃ kk, sf + mo = kk := ⟨_, rfl⟩
        have hkI : (sf : Int) + (mo : Nat) = (kk : Nat) := by omega
        have hkb : kk ≤ b.length := by omega
        have hkc2 : kk ≤ c2 := by omega
        have hbl : (b.take kk).length = kk := by rw [List.length_take]; omega
        have hcut : cutF keep (0 + restartN (fmap FV.m (es.take j))) ⟨b, sf, ev⟩ = ⟨b.take kk, kk, true⟩ := by unfold cutF; simp only; rw [Nat.zero_add, hri, hN1, hmo, hkk, hbl]
        have hwn : FileM.whole ⟨b, sf, ev⟩ = false := HBW.out
        have HWN := Lib.hid hwn
        have HCUT := Lib.hid hcut
        have HBL := Lib.hid hbl
        have HRI := Lib.hid hri
        have kI0 : (0 : Int) ≤ (kk : Int) := by omega
        have kI1 : (kk : Int) ≤ (c2 : Int) := by omega
        clear hcut hbl hwn
        have f1 := HF3.out.frozen 1
        have f2 := HF3.out.frozen 2
        have f3 := HF3.out.frozen 3
        rw [hri]
        by_cases hn0 : n = 0
        · subst hn0
          have hm0 : mo = 0 := by
            rw [← hmo, List.length_eq_zero_iff.1 hn]; rfl
          subst hm0
          obtain rfl : kk = sf := by omega
          clear hmo hri hN1 hNI hkk
          cases ev with
          | true =>
            have hbe := (Below.refl w3.heap.size w3).alloc (Nat.le_refl _) (.cells #[] 5)
            go_wp2_with (first | (at_builtin; refine wpList_append_any _ rfl _ _ 33 rfl w3.heap.size 5 i0' _ 1 1 Try.underlying33 hi0 hz0 hz1 hz2 rfl (by omega) _ _ _ rfl (bytes_empty w3) A2 kk c2 (u8s (b.take kk)) rfl (Gives.of_reads ((HX3.out.reads.1.first8 hkb).below hbe) (u8s_one _)) ?c1 ?c2 hbe.size ?_))
            case c1 => unfold maxLen; first | omega | (simp only [List.length_nil]; omega)
            case c2 => first | omega | (simp only [List.length_nil]; omega)
            intro v5 w5 ho5 hg5
            have hb5 := hbe.grown hg5 hbe.size (fun k hk => ((bytes_empty w3).lt k hk).1)
            obtain ⟨A5, c5, rfl, hf5⟩ := bytes_own ho5 kk true
            rw [HBL.out]
            have hF5 := HF3.out.below hb5 hgf3
            have hl5 := HL3.out.below hb5
            have hb05 := HB3.out.trans (hb5.mono hs3)
            have hs5 := hb05.size
            have hy5 : ∀ x ∈ E1, Bytes8 w5 x.2 := fun x hx => (HY3.out x hx).below hb5
            have hgf5 := hF5.lt
            have z0 : w5.cell? ⟨gf, 0, none⟩ = some (.string ⟨x.toArray⟩) := by rw [hF5.cell]; rfl
            have z1 : w5.cell? ⟨gf, 1, none⟩ = some (.slice A2 b.length c2) := by rw [hF5.cell]; rfl
            have z2 : w5.cell? ⟨gf, 2, none⟩ = some (.int .i64 (kk : Nat)) := by rw [hF5.cell]; rfl
            have z3 : w5.cell? ⟨gf, 3, none⟩ = some (.bool true) := by rw [hF5.cell]; rfl
            have g1 := hF5.frozen 1
            have g2 := hF5.frozen 2
            have g3 := hF5.frozen 3
            have HF5 := Lib.hid hF5
            have HL5 := Lib.hid hl5
            have HB5 := Lib.hid hb05
            have HY5 := Lib.hid hy5
            have H85 := Lib.hid hf5
            clear hbe hg5 ho5 hb5 hF5 hl5 hb05 hy5 hf5 y0 y1 y2 y3 f1 f2 f3
            obtain ⟨r1, r2⟩ := restart_cut keep (0 + restartN (fmap FV.m (es.take j))) (x, ⟨b, kk, true⟩) HWN.out (fun h => by cases h.1)
            have hu : restartN (fmap FV.m (es.take (j + 1))) = ri + 1 := by
              rw [HTK.out, fmap_append, restartN_append, HRI.out]
              show _ + restartN [(x, ⟨b, kk, true⟩)] = _
              rw [r2]
            have hn1 : fmap FV.m (E1 ++ [(x, ⟨⟨b.take kk, kk, true⟩, A5, c5⟩)]) = restartL keep 0 (fmap FV.m (es.take (j + 1))) := by
              rw [HTK.out, fmap_append, fmap_append, restartL_append, he1.out]
              show _ ++ [(x, ⟨b.take kk, kk, true⟩)] = _ ++ restartL keep _ [(x, ⟨b, kk, true⟩)]
              rw [r1]
              show _ = _ ++ [(x, cutF keep _ ⟨b, kk, true⟩)]
              rw [HCUT.out]
            have HN1 := Lib.hid hn1
            have HU1 := Lib.hid hu
            obtain ⟨w6, hw6⟩ : ∃ w6, w6 = ((w5.setCell ⟨gf, 1, none⟩ (.slice A5 kk c5)).setCell ⟨gf, 2, none⟩ (.int .i64 (kk : Nat))).setCell ⟨gf, 3, none⟩ (.bool true) := ⟨_, rfl⟩
            have hl6 : FRow w6 w.heap.size vL E1 := by rw [hw6]; exact HL5.out.keep fun g hg => ((Below.heap_setCell _ _ _ _ (Nat.ne_of_lt (HNE.out g hg))).trans (Below.heap_setCell _ _ _ _ (Nat.ne_of_lt (HNE.out g hg)))).trans (Below.heap_setCell _ _ _ _ (Nat.ne_of_lt (HNE.out g hg)))
            have hb6 : Below w.heap.size w w6 := by rw [hw6]; exact ((HB5.out.setCell (p := ⟨gf, 1, none⟩) hwr _).setCell (p := ⟨gf, 2, none⟩) hwr _).setCell (p := ⟨gf, 3, none⟩) hwr _
            have h86 : ∀ f, Bytes8 w5 f → Bytes8 w6 f := fun f hf => by rw [hw6]; exact ((hf.setFile HF5.out 1 _).setFile (HF5.out.set_ 1 _) 2 _).setFile ((HF5.out.set_ 1 _).set_ 2 _) 3 _
            have hs6 := hb6.size
            have hz6 : w6.heap.size = w5.heap.size := by rw [hw6]; simp [World.setCell]
            have hlit : Blk (w6.alloc (.cells #[.string ⟨x.toArray⟩, .slice A5 kk c5, .int .i64 (kk : Nat), .bool true] 61)) w5.heap.size 61 #[.string ⟨x.toArray⟩, .slice A5 kk c5, .int .i64 (kk : Nat), .bool true] := by rw [← hz6]; exact Blk.new w6 _ _
            have HLI := Lib.hid hlit
            have hal := (Below.refl w6.heap.size w6).alloc (Nat.le_refl _) (.cells #[.string ⟨x.toArray⟩, .slice A5 kk c5, .int .i64 (kk : Nat), .bool true] 61)
            have HW6 := Lib.hid hw6
            have HL6 := Lib.hid hl6
            have HB6 := Lib.hid hb6
            have H86 := Lib.hid h86
            clear hu hn1 r1 r2 hw6 hl6 hb6 h86 hz6 hlit
            go_wp2_with (first | (at_builtin; rw [← HW6.out]; refine wpList_append_files rfl _ _ rfl rfl rfl (HL6.out.alloc _) (gs := [(x, ⟨⟨b.take kk, kk, true⟩, A5, c5⟩)]) rfl (lit_reads HLI.out (by simp only [rcell]; rw [HBL.out])) ?c1 (Nat.le_trans hs6 hal.size) ?_))
            case c1 => have := HLN.out; simp only [List.length_singleton]; omega
            intro v7 w7 ho7 hg7
            have hb7 := (HB6.out.alloc hs6 (.cells #[.string ⟨x.toArray⟩, .slice A5 kk c5, .int .i64 (kk : Nat), .bool true] 61)).grown hg7 (Nat.le_trans hs6 hal.size) (fun k hk => (HL6.out.lt k hk).1)
            have hy7 : ∀ y ∈ E1 ++ [(x, (⟨⟨b.take kk, kk, true⟩, A5, c5⟩ : FV))], Bytes8 w7 y.2 := fun y hy => by
              rcases List.mem_append.1 hy with hy | hy
              · exact ((H86.out _ (HY5.out y hy)).below hal).grown (HL6.out.alloc _) hg7
              · rw [List.mem_singleton] at hy
                subst hy
                exact ((H86.out _ H85.out).below hal).grown (HL6.out.alloc _) hg7
            have HO7 := Lib.hid ho7
            have HB7 := Lib.hid hb7
            have HY7 := Lib.hid hy7
            clear ho7 hg7 hb7 hy7 hal
            go_wp2
            go_roundw
            case rel => exact ⟨j + 1, E1 ++ [(x, ⟨⟨b.take kk, kk, true⟩, A5, c5⟩)], _, rfl, by go_num, by omega, by rw [HU1.out]; go_num, HN1, HO7, HY7, HB7⟩
            case measure => simp [intOf]; omega
          | false =>
            have hbe := (Below.refl w3.heap.size w3).alloc (Nat.le_refl _) (.cells #[] 5)
            go_wp2_with (first | (at_builtin; refine wpList_append_any _ rfl _ _ 33 rfl w3.heap.size 5 i0' _ 1 1 Try.underlying33 hi0 hz0 hz1 hz2 rfl (by omega) _ _ _ rfl (bytes_empty w3) A2 kk c2 (u8s (b.take kk)) rfl (Gives.of_reads ((HX3.out.reads.1.first8 hkb).below hbe) (u8s_one _)) ?c1 ?c2 hbe.size ?_))
            case c1 => unfold maxLen; first | omega | (simp only [List.length_nil]; omega)
            case c2 => first | omega | (simp only [List.length_nil]; omega)
            intro v5 w5 ho5 hg5
            have hb5 := hbe.grown hg5 hbe.size (fun k hk => ((bytes_empty w3).lt k hk).1)
            obtain ⟨A5, c5, rfl, hf5⟩ := bytes_own ho5 kk true
            rw [HBL.out]
            have hF5 := HF3.out.below hb5 hgf3
            have hl5 := HL3.out.below hb5
            have hb05 := HB3.out.trans (hb5.mono hs3)
            have hs5 := hb05.size
            have hy5 : ∀ x ∈ E1, Bytes8 w5 x.2 := fun x hx => (HY3.out x hx).below hb5
            have hgf5 := hF5.lt
            have z0 : w5.cell? ⟨gf, 0, none⟩ = some (.string ⟨x.toArray⟩) := by rw [hF5.cell]; rfl
            have z1 : w5.cell? ⟨gf, 1, none⟩ = some (.slice A2 b.length c2) := by rw [hF5.cell]; rfl
            have z2 : w5.cell? ⟨gf, 2, none⟩ = some (.int .i64 (kk : Nat)) := by rw [hF5.cell]; rfl
            have z3 : w5.cell? ⟨gf, 3, none⟩ = some (.bool false) := by rw [hF5.cell]; rfl
            have g1 := hF5.frozen 1
            have g2 := hF5.frozen 2
            have g3 := hF5.frozen 3
            have HF5 := Lib.hid hF5
            have HL5 := Lib.hid hl5
            have HB5 := Lib.hid hb05
            have HY5 := Lib.hid hy5
            have H85 := Lib.hid hf5
            clear hbe hg5 ho5 hb5 hF5 hl5 hb05 hy5 hf5 y0 y1 y2 y3 f1 f2 f3
            by_cases hk0 : kk = 0
            · have HK0 := Lib.hid hk0
              clear hk0
              obtain ⟨r1, r2⟩ := restart_gone keep (0 + restartN (fmap FV.m (es.take j))) (x, ⟨b, kk, false⟩) HWN.out rfl (by rw [HCUT.out]; show b.take kk = []; rw [HK0.out]; rfl)
              have hu : restartN (fmap FV.m (es.take (j + 1))) = ri + 1 := by
                rw [HTK.out, fmap_append, restartN_append, HRI.out]
                show _ + restartN [(x, ⟨b, kk, false⟩)] = _
                rw [r2]
              have hn1 : fmap FV.m E1 = restartL keep 0 (fmap FV.m (es.take (j + 1))) := by
                rw [HTK.out, fmap_append, restartL_append, he1.out]
                show _ = _ ++ restartL keep _ [(x, ⟨b, kk, false⟩)]
                rw [r1, List.append_nil]
              have HN1 := Lib.hid hn1
              have HU1 := Lib.hid hu
              have hk0 := HK0.out
              clear hu hn1 r1 r2
              have hl6 : FRow (w5.setCell ⟨gf, 1, none⟩ (.slice A5 kk c5)) w.heap.size vL E1 := HL5.out.keep fun g hg => Below.heap_setCell _ _ _ _ (Nat.ne_of_lt (HNE.out g hg))
              have hb6 : Below w.heap.size w (w5.setCell ⟨gf, 1, none⟩ (.slice A5 kk c5)) := HB5.out.setCell hwr _
              have hy6 : ∀ x ∈ E1, Bytes8 (w5.setCell ⟨gf, 1, none⟩ (.slice A5 kk c5)) x.2 := fun x hx => (HY5.out x hx).setFile HF5.out 1 _
              rw [HK0.out] at hl6 hb6 hy6
              have HL6 := Lib.hid hl6
              have HB6 := Lib.hid hb6
              have HY6 := Lib.hid hy6
              clear hl6 hb6 hy6
              go_wp2
              go_roundw
              case rel => exact ⟨j + 1, E1, _, rfl, by go_num, by omega, by rw [HU1.out]; go_num, HN1, HL6, HY6, HB6⟩
              case measure => simp [intOf]; omega
            · have hk1 : ((kk : Nat) : Int) ≠ 0 := by omega
              have hk2 : (((kk : Nat) : Int) == 0) = false := by simpa using hk1
              have HKN := Lib.hid hk0
              clear hk0
              obtain ⟨r1, r2⟩ := restart_cut keep (0 + restartN (fmap FV.m (es.take j))) (x, ⟨b, kk, false⟩) HWN.out (fun h => HKN.out (by have h2 := h.2; rw [HCUT.out] at h2; have h3 := congrArg List.length h2; simp only at h3; rw [HBL.out] at h3; simpa using h3))
              have hu : restartN (fmap FV.m (es.take (j + 1))) = ri + 1 := by
                rw [HTK.out, fmap_append, restartN_append, HRI.out]
                show _ + restartN [(x, ⟨b, kk, false⟩)] = _
                rw [r2]
              have hn1 : fmap FV.m (E1 ++ [(x, ⟨⟨b.take kk, kk, true⟩, A5, c5⟩)]) = restartL keep 0 (fmap FV.m (es.take (j + 1))) := by
                rw [HTK.out, fmap_append, fmap_append, restartL_append, he1.out]
                show _ ++ [(x, ⟨b.take kk, kk, true⟩)] = _ ++ restartL keep _ [(x, ⟨b, kk, false⟩)]
                rw [r1]
                show _ = _ ++ [(x, cutF keep _ ⟨b, kk, false⟩)]
                rw [HCUT.out]
              have HN1 := Lib.hid hn1
              have HU1 := Lib.hid hu
              obtain ⟨w6, hw6⟩ : ∃ w6, w6 = ((w5.setCell ⟨gf, 1, none⟩ (.slice A5 kk c5)).setCell ⟨gf, 2, none⟩ (.int .i64 (kk : Nat))).setCell ⟨gf, 3, none⟩ (.bool true) := ⟨_, rfl⟩
              have hl6 : FRow w6 w.heap.size vL E1 := by rw [hw6]; exact HL5.out.keep fun g hg => ((Below.heap_setCell _ _ _ _ (Nat.ne_of_lt (HNE.out g hg))).trans (Below.heap_setCell _ _ _ _ (Nat.ne_of_lt (HNE.out g hg)))).trans (Below.heap_setCell _ _ _ _ (Nat.ne_of_lt (HNE.out g hg)))
              have hb6 : Below w.heap.size w w6 := by rw [hw6]; exact ((HB5.out.setCell (p := ⟨gf, 1, none⟩) hwr _).setCell (p := ⟨gf, 2, none⟩) hwr _).setCell (p := ⟨gf, 3, none⟩) hwr _
              have h86 : ∀ f, Bytes8 w5 f → Bytes8 w6 f := fun f hf => by rw [hw6]; exact ((hf.setFile HF5.out 1 _).setFile (HF5.out.set_ 1 _) 2 _).setFile ((HF5.out.set_ 1 _).set_ 2 _) 3 _
              have hs6 := hb6.size
              have hz6 : w6.heap.size = w5.heap.size := by rw [hw6]; simp [World.setCell]
              have hlit : Blk (w6.alloc (.cells #[.string ⟨x.toArray⟩, .slice A5 kk c5, .int .i64 (kk : Nat), .bool true] 61)) w5.heap.size 61 #[.string ⟨x.toArray⟩, .slice A5 kk c5, .int .i64 (kk : Nat), .bool true] := by rw [← hz6]; exact Blk.new w6 _ _
              have HLI := Lib.hid hlit
              have hal := (Below.refl w6.heap.size w6).alloc (Nat.le_refl _) (.cells #[.string ⟨x.toArray⟩, .slice A5 kk c5, .int .i64 (kk : Nat), .bool true] 61)
              have HW6 := Lib.hid hw6
              have HL6 := Lib.hid hl6
              have HB6 := Lib.hid hb6
              have H86 := Lib.hid h86
              clear hu hn1 r1 r2 hw6 hl6 hb6 h86 hz6 hlit
              go_wp2_with (first | (at_builtin; rw [← HW6.out]; refine wpList_append_files rfl _ _ rfl rfl rfl (HL6.out.alloc _) (gs := [(x, ⟨⟨b.take kk, kk, true⟩, A5, c5⟩)]) rfl (lit_reads HLI.out (by simp only [rcell]; rw [HBL.out])) ?c1 (Nat.le_trans hs6 hal.size) ?_))
              case c1 => have := HLN.out; simp only [List.length_singleton]; omega
              intro v7 w7 ho7 hg7
              have hb7 := (HB6.out.alloc hs6 (.cells #[.string ⟨x.toArray⟩, .slice A5 kk c5, .int .i64 (kk : Nat), .bool true] 61)).grown hg7 (Nat.le_trans hs6 hal.size) (fun k hk => (HL6.out.lt k hk).1)
              have hy7 : ∀ y ∈ E1 ++ [(x, (⟨⟨b.take kk, kk, true⟩, A5, c5⟩ : FV))], Bytes8 w7 y.2 := fun y hy => by
                rcases List.mem_append.1 hy with hy | hy
                · exact ((H86.out _ (HY5.out y hy)).below hal).grown (HL6.out.alloc _) hg7
                · rw [List.mem_singleton] at hy
                  subst hy
                  exact ((H86.out _ H85.out).below hal).grown (HL6.out.alloc _) hg7
              have HO7 := Lib.hid ho7
              have HB7 := Lib.hid hb7
              have HY7 := Lib.hid hy7
              clear ho7 hg7 hb7 hy7 hal
              go_wp2
              go_roundw
              case rel => exact ⟨j + 1, E1 ++ [(x, ⟨⟨b.take kk, kk, true⟩, A5, c5⟩)], _, rfl, by go_num, by omega, by rw [HU1.out]; go_num, HN1, HO7, HY7, HB7⟩
              case measure => simp [intOf]; omega
        · have hmi : ((ri : Int)).tmod (n : Int) = ((ri % n : Nat) : Int) := (Int.ofNat_tmod _ _).symm
          have hmlt : ri % n < n := Nat.mod_lt _ (by omega)
          obtain ⟨v, hv⟩ : ∃ v, keep[ri % n]? = some v := ⟨_, List.getElem?_eq_getElem (by omega)⟩
          have hv2 := HK.out v (List.mem_of_getElem? hv)
          obtain ⟨kd, rfl, _, hkc⟩ := (HR.out.below HB3.out).2 (by omega)
          have hkv := hkc (ri % n) (.int .i64 v) (by unfold i64s; rw [List.getElem?_map, hv]; rfl)
          have hmo2 : ((v.tmod N + N).tmod N).toNat = mo := by rw [← hmo]; unfold keepN; rw [hn, hv]
          have hp1 : -(N : Int) < v.tmod N := Int.lt_tmod_of_pos v (by omega)
          have hp2 : v.tmod N < N := Int.tmod_lt_of_pos v (by omega)
          have hp3 : (v.tmod N + N).tmod N = (mo : Nat) := by
            have : 0 ≤ (v.tmod N + N).tmod N := Int.tmod_nonneg _ (by omega)
            omega
          obtain ⟨v1, hv1⟩ : ∃ v1, v.tmod (N : Int) = v1 := ⟨_, rfl⟩
          rw [hv1] at hp1 hp2 hp3
          have hmlt2 : ((ri % n : Nat) : Int) < n := by omega
          clear hmo2 hmo hkc hv hri hN1 hkk
          generalize ri % n = mi at *
          by_cases hneg : v1 < 0
          · have hp4 := tmod_low hp1 hneg hp3
            clear hp3 hp1 hp2
            cases ev with
            | true =>
              have hbe := (Below.refl w3.heap.size w3).alloc (Nat.le_refl _) (.cells #[] 5)
              go_wp2_with (first | (at_builtin; refine wpList_append_any _ rfl _ _ 33 rfl w3.heap.size 5 i0' _ 1 1 Try.underlying33 hi0 hz0 hz1 hz2 rfl (by omega) _ _ _ rfl (bytes_empty w3) A2 kk c2 (u8s (b.take kk)) rfl (Gives.of_reads ((HX3.out.reads.1.first8 hkb).below hbe) (u8s_one _)) ?c1 ?c2 hbe.size ?_))
              case c1 => unfold maxLen; first | omega | (simp only [List.length_nil]; omega)
              case c2 => first | omega | (simp only [List.length_nil]; omega)
              intro v5 w5 ho5 hg5
              have hb5 := hbe.grown hg5 hbe.size (fun k hk => ((bytes_empty w3).lt k hk).1)
              obtain ⟨A5, c5, rfl, hf5⟩ := bytes_own ho5 kk true
              rw [HBL.out]
              have hF5 := HF3.out.below hb5 hgf3
              have hl5 := HL3.out.below hb5
              have hb05 := HB3.out.trans (hb5.mono hs3)
              have hs5 := hb05.size
              have hy5 : ∀ x ∈ E1, Bytes8 w5 x.2 := fun x hx => (HY3.out x hx).below hb5
              have hgf5 := hF5.lt
              have z0 : w5.cell? ⟨gf, 0, none⟩ = some (.string ⟨x.toArray⟩) := by rw [hF5.cell]; rfl
              have z1 : w5.cell? ⟨gf, 1, none⟩ = some (.slice A2 b.length c2) := by rw [hF5.cell]; rfl
              have z2 : w5.cell? ⟨gf, 2, none⟩ = some (.int .i64 (sf : Nat)) := by rw [hF5.cell]; rfl
              have z3 : w5.cell? ⟨gf, 3, none⟩ = some (.bool true) := by rw [hF5.cell]; rfl
              have g1 := hF5.frozen 1
              have g2 := hF5.frozen 2
              have g3 := hF5.frozen 3
              have HF5 := Lib.hid hF5
              have HL5 := Lib.hid hl5
              have HB5 := Lib.hid hb05
              have HY5 := Lib.hid hy5
              have H85 := Lib.hid hf5
              clear hbe hg5 ho5 hb5 hF5 hl5 hb05 hy5 hf5 y0 y1 y2 y3 f1 f2 f3
              obtain ⟨r1, r2⟩ := restart_cut keep (0 + restartN (fmap FV.m (es.take j))) (x, ⟨b, sf, true⟩) HWN.out (fun h => by cases h.1)
              have hu : restartN (fmap FV.m (es.take (j + 1))) = ri + 1 := by
                rw [HTK.out, fmap_append, restartN_append, HRI.out]
                show _ + restartN [(x, ⟨b, sf, true⟩)] = _
                rw [r2]
              have hn1 : fmap FV.m (E1 ++ [(x, ⟨⟨b.take kk, kk, true⟩, A5, c5⟩)]) = restartL keep 0 (fmap FV.m (es.take (j + 1))) := by
                rw [HTK.out, fmap_append, fmap_append, restartL_append, he1.out]
                show _ ++ [(x, ⟨b.take kk, kk, true⟩)] = _ ++ restartL keep _ [(x, ⟨b, sf, true⟩)]
                rw [r1]
                show _ = _ ++ [(x, cutF keep _ ⟨b, sf, true⟩)]
                rw [HCUT.out]
              have HN1 := Lib.hid hn1
              have HU1 := Lib.hid hu
              obtain ⟨w6, hw6⟩ : ∃ w6, w6 = ((w5.setCell ⟨gf, 1, none⟩ (.slice A5 kk c5)).setCell ⟨gf, 2, none⟩ (.int .i64 (kk : Nat))).setCell ⟨gf, 3, none⟩ (.bool true) := ⟨_, rfl⟩
              have hl6 : FRow w6 w.heap.size vL E1 := by rw [hw6]; exact HL5.out.keep fun g hg => ((Below.heap_setCell _ _ _ _ (Nat.ne_of_lt (HNE.out g hg))).trans (Below.heap_setCell _ _ _ _ (Nat.ne_of_lt (HNE.out g hg)))).trans (Below.heap_setCell _ _ _ _ (Nat.ne_of_lt (HNE.out g hg)))
              have hb6 : Below w.heap.size w w6 := by rw [hw6]; exact ((HB5.out.setCell (p := ⟨gf, 1, none⟩) hwr _).setCell (p := ⟨gf, 2, none⟩) hwr _).setCell (p := ⟨gf, 3, none⟩) hwr _
              have h86 : ∀ f, Bytes8 w5 f → Bytes8 w6 f := fun f hf => by rw [hw6]; exact ((hf.setFile HF5.out 1 _).setFile (HF5.out.set_ 1 _) 2 _).setFile ((HF5.out.set_ 1 _).set_ 2 _) 3 _
              have hs6 := hb6.size
              have hz6 : w6.heap.size = w5.heap.size := by rw [hw6]; simp [World.setCell]
              have hlit : Blk (w6.alloc (.cells #[.string ⟨x.toArray⟩, .slice A5 kk c5, .int .i64 (kk : Nat), .bool true] 61)) w5.heap.size 61 #[.string ⟨x.toArray⟩, .slice A5 kk c5, .int .i64 (kk : Nat), .bool true] := by rw [← hz6]; exact Blk.new w6 _ _
              have HLI := Lib.hid hlit
              have hal := (Below.refl w6.heap.size w6).alloc (Nat.le_refl _) (.cells #[.string ⟨x.toArray⟩, .slice A5 kk c5, .int .i64 (kk : Nat), .bool true] 61)
              have HW6 := Lib.hid hw6
              have HL6 := Lib.hid hl6
              have HB6 := Lib.hid hb6
              have H86 := Lib.hid h86
              clear hu hn1 r1 r2 hw6 hl6 hb6 h86 hz6 hlit
              go_wp2_with (first | (at_builtin; rw [← HW6.out]; refine wpList_append_files rfl _ _ rfl rfl rfl (HL6.out.alloc _) (gs := [(x, ⟨⟨b.take kk, kk, true⟩, A5, c5⟩)]) rfl (lit_reads HLI.out (by simp only [rcell]; rw [HBL.out])) ?c1 (Nat.le_trans hs6 hal.size) ?_))
              case c1 => have := HLN.out; simp only [List.length_singleton]; omega
              intro v7 w7 ho7 hg7
              have hb7 := (HB6.out.alloc hs6 (.cells #[.string ⟨x.toArray⟩, .slice A5 kk c5, .int .i64 (kk : Nat), .bool true] 61)).grown hg7 (Nat.le_trans hs6 hal.size) (fun k hk => (HL6.out.lt k hk).1)
              have hy7 : ∀ y ∈ E1 ++ [(x, (⟨⟨b.take kk, kk, true⟩, A5, c5⟩ : FV))], Bytes8 w7 y.2 := fun y hy => by
                rcases List.mem_append.1 hy with hy | hy
                · exact ((H86.out _ (HY5.out y hy)).below hal).grown (HL6.out.alloc _) hg7
                · rw [List.mem_singleton] at hy
                  subst hy
                  exact ((H86.out _ H85.out).below hal).grown (HL6.out.alloc _) hg7
              have HO7 := Lib.hid ho7
              have HB7 := Lib.hid hb7
              have HY7 := Lib.hid hy7
              clear ho7 hg7 hb7 hy7 hal
              go_wp2
              go_roundw
              case rel => exact ⟨j + 1, E1 ++ [(x, ⟨⟨b.take kk, kk, true⟩, A5, c5⟩)], _, rfl, by go_num, by omega, by rw [HU1.out]; go_num, HN1, HO7, HY7, HB7⟩
              case measure => simp [intOf]; omega
            | false =>
              have hbe := (Below.refl w3.heap.size w3).alloc (Nat.le_refl _) (.cells #[] 5)
              go_wp2_with (first | (at_builtin; refine wpList_append_any _ rfl _ _ 33 rfl w3.heap.size 5 i0' _ 1 1 Try.underlying33 hi0 hz0 hz1 hz2 rfl (by omega) _ _ _ rfl (bytes_empty w3) A2 kk c2 (u8s (b.take kk)) rfl (Gives.of_reads ((HX3.out.reads.1.first8 hkb).below hbe) (u8s_one _)) ?c1 ?c2 hbe.size ?_))
              case c1 => unfold maxLen; first | omega | (simp only [List.length_nil]; omega)
              case c2 => first | omega | (simp only [List.length_nil]; omega)
              intro v5 w5 ho5 hg5
              have hb5 := hbe.grown hg5 hbe.size (fun k hk => ((bytes_empty w3).lt k hk).1)
              obtain ⟨A5, c5, rfl, hf5⟩ := bytes_own ho5 kk true
              rw [HBL.out]
              have hF5 := HF3.out.below hb5 hgf3
              have hl5 := HL3.out.below hb5
              have hb05 := HB3.out.trans (hb5.mono hs3)
              have hs5 := hb05.size
              have hy5 : ∀ x ∈ E1, Bytes8 w5 x.2 := fun x hx => (HY3.out x hx).below hb5
              have hgf5 := hF5.lt
              have z0 : w5.cell? ⟨gf, 0, none⟩ = some (.string ⟨x.toArray⟩) := by rw [hF5.cell]; rfl
              have z1 : w5.cell? ⟨gf, 1, none⟩ = some (.slice A2 b.length c2) := by rw [hF5.cell]; rfl
              have z2 : w5.cell? ⟨gf, 2, none⟩ = some (.int .i64 (sf : Nat)) := by rw [hF5.cell]; rfl
              have z3 : w5.cell? ⟨gf, 3, none⟩ = some (.bool false) := by rw [hF5.cell]; rfl
              have g1 := hF5.frozen 1
              have g2 := hF5.frozen 2
              have g3 := hF5.frozen 3
              have HF5 := Lib.hid hF5
              have HL5 := Lib.hid hl5
              have HB5 := Lib.hid hb05
              have HY5 := Lib.hid hy5
              have H85 := Lib.hid hf5
              clear hbe hg5 ho5 hb5 hF5 hl5 hb05 hy5 hf5 y0 y1 y2 y3 f1 f2 f3
              by_cases hk0 : kk = 0
              · have HK0 := Lib.hid hk0
                clear hk0
                obtain ⟨r1, r2⟩ := restart_gone keep (0 + restartN (fmap FV.m (es.take j))) (x, ⟨b, sf, false⟩) HWN.out rfl (by rw [HCUT.out]; show b.take kk = []; rw [HK0.out]; rfl)
                have hu : restartN (fmap FV.m (es.take (j + 1))) = ri + 1 := by
                  rw [HTK.out, fmap_append, restartN_append, HRI.out]
                  show _ + restartN [(x, ⟨b, sf, false⟩)] = _
                  rw [r2]
                have hn1 : fmap FV.m E1 = restartL keep 0 (fmap FV.m (es.take (j + 1))) := by
                  rw [HTK.out, fmap_append, restartL_append, he1.out]
                  show _ = _ ++ restartL keep _ [(x, ⟨b, sf, false⟩)]
                  rw [r1, List.append_nil]
                have HN1 := Lib.hid hn1
                have HU1 := Lib.hid hu
                have hk0 := HK0.out
                clear hu hn1 r1 r2
                have hl6 : FRow (w5.setCell ⟨gf, 1, none⟩ (.slice A5 kk c5)) w.heap.size vL E1 := HL5.out.keep fun g hg => Below.heap_setCell _ _ _ _ (Nat.ne_of_lt (HNE.out g hg))
                have hb6 : Below w.heap.size w (w5.setCell ⟨gf, 1, none⟩ (.slice A5 kk c5)) := HB5.out.setCell hwr _
                have hy6 : ∀ x ∈ E1, Bytes8 (w5.setCell ⟨gf, 1, none⟩ (.slice A5 kk c5)) x.2 := fun x hx => (HY5.out x hx).setFile HF5.out 1 _
                rw [HK0.out] at hl6 hb6 hy6
                have HL6 := Lib.hid hl6
                have HB6 := Lib.hid hb6
                have HY6 := Lib.hid hy6
                clear hl6 hb6 hy6
                go_wp2
                go_roundw
                case rel => exact ⟨j + 1, E1, _, rfl, by go_num, by omega, by rw [HU1.out]; go_num, HN1, HL6, HY6, HB6⟩
                case measure => simp [intOf]; omega
              · have hk1 : ((kk : Nat) : Int) ≠ 0 := by omega
                have hk2 : (((kk : Nat) : Int) == 0) = false := by simpa using hk1
                have HKN := Lib.hid hk0
                clear hk0
                obtain ⟨r1, r2⟩ := restart_cut keep (0 + restartN (fmap FV.m (es.take j))) (x, ⟨b, sf, false⟩) HWN.out (fun h => HKN.out (by have h2 := h.2; rw [HCUT.out] at h2; have h3 := congrArg List.length h2; simp only at h3; rw [HBL.out] at h3; simpa using h3))
                have hu : restartN (fmap FV.m (es.take (j + 1))) = ri + 1 := by
                  rw [HTK.out, fmap_append, restartN_append, HRI.out]
                  show _ + restartN [(x, ⟨b, sf, false⟩)] = _
                  rw [r2]
                have hn1 : fmap FV.m (E1 ++ [(x, ⟨⟨b.take kk, kk, true⟩, A5, c5⟩)]) = restartL keep 0 (fmap FV.m (es.take (j + 1))) := by
                  rw [HTK.out, fmap_append, fmap_append, restartL_append, he1.out]
                  show _ ++ [(x, ⟨b.take kk, kk, true⟩)] = _ ++ restartL keep _ [(x, ⟨b, sf, false⟩)]
                  rw [r1]
                  show _ = _ ++ [(x, cutF keep _ ⟨b, sf, false⟩)]
                  rw [HCUT.out]
                have HN1 := Lib.hid hn1
                have HU1 := Lib.hid hu
                obtain ⟨w6, hw6⟩ : ∃ w6, w6 = ((w5.setCell ⟨gf, 1, none⟩ (.slice A5 kk c5)).setCell ⟨gf, 2, none⟩ (.int .i64 (kk : Nat))).setCell ⟨gf, 3, none⟩ (.bool true) := ⟨_, rfl⟩
                have hl6 : FRow w6 w.heap.size vL E1 := by rw [hw6]; exact HL5.out.keep fun g hg => ((Below.heap_setCell _ _ _ _ (Nat.ne_of_lt (HNE.out g hg))).trans (Below.heap_setCell _ _ _ _ (Nat.ne_of_lt (HNE.out g hg)))).trans (Below.heap_setCell _ _ _ _ (Nat.ne_of_lt (HNE.out g hg)))
                have hb6 : Below w.heap.size w w6 := by rw [hw6]; exact ((HB5.out.setCell (p := ⟨gf, 1, none⟩) hwr _).setCell (p := ⟨gf, 2, none⟩) hwr _).setCell (p := ⟨gf, 3, none⟩) hwr _
                have h86 : ∀ f, Bytes8 w5 f → Bytes8 w6 f := fun f hf => by rw [hw6]; exact ((hf.setFile HF5.out 1 _).setFile (HF5.out.set_ 1 _) 2 _).setFile ((HF5.out.set_ 1 _).set_ 2 _) 3 _
                have hs6 := hb6.size
                have hz6 : w6.heap.size = w5.heap.size := by rw [hw6]; simp [World.setCell]
                have hlit : Blk (w6.alloc (.cells #[.string ⟨x.toArray⟩, .slice A5 kk c5, .int .i64 (kk : Nat), .bool true] 61)) w5.heap.size 61 #[.string ⟨x.toArray⟩, .slice A5 kk c5, .int .i64 (kk : Nat), .bool true] := by rw [← hz6]; exact Blk.new w6 _ _
                have HLI := Lib.hid hlit
                have hal := (Below.refl w6.heap.size w6).alloc (Nat.le_refl _) (.cells #[.string ⟨x.toArray⟩, .slice A5 kk c5, .int .i64 (kk : Nat), .bool true] 61)
                have HW6 := Lib.hid hw6
                have HL6 := Lib.hid hl6
                have HB6 := Lib.hid hb6
                have H86 := Lib.hid h86
                clear hu hn1 r1 r2 hw6 hl6 hb6 h86 hz6 hlit
                go_wp2_with (first | (at_builtin; rw [← HW6.out]; refine wpList_append_files rfl _ _ rfl rfl rfl (HL6.out.alloc _) (gs := [(x, ⟨⟨b.take kk, kk, true⟩, A5, c5⟩)]) rfl (lit_reads HLI.out (by simp only [rcell]; rw [HBL.out])) ?c1 (Nat.le_trans hs6 hal.size) ?_))
                case c1 => have := HLN.out; simp only [List.length_singleton]; omega
                intro v7 w7 ho7 hg7
                have hb7 := (HB6.out.alloc hs6 (.cells #[.string ⟨x.toArray⟩, .slice A5 kk c5, .int .i64 (kk : Nat), .bool true] 61)).grown hg7 (Nat.le_trans hs6 hal.size) (fun k hk => (HL6.out.lt k hk).1)
                have hy7 : ∀ y ∈ E1 ++ [(x, (⟨⟨b.take kk, kk, true⟩, A5, c5⟩ : FV))], Bytes8 w7 y.2 := fun y hy => by
                  rcases List.mem_append.1 hy with hy | hy
                  · exact ((H86.out _ (HY5.out y hy)).below hal).grown (HL6.out.alloc _) hg7
                  · rw [List.mem_singleton] at hy
                    subst hy
                    exact ((H86.out _ H85.out).below hal).grown (HL6.out.alloc _) hg7
                have HO7 := Lib.hid ho7
                have HB7 := Lib.hid hb7
                have HY7 := Lib.hid hy7
                clear ho7 hg7 hb7 hy7 hal
                go_wp2
                go_roundw
                case rel => exact ⟨j + 1, E1 ++ [(x, ⟨⟨b.take kk, kk, true⟩, A5, c5⟩)], _, rfl, by go_num, by omega, by rw [HU1.out]; go_num, HN1, HO7, HY7, HB7⟩
                case measure => simp [intOf]; omega
          · have hp4 := tmod_high hp2 (by omega) hp3
            subst hp4
            clear hp3 hp1 hp2
            cases ev with
            | true =>
              have hbe := (Below.refl w3.heap.size w3).alloc (Nat.le_refl _) (.cells #[] 5)
              go_wp2_with (first | (at_builtin; refine wpList_append_any _ rfl _ _ 33 rfl w3.heap.size 5 i0' _ 1 1 Try.underlying33 hi0 hz0 hz1 hz2 rfl (by omega) _ _ _ rfl (bytes_empty w3) A2 kk c2 (u8s (b.take kk)) rfl (Gives.of_reads ((HX3.out.reads.1.first8 hkb).below hbe) (u8s_one _)) ?c1 ?c2 hbe.size ?_))
              case c1 => unfold maxLen; first | omega | (simp only [List.length_nil]; omega)
              case c2 => first | omega | (simp only [List.length_nil]; omega)
              intro v5 w5 ho5 hg5
              have hb5 := hbe.grown hg5 hbe.size (fun k hk => ((bytes_empty w3).lt k hk).1)
              obtain ⟨A5, c5, rfl, hf5⟩ := bytes_own ho5 kk true
              rw [HBL.out]
              have hF5 := HF3.out.below hb5 hgf3
              have hl5 := HL3.out.below hb5
              have hb05 := HB3.out.trans (hb5.mono hs3)
              have hs5 := hb05.size
              have hy5 : ∀ x ∈ E1, Bytes8 w5 x.2 := fun x hx => (HY3.out x hx).below hb5
              have hgf5 := hF5.lt
              have z0 : w5.cell? ⟨gf, 0, none⟩ = some (.string ⟨x.toArray⟩) := by rw [hF5.cell]; rfl
              have z1 : w5.cell? ⟨gf, 1, none⟩ = some (.slice A2 b.length c2) := by rw [hF5.cell]; rfl
              have z2 : w5.cell? ⟨gf, 2, none⟩ = some (.int .i64 (sf : Nat)) := by rw [hF5.cell]; rfl
              have z3 : w5.cell? ⟨gf, 3, none⟩ = some (.bool true) := by rw [hF5.cell]; rfl
              have g1 := hF5.frozen 1
              have g2 := hF5.frozen 2
              have g3 := hF5.frozen 3
              have HF5 := Lib.hid hF5
              have HL5 := Lib.hid hl5
              have HB5 := Lib.hid hb05
              have HY5 := Lib.hid hy5
              have H85 := Lib.hid hf5
              clear hbe hg5 ho5 hb5 hF5 hl5 hb05 hy5 hf5 y0 y1 y2 y3 f1 f2 f3
              obtain ⟨r1, r2⟩ := restart_cut keep (0 + restartN (fmap FV.m (es.take j))) (x, ⟨b, sf, true⟩) HWN.out (fun h => by cases h.1)
              have hu : restartN (fmap FV.m (es.take (j + 1))) = ri + 1 := by
                rw [HTK.out, fmap_append, restartN_append, HRI.out]
                show _ + restartN [(x, ⟨b, sf, true⟩)] = _
                rw [r2]
              have hn1 : fmap FV.m (E1 ++ [(x, ⟨⟨b.take kk, kk, true⟩, A5, c5⟩)]) = restartL keep 0 (fmap FV.m (es.take (j + 1))) := by
                rw [HTK.out, fmap_append, fmap_append, restartL_append, he1.out]
                show _ ++ [(x, ⟨b.take kk, kk, true⟩)] = _ ++ restartL keep _ [(x, ⟨b, sf, true⟩)]
                rw [r1]
                show _ = _ ++ [(x, cutF keep _ ⟨b, sf, true⟩)]
                rw [HCUT.out]
              have HN1 := Lib.hid hn1
              have HU1 := Lib.hid hu
              obtain ⟨w6, hw6⟩ : ∃ w6, w6 = ((w5.setCell ⟨gf, 1, none⟩ (.slice A5 kk c5)).setCell ⟨gf, 2, none⟩ (.int .i64 (kk : Nat))).setCell ⟨gf, 3, none⟩ (.bool true) := ⟨_, rfl⟩
              have hl6 : FRow w6 w.heap.size vL E1 := by rw [hw6]; exact HL5.out.keep fun g hg => ((Below.heap_setCell _ _ _ _ (Nat.ne_of_lt (HNE.out g hg))).trans (Below.heap_setCell _ _ _ _ (Nat.ne_of_lt (HNE.out g hg)))).trans (Below.heap_setCell _ _ _ _ (Nat.ne_of_lt (HNE.out g hg)))
              have hb6 : Below w.heap.size w w6 := by rw [hw6]; exact ((HB5.out.setCell (p := ⟨gf, 1, none⟩) hwr _).setCell (p := ⟨gf, 2, none⟩) hwr _).setCell (p := ⟨gf, 3, none⟩) hwr _
              have h86 : ∀ f, Bytes8 w5 f → Bytes8 w6 f := fun f hf => by rw [hw6]; exact ((hf.setFile HF5.out 1 _).setFile (HF5.out.set_ 1 _) 2 _).setFile ((HF5.out.set_ 1 _).set_ 2 _) 3 _
              have hs6 := hb6.size
              have hz6 : w6.heap.size = w5.heap.size := by rw [hw6]; simp [World.setCell]
              have hlit : Blk (w6.alloc (.cells #[.string ⟨x.toArray⟩, .slice A5 kk c5, .int .i64 (kk : Nat), .bool true] 61)) w5.heap.size 61 #[.string ⟨x.toArray⟩, .slice A5 kk c5, .int .i64 (kk : Nat), .bool true] := by rw [← hz6]; exact Blk.new w6 _ _
              have HLI := Lib.hid hlit
              have hal := (Below.refl w6.heap.size w6).alloc (Nat.le_refl _) (.cells #[.string ⟨x.toArray⟩, .slice A5 kk c5, .int .i64 (kk : Nat), .bool true] 61)
              have HW6 := Lib.hid hw6
              have HL6 := Lib.hid hl6
              have HB6 := Lib.hid hb6
              have H86 := Lib.hid h86
              clear hu hn1 r1 r2 hw6 hl6 hb6 h86 hz6 hlit
              go_wp2_with (first | (at_builtin; rw [← HW6.out]; refine wpList_append_files rfl _ _ rfl rfl rfl (HL6.out.alloc _) (gs := [(x, ⟨⟨b.take kk, kk, true⟩, A5, c5⟩)]) rfl (lit_reads HLI.out (by simp only [rcell]; rw [HBL.out])) ?c1 (Nat.le_trans hs6 hal.size) ?_))
              case c1 => have := HLN.out; simp only [List.length_singleton]; omega
              intro v7 w7 ho7 hg7
              have hb7 := (HB6.out.alloc hs6 (.cells #[.string ⟨x.toArray⟩, .slice A5 kk c5, .int .i64 (kk : Nat), .bool true] 61)).grown hg7 (Nat.le_trans hs6 hal.size) (fun k hk => (HL6.out.lt k hk).1)
              have hy7 : ∀ y ∈ E1 ++ [(x, (⟨⟨b.take kk, kk, true⟩, A5, c5⟩ : FV))], Bytes8 w7 y.2 := fun y hy => by
                rcases List.mem_append.1 hy with hy | hy
                · exact ((H86.out _ (HY5.out y hy)).below hal).grown (HL6.out.alloc _) hg7
                · rw [List.mem_singleton] at hy
                  subst hy
                  exact ((H86.out _ H85.out).below hal).grown (HL6.out.alloc _) hg7
              have HO7 := Lib.hid ho7
              have HB7 := Lib.hid hb7
              have HY7 := Lib.hid hy7
              clear ho7 hg7 hb7 hy7 hal
              go_wp2
              go_roundw
              case rel => exact ⟨j + 1, E1 ++ [(x, ⟨⟨b.take kk, kk, true⟩, A5, c5⟩)], _, rfl, by go_num, by omega, by rw [HU1.out]; go_num, HN1, HO7, HY7, HB7⟩
              case measure => simp [intOf]; omega
            | false =>
              have hbe := (Below.refl w3.heap.size w3).alloc (Nat.le_refl _) (.cells #[] 5)
              go_wp2_with (first | (at_builtin; refine wpList_append_any _ rfl _ _ 33 rfl w3.heap.size 5 i0' _ 1 1 Try.underlying33 hi0 hz0 hz1 hz2 rfl (by omega) _ _ _ rfl (bytes_empty w3) A2 kk c2 (u8s (b.take kk)) rfl (Gives.of_reads ((HX3.out.reads.1.first8 hkb).below hbe) (u8s_one _)) ?c1 ?c2 hbe.size ?_))
              case c1 => unfold maxLen; first | omega | (simp only [List.length_nil]; omega)
              case c2 => first | omega | (simp only [List.length_nil]; omega)
              intro v5 w5 ho5 hg5
              have hb5 := hbe.grown hg5 hbe.size (fun k hk => ((bytes_empty w3).lt k hk).1)
              obtain ⟨A5, c5, rfl, hf5⟩ := bytes_own ho5 kk true
              rw [HBL.out]
              have hF5 := HF3.out.below hb5 hgf3
              have hl5 := HL3.out.below hb5
              have hb05 := HB3.out.trans (hb5.mono hs3)
              have hs5 := hb05.size
              have hy5 : ∀ x ∈ E1, Bytes8 w5 x.2 := fun x hx => (HY3.out x hx).below hb5
              have hgf5 := hF5.lt
              have z0 : w5.cell? ⟨gf, 0, none⟩ = some (.string ⟨x.toArray⟩) := by rw [hF5.cell]; rfl
              have z1 : w5.cell? ⟨gf, 1, none⟩ = some (.slice A2 b.length c2) := by rw [hF5.cell]; rfl
              have z2 : w5.cell? ⟨gf, 2, none⟩ = some (.int .i64 (sf : Nat)) := by rw [hF5.cell]; rfl
              have z3 : w5.cell? ⟨gf, 3, none⟩ = some (.bool false) := by rw [hF5.cell]; rfl
              have g1 := hF5.frozen 1
              have g2 := hF5.frozen 2
              have g3 := hF5.frozen 3
              have HF5 := Lib.hid hF5
              have HL5 := Lib.hid hl5
              have HB5 := Lib.hid hb05
              have HY5 := Lib.hid hy5
              have H85 := Lib.hid hf5
              clear hbe hg5 ho5 hb5 hF5 hl5 hb05 hy5 hf5 y0 y1 y2 y3 f1 f2 f3
              by_cases hk0 : kk = 0
              · have HK0 := Lib.hid hk0
                clear hk0
                obtain ⟨r1, r2⟩ := restart_gone keep (0 + restartN (fmap FV.m (es.take j))) (x, ⟨b, sf, false⟩) HWN.out rfl (by rw [HCUT.out]; show b.take kk = []; rw [HK0.out]; rfl)
                have hu : restartN (fmap FV.m (es.take (j + 1))) = ri + 1 := by
                  rw [HTK.out, fmap_append, restartN_append, HRI.out]
                  show _ + restartN [(x, ⟨b, sf, false⟩)] = _
                  rw [r2]
                have hn1 : fmap FV.m E1 = restartL keep 0 (fmap FV.m (es.take (j + 1))) := by
                  rw [HTK.out, fmap_append, restartL_append, he1.out]
                  show _ = _ ++ restartL keep _ [(x, ⟨b, sf, false⟩)]
                  rw [r1, List.append_nil]
                have HN1 := Lib.hid hn1
                have HU1 := Lib.hid hu
                have hk0 := HK0.out
                clear hu hn1 r1 r2
                have hl6 : FRow (w5.setCell ⟨gf, 1, none⟩ (.slice A5 kk c5)) w.heap.size vL E1 := HL5.out.keep fun g hg => Below.heap_setCell _ _ _ _ (Nat.ne_of_lt (HNE.out g hg))
                have hb6 : Below w.heap.size w (w5.setCell ⟨gf, 1, none⟩ (.slice A5 kk c5)) := HB5.out.setCell hwr _
                have hy6 : ∀ x ∈ E1, Bytes8 (w5.setCell ⟨gf, 1, none⟩ (.slice A5 kk c5)) x.2 := fun x hx => (HY5.out x hx).setFile HF5.out 1 _
                rw [HK0.out] at hl6 hb6 hy6
                have HL6 := Lib.hid hl6
                have HB6 := Lib.hid hb6
                have HY6 := Lib.hid hy6
                clear hl6 hb6 hy6
                go_wp2
                go_roundw
                case rel => exact ⟨j + 1, E1, _, rfl, by go_num, by omega, by rw [HU1.out]; go_num, HN1, HL6, HY6, HB6⟩
                case measure => simp [intOf]; omega
              · have hk1 : ((kk : Nat) : Int) ≠ 0 := by omega
                have hk2 : (((kk : Nat) : Int) == 0) = false := by simpa using hk1
                have HKN := Lib.hid hk0
                clear hk0
                obtain ⟨r1, r2⟩ := restart_cut keep (0 + restartN (fmap FV.m (es.take j))) (x, ⟨b, sf, false⟩) HWN.out (fun h => HKN.out (by have h2 := h.2; rw [HCUT.out] at h2; have h3 := congrArg List.length h2; simp only at h3; rw [HBL.out] at h3; simpa using h3))
                have hu : restartN (fmap FV.m (es.take (j + 1))) = ri + 1 := by
                  rw [HTK.out, fmap_append, restartN_append, HRI.out]
                  show _ + restartN [(x, ⟨b, sf, false⟩)] = _
                  rw [r2]
                have hn1 : fmap FV.m (E1 ++ [(x, ⟨⟨b.take kk, kk, true⟩, A5, c5⟩)]) = restartL keep 0 (fmap FV.m (es.take (j + 1))) := by
                  rw [HTK.out, fmap_append, fmap_append, restartL_append, he1.out]
                  show _ ++ [(x, ⟨b.take kk, kk, true⟩)] = _ ++ restartL keep _ [(x, ⟨b, sf, false⟩)]
                  rw [r1]
                  show _ = _ ++ [(x, cutF keep _ ⟨b, sf, false⟩)]
                  rw [HCUT.out]
                have HN1 := Lib.hid hn1
                have HU1 := Lib.hid hu
                obtain ⟨w6, hw6⟩ : ∃ w6, w6 = ((w5.setCell ⟨gf, 1, none⟩ (.slice A5 kk c5)).setCell ⟨gf, 2, none⟩ (.int .i64 (kk : Nat))).setCell ⟨gf, 3, none⟩ (.bool true) := ⟨_, rfl⟩
                have hl6 : FRow w6 w.heap.size vL E1 := by rw [hw6]; exact HL5.out.keep fun g hg => ((Below.heap_setCell _ _ _ _ (Nat.ne_of_lt (HNE.out g hg))).trans (Below.heap_setCell _ _ _ _ (Nat.ne_of_lt (HNE.out g hg)))).trans (Below.heap_setCell _ _ _ _ (Nat.ne_of_lt (HNE.out g hg)))
                have hb6 : Below w.heap.size w w6 := by rw [hw6]; exact ((HB5.out.setCell (p := ⟨gf, 1, none⟩) hwr _).setCell (p := ⟨gf, 2, none⟩) hwr _).setCell (p := ⟨gf, 3, none⟩) hwr _
                have h86 : ∀ f, Bytes8 w5 f → Bytes8 w6 f := fun f hf => by rw [hw6]; exact ((hf.setFile HF5.out 1 _).setFile (HF5.out.set_ 1 _) 2 _).setFile ((HF5.out.set_ 1 _).set_ 2 _) 3 _
                have hs6 := hb6.size
                have hz6 : w6.heap.size = w5.heap.size := by rw [hw6]; simp [World.setCell]
                have hlit : Blk (w6.alloc (.cells #[.string ⟨x.toArray⟩, .slice A5 kk c5, .int .i64 (kk : Nat), .bool true] 61)) w5.heap.size 61 #[.string ⟨x.toArray⟩, .slice A5 kk c5, .int .i64 (kk : Nat), .bool true] := by rw [← hz6]; exact Blk.new w6 _ _
                have HLI := Lib.hid hlit
                have hal := (Below.refl w6.heap.size w6).alloc (Nat.le_refl _) (.cells #[.string ⟨x.toArray⟩, .slice A5 kk c5, .int .i64 (kk : Nat), .bool true] 61)
                have HW6 := Lib.hid hw6
                have HL6 := Lib.hid hl6
                have HB6 := Lib.hid hb6
                have H86 := Lib.hid h86
                clear hu hn1 r1 r2 hw6 hl6 hb6 h86 hz6 hlit
                go_wp2_with (first | (at_builtin; rw [← HW6.out]; refine wpList_append_files rfl _ _ rfl rfl rfl (HL6.out.alloc _) (gs := [(x, ⟨⟨b.take kk, kk, true⟩, A5, c5⟩)]) rfl (lit_reads HLI.out (by simp only [rcell]; rw [HBL.out])) ?c1 (Nat.le_trans hs6 hal.size) ?_))
                case c1 => have := HLN.out; simp only [List.length_singleton]; omega
                intro v7 w7 ho7 hg7
                have hb7 := (HB6.out.alloc hs6 (.cells #[.string ⟨x.toArray⟩, .slice A5 kk c5, .int .i64 (kk : Nat), .bool true] 61)).grown hg7 (Nat.le_trans hs6 hal.size) (fun k hk => (HL6.out.lt k hk).1)
                have hy7 : ∀ y ∈ E1 ++ [(x, (⟨⟨b.take kk, kk, true⟩, A5, c5⟩ : FV))], Bytes8 w7 y.2 := fun y hy => by
                  rcases List.mem_append.1 hy with hy | hy
                  · exact ((H86.out _ (HY5.out y hy)).below hal).grown (HL6.out.alloc _) hg7
                  · rw [List.mem_singleton] at hy
                    subst hy
                    exact ((H86.out _ H85.out).below hal).grown (HL6.out.alloc _) hg7
                have HO7 := Lib.hid ho7
                have HB7 := Lib.hid hb7
                have HY7 := Lib.hid hy7
                clear ho7 hg7 hb7 hy7 hal
                go_wp2
                go_roundw
                case rel => exact ⟨j + 1, E1 ++ [(x, ⟨⟨b.take kk, kk, true⟩, A5, c5⟩)], _, rfl, by go_num, by omega, by rw [HU1.out]; go_num, HN1, HO7, HY7, HB7⟩
                case measure => simp [intOf]; omega
    · obtain rfl : j = es.length := by omega
      have hRr := H.out.below hb.out
      have f1 := hRr.cells.frozen 1
      have f2 := hRr.cells.frozen 2
      have f3 := hRr.cells.frozen 3
      have c1 := hRr.c1
      have c2 := hRr.c2
      have c3 := hRr.c3
      obtain ⟨AL, cL, rfl, _, _⟩ := hl1.out.reads
      go_wp2
      go_end0
      have t3 : TBut B q wr _ := (((TBut.refl B q wr).set_ 1 (.slice AL E1.length cL)).set_ 3 (.bool false)).set_ 2 (.int .i64 (-1))
      have hc3 := ((hRr.cells.set_ 1 (.slice AL E1.length cL)).set_ 3 (.bool false)).set_ 2 (.int .i64 (-1))
      have hqf : ∀ g, (Value.slice AL E1.length cL).ownBlock = some g → g ≠ q := fun g hg => by have := (hl1.out.lt g hg).1; omega
      have hup : Up E1 := by
        rw [← up_fmap (g := FV.m), he1.out]
        exact up_restartL keep _ 0 (up_fmap.2 (by rw [List.take_of_length_le (Nat.le_refl _)]; exact HU.out))
      have hfr : FRow _ B (.slice AL E1.length cL) E1 := (hl1.out.mono HB.out).keep fun g hg => ((Below.heap_setCell _ ⟨q, 2, none⟩ (.int .i64 (-1)) g (hqf g hg)).trans (Below.heap_setCell _ ⟨q, 3, none⟩ (.bool false) g (hqf g hg))).trans (Below.heap_setCell _ ⟨q, 1, none⟩ (.slice AL E1.length cL) g (hqf g hg))
      have h9 := hRr.turn t3 hc3 hfr hup (fun x hx => .inr ((hb1.out x hx).tbut (by decide) hRr.cells t3))
      refine ⟨rfl, ⟨_, E1, ?_, h9⟩, (TBut.of_below hb.out).trans t3⟩
      show restartL keep 0 (fmap FV.m es) = _
      rw [he1.out, List.take_of_length_le (Nat.le_refl _)]
end Go.Proofs.Ytplbclbeccoegaa
