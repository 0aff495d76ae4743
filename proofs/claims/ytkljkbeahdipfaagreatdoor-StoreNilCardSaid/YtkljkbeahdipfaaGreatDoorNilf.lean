/-
  Walk: store.Whole.
-/
import Derived.Test.YtkljkbeahdipfaaGreatDoorNile
import Derived.Lib.AtoiAll
import Derived.Sort.OwnSortedInts
import Derived.Sort.OwnSorted
import Derived.Shelf.SortM.Plain
import Derived.Shelf.SortM.SortNone
import Derived.Maps.RangeWalk
import Derived.Sort.KeysCollected
namespace Go.Proofs.YtkljkbeahdipfaaGreatDoor
open Go.RowKit
set_option linter.unusedSimpArgs false
set_option linter.unusedVariables false
set_option linter.unusedSimpArgs false
set_option linter.unusedVariables false
theorem whole_noread {d : DiskM} {n : Nat} (h : ¬ (fileD d kLog n).2 = 0) : wholeD d n = (boxZ, (fileD d kLog n).2) := by unfold wholeD; rw [if_neg h]
theorem whole_bad {d : DiskM} {n : Nat} (h : (fileD d kLog n).2 = 0) (hw : wholeOk d n = false) : wholeD d n = (boxZ, 9) := by
 unfold wholeD
 rw [if_pos h, if_neg (fun hh => by rw [hw] at hh; cases hh.1)]
theorem whole_wrong {d : DiskM} {n : Nat} (h : (fileD d kLog n).2 = 0) (hw : rightB (boxF (readL (fileD d kLog n).1) (flagsOr (flagsD d n)).2) = false) : wholeD d n = (boxZ, 9) := by
 unfold wholeD
 rw [if_pos h, if_neg (fun hh => by rw [hw] at hh; cases hh.2)]
theorem whole_fine {d : DiskM} {n : Nat} (h : (fileD d kLog n).2 = 0) (hw : wholeOk d n = true) (hr : rightB (boxF (readL (fileD d kLog n).1) (flagsOr (flagsD d n)).2) = true) : wholeD d n = (boxF (readL (fileD d kLog n).1) (flagsOr (flagsD d n)).2, 0) := by
 unfold wholeD
 rw [if_pos h, if_pos ⟨hw, hr⟩]
/-- a mailbox in memory -/
structure BoxAt (B : Nat) (w : World) (v : Value) (b : BoxB) : Prop where
 ex : ∃ V M, v = .agg #[.string b.nm, .int .u32 (b.ep : Nat), .int .u32 (b.nx : Nat), V] ∧ OwnR msgSh B w V M ∧ M.map msgB = b.msgs ∧ ∀ m ∈ M, CapOk m
theorem BoxAt.zero (B : Nat) (w : World) : BoxAt B w (.agg #[.string ⟨#[]⟩, .int .u32 0, .int .u32 0, .slice none 0 0]) boxZ := ⟨_, [], rfl, OwnR.nil _ _, rfl, fun _ h => (by cases h)⟩
theorem idx_named {l : LogT} (h : (idxL l).err = 0) : noIdx (cleanS l.s) l.s.nm = false := by
 cases hn : noIdx (cleanS l.s) l.s.nm with
 | false => rfl
 | true =>
   exfalso
   unfold IdxT.err idxL at h
   rw [hn, cond_true] at h
   revert h
   decide
theorem boxF_clean {l : LogT} (h : cleanS l.s = true) (fs : List MarkM) : boxF l fs = ⟨l.s.nm, l.s.ep, l.s.nx, putF fs (l.s.live.map bare4)⟩ := by
 unfold boxF boxS
 rw [h]
 rfl
theorem zip_step {M : List MsgV} {fs : List MarkM} {j : Nat} {m : MsgV} {f : MarkM} (hm : M[j]? = some m) (hf : fs[j]? = some f) (hl : fs.length = M.length) :
 let g := fun (m : MsgV) (f : MarkM) => (⟨m.uid, m.date, f.2, m.a, m.c, m.b⟩ : MsgV)
 (List.zipWith g (M.take j) (fs.take j) ++ M.drop j)[j]? = some m ∧ (List.zipWith g (M.take j) (fs.take j) ++ M.drop j).set j (g m f) = List.zipWith g (M.take (j + 1)) (fs.take (j + 1)) ++ M.drop (j + 1) := by
 intro g
 have hj := (List.getElem?_eq_some_iff.1 hm).1
 have he := (List.getElem?_eq_some_iff.1 hm).2
 have hl2 : (List.zipWith g (M.take j) (fs.take j)).length = j := by rw [List.length_zipWith, List.length_take, List.length_take]; omega
 have hd : M.drop j = m :: M.drop (j + 1) := by rw [List.drop_eq_getElem_cons hj, he]
 have ht : List.zipWith g (M.take (j + 1)) (fs.take (j + 1)) = List.zipWith g (M.take j) (fs.take j) ++ [g m f] := by
  rw [List.take_add_one, List.take_add_one, hm, hf]
  rw [List.zipWith_append (by rw [List.length_take, List.length_take]; omega)]
  rfl
 rw [ht, hd]
 refine ⟨?_, ?_⟩
 ·rw [List.getElem?_append_right (by omega), hl2, Nat.sub_self]; rfl
 ·rw [List.set_append_right _ _ (by omega), hl2, Nat.sub_self]
  simp
theorem zip_msgB (M : List MsgV) (fs : List MarkM) (N : List NoteB) (h : M.map msgB = N.map bare4) : (List.zipWith (fun (m : MsgV) (f : MarkM) => (⟨m.uid, m.date, f.2, m.a, m.c, m.b⟩ : MsgV)) M fs).map msgB = putF fs (N.map bare4) := by
 rw [← h]
 unfold putF
 rw [List.map_zipWith, List.zipWith_map_left]
 rfl
theorem cap_zip {M : List MsgV} {fs : List MarkM} (h : ∀ m ∈ M, CapOk m) : ∀ m ∈ List.zipWith (fun (m : MsgV) (f : MarkM) => (⟨m.uid, m.date, f.2, m.a, m.c, m.b⟩ : MsgV)) M fs, CapOk m := fun m hm => by
 obtain ⟨i, hi, he⟩ := List.getElem_of_mem hm
 rw [List.getElem_zipWith] at he
 rw [← he]
 have hi2 : i < M.length := by rw [List.length_zipWith] at hi; omega
 exact h M[i] (List.getElem_mem hi2)
theorem right_bare (nm : ByteArray) (e nx : Nat) : ∀ (M : List MsgV) (ms : List MsgP), M.map msgB = ms → boxRight nm e nx (ms.map bareM) = boxRight nm e nx M := by
 intro M ms h
 subst h
 unfold boxRight msgsN
 rw [List.length_map, List.length_map]
 congr 1
 have hlast : ∀ j, lastU (List.map bareM (List.map msgB M)) j = lastU M j := fun j => by
  cases j with
  | zero => rfl
  | succ k =>
    show (match (List.map bareM (List.map msgB M))[k]? with | some y => y.uid | none => 0) = (match M[k]? with | some y => y.uid | none => 0)
    rw [List.getElem?_map, List.getElem?_map]
    cases M[k]? <;> rfl
 refine List.all_congr rfl fun j => ?_
 unfold msgAt
 rw [List.getElem?_map, List.getElem?_map]
 cases M[j]? with
 | none => rfl
 | some m =>
   show msgStep nx _ j (bareM (msgB m)) = msgStep nx M j m
   unfold msgStep
   rw [hlast]
   rfl
theorem own_msgs {B : Nat} {w : World} {A : Option Addr} {n c : Nat} {M : List MsgV} (h : OwnR msgSh B w (.slice A n c) M) (hu : ∀ m ∈ M, m.uid < 4294967296) (hc : ∀ m ∈ M, CapOk m) : Msgs w A n M := by
 obtain ⟨A9, c9, e9, hr9, -⟩ := h.reads
 injection e9 with e1 e2 e3
 subst e1 e2
 exact ⟨rfl, hr9.row, fun m hm => hr9.octs m hm (m.a, m.b) (List.mem_singleton.2 rfl), hu, hc⟩
set_option maxRecDepth 100000 in
set_option maxHeartbeats 16000000 in
theorem whole_at {w : World} {p mb N : Nat} {d : DiskM} (h : Dk w p mb d N) (n : Nat) (hn : n < 100) :
 Calls Tryz.prog 22 #[.pointer (some ⟨p, 0, none⟩), .int .i64 (n : Nat)] w fun ev w' => ∃ v, ev = .returned (.tuple #[v, .int .i64 (wholeD d n).2]) ∧ BoxAt w.heap.size w' v (wholeD d n).1 ∧ Below w.heap.size w w' := by
 have hwf := h.wf
 refine calls_at 119 Tryz.func22 rfl rfl (Nat.le_of_ble_eq_true rfl) ?_
 intro a hA; replace hA := hA.norm
 refine wS (wR ?_)
 refine wl_new hA rfl rfl (by decide) (fun ev h => by simp [go_sem]; try first | exact ⟨rfl, rfl⟩ | rfl) fun w1 a (K1 : Blk _ _ _ _) hz1 hb1 hA => ?_
 have HB := hb1
 revert a; refine wo rfl rfl (by decide) (fun ev e h => by simp [go_sem, h] <;> rfl) ?_; intro a hA
 replace hA := hA.keepN [0, 1, 4]
 refine wN (nT (wS (wS (wR ?_))))
 revert a; (iterate 2 refine wo rfl rfl (by decide) (fun ev e h => by simp [go_sem, h] <;> rfl) ?_); intro a hA
 replace hA := hA.keepN [0, 1, 4, 20]
 refine wN (nT ?_)
 refine wp_if hA 20 _ rfl (fun hq => ?yA) (fun hq => ?nA)
 case yA => cases hq
 case nA =>
  refine wp_skip (nT (wS (wR ?_)))
  revert a; (iterate 2 refine wo rfl rfl (by decide) (fun ev e h => by simp [go_sem, h] <;> rfl) ?_); intro a hA
  refine wl_call hA rfl rfl (by decide) (fun ev h => exec_call Tryz.func64 (by kernel_rfl) rfl (h.f _) (by first | (simp only [mL, h.get 24 rfl, h.c] <;> rfl) | (simp [mL, h.get 24 rfl, h.c] <;> rfl))) (file_any kLog (by decide) n hn _) ?_
  rintro e w2 ⟨rfl, hb2⟩
  refine ⟨_, rfl, fun a hA => ?_⟩
  replace K1 := K1.below hb2 K1.lt
  replace HB := HB.trans (hb2.mono HB.size)
  refine wl_call hA rfl rfl (by decide) (fun ev h => exec_call Tryz.func29 (by kernel_rfl) rfl (h.f _) (by first | (simp only [mL, h.get 23 rfl, h.get 25 rfl, h.c] <;> rfl) | (simp [mL, h.get 23 rfl, h.get 25 rfl, h.c] <;> rfl))) ((h.below HB).read (fileK kLog n) (fileK_small (by decide) hn)) ?_
  rintro e w3 ⟨Ab, cb, rfl, hrb, hcb, hb3⟩
  refine ⟨_, rfl, fun a hA => ?_⟩
  replace K1 := K1.below hb3 K1.lt
  replace HB := HB.trans (hb3.mono HB.size)
  have hblen := read_lenD hwf (fileK kLog n)
  obtain ⟨bl, hbl⟩ : ∃ x, (dRead d (fileK kLog n)).1 = x := ⟨_, rfl⟩
  obtain ⟨be, hbe⟩ : ∃ x, (dRead d (fileK kLog n)).2 = x := ⟨_, rfl⟩
  have hfl : (fileD d kLog n).1 = bl := hbl
  have hfe : (fileD d kLog n).2 = be := hbe
  rw [hbl] at hA hrb hcb hblen
  rw [hbe] at hA
  obtain ⟨q, hbq⟩ : ∃ x, bl.length = x := ⟨_, rfl⟩
  rw [hbq] at hA hrb hcb hblen
  revert a; (iterate 5 refine wo rfl rfl (by decide) (fun ev e h => by simp [go_sem, h] <;> rfl) ?_); intro a hA
  replace hA := hA.keepN [0, 1, 4, 6, 7]
  refine wN (nT (wS (wS (wR ?_))))
  revert a; (iterate 2 refine wo rfl rfl (by decide) (fun ev e h => by simp [go_sem, h] <;> rfl) ?_); intro a hA
  replace hA := hA.keepN [0, 1, 4, 6, 7, 30]
  refine wN (nT ?_)
  refine wp_if hA 30 _ rfl (fun hq1 => ?yB) (fun hq1 => ?nB)
  case yB =>
   have hne : ¬ be = 0 := by simpa using hq1
   refine wS (wR ?_)
   revert a; (iterate 2 refine wo rfl rfl (by decide) (fun ev e h => by simp [go_sem, h] <;> rfl) ?_); intro a hA
   refine wl_set [.string ⟨#[]⟩, .int .u32 0, .int .u32 0, .slice none 0 0] hA rfl rfl K1 (by rfl) (fun ev h => by simp [go_sem, h.get 4 rfl, h.get 31 rfl, setAll, K1.cell, K1.frozen]) fun w4 (K1 : Blk _ _ _ _) hs4 => ?_
   revert a; refine wo rfl rfl (by decide) (fun ev e h => by simp [go_sem, h, K1.cell] <;> rfl) ?_; intro a hA
   replace hA := hA.keepN [4, 5]
   refine wN (nT (wp_ret (rT ?_)))
   refine bodyPost_ret (by simp [results, Tryz.results22, go_sem, hA.env 4 _ rfl, hA.env 5 _ rfl, K1.cell]; try first | exact ⟨rfl, rfl⟩ | rfl) hA.defers ?_
   rw [whole_noread (by rw [hfe]; exact hne), hfe]
   exact ⟨_, rfl, BoxAt.zero _ _, hs4.below HB (Nat.le_refl _)⟩
  case nB =>
   have hbe0 : be = 0 := by simpa using hq1
   have hok : (fileD d kLog n).2 = 0 := by rw [hfe, hbe0]
   refine wp_skip (nT (wS (wR ?_)))
   revert a; refine wo rfl rfl (by decide) (fun ev e h => by simp [go_sem, h] <;> rfl) ?_; intro a hA
   refine wl_call hA rfl rfl (by decide) (fun ev h => exec_call Tryz.func59 (by kernel_rfl) rfl (h.f _) (by first | (simp only [mL, h.get 33 rfl, h.c] <;> rfl) | (simp [mL, h.get 33 rfl, h.c] <;> rfl))) (readL_any Ab q cb bl hbq hcb hblen _ (h.below HB).env hrb) ?_
   rintro e w4 ⟨V, rfl, hV, hb4⟩
   refine ⟨_, rfl, fun a hA => ?_⟩
   replace K1 := K1.below hb4 K1.lt
   replace HB := HB.trans (hb4.mono HB.size)
   have HL := Below.refl w4.heap.size w4
   have hV0 := hV
   obtain ⟨l, hl⟩ : ∃ l, readL bl = l := ⟨_, rfl⟩
   rw [hl] at hV hV0
   obtain ⟨A, c, L, rfl, hrL, hlv⟩ := hV.ex
   obtain ⟨b1, b2, b3, b4, b5, b6, b7⟩ := idxL_bd hV0.few hV0.ep hV0.nx fun y hy => (hV0.each y hy).2.2
   obtain ⟨cl, hcl⟩ : ∃ b, cleanS l.s = b := ⟨_, rfl⟩
   obtain ⟨tn, htn⟩ : ∃ t, l.torn = t := ⟨_, rfl⟩
   rw [hcl, htn] at hA
   refine wl_local [.string l.s.nm, .int .u32 (l.s.ep : Nat), .int .u32 (l.s.nx : Nat), .slice A L.length c, .int .i64 (tn : Nat), .bool cl] hA rfl rfl (by decide) (fun ev h => by simp [go_sem]; try first | exact ⟨rfl, rfl⟩ | rfl) rfl rfl (by rfl) (fun w1 g ev hb h => by simp [go_sem, h.get 8 rfl, h.get 34 rfl, setAll, hb.cell, hb.frozen]) fun w5 a (K5 : Blk _ _ _ _) hz5 hb5 hA => ?_
   replace K1 := K1.below hb5 K1.lt
   replace hV0 := hV0.below hb5
   replace HB := HB.trans (hb5.mono HB.size)
   replace HL := HL.trans (hb5.mono HL.size)
   replace hA := hA.keepN [0, 1, 4, 6, 8]
   refine wN (nT (wS (wR ?_)))
   revert a; refine wo rfl rfl (by decide) (fun ev e h => by simp [go_sem, h, K5.cell] <;> rfl) ?_; intro a hA
   have hof := ofL_any hV0
   rw [hcl, htn] at hof
   refine wl_call hA rfl rfl (by decide) (fun ev h => exec_call Tryz.func65 (by kernel_rfl) rfl (h.f _) (by first | (simp only [mL, h.get 36 rfl, h.c] <;> rfl) | (simp [mL, h.get 36 rfl, h.c, K5.cell] <;> rfl))) (hof) ?_
   rintro e w6 ⟨v, u, rfl, hov, hou, hb6⟩
   refine ⟨_, rfl, fun a hA => ?_⟩
   replace K1 := K1.below hb6 K1.lt
   replace K5 := K5.below hb6 K5.lt
   replace HB := HB.trans (hb6.mono HB.size)
   replace HL := HL.trans (hb6.mono HL.size)
   revert a; (iterate 3 refine wo rfl rfl (by decide) (fun ev e h => by simp [go_sem, h, K5.cell] <;> rfl) ?_); intro a hA
   refine wl_new hA rfl rfl (by decide) (fun ev h => by simp [go_sem, K5.cell]; try first | exact ⟨rfl, rfl⟩ | rfl) fun w7 a (K7 : Blk _ _ _ _) hz7 hb7 hA => ?_
   refine wl_new hA rfl rfl (by decide) (fun ev h => by simp [go_sem, K5.cell]; try first | exact ⟨rfl, rfl⟩ | rfl) fun w8 a (K8 : Blk _ _ _ _) hz8 hb8 hA => ?_
   replace K7 := K7.below hb8 K7.lt
   have hb78 := hb7.trans (hb8.mono hb7.size)
   have hxnm : (idxL l).nm.size ≤ 60 := by
    unfold idxL
    cases noIdx (cleanS l.s) l.s.nm with
    | true => exact Nat.zero_le _
    | false => exact hV0.nm
   replace hov := hov.below hb78
   replace K1 := K1.below hb78 K1.lt
   replace K5 := K5.below hb78 K5.lt
   replace HB := HB.trans (hb78.mono HB.size)
   replace HL := HL.trans (hb78.mono HL.size)
   obtain ⟨Av, cv, rfl, -, -⟩ := hov.reads
   obtain ⟨Au, cu, rfl, -, -⟩ := hou.reads
   obtain ⟨X, hX⟩ : ∃ X, idxL l = X := ⟨_, rfl⟩
   obtain ⟨F, hF⟩ : ∃ F, flgL l = F := ⟨_, rfl⟩
   have hnm0 := fun h => idx_named (l := l) h
   rw [hX] at hov hxnm b1 b2 b3 b4 hnm0 hA
   rw [hF] at hA
   obtain ⟨nx9, hnx⟩ : ∃ n, X.l.length = n := ⟨_, rfl⟩
   rw [hnx] at hA hov
   obtain ⟨nf9, hnf9⟩ : ∃ n, F.2.length = n := ⟨_, rfl⟩
   rw [hnf9] at hA
   have s1 := hb1.size
   have s2 := hb2.size
   have s3 := hb3.size
   have s4 := hb4.size
   have s5 := hb5.size
   have s6 := hb6.size
   have K70 := K7
   refine wl_set [.string X.nm, .int .u32 (X.e : Nat), .int .u32 (X.nx : Nat), .int .i64 X.u, .slice Av nx9 cv] hA rfl rfl K7 (by rfl) (fun ev h => by simp [go_sem, h.get 9 rfl, h.get 38 rfl, K5.cell, setAll, K7.cell, K7.frozen]) fun w9 (K7 : Blk _ _ _ _) hs9 => ?_
   replace hov := hov.onlyK hs9 K70 (by decide) rfl
   replace K8 := hs9.blk K8 (by omega)
   replace K1 := hs9.blk K1 (by omega)
   replace K5 := hs9.blk K5 (by omega)
   replace HB := hs9.below HB (by omega)
   replace HL := hs9.below HL (by omega)
   have K80 := K8
   refine wl_set [.int .u32 (F.1 : Nat), .slice Au nf9 cu] hA rfl rfl K8 (by rfl) (fun ev h => by simp [go_sem, h.get 10 rfl, h.get 39 rfl, K5.cell, setAll, K8.cell, K8.frozen]) fun w10 (K8 : Blk _ _ _ _) hs10 => ?_
   replace hov := hov.onlyK hs10 K80 (by decide) rfl
   replace K7 := hs10.blk K7 (by omega)
   replace K1 := hs10.blk K1 (by omega)
   replace K5 := hs10.blk K5 (by omega)
   replace HB := hs10.below HB (by omega)
   replace HL := hs10.below HL (by omega)
   have hrv : RowR enSh w10 Av X.l := by
    obtain ⟨A9, c9, e9, hr9, -⟩ := hov.reads
    injection e9 with e1 e2 e3
    rw [e1]
    exact hr9
   replace hA := hA.keepN [0, 1, 4, 6, 8, 9]
   refine wN (nT (wS (wR ?_)))
   revert a; refine wo rfl rfl (by decide) (fun ev e h => by simp [go_sem, h, K7.cell] <;> rfl) ?_; intro a hA
   have hD10 := h.below HB
   refine wl_call hA rfl rfl (by decide) (fun ev h => exec_call Tryz.func66 (by kernel_rfl) rfl (h.f _) (by first | (simp only [mL, h.get 41 rfl, h.c] <;> rfl) | (simp [mL, h.get 41 rfl, h.c, K7.cell] <;> rfl))) (putIndex_any X.nm Av cv nx9 X.e X.nx X.u X.l w10 hD10.env.max hD10.env.big.2.2 (by omega) b4 b1 b2 hnx (by omega) (by rw [← hnx]; exact hrv.row)) ?_
   rintro e w11 ⟨r, rfl, hor, hb11⟩
   refine ⟨_, rfl, fun a hA => ?_⟩
   replace K1 := K1.below hb11 K1.lt
   replace K5 := K5.below hb11 K5.lt
   replace K7 := K7.below hb11 K7.lt
   replace hrv := hrv.below hb11
   replace HB := HB.trans (hb11.mono HB.size)
   replace HL := HL.trans (hb11.mono HL.size)
   obtain ⟨ie, hie⟩ : ∃ x, X.err = x := ⟨_, rfl⟩
   obtain ⟨ip, hip⟩ : ∃ x, X.page = x := ⟨_, rfl⟩
   rw [show idxErr X.nm X.e X.nx X.u X.l = ie from hie] at hA
   rw [show idxPage X.nm X.e X.nx X.u X.l = ip from hip] at hor
   have hwo : wholeOk d n = ((ie == 0) && cl && (tn == q) && getErr (flagsD d n) == 0 && (ip == (fileD d kIdx n).1) && uidsL X (flagsOr (flagsD d n))) := by
    unfold wholeOk
    rw [hfl, hl, hX, hie, hip, hcl, htn, hbq]
   revert a; (iterate 5 refine wo rfl rfl (by decide) (fun ev e h => by simp [go_sem, h, K5.cell] <;> rfl) ?_); intro a hA
   replace hA := hA.keepN [0, 1, 4, 6, 7, 8, 9, 11]
   refine wN (nT (wS (wS (wR ?_))))
   revert a; (iterate 3 refine wo rfl rfl (by decide) (fun ev e h => by simp [go_sem, h, K5.cell] <;> rfl) ?_); (iterate 3 refine wg _ rfl rfl rfl rfl (by decide) (fun hq ev e h => by simp [go_sem, h, ↓gw_t (beq_t hq), K5.cell] <;> rfl) ?_); refine wko rfl rfl (by decide) rfl rfl rfl ?_; refine wo rfl rfl (by decide) (fun ev e h => by simp [go_sem, h, K5.cell] <;> rfl) ?_; (iterate 2 refine wg _ rfl rfl rfl rfl (by decide) (fun hq ev e h => by simp [go_sem, h, ↓gw_t (beq_t hq), K5.cell] <;> rfl) ?_); intro a hA
   replace hA := hA.keepN [0, 1, 4, 6, 8, 9, 11, 52, 54]
   revert a; (iterate 3 refine wg _ rfl rfl rfl rfl (by decide) (fun hq ev e h => by simp [go_sem, h, ↓gw_t (beq_t hq), K5.cell] <;> rfl) ?_); refine wko rfl rfl (by decide) rfl rfl rfl ?_; intro a hA
   replace hA := hA.keepN [0, 1, 4, 8, 9, 11, 58]
   refine wN (nT ?_)
   refine wp_if hA 58 _ rfl (fun hq2 => ?yC) (fun hq2 => ?nC)
   case yC =>
    have hbad : wholeOk d n = false := by
     rw [hwo, Bool.eq_false_iff]
     intro hw
     simp only [Bool.and_eq_true, beq_iff_eq] at hw
     obtain ⟨⟨⟨⟨⟨a1, a2⟩, a3⟩, a4⟩, a5⟩, a6⟩ := hw
     rw [a1, a2, a3] at hq2
     simp at hq2
    refine wS (wR ?_)
    revert a; refine wo rfl rfl (by decide) (fun ev e h => by simp [go_sem, h, K5.cell] <;> rfl) ?_; intro a hA
    refine wl_set [.string ⟨#[]⟩, .int .u32 0, .int .u32 0, .slice none 0 0] hA rfl rfl K1 (by rfl) (fun ev h => by simp [go_sem, h.get 4 rfl, h.get 59 rfl, K5.cell, setAll, K1.cell, K1.frozen]) fun w12 (K1 : Blk _ _ _ _) hs12 => ?_
    revert a; refine wo rfl rfl (by decide) (fun ev e h => by simp [go_sem, h, K1.cell] <;> rfl) ?_; intro a hA
    replace hA := hA.keepN [4, 5]
    refine wN (nT (wp_ret (rT ?_)))
    refine bodyPost_ret (by simp [results, Tryz.results22, go_sem, hA.env 4 _ rfl, hA.env 5 _ rfl, K1.cell]; try first | exact ⟨rfl, rfl⟩ | rfl) hA.defers ?_
    rw [whole_bad hok hbad]
    exact ⟨_, rfl, BoxAt.zero _ _, hs12.below HB (Nat.le_refl _)⟩
   case nC =>
    have hgood : ie = 0 ∧ cl = true ∧ tn = q := by
     simp at hq2
     refine ⟨hq2.1.1, hq2.1.2, ?_⟩
     have := hq2.2
     omega
    obtain ⟨hie0, hclt, htq⟩ := hgood
    refine wp_skip (nT (wS (wR ?_)))
    revert a; (iterate 2 refine wo rfl rfl (by decide) (fun ev e h => by simp [go_sem, h, K5.cell] <;> rfl) ?_); intro a hA
    refine wl_call hA rfl rfl (by decide) (fun ev h => exec_call Tryz.func64 (by kernel_rfl) rfl (h.f _) (by first | (simp only [mL, h.get 62 rfl, h.c] <;> rfl) | (simp [mL, h.get 62 rfl, h.c, K5.cell] <;> rfl))) (file_any kIdx (by decide) n hn _) ?_
    rintro e w12 ⟨rfl, hb12⟩
    refine ⟨_, rfl, fun a hA => ?_⟩
    have HB12 := HB.trans (hb12.mono HB.size)
    refine wl_call hA rfl rfl (by decide) (fun ev h => exec_call Tryz.func29 (by kernel_rfl) rfl (h.f _) (by first | (simp only [mL, h.get 61 rfl, h.get 63 rfl, h.c] <;> rfl) | (simp [mL, h.get 61 rfl, h.get 63 rfl, h.c, K5.cell] <;> rfl))) ((h.below HB12).read (fileK kIdx n) (fileK_small (by decide) hn)) ?_
    rintro e w13 ⟨Ap, cp, rfl, hrp, hcp, hb13⟩
    refine ⟨_, rfl, fun a hA => ?_⟩
    have hb123 := hb12.trans (hb13.mono hb12.size)
    replace hor := own_below hor hb123
    replace K1 := K1.below hb123 K1.lt
    replace K5 := K5.below hb123 K5.lt
    replace K7 := K7.below hb123 K7.lt
    replace hrv := hrv.below hb123
    replace HB := HB.trans (hb123.mono HB.size)
    replace HL := HL.trans (hb123.mono HL.size)
    obtain ⟨pl, hpl⟩ : ∃ x, (dRead d (fileK kIdx n)).1 = x := ⟨_, rfl⟩
    obtain ⟨pe, hpe⟩ : ∃ x, (dRead d (fileK kIdx n)).2 = x := ⟨_, rfl⟩
    have hfp : (fileD d kIdx n).1 = pl := hpl
    rw [hpl] at hA hrp
    rw [hpe] at hA
    rw [hfp] at hwo
    revert a; (iterate 5 refine wo rfl rfl (by decide) (fun ev e h => by simp [go_sem, h, K5.cell] <;> rfl) ?_); intro a hA
    replace hA := hA.keepN [0, 1, 4, 8, 9, 11, 12]
    refine wN (nT (wS (wR ?_)))
    revert a; (iterate 2 refine wo rfl rfl (by decide) (fun ev e h => by simp [go_sem, h, K5.cell] <;> rfl) ?_); intro a hA
    refine wl_call hA rfl rfl (by decide) (fun ev h => exec_call Tryz.func64 (by kernel_rfl) rfl (h.f _) (by first | (simp only [mL, h.get 69 rfl, h.c] <;> rfl) | (simp [mL, h.get 69 rfl, h.c, K5.cell] <;> rfl))) (file_any kFlg (by decide) n hn _) ?_
    rintro e w14 ⟨rfl, hb14⟩
    refine ⟨_, rfl, fun a hA => ?_⟩
    have HB14 := HB.trans (hb14.mono HB.size)
    refine wl_call hA rfl rfl (by decide) (fun ev h => exec_call Tryz.func29 (by kernel_rfl) rfl (h.f _) (by first | (simp only [mL, h.get 68 rfl, h.get 70 rfl, h.c] <;> rfl) | (simp [mL, h.get 68 rfl, h.get 70 rfl, h.c, K5.cell] <;> rfl))) ((h.below HB14).read (fileK kFlg n) (fileK_small (by decide) hn)) ?_
    rintro e w15 ⟨Ag, cg, rfl, hrg, hcg, hb15⟩
    refine ⟨_, rfl, fun a hA => ?_⟩
    have hb145 := hb14.trans (hb15.mono hb14.size)
    replace hor := own_below hor hb145
    replace hrp := (hrp.below hb145).more hb145.size
    replace K1 := K1.below hb145 K1.lt
    replace K5 := K5.below hb145 K5.lt
    replace K7 := K7.below hb145 K7.lt
    replace hrv := hrv.below hb145
    replace HB := HB.trans (hb145.mono HB.size)
    replace HL := HL.trans (hb145.mono HL.size)
    have hglen := read_lenD hwf (fileK kFlg n)
    obtain ⟨gl, hgl⟩ : ∃ x, (dRead d (fileK kFlg n)).1 = x := ⟨_, rfl⟩
    obtain ⟨ge, hge⟩ : ∃ x, (dRead d (fileK kFlg n)).2 = x := ⟨_, rfl⟩
    have hfg : flagsD d n = getFlagsV gl := by show getFlagsV (dRead d (fileK kFlg n)).1 = _; rw [hgl]
    rw [hgl] at hA hrg hcg hglen
    rw [hge] at hA
    rw [hfg] at hwo
    revert a; (iterate 5 refine wo rfl rfl (by decide) (fun ev e h => by simp [go_sem, h, K5.cell] <;> rfl) ?_); intro a hA
    replace hA := hA.keepN [4, 8, 9, 11, 12, 14]
    refine wN (nT (wS (wR ?_)))
    revert a; refine wo rfl rfl (by decide) (fun ev e h => by simp [go_sem, h, K5.cell] <;> rfl) ?_; intro a hA
    refine wl_call hA rfl rfl (by decide) (fun ev h => exec_call Tryz.func67 (by kernel_rfl) rfl (h.f _) (by first | (simp only [mL, h.get 75 rfl, h.c] <;> rfl) | (simp [mL, h.get 75 rfl, h.c, K5.cell] <;> rfl))) (getFlags_any Ag cg gl.length gl _ rfl (by omega) hcg hrg) ?_
    rintro e w16 ⟨rg, rfl, horg, hb16⟩
    refine ⟨_, rfl, fun a hA => ?_⟩
    replace hor := own_below hor hb16
    replace hrp := (hrp.below hb16).more hb16.size
    replace K1 := K1.below hb16 K1.lt
    replace K5 := K5.below hb16 K5.lt
    replace K7 := K7.below hb16 K7.lt
    replace hrv := hrv.below hb16
    replace HB := HB.trans (hb16.mono HB.size)
    replace HL := HL.trans (hb16.mono HL.size)
    obtain ⟨G, hG⟩ : ∃ G, flagsOr (getFlagsV gl) = G := ⟨_, rfl⟩
    obtain ⟨fe, hfe9⟩ : ∃ x, getErr (getFlagsV gl) = x := ⟨_, rfl⟩
    rw [hG, hfe9] at hA
    rw [hG] at horg
    rw [hG, hfe9] at hwo
    have hoG : OwnR mkSh w15.heap.size w16 rg G.2 := ⟨horg, fun _ _ p hp => (by cases hp), fun _ _ _ _ p hp => (by cases hp)⟩
    obtain ⟨Ar, cr, rfl, hrG, -⟩ := hoG.reads
    obtain ⟨ng, hng⟩ : ∃ n, G.2.length = n := ⟨_, rfl⟩
    rw [hng] at hA
    revert a; (iterate 3 refine wo rfl rfl (by decide) (fun ev e h => by simp [go_sem, h, K5.cell] <;> rfl) ?_); intro a hA
    refine wl_local [.int .u32 (G.1 : Nat), .slice Ar ng cr] hA rfl rfl (by decide) (fun ev h => by simp [go_sem, K5.cell]; try first | exact ⟨rfl, rfl⟩ | rfl) rfl rfl (by rfl) (fun w1 g ev hb h => by simp [go_sem, h.get 16 rfl, h.get 77 rfl, K5.cell, setAll, hb.cell, hb.frozen]) fun w17 a (K17 : Blk _ _ _ _) hz17 hb17 hA => ?_
    replace hor := own_below hor hb17
    replace hrp := (hrp.below hb17).more hb17.size
    replace K1 := K1.below hb17 K1.lt
    replace K5 := K5.below hb17 K5.lt
    replace K7 := K7.below hb17 K7.lt
    replace hrv := hrv.below hb17
    replace hrG := hrG.below hb17
    replace HB := HB.trans (hb17.mono HB.size)
    replace HL := HL.trans (hb17.mono HL.size)
    obtain ⟨Ax, cx, rfl, hrx, hcx⟩ := own8_cap hor
    revert a; refine wo rfl rfl (by decide) (fun ev e h => by simp [go_sem, h, K5.cell] <;> rfl) ?_; intro a hA
    replace hA := hA.keepN [4, 7, 8, 9, 11, 12, 16]
    refine wN (nT (wS (wS (wR ?_))))
    revert a; (iterate 3 refine wo rfl rfl (by decide) (fun ev e h => by simp [go_sem, h, K5.cell] <;> rfl) ?_); (iterate 2 refine wg _ rfl rfl rfl rfl (by decide) (fun hq ev e h => by simp [go_sem, h, ↓gw_t (beq_t hq), K5.cell] <;> rfl) ?_); intro a hA
    refine wl_gcallv _ hA rfl rfl rfl rfl (by decide) (fun hq ev h => exec_call Tryz.func68 (by kernel_rfl) rfl (h.f _) (by first | (simp only [mL, ((h.get 82 rfl).trans (gw_t (beq_t hq))), ((h.get 83 rfl).trans (gw_t (beq_t hq))), h.c] <;> rfl) | (simp [mL, ((h.get 82 rfl).trans (gw_t (beq_t hq))), ((h.get 83 rfl).trans (gw_t (beq_t hq))), h.c, K5.cell] <;> rfl))) (fun hq => (equal_any Ax Ap ip.length cx pl.length cp ip pl _ rfl rfl hrx hrp).mono fun e w9 ⟨h1, h2⟩ => ⟨h1, h2 ▸ Below.refl _ _⟩) fun a w18 hb18 hA => ?_
    replace K1 := K1.below hb18 K1.lt
    replace K5 := K5.below hb18 K5.lt
    replace K7 := K7.below hb18 K7.lt
    replace K17 := K17.below hb18 K17.lt
    replace hrv := hrv.below hb18
    replace hrG := hrG.below hb18
    replace HB := HB.trans (hb18.mono HB.size)
    replace HL := HL.trans (hb18.mono HL.size)
    obtain ⟨eq1, heq1⟩ : ∃ b, (ip == pl) = b := ⟨_, rfl⟩
    rw [heq1] at hA hwo
    revert a; refine wg _ rfl rfl rfl rfl (by decide) (fun hq ev e h => by simp [go_sem, h, ↓gw_t (beq_t hq), K7.cell, K17.cell] <;> rfl) ?_; refine wko rfl rfl (by decide) rfl rfl rfl ?_; refine wo rfl rfl (by decide) (fun ev e h => by simp [go_sem, h, K7.cell, K17.cell] <;> rfl) ?_; (iterate 2 refine wg _ rfl rfl rfl rfl (by decide) (fun hq ev e h => by simp [go_sem, h, ↓gw_t (beq_t hq), K7.cell, K17.cell] <;> rfl) ?_); intro a hA
    replace hA := hA.keepN [4, 8, 16, 87, 88, 89]
    have hui := uids_any X.nm X.e X.nx X.u Av Ar cv cr G.1 X.l G.2 w18 (by omega) hrv hrG
    rw [hnx, hng] at hui
    refine wl_gcallv _ hA rfl rfl rfl rfl (by decide) (fun hq ev h => exec_call Tryz.func69 (by kernel_rfl) rfl (h.f _) (by first | (simp only [mL, ((h.get 88 rfl).trans (gw_t (beq_t hq))), ((h.get 89 rfl).trans (gw_t (beq_t hq))), h.c] <;> rfl) | (simp [mL, ((h.get 88 rfl).trans (gw_t (beq_t hq))), ((h.get 89 rfl).trans (gw_t (beq_t hq))), h.c, K7.cell, K17.cell] <;> rfl))) (fun hq => hui) fun a w19 hb19 hA => ?_
    replace K1 := K1.below hb19 K1.lt
    replace K5 := K5.below hb19 K5.lt
    replace K17 := K17.below hb19 K17.lt
    replace hrG := hrG.below hb19
    replace HB := HB.trans (hb19.mono HB.size)
    replace HL := HL.trans (hb19.mono HL.size)
    obtain ⟨ud, hud⟩ : ∃ b, (X.e == G.1 && sameK X.l G.2) = b := ⟨_, rfl⟩
    have hud2 : uidsL X G = ud := hud
    rw [hud] at hA
    rw [hud2] at hwo
    revert a; refine wg _ rfl rfl rfl rfl (by decide) (fun hq ev e h => by simp [go_sem, h, ↓gw_t (beq_t hq), K7.cell, K17.cell] <;> rfl) ?_; refine wko rfl rfl (by decide) rfl rfl rfl ?_; intro a hA
    replace hA := hA.keepN [4, 8, 16, 92]
    refine wN (nT ?_)
    refine wp_if hA 92 _ rfl (fun hq3 => ?yD) (fun hq3 => ?nD)
    case yD =>
     have hbad : wholeOk d n = false := by
      rw [hwo, Bool.eq_false_iff]
      intro hw
      simp only [Bool.and_eq_true, beq_iff_eq] at hw
      obtain ⟨⟨⟨⟨⟨a1, a2⟩, a3⟩, a4⟩, a5⟩, a6⟩ := hw
      rw [a4, a5, a6] at hq3
      simp at hq3
     refine wS (wR ?_)
     revert a; refine wo rfl rfl (by decide) (fun ev e h => by simp [go_sem, h, K7.cell, K17.cell] <;> rfl) ?_; intro a hA
     refine wl_set [.string ⟨#[]⟩, .int .u32 0, .int .u32 0, .slice none 0 0] hA rfl rfl K1 (by rfl) (fun ev h => by simp [go_sem, h.get 4 rfl, h.get 93 rfl, K7.cell, K17.cell, setAll, K1.cell, K1.frozen]) fun w20 (K1 : Blk _ _ _ _) hs20 => ?_
     revert a; refine wo rfl rfl (by decide) (fun ev e h => by simp [go_sem, h, K1.cell] <;> rfl) ?_; intro a hA
     replace hA := hA.keepN [4, 5]
     refine wN (nT (wp_ret (rT ?_)))
     refine bodyPost_ret (by simp [results, Tryz.results22, go_sem, hA.env 4 _ rfl, hA.env 5 _ rfl, K1.cell]; try first | exact ⟨rfl, rfl⟩ | rfl) hA.defers ?_
     rw [whole_bad hok hbad]
     exact ⟨_, rfl, BoxAt.zero _ _, hs20.below HB (Nat.le_refl _)⟩
    case nD =>
     have hgood : fe = 0 ∧ eq1 = true ∧ ud = true := by
      simp at hq3
      exact ⟨hq3.1.1, hq3.1.2, hq3.2⟩
     have hall : wholeOk d n = true := by
      rw [hwo, hie0, hclt, htq, hgood.1, hgood.2.1, hgood.2.2]
      simp
     have hie9 : (idxL l).err = 0 := by rw [hX, hie, hie0]
     have hno := idx_named hie9
     have hXl : X.l = l.s.live.map entN := by rw [← hX]; unfold idxL; rw [hno]; rfl
     have hclean : cleanS l.s = true := by rw [hcl, hclt]
     have hud9 : (X.e == G.1 && sameK X.l G.2) = true := by rw [hud, hgood.2.2]
     have hlenG : G.2.length = l.s.live.length := by
      simp only [Bool.and_eq_true] at hud9
      have h1 := hud9.2
      unfold sameK at h1
      have h2 := congrArg List.length (beq_iff_eq.1 h1)
      rw [List.length_map, List.length_map, hXl, List.length_map] at h2
      exact h2.symm
     have hLl : L.length = l.s.live.length := by have := congrArg List.length hlv; rw [List.length_map, List.length_map] at this; exact this
     have hfew9 := hV0.few
     have hbx := box_anyC l.s (tn : Nat) A c L.length L w19 (by omega) rfl (hrL.below HL) (fun x hx => by
      have h2 : liveL x ∈ l.s.live.map noteL := by rw [← hlv]; exact List.mem_map_of_mem hx
      obtain ⟨y, hy, e⟩ := List.mem_map.1 h2
      have h3 := congrArg (fun q : Nat × Nat × Int × Int × List UInt8 × Nat => q.2.2.2.2.1) e
      have h4 : y.o = x.m.b := h3
      have := (hV0.each y hy).1
      rw [← h4]
      omega) hlv hV0.ep
     have hbS : boxS l.s = ⟨l.s.nm, l.s.ep, l.s.nx, l.s.live.map bare4⟩ := by unfold boxS; rw [hclean]; rfl
     rw [hcl, hbS] at hbx
     refine wp_skip (nT (wS (wR ?_)))
     revert a; refine wo rfl rfl (by decide) (fun ev e h => by simp [go_sem, h, K5.cell] <;> rfl) ?_; intro a hA
     refine wl_call hA rfl rfl (by decide) (fun ev h => exec_call Tryz.func70 (by kernel_rfl) rfl (h.f _) (by first | (simp only [mL, h.get 94 rfl, h.c] <;> rfl) | (simp [mL, h.get 94 rfl, h.c, K5.cell] <;> rfl))) (hbx) ?_
     rintro e w20 ⟨vM, M, rfl, hoM, hM, hcap, hb20⟩
     refine ⟨_, rfl, fun a hA => ?_⟩
     have hM : M.map msgB = l.s.live.map bare4 := hM
     have hMl : M.length = l.s.live.length := by have := congrArg List.length hM; rw [List.length_map, List.length_map] at this; exact this
     obtain ⟨Am, cm, rfl, -, -⟩ := hoM.reads
     obtain ⟨mq, hmq⟩ : ∃ x, M.length = x := ⟨_, rfl⟩
     rw [hmq] at hA hoM
     have s19 := HB.size
     refine wl_local [.string l.s.nm, .int .u32 (l.s.ep : Nat), .int .u32 (l.s.nx : Nat), .slice Am mq cm] hA rfl rfl (by decide) (fun ev h => by simp [go_sem, K5.cell]; try first | exact ⟨rfl, rfl⟩ | rfl) rfl rfl (by rfl) (fun w1 g ev hb h => by simp [go_sem, h.get 17 rfl, h.get 95 rfl, K5.cell, setAll, hb.cell, hb.frozen]) fun w21 a (K21 : Blk _ _ _ _) hz21 hb21 hA => ?_
     replace hoM := hoM.below hb21
     have H19 := hb20.trans (hb21.mono hb20.size)
     replace hA := hA.keepN [4, 16, 17]
     refine wN (nT (wS (wS (wR ?_))))
     revert a; (iterate 4 refine wo rfl rfl (by decide) (fun ev e h => by simp [go_sem, h, K21.cell] <;> rfl) ?_); intro a hA
     replace hA := hA.keepN [4, 16, 17, 98, 99]
     refine wN (nT (wB ?_))
     refine wp_loop_at (fun f a wx => ∃ (j : Nat), j + f = mq ∧ OwnR msgSh w19.heap.size wx (.slice Am mq cm) (List.zipWith (fun (m : MsgV) (f : MarkM) => (⟨m.uid, m.date, f.2, m.a, m.c, m.b⟩ : MsgV)) (M.take j) (G.2.take j) ++ M.drop j) ∧ Blk wx w20.heap.size 41 #[.string l.s.nm, .int .u32 (l.s.ep : Nat), .int .u32 (l.s.nx : Nat), .slice Am mq cm] ∧ Below w19.heap.size w19 wx ∧ At 119 [(4, .pointer (some ⟨w.heap.size, 0, none⟩)), (16, .pointer (some ⟨w16.heap.size, 0, none⟩)), (17, .pointer (some ⟨w20.heap.size, 0, none⟩)), (98, .int .i64 (mq : Nat)), (99, .int .i64 (j : Nat))] a) (mq) ?_ ?_
     ·exact ⟨0, by omega, by simpa using hoM, K21, H19, hA⟩
     clear hA hoM K21 H19
     rintro f a wx ⟨j, hjf, hoM, K21, H19, hA⟩
     have K1x := K1.below H19 K1.lt
     have K17x := K17.below H19 K17.lt
     have hrGx := hrG.below H19
     have HBx := HB.trans (H19.mono HB.size)
     have jw : IntKind.i64.wrap ((j : Int) + 1) = ((j + 1 : Nat) : Int) := IntWalk.i64_in _ (by omega)
     refine wS (wR ?_)
     revert a; refine wo rfl rfl (by decide) (fun ev e h => by simp [go_sem, h] <;> rfl) ?_; intro a hA
     replace hA := hA.keepN [4, 16, 17, 98, 99, 100]
     refine wN (nT (wS ?_))
     refine wp_if hA 100 _ rfl (fun hq4 => ?yE) (fun hq4 => ?nE)
     case yE =>
      have hj : j < mq := by simp at hq4; omega
      have jj0 : (0 : Int) ≤ (j : Int) := by omega
      have jj1 : (j : Int) < (mq : Int) := by omega
      have jj2 : (j : Int) < (ng : Int) := by omega
      have jj3 : j < ng := by omega
      obtain ⟨m, hm⟩ : ∃ m, M[j]? = some m := ⟨_, List.getElem?_eq_getElem (by omega)⟩
      obtain ⟨g9, hg9⟩ : ∃ g9, G.2[j]? = some g9 := ⟨_, List.getElem?_eq_getElem (by omega)⟩
      obtain ⟨hmx, hset⟩ := zip_step hm hg9 (by omega)
      obtain ⟨M9, hM9⟩ : ∃ M9, List.zipWith (fun (m : MsgV) (f : MarkM) => (⟨m.uid, m.date, f.2, m.a, m.c, m.b⟩ : MsgV)) (M.take j) (G.2.take j) ++ M.drop j = M9 := ⟨_, rfl⟩
      rw [hM9] at hmx hset hoM
      obtain ⟨g, c9, hv9, hgB, hglt⟩ := hoM.at_ (by have := (List.getElem?_eq_some_iff.1 hmx).1; omega)
      have hAm : Am = some ⟨g, 0, none⟩ := by injection hv9
      rw [hAm] at hoM
      obtain ⟨ag, hAr, hagb, -, q1⟩ := hrGx.cell hg9
      have y1 : wx.cell? ⟨(ag.add (j * 2)).block, (ag.add (j * 2)).off + 1, none⟩ = some (.int .i64 g9.2) := q1 1 _ (by decide) rfl
      have hgne : g ≠ w20.heap.size := own_ne hoM.row K21 (by decide) g rfl
      refine wp_skip (nT (wS (wB (wS (wR ?_)))))
      revert a; (iterate 2 refine wo rfl rfl (by decide) (fun ev e h => by simp [go_sem, h] <;> rfl) ?_); intro a hA
      replace hA := hA.keepN [4, 16, 17, 18, 98, 99]
      have pR20 := fun (wo : World) (hC : (fun wy => Below wx.heap.size wx wy) wo) => have Ky := K21.below hC K21.lt; have Kz := K17x.below hC K17x.lt; have yy := (hC.cell (p := ⟨(ag.add (j * 2)).block, (ag.add (j * 2)).off + 1, none⟩) (by show (ag.add (j * 2)).block < _; rw [block_of_add]; exact hagb)).trans y1; And.intro (Ky.cell) (And.intro (Kz.cell) (yy))
      refine wN (nT ?_)
      refine wp_region_split 9 ?_
      simp only [List.take_succ_cons, List.take_zero, List.drop_succ_cons, List.drop_zero]
      refine wp_any_split_at hA [(.det ?dR200), (.det ?dR201), (.det ?dR202), (.det ?dR203), (.det ?dR204), (.det ?dR205), (.det ?dR206), (.det ?dR207), (.det ?dR208)] [] (fun wy => Below wx.heap.size wx wy) (TSp [] Grows) (by kernel_rfl) rfl (by kernel_rfl) (by kernel_rfl) rfl (by kernel_rfl) (by kernel_rfl) (by kernel_rfl) (by kernel_rfl) ((Below.refl _ _).drew) (stab_sp [] [true, true, true, true, true, true, true, true, true] [true, true, true, true, true, true, true, true, true] [] rfl rfl rfl (by kernel_rfl) ⟨trivial, trivial, trivial, trivial, trivial, trivial, trivial, trivial, trivial, trivial⟩ trivial) (fun _ h => by cases h) (fun _ _ _ _ _ h => by cases h) (fun _ h => by cases h) ⟨?oR200, ?oR201, ?oR202, ?oR203, ?oR204, ?oR205, ?oR206, ?oR207, ?oR208, trivial⟩ (by kernel_rfl) ?fR20
      case oR200 => intro ev wo hev hC hs hph; have x0 := se hA hs 17; exact od rfl rfl (by kernel_rfl) hC (TSp.of rfl (Grows.refl _)) (by simp [go_sem, x0] <;> rfl)
      case oR201 => intro ev wo hev hC hs hph; have x0 := sd hs 102 0; exact od rfl rfl (by kernel_rfl) hC (TSp.of rfl (Grows.refl _)) (by simp [go_sem, x0, pR20 _ hC] <;> rfl)
      case oR202 => intro ev wo hev hC hs hph; have x0 := se hA hs 18; exact od rfl rfl (by kernel_rfl) hC (TSp.of rfl (Grows.refl _)) (by simp [go_sem, x0] <;> rfl)
      case oR203 => intro ev wo hev hC hs hph; have x0 := se hA hs 16; exact od rfl rfl (by kernel_rfl) hC (TSp.of rfl (Grows.refl _)) (by simp [go_sem, x0] <;> rfl)
      case oR204 => intro ev wo hev hC hs hph; have x0 := sd hs 105 3; exact od rfl rfl (by kernel_rfl) hC (TSp.of rfl (Grows.refl _)) (by simp [go_sem, x0, pR20 _ hC] <;> rfl)
      case oR205 => intro ev wo hev hC hs hph; have x0 := se hA hs 18; exact od rfl rfl (by kernel_rfl) hC (TSp.of rfl (Grows.refl _)) (by simp [go_sem, x0] <;> rfl)
      case oR206 => intro ev wo hev hC hs hph; have x0 := sd hs 106 4; have x1 := sd hs 107 5; exact od rfl rfl (by kernel_rfl) hC (TSp.of rfl (Grows.refl _)) (by simp [go_sem, x0, x1, hAr, jj0, jj2, jj3] <;> rfl)
      case oR207 => intro ev wo hev hC hs hph; have x0 := sd hs 108 6; exact od rfl rfl (by kernel_rfl) hC (TSp.of rfl (Grows.refl _)) (by simp [go_sem, x0] <;> rfl)
      case oR208 => intro ev wo hev hC hs hph; have x0 := sd hs 109 7; exact od rfl rfl (by kernel_rfl) hC (TSp.of rfl (Grows.refl _)) (by simp [go_sem, x0, pR20 _ hC] <;> rfl)
      intro sg wf hC hph
      intro a hA
      replace hA := hA.keepN [4, 16, 17, 98, 99, 103, 104, 110]
      replace hoM := hoM.below hC
      replace K21 := K21.below hC K21.lt
      replace H19 := H19.trans (hC.mono H19.size)
      obtain ⟨h8, h9⟩ := hoM.put1 (j := 2) (x := (⟨m.uid, m.date, g9.2, m.a, m.c, m.b⟩ : MsgV)) (u := .int .i64 g9.2) hmx (by decide) rfl rfl
      have z2 : wf.cell? ⟨g, j * 4 + 2, none⟩ = some (.int .i64 m.flags) := hoM.cellAt (j := 2) hmx rfl
      revert a; (iterate 2 refine wo rfl rfl (by decide) (fun ev e h => by simp [go_sem, h, hAm, add0, jj0, jj1, hj, z2, hoM.frozenAt] <;> rfl) ?_); intro a hA
      refine wl_skip hA rfl rfl (fun ev h => by simp [go_sem, h.get 112 rfl, h.get 110 rfl, hAm, add0, jj0, jj1, hj, z2, hoM.frozenAt]; try first | exact ⟨rfl, rfl⟩ | rfl) ?_
      replace hA := hA.keepN [4, 16, 17, 98, 99]
      refine wN (nB (nT (wR ?_)))
      revert a; (iterate 2 refine wo rfl rfl (by decide) (fun ev e h => by simp [go_sem, h, jw] <;> rfl) ?_); intro a hA
      replace hA := hA.keepN [4, 16, 17, 98, 99]
      refine wN (nT ?_)
      refine ⟨f - 1, by omega, j + 1, by omega, ?_, K21.grown h9 (fun e => ?_), H19.grown h9 H19.size (fun k e => ?_), hA⟩
      ·rw [← hset, hAm]
       exact h8
      ·injection e with e
       exact hgne e.symm
      ·injection e with e
       omega
     case nE =>
      have hj : j = mq := by simp at hq4; omega
      rw [hj, ← hmq, List.take_length, List.drop_length, List.append_nil, hmq, List.take_of_length_le (by omega)] at hoM
      obtain ⟨M2, hM2⟩ : ∃ M2, List.zipWith (fun (m : MsgV) (f : MarkM) => (⟨m.uid, m.date, f.2, m.a, m.c, m.b⟩ : MsgV)) M G.2 = M2 := ⟨_, rfl⟩
      have hcap2 := cap_zip (fs := G.2) hcap
      have hB2 := zip_msgB M G.2 l.s.live hM
      rw [hM2] at hoM hcap2 hB2
      have hM2l : M2.length = mq := by rw [← hM2, List.length_zipWith]; omega
      have hu2 : ∀ m ∈ M2, m.uid < 4294967296 := fun m hm => by
       rw [← hM2] at hm
       obtain ⟨i, hi, he⟩ := List.getElem_of_mem hm
       rw [List.getElem_zipWith] at he
       have hi2 : i < M.length := by rw [List.length_zipWith] at hi; omega
       have h3 : (msgB M[i]) ∈ M.map msgB := List.mem_map_of_mem (List.getElem_mem hi2)
       rw [hM] at h3
       obtain ⟨y, hy, e⟩ := List.mem_map.1 h3
       have h4 : y.u = M[i].uid := congrArg (fun q : Nat × Int × Int × List UInt8 => q.1) e
       have h5 := (hV0.each y hy).2.2
       rw [← he]
       show M[i].uid < _
       omega
      have hms := own_msgs hoM hu2 hcap2
      have hrb : rightB (boxF (readL (fileD d kLog n).1) (flagsOr (flagsD d n)).2) = boxRight l.s.nm l.s.ep l.s.nx M2 := by
       rw [hfl, hl, hfg, hG, boxF_clean hclean]
       exact right_bare l.s.nm l.s.ep l.s.nx M2 _ hB2
      have hfin : boxF (readL (fileD d kLog n).1) (flagsOr (flagsD d n)).2 = ⟨l.s.nm, l.s.ep, l.s.nx, putF G.2 (l.s.live.map bare4)⟩ := by
       rw [hfl, hl, hfg, hG, boxF_clean hclean]
      have hEx := (h.below HBx).env
      replace hA := hA.keepN [4, 17]
      refine wp_exit (xT (xT (xB (nT (wS (wS (wR ?_)))))))
      revert a; refine wo rfl rfl (by decide) (fun ev e h => by simp [go_sem, h, K21.cell] <;> rfl) ?_; intro a hA
      refine wl_call hA rfl rfl (by decide) (fun ev h => exec_call Tryz.func71 (by kernel_rfl) rfl (h.f _) (by first | (simp only [mL, h.get 114 rfl, h.c] <;> rfl) | (simp [mL, h.get 114 rfl, h.c, K21.cell] <;> rfl))) (right_any l.s.nm Am cm mq l.s.ep l.s.nx M2 wx hEx.max hEx.big.2.2 hEx.tab (by have := hV0.nm; omega) (by omega) hms) ?_
      rintro e w22 ⟨rfl, hb22⟩
      refine ⟨_, rfl, fun a hA => ?_⟩
      replace K1x := K1x.below hb22 K1x.lt
      replace K21 := K21.below hb22 K21.lt
      replace hoM := hoM.below hb22
      replace HBx := HBx.trans (hb22.mono HBx.size)
      obtain ⟨br, hbr⟩ : ∃ b, boxRight l.s.nm l.s.ep l.s.nx M2 = b := ⟨_, rfl⟩
      rw [hbr] at hA hrb
      revert a; refine wo rfl rfl (by decide) (fun ev e h => by simp [go_sem, h, K21.cell] <;> rfl) ?_; intro a hA
      replace hA := hA.keepN [4, 17, 116]
      refine wN (nT ?_)
      refine wp_if hA 116 _ rfl (fun hq5 => ?yI) (fun hq5 => ?nI)
      case yI =>
       have hb0 : br = false := by simpa using hq5
       refine wS (wR ?_)
       revert a; refine wo rfl rfl (by decide) (fun ev e h => by simp [go_sem, h, K21.cell] <;> rfl) ?_; intro a hA
       refine wl_set [.string ⟨#[]⟩, .int .u32 0, .int .u32 0, .slice none 0 0] hA rfl rfl K1x (by rfl) (fun ev h => by simp [go_sem, h.get 4 rfl, h.get 117 rfl, K21.cell, setAll, K1x.cell, K1x.frozen]) fun w23 (K1x : Blk _ _ _ _) hs23 => ?_
       revert a; refine wo rfl rfl (by decide) (fun ev e h => by simp [go_sem, h, K1x.cell] <;> rfl) ?_; intro a hA
       replace hA := hA.keepN [4, 5]
       refine wN (nT (wp_ret (rT ?_)))
       refine bodyPost_ret (by simp [results, Tryz.results22, go_sem, hA.env 4 _ rfl, hA.env 5 _ rfl, K1x.cell]; try first | exact ⟨rfl, rfl⟩ | rfl) hA.defers ?_
       rw [whole_wrong hok (by rw [hrb, hb0])]
       exact ⟨_, rfl, BoxAt.zero _ _, hs23.below HBx (Nat.le_refl _)⟩
      case nI =>
       have hb1t : br = true := by simpa using hq5
       refine wp_skip (nT (wS (wR ?_)))
       revert a; refine wo rfl rfl (by decide) (fun ev e h => by simp [go_sem, h, K21.cell] <;> rfl) ?_; intro a hA
       have K1o := K1x
       refine wl_set [.string l.s.nm, .int .u32 (l.s.ep : Nat), .int .u32 (l.s.nx : Nat), .slice Am mq cm] hA rfl rfl K1x (by rfl) (fun ev h => by simp [go_sem, h.get 4 rfl, h.get 118 rfl, K21.cell, setAll, K1x.cell, K1x.frozen]) fun w23 (K1x : Blk _ _ _ _) hs23 => ?_
       revert a; refine wo rfl rfl (by decide) (fun ev e h => by simp [go_sem, h, K1x.cell] <;> rfl) ?_; intro a hA
       replace hA := hA.keepN [4, 5]
       refine wN (nT (wp_ret ?_))
       refine bodyPost_ret (by simp [results, Tryz.results22, go_sem, hA.env 4 _ rfl, hA.env 5 _ rfl, K1x.cell]; try first | exact ⟨rfl, rfl⟩ | rfl) hA.defers ?_
       rw [whole_fine hok hall (by rw [hrb, hb1t]), hfin]
       exact ⟨_, rfl, ⟨⟨_, M2, rfl, (hoM.onlyK hs23 K1o (by decide) rfl).mono s19, hB2, hcap2⟩⟩, hs23.below HBx (Nat.le_refl _)⟩
end Go.Proofs.YtkljkbeahdipfaaGreatDoor
/-
  Plainly: the numbers of the logs that a disk has.
-/
namespace Go.Proofs.YtkljkbeahdipfaaGreatDoor
open Go.RowKit
def kLogDot : Key := [108, 111, 103, 46]
/-- the number that a log's name says -/
def logNum (s : Key) : Option Nat := if Lib.hasPrefix s kLogDot = true then (match Lib.atoiAll (Lib.trimPrefix s kLogDot) with
    | .ok n => if 0 ≤ n ∧ n < 16 ∧ Lib.decDigits n.toNat = Lib.trimPrefix s kLogDot then some n.toNat else none
    | _ => none) else none
theorem atoi_16 : ∀ k : Fin 16, Lib.atoiAll (Lib.decDigits k.1) = .ok (k.1 : Int) := by decide +kernel
theorem prefix_iff (s p : Key) : Lib.hasPrefix s p = true ↔ ∃ t, s = p ++ t := by
 unfold Lib.hasPrefix
 rw [List.isPrefixOf_iff_prefix]
 exact ⟨fun ⟨t, h⟩ => ⟨t, h.symm⟩, fun ⟨t, h⟩ => ⟨t, h.symm⟩⟩
theorem trim_app (p t : Key) : Lib.trimPrefix (p ++ t) p = t := by
 unfold Lib.trimPrefix
 rw [(prefix_iff (p ++ t) p).2 ⟨t, rfl⟩]
 simp
theorem fileK_log (n : Nat) : fileK kLog n = kLogDot ++ Lib.decDigits n := rfl
theorem logNum_iff (s : Key) (n : Nat) : logNum s = some n ↔ n < 16 ∧ s = fileK kLog n := by
 constructor
 ·intro h
  unfold logNum at h
  split at h
  ·rename_i hp
   obtain ⟨t, rfl⟩ := (prefix_iff _ _).1 hp
   rw [trim_app] at h
   split at h
   ·split at h
    ·rename_i v _ hv
     injection h with h
     obtain ⟨h1, h2, h3⟩ := hv
     refine ⟨by omega, ?_⟩
     rw [fileK_log, ← h, h3]
    ·cases h
   ·cases h
  ·cases h
 ·rintro ⟨hn, rfl⟩
  unfold logNum
  rw [fileK_log, if_pos ((prefix_iff _ _).2 ⟨_, rfl⟩), trim_app, atoi_16 ⟨n, hn⟩]
  show (if 0 ≤ (n : Int) ∧ (n : Int) < 16 ∧ Lib.decDigits (n : Int).toNat = Lib.decDigits n then some (n : Int).toNat else none) = some n
  rw [if_pos ⟨by omega, by omega, by rw [Int.toNat_natCast]⟩, Int.toNat_natCast]
theorem logNum_ok {s : Key} {v : Int} (h : Lib.atoiAll (Lib.trimPrefix s kLogDot) = .ok v) : logNum s = if (Lib.hasPrefix s kLogDot && decide (0 ≤ v) && decide (v < 16) && decide (Lib.decDigits v.toNat = Lib.trimPrefix s kLogDot)) = true then some v.toNat else none := by
 unfold logNum
 rw [h]
 cases Lib.hasPrefix s kLogDot with
 | false => rfl
 | true =>
   simp only [if_true, Bool.true_and, Bool.and_eq_true, decide_eq_true_eq, and_assoc]
theorem logNum_bad {s : Key} (h : ∀ v, Lib.atoiAll (Lib.trimPrefix s kLogDot) ≠ .ok v) : logNum s = none := by
 unfold logNum
 split
 ·split
  ·rename_i v hv; exact absurd hv (h v)
  ·rfl
 ·rfl
theorem asc_ext : ∀ {a b : List Nat}, a.Pairwise (· < ·) → b.Pairwise (· < ·) → (∀ x, x ∈ a ↔ x ∈ b) → a = b
 | [], [], _, _, _ => rfl
 | [], y :: b, _, _, h => by have := (h y).2 List.mem_cons_self; cases this
 | x :: a, [], _, _, h => by have := (h x).1 List.mem_cons_self; cases this
 | x :: a, y :: b, ha, hb, h => by
   obtain ⟨a1, a2⟩ := List.pairwise_cons.1 ha
   obtain ⟨b1, b2⟩ := List.pairwise_cons.1 hb
   have hxy : x = y := by
    rcases List.mem_cons.1 ((h x).1 List.mem_cons_self) with e | e
    ·exact e
    ·rcases List.mem_cons.1 ((h y).2 List.mem_cons_self) with e2 | e2
     ·exact e2.symm
     ·have h1 := b1 x e
      have h2 := a1 y e2
      omega
   subst hxy
   congr 1
   refine asc_ext a2 b2 fun z => ?_
   constructor
   ·intro hz
    rcases List.mem_cons.1 ((h z).1 (List.mem_cons_of_mem _ hz)) with e | e
    ·have := a1 z hz; omega
    ·exact e
   ·intro hz
    rcases List.mem_cons.1 ((h z).2 (List.mem_cons_of_mem _ hz)) with e | e
    ·have := b1 z hz; omega
    ·exact e
/-- the numbers of names, in their order -/
def numsOf (l : List Key) : List Nat := l.filterMap logNum
theorem numsOf_snoc (l : List Key) (x : Key) : numsOf (l ++ [x]) = numsOf l ++ (logNum x).toList := by
 unfold numsOf
 rw [List.filterMap_append]
 cases h : logNum x <;> simp [List.filterMap, h]
theorem mem_names {k : Key} : ∀ {l : List (Key × FileM)}, k ∈ l.map (·.1) ↔ (fget k l).isSome = true
 | [] => by simp [fget]
 | (y, u) :: r => by
   rw [fget_cons, List.map_cons, List.mem_cons]
   by_cases h : y = k
   ·rw [if_pos h]; simp [h]
   ·rw [if_neg h, ← mem_names (l := r)]
    constructor
    ·rintro (e | e)
     ·exact absurd e.symm h
     ·exact e
    ·exact .inr
theorem nums_asc (d : DiskM) : (logsD d).Pairwise (· < ·) := by
 unfold logsD
 exact List.Pairwise.filter _ List.pairwise_lt_range
theorem nums_nodup {l : List (Key × FileM)} (h : Up l) : (numsOf (l.map (·.1))).Pairwise (· ≠ ·) := by
 induction l with
 | nil => exact List.Pairwise.nil
 | cons q r ih =>
   obtain ⟨h1, h2⟩ := up_cons.1 h
   have ih := ih h2
   unfold numsOf at ih ⊢
   rw [List.map_cons, List.filterMap_cons]
   cases hq : logNum q.1 with
   | none => exact ih
   | some n =>
     refine List.pairwise_cons.2 ⟨fun m hm => ?_, ih⟩
     obtain ⟨k, hk, hkm⟩ := List.mem_filterMap.1 hm
     obtain ⟨p, hp, rfl⟩ := List.mem_map.1 hk
     have hlt := h1 p hp
     obtain ⟨hn, hqn⟩ := (logNum_iff q.1 n).1 hq
     obtain ⟨hm2, hpm⟩ := (logNum_iff p.1 m).1 hkm
     rintro rfl
     rw [hqn, hpm, before_irrefl] at hlt
     cases hlt
/-- sorted, they are just the disk's logs -/
theorem nums_sorted (d : DiskM) (hup : Up d.files) : ((numsOf (d.files.map (·.1))).map fun n => ((n : Nat) : Int)).mergeSort (fun x y => decide (x ≤ y)) = (logsD d).map fun n => ((n : Nat) : Int) := by
 have hperm := List.mergeSort_perm ((numsOf (d.files.map (·.1))).map fun n => ((n : Nat) : Int)) (fun x y => decide (x ≤ y))
 have hsort : (((numsOf (d.files.map (·.1))).map fun n => ((n : Nat) : Int)).mergeSort (fun x y => decide (x ≤ y))).Pairwise fun a b => decide (a ≤ b) = true :=
  List.pairwise_mergeSort (fun a b c h1 h2 => by simp only [decide_eq_true_eq] at h1 h2 ⊢; omega) (fun a b => by simp only [Bool.or_eq_true, decide_eq_true_eq]; omega) _
 have hnn : ((numsOf (d.files.map (·.1))).map fun n => ((n : Nat) : Int)).Pairwise (· ≠ ·) := by
  rw [List.pairwise_map]
  exact (nums_nodup hup).imp fun h e => h (by omega)
 have hnd := (hperm.pairwise_iff (fun {a b} (h : a ≠ b) => h.symm)).2 hnn
 obtain ⟨S, hS⟩ : ∃ S : List Int, ((numsOf (d.files.map (·.1))).map fun n => ((n : Nat) : Int)).mergeSort (fun x y => decide (x ≤ y)) = S := ⟨_, rfl⟩
 rw [hS] at hperm hsort hnd ⊢
 have hmem : ∀ x, x ∈ S ↔ x ∈ (logsD d).map fun n => ((n : Nat) : Int) := fun x => by
  rw [hperm.mem_iff, List.mem_map, List.mem_map]
  have hm : ∀ n, n ∈ numsOf (d.files.map (·.1)) ↔ n ∈ logsD d := fun n => by
   unfold numsOf logsD hasD
   rw [List.mem_filterMap, List.mem_filter, List.mem_range]
   constructor
   ·rintro ⟨k, hk, hkn⟩
    obtain ⟨h1, rfl⟩ := (logNum_iff k n).1 hkn
    exact ⟨h1, mem_names.1 hk⟩
   ·rintro ⟨h1, h2⟩
    exact ⟨_, mem_names.2 h2, (logNum_iff _ n).2 ⟨h1, rfl⟩⟩
  constructor
  ·rintro ⟨n, h, rfl⟩; exact ⟨n, (hm n).1 h, rfl⟩
  ·rintro ⟨n, h, rfl⟩; exact ⟨n, (hm n).2 h, rfl⟩
 have hnat : ∃ T : List Nat, S = T.map fun n => ((n : Nat) : Int) := by
  refine ⟨S.map Int.toNat, ?_⟩
  rw [List.map_map]
  conv => lhs; rw [← List.map_id S]
  refine List.map_congr_left fun x hx => ?_
  obtain ⟨n, _, rfl⟩ := List.mem_map.1 ((hmem x).1 hx)
  simp
 obtain ⟨T, rfl⟩ := hnat
 congr 1
 refine asc_ext ?_ (nums_asc d) fun x => ?_
 ·have h1 := List.pairwise_map.1 hsort
  have h2 := List.pairwise_map.1 hnd
  exact (h1.and h2).imp fun {a b} h => by
   have h3 := of_decide_eq_true h.1
   have h4 := h.2
   omega
 ·have := hmem (x : Int)
  rw [List.mem_map, List.mem_map] at this
  constructor
  ·intro hx
   obtain ⟨n, hn, e⟩ := this.1 ⟨x, hx, rfl⟩
   have : n = x := by omega
   rwa [← this]
  ·intro hx
   obtain ⟨n, hn, e⟩ := this.2 ⟨x, hx, rfl⟩
   have : n = x := by omega
   rwa [← this]
end Go.Proofs.YtkljkbeahdipfaaGreatDoor
/-
  Walk: store.Logs.
-/
namespace Go.Proofs.YtkljkbeahdipfaaGreatDoor
open Go.RowKit
set_option linter.unusedSimpArgs false
set_option linter.unusedVariables false
set_option linter.unusedSimpArgs false
set_option linter.unusedVariables false
def intsSh : Sh Int := ⟨3, 35, 1, 8, .int .i64 0, fun x => [.int .i64 x], fun _ => [], fun _ => rfl, fun x u hu => by
 rw [List.mem_singleton.1 hu]
 rfl, Tryz.underlying35, by kernel_rfl, rfl, by decide, by decide⟩
theorem int_flat (l : List Int) : l.flatMap intsSh.f = l.map (Value.int .i64) := by
 induction l with
 | nil => rfl
 | cons x r ih => rw [List.flatMap_cons, ih]; rfl
theorem sortI_any {B : Nat} {w : World} {V : Value} {l : List Int} (h : OwnR intsSh B w V l) (hl : l.length ≤ 1000000) :
 Calls Tryz.prog 197 #[V] w fun ev w' => ev = .returned (.tuple #[]) ∧ OwnR intsSh B w' V (l.mergeSort fun x y => decide (x ≤ y)) ∧ w.grownBy w' V.ownBlock := by
 obtain ⟨A, c, rfl, hr, hlc⟩ := h.reads
 rcases Nat.eq_zero_or_pos l.length with h0 | h0
 ·have hl0 := List.eq_nil_of_length_eq_zero h0
  subst hl0
  refine (Tryz.slices_Sort_int_none A c w).mono ?_
  rintro e w' ⟨rfl, rfl⟩
  exact ⟨rfl, by simpa using h, ⟨rfl, rfl, rfl, Nat.le_refl _, fun _ _ _ => rfl⟩⟩
 ·have hrow := h.row
  rw [int_flat] at hrow
  rcases hrow.2 with ⟨h1, h2⟩ | ⟨g, cap, cur, hv, hg, hb, hn, hcap, hsz, htk⟩
  ·exfalso
   omega
  ·have hA : A = some ⟨g, 0, none⟩ ∧ c = cap := by injection hv with a b c; exact ⟨a, c⟩
   obtain ⟨rfl, rfl⟩ := hA
   have hgl : g < w.heap.size := (Array.getElem?_eq_some_iff.1 hb).1
   rw [show intsSh.k = 1 from rfl, Nat.mul_one] at htk
   have hms := List.length_mergeSort (le := fun x y : Int => decide (x ≤ y)) l
   refine (Tryz.slices_Sort_int g 0 c l w (Go.holds_of_blockI hb htk) hgl (by omega)).mono ?_
   rintro e w' ⟨rfl, n, os, rfl⟩
   refine ⟨rfl, ⟨?_, fun _ _ p hp => (by cases hp), fun _ _ _ _ p hp => (by cases hp)⟩, Go.grownBy_sortedI _⟩
   rw [int_flat, hms]
   exact Go.ownsRow_sortedI hms hg hb hn hcap hsz
theorem itoaI_any (v : Int) (h : 0 ≤ v ∧ v < 16) (w : World) : Calls Tryz.prog 106 #[.int .i64 v] w fun ev w' => ev = .returned (.string (St (Lib.decDigits v.toNat))) ∧ Below w.heap.size w w' := by
 have := itoaT_any v.toNat (by omega) w
 rwa [Int.toNat_of_nonneg h.1] at this
theorem cutPre_any (s p : Key) (w : World) : Calls Tryz.prog 195 #[.string (St s), .string (St p)] w fun ev w' => ev = .returned (.tuple #[.string (St (Lib.trimPrefix s p)), .bool (Lib.hasPrefix s p)]) ∧ Below w.heap.size w w' := by
 refine (Tryz.strings_CutPrefix (St s) (St p) w).mono ?_
 rintro e w' ⟨rfl, rfl⟩
 exact ⟨rfl, Below.refl _ _⟩
/-- how Atoi ends -/
theorem atoi_any (t : Key) (ht : t.length ≤ 1000000) (w : World) (he : EnvS w) : Calls Tryz.prog 196 #[.string (St t)] w fun ev w' => ∃ (v : Int) (er : Value), ev = .returned (.tuple #[.int .i64 v, er]) ∧ (Lib.atoiAll t = .ok v ∧ er = .nilIface ∨ (∀ u, Lib.atoiAll t ≠ .ok u) ∧ ∃ te pe, er = .iface te pe) ∧ Below w.heap.size w w' := by
 cases h : Lib.atoiAll t with
 | ok v =>
   refine (Tryz.strconv_Atoi_ok (St t) (by show t.length ≤ _; omega) v h w).mono ?_
   rintro e w' ⟨rfl, hw⟩
   refine ⟨v, .nilIface, rfl, .inl ⟨rfl, rfl⟩, ?_⟩
   rcases hw with rfl | ⟨u, rfl⟩
   ·exact Below.refl _ _
   ·exact ⟨rfl, rfl, rfl, by rw [Lib.bytesWorld_size]; omega, fun k hk => Lib.bytesWorld_at_old _ _ _ k hk⟩
 | range =>
   obtain ⟨ev, hc, hev⟩ := he.e6
   refine (Tryz.strconv_Atoi_range (St t) (by show t.length ≤ _; omega) h ev w hc hev).mono ?_
   rintro e w' ⟨N, rfl, _, _, hb⟩
   exact ⟨_, _, rfl, .inr ⟨fun u hu => (by cases hu), _, _, rfl⟩, hb⟩
 | _ =>
   obtain ⟨ev, hc, hev⟩ := he.e5
   refine (Tryz.strconv_Atoi_syntax (St t) (by show t.length ≤ _; omega) (by rw [show (St t).data.toList = t from rfl, h]; rfl) ev w hc hev).mono ?_
   rintro e w' ⟨N, rfl, _, _, hb⟩
   exact ⟨_, _, rfl, .inr ⟨fun u hu => (by cases hu), _, _, rfl⟩, hb⟩
set_option maxRecDepth 100000 in
set_option maxHeartbeats 8000000 in
theorem logs_at {w : World} {p mb N : Nat} {d : DiskM} (h : Dk w p mb d N) (hN : N < 900000) :
 Calls Tryz.prog 143 #[.pointer (some ⟨p, 0, none⟩)] w fun ev w' => ∃ V, ev = .returned V ∧ OwnR intsSh w.heap.size w' V ((logsD d).map fun n => ((n : Nat) : Int)) ∧ Below w.heap.size w w' := by
 have hup := h.wf.up
 have hfew := h.few
 obtain ⟨q, hq0⟩ : ∃ q, d.files.length = q := ⟨_, rfl⟩
 have hkl : (d.files.map (·.1)).length = q := by rw [List.length_map, hq0]
 refine calls_at 54 Tryz.func143 rfl rfl (Nat.le_of_ble_eq_true rfl) ?_
 intro a hA; replace hA := hA.norm
 refine wS (wR ?_)
 revert a; refine wo rfl rfl (by decide) (fun ev e h => by simp [go_sem, h] <;> rfl) ?_; intro a hA
 replace hA := hA.keepN [0]
 refine wN (nT (wS (wR ?_)))
 revert a; refine wo rfl rfl (by decide) (fun ev e h => by simp [go_sem, h] <;> rfl) ?_; intro a hA
 replace hA := hA.keepN [0, 3]
 refine wN (nT (wS (wS (wR ?_))))
 revert a; refine wo rfl rfl (by decide) (fun ev e h => by simp [go_sem, h] <;> rfl) ?_; intro a hA
 refine wl_call hA rfl rfl (by decide) (fun ev h => exec_call Tryz.func78 (by kernel_rfl) rfl (h.f _) (by first | (simp only [mL, h.get 10 rfl, h.c] <;> rfl) | (simp [mL, h.get 10 rfl, h.c] <;> rfl))) (h.names (by omega)) ?_
 rintro e w1 ⟨A, c, rfl, hrn, hb1⟩
 refine ⟨_, rfl, fun a hA => ?_⟩
 rw [hq0] at hA hrn
 have hD := h.below hb1
 revert a; (iterate 2 refine wo rfl rfl (by decide) (fun ev e h => by simp [go_sem, h] <;> rfl) ?_); intro a hA
 replace hA := hA.keepN [3, 11, 12, 13]
 refine wN (nT (wB ?_))
 refine wp_loop_at (fun f a wx => ∃ (j : Nat) (V : Value), j + f = q ∧ OwnR intsSh w1.heap.size wx V ((numsOf ((d.files.map (·.1)).take j)).map fun n => ((n : Nat) : Int)) ∧ Below w1.heap.size w1 wx ∧ At 54 [(3, V), (11, .slice A q c), (12, .int .i64 (q : Nat)), (13, .int .i64 (j : Nat))] a) (q) ?_ ?_
 ·exact ⟨0, _, by omega, OwnR.nil _ _, Below.refl _ _, hA⟩
 clear hA
 rintro f a wx ⟨j, V, hjf, ho, HX, hA⟩
 have jw : IntKind.i64.wrap ((j : Int) + 1) = ((j + 1 : Nat) : Int) := IntWalk.i64_in _ (by omega)
 refine wS (wR ?_)
 revert a; refine wo rfl rfl (by decide) (fun ev e h => by simp [go_sem, h] <;> rfl) ?_; intro a hA
 replace hA := hA.keepN [3, 11, 12, 13, 14]
 refine wN (nT (wS ?_))
 refine wp_if hA 14 _ rfl (fun hq => ?yA) (fun hq => ?nA)
 case nA =>
  have hjq : j = q := by simp at hq; omega
  rw [hjq, ← hkl, List.take_length] at ho
  have hnl : ((numsOf (d.files.map (·.1))).map fun n => ((n : Nat) : Int)).length ≤ 1000000 := by
   rw [List.length_map]
   exact Nat.le_trans (List.length_filterMap_le _ _) (by omega)
  replace hA := hA.keepN [3]
  refine wp_exit (xT (xT (xB (nT (wS (wR ?_))))))
  revert a; refine wo rfl rfl (by decide) (fun ev e h => by simp [go_sem, h] <;> rfl) ?_; intro a hA
  have hs := sortI_any ho hnl
  rw [nums_sorted d hup] at hs
  refine wl_call hA rfl rfl (by decide) (fun ev h => exec_call Tryz.func197 (by kernel_rfl) rfl (h.f _) (by first | (simp only [mL, h.get 51 rfl, h.c] <;> rfl) | (simp [mL, h.get 51 rfl, h.c] <;> rfl))) (hs) ?_
  rintro e w2 ⟨rfl, ho2, hg2⟩
  refine ⟨_, rfl, fun a hA => ?_⟩
  replace hA := hA.keepN [3]
  refine wN (nT (wS (wR ?_)))
  revert a; (iterate 2 refine wo rfl rfl (by decide) (fun ev e h => by simp [go_sem, h] <;> rfl) ?_); intro a hA
  replace hA := hA.keepN [2]
  refine wN (nT (wp_ret ?_))
  refine ret_1 hA 2 rfl rfl ?_
  have HW := hb1.trans (HX.mono hb1.size)
  refine ⟨V, rfl, ho2.mono hb1.size, HW.grown hg2 HW.size fun g e => ?_⟩
  have := (ho.row.lt g e).1
  have := hb1.size
  omega
 case yA =>
  have hjq : j < q := by simp at hq; omega
  have jj0 : (0 : Int) ≤ (j : Int) := by omega
  have jj1 : (j : Int) < (q : Int) := by omega
  obtain ⟨x, hx⟩ : ∃ x, (d.files.map (·.1))[j]? = some x := ⟨_, List.getElem?_eq_getElem (by omega)⟩
  obtain ⟨ad, rfl, hadb, hc⟩ := hrn.2 (by omega)
  have hcx : w1.cell? (ad.add j) = some (.string (St x)) := hc j _ (by
   unfold keyCells
   rw [List.getElem?_map] at hx ⊢
   cases hy : d.files[j]? with
   | none => rw [hy] at hx; cases hx
   | some y => rw [hy] at hx; injection hx with hx; rw [← hx]; rfl)
  have z0 : wx.cell? (ad.add j) = some (.string (St x)) := (HX.cell (by rw [block_of_add]; exact hadb)).trans hcx
  have hxl : x.length ≤ 40 := by
   have hm := List.mem_of_getElem? hx
   obtain ⟨y, hy, rfl⟩ := List.mem_map.1 hm
   exact (h.wf.each y hy).2
  have htl : (Lib.trimPrefix x kLogDot).length ≤ 40 := by
   unfold Lib.trimPrefix
   split
   ·rw [List.length_drop]; omega
   ·exact hxl
  have htake : numsOf ((d.files.map (·.1)).take (j + 1)) = numsOf ((d.files.map (·.1)).take j) ++ (logNum x).toList := by
   rw [List.take_add_one, hx]
   exact numsOf_snoc _ _
  refine wp_skip (nT (wS (wB (wS (wR ?_)))))
  revert a; (iterate 3 refine wo rfl rfl (by decide) (fun ev e h => by simp [go_sem, h, z0, jj0, jj1, hjq] <;> rfl) ?_); intro a hA
  replace hA := hA.keepN [3, 5, 11, 12, 13]
  refine wN (nT (wS (wR ?_)))
  revert a; refine wo rfl rfl (by decide) (fun ev e h => by simp [go_sem, h, z0, jj0, jj1, hjq] <;> rfl) ?_; intro a hA
  refine wl_call hA rfl rfl (by decide) (fun ev h => exec_call Tryz.func195 (by kernel_rfl) rfl (h.f _) (by first | (simp only [mL, h.get 18 rfl, h.c] <;> rfl) | (simp [mL, h.get 18 rfl, h.c, z0, jj0, jj1, hjq] <;> rfl))) (cutPre_any x kLogDot _) ?_
  rintro e w2 ⟨rfl, hb2⟩
  refine ⟨_, rfl, fun a hA => ?_⟩
  obtain ⟨hp, hhp⟩ : ∃ b, Lib.hasPrefix x kLogDot = b := ⟨_, rfl⟩
  obtain ⟨t, ht⟩ : ∃ t, Lib.trimPrefix x kLogDot = t := ⟨_, rfl⟩
  rw [hhp, ht] at hA
  rw [ht] at htl
  revert a; (iterate 5 refine wo rfl rfl (by decide) (fun ev e h => by simp [go_sem, h, z0, jj0, jj1, hjq] <;> rfl) ?_); intro a hA
  replace hA := hA.keepN [3, 6, 7, 11, 12, 13]
  refine wN (nT (wS (wR ?_)))
  revert a; refine wo rfl rfl (by decide) (fun ev e h => by simp [go_sem, h, z0, jj0, jj1, hjq] <;> rfl) ?_; intro a hA
  have hD2 := (hD.below HX).below hb2
  refine wl_call hA rfl rfl (by decide) (fun ev h => exec_call Tryz.func196 (by kernel_rfl) rfl (h.f _) (by first | (simp only [mL, h.get 23 rfl, h.c] <;> rfl) | (simp [mL, h.get 23 rfl, h.c, z0, jj0, jj1, hjq] <;> rfl))) (atoi_any t (by omega) _ hD2.env) ?_
  rintro e w3 ⟨v, er, rfl, hend, hb3⟩
  refine ⟨_, rfl, fun a hA => ?_⟩
  have HX3 := (HX.trans (hb2.mono HX.size)).trans (hb3.mono (HX.trans (hb2.mono HX.size)).size)
  have ho3 := (ho.below hb2).below hb3
  rcases hend with ⟨hok, rfl⟩ | ⟨hbad, te, pe, rfl⟩
  ·have hn := logNum_ok (s := x) (v := v) (by rw [ht]; exact hok)
   rw [hhp, ht] at hn
   obtain ⟨dg, hdg⟩ : ∃ dg, Lib.decDigits v.toNat = dg := ⟨_, rfl⟩
   revert a; (iterate 5 refine wo rfl rfl (by decide) (fun ev e h => by simp [go_sem, h, z0, jj0, jj1, hjq] <;> rfl) ?_); intro a hA
   replace hA := hA.keepN [3, 6, 7, 8, 9, 11, 12, 13]
   refine wN (nT (wS (wR ?_)))
   revert a; (iterate 2 refine wo rfl rfl (by decide) (fun ev e h => by simp [go_sem, h, z0, jj0, jj1, hjq] <;> rfl) ?_); (iterate 2 refine wg _ rfl rfl rfl rfl (by decide) (fun hq ev e h => by simp [go_sem, h, ↓gw_t (beq_t hq), z0, jj0, jj1, hjq] <;> rfl) ?_); refine wka rfl rfl (by decide) rfl rfl rfl ?_; refine wo rfl rfl (by decide) (fun ev e h => by simp [go_sem, h, z0, jj0, jj1, hjq] <;> rfl) ?_; (iterate 2 refine wg _ rfl rfl rfl rfl (by decide) (fun hq ev e h => by simp [go_sem, h, ↓gw_t (beq_t hq), z0, jj0, jj1, hjq] <;> rfl) ?_); refine wka rfl rfl (by decide) rfl rfl rfl ?_; refine wo rfl rfl (by decide) (fun ev e h => by simp [go_sem, h, z0, jj0, jj1, hjq] <;> rfl) ?_; intro a hA
   replace hA := hA.keepN [3, 6, 8, 11, 12, 13, 36]
   revert a; (iterate 2 refine wg _ rfl rfl rfl rfl (by decide) (fun hq ev e h => by simp [go_sem, h, ↓gw_t (beq_t hq), z0, jj0, jj1, hjq] <;> rfl) ?_); refine wka rfl rfl (by decide) rfl rfl rfl ?_; refine wo rfl rfl (by decide) (fun ev e h => by simp [go_sem, h, z0, jj0, jj1, hjq] <;> rfl) ?_; refine wg _ rfl rfl rfl rfl (by decide) (fun hq ev e h => by simp [go_sem, h, ↓gw_t (beq_t hq), z0, jj0, jj1, hjq] <;> rfl) ?_; intro a hA
   refine wl_gcallv _ hA rfl rfl rfl rfl (by decide) (fun hq ev h => exec_call Tryz.func106 (by kernel_rfl) rfl (h.f _) (by first | (simp only [mL, ((h.get 41 rfl).trans (gw_t (beq_t hq))), h.c] <;> rfl) | (simp [mL, ((h.get 41 rfl).trans (gw_t (beq_t hq))), h.c, z0, jj0, jj1, hjq] <;> rfl))) (fun hq => itoaI_any v (by simp at hq; omega) _) fun a w4 hb4 hA => ?_
   rw [hdg] at hA hn
   revert a; (iterate 2 refine wg _ rfl rfl rfl rfl (by decide) (fun hq ev e h => by simp [go_sem, h, ↓gw_t (beq_t hq), z0, jj0, jj1, hjq] <;> rfl) ?_); refine wka rfl rfl (by decide) rfl rfl rfl ?_; intro a hA
   replace hA := hA.keepN [3, 8, 11, 12, 13, 45]
   refine wN (nT ?_)
   refine wp_if hA 45 _ rfl (fun hq2 => ?yB) (fun hq2 => ?nB)
   case nB =>
    have hno : logNum x = none := by
     rw [hn, if_neg]
     intro hc
     simp at hc hq2
     exact hq2 hc.1.1.1 hc.1.1.2 hc.1.2 (by rw [hc.2])
    refine wp_skip (nB (nT (wR ?_)))
    revert a; (iterate 2 refine wo rfl rfl (by decide) (fun ev e h => by simp [go_sem, h, jw] <;> rfl) ?_); intro a hA
    replace hA := hA.keepN [3, 11, 12, 13]
    refine wN (nT ?_)
    refine ⟨f - 1, by omega, j + 1, V, by omega, ?_, HX3.trans (hb4.mono HX3.size), hA⟩
    rw [htake, hno]
    simpa using ho3.below hb4
   case yB =>
    have hall : hp = true ∧ 0 ≤ v ∧ v < 16 ∧ dg = t := by
     simp at hq2
     obtain ⟨⟨⟨h1, h2⟩, h3⟩, h4⟩ := hq2
     exact ⟨h1, h2, h3, h4⟩
    have hyes : logNum x = some v.toNat := by
     rw [hn, if_pos]
     rw [hall.1, decide_eq_true hall.2.1, decide_eq_true hall.2.2.1, decide_eq_true hall.2.2.2]
     rfl
    have hv : ((v.toNat : Nat) : Int) = v := Int.toNat_of_nonneg hall.2.1
    have HX4 := HX3.trans (hb4.mono HX3.size)
    have ho4 := ho3.below hb4
    have hnl : ((numsOf ((d.files.map (·.1)).take j)).map fun n => ((n : Nat) : Int)).length ≤ 1000000 := by
     rw [List.length_map]
     exact Nat.le_trans (List.length_filterMap_le _ _) (by rw [List.length_take]; omega)
    refine wR ?_
    revert a; (iterate 2 refine wo rfl rfl (by decide) (fun ev e h => by simp [go_sem, h, z0, jj0, jj1, hjq] <;> rfl) ?_); intro a hA
    refine wl_new hA rfl rfl (by decide) (fun ev h => by simp [go_sem, h.get 47 rfl, z0, jj0, jj1, hjq]; try first | exact ⟨rfl, rfl⟩ | rfl) fun w5 a (K5 : Blk _ _ _ _) hz5 hb5 hA => ?_
    have hrow5 : RowR intsSh w5 _ [v] := rowR_blk (s := intsSh) (x := v) K5 (fun p hp => (by cases hp))
    obtain ⟨r6, w6, hrun, ho6, hg6, -⟩ := run_appR (s := intsSh) (c := 1) (ho4.below hb5) hrow5 (fun _ _ m _ p hp => (by cases hp)) (by rw [List.length_singleton]; omega) (HX4.trans (hb5.mono HX4.size)).size
    refine wl_op hA rfl rfl (by decide) (fun ev h => exec_append rfl (h.get 46 rfl) (h.get 48 rfl) hrun) fun a hA => ?_
    have HX6 := below_appR (HX4.trans (hb5.mono HX4.size)) (ho4.below hb5) hg6 (Nat.le_refl _) (HX4.trans (hb5.mono HX4.size)).size
    revert a; refine wo rfl rfl (by decide) (fun ev e h => by simp [go_sem, h, jw] <;> rfl) ?_; intro a hA
    replace hA := hA.keepN [3, 11, 12, 13]
    refine wN (nB (nT (wR ?_)))
    revert a; (iterate 2 refine wo rfl rfl (by decide) (fun ev e h => by simp [go_sem, h, jw] <;> rfl) ?_); intro a hA
    replace hA := hA.keepN [3, 11, 12, 13]
    refine wN (nT ?_)
    refine ⟨f - 1, by omega, j + 1, r6, by omega, ?_, HX6, hA⟩
    rw [htake, hyes]
    simpa [hv] using ho6
  ·have hno := logNum_bad (s := x) (by rw [ht]; exact hbad)
   revert a; (iterate 5 refine wo rfl rfl (by decide) (fun ev e h => by simp [go_sem, h, jw] <;> rfl) ?_); intro a hA
   replace hA := hA.keepN [3, 6, 7, 8, 9, 11, 12, 13]
   refine wN (nT (wS (wR ?_)))
   revert a; (iterate 2 refine wo rfl rfl (by decide) (fun ev e h => by simp [go_sem, h, jw] <;> rfl) ?_); (iterate 2 refine wg _ rfl rfl rfl rfl (by decide) (fun hq ev e h => by simp [go_sem, h, ↓gw_t (beq_t hq), jw] <;> rfl) ?_); refine wka rfl rfl (by decide) rfl rfl rfl ?_; refine wo rfl rfl (by decide) (fun ev e h => by simp [go_sem, h, jw] <;> rfl) ?_; (iterate 2 refine wg _ rfl rfl rfl rfl (by decide) (fun hq ev e h => by simp [go_sem, h, ↓gw_t (beq_t hq), jw] <;> rfl) ?_); refine wka rfl rfl (by decide) rfl rfl rfl ?_; refine wo rfl rfl (by decide) (fun ev e h => by simp [go_sem, h, jw] <;> rfl) ?_; intro a hA
   replace hA := hA.keepN [3, 6, 8, 11, 12, 13, 36]
   revert a; (iterate 2 refine wg _ rfl rfl rfl rfl (by decide) (fun hq ev e h => by simp [go_sem, h, ↓gw_t (beq_t hq), jw] <;> rfl) ?_); refine wka rfl rfl (by decide) rfl rfl rfl ?_; refine wo rfl rfl (by decide) (fun ev e h => by simp [go_sem, h, jw] <;> rfl) ?_; refine wg _ rfl rfl rfl rfl (by decide) (fun hq ev e h => by simp [go_sem, h, ↓gw_t (beq_t hq), jw] <;> rfl) ?_; intro a hA
   refine wl_gcallv _ hA rfl rfl rfl rfl (by decide) (fun hq ev h => exec_call Tryz.func106 (by kernel_rfl) rfl (h.f _) (by first | (simp only [mL, ((h.get 41 rfl).trans (gw_t (beq_t hq))), h.c] <;> rfl) | (simp [mL, ((h.get 41 rfl).trans (gw_t (beq_t hq))), h.c, jw] <;> rfl))) (fun hq => itoaI_any v (by simp at hq) _) fun a w4 hb4 hA => ?_
   revert a; (iterate 2 refine wg _ rfl rfl rfl rfl (by decide) (fun hq ev e h => by simp [go_sem, h, ↓gw_t (beq_t hq), jw] <;> rfl) ?_); refine wka rfl rfl (by decide) rfl rfl rfl ?_; intro a hA
   replace hA := hA.keepN [3, 8, 11, 12, 13, 45]
   refine wN (nT ?_)
   refine wp_if hA 45 _ rfl (fun hq2 => ?yB2) (fun hq2 => ?nB2)
   case yB2 => simp at hq2
   case nB2 =>
    refine wp_skip (nB (nT (wR ?_)))
    revert a; (iterate 2 refine wo rfl rfl (by decide) (fun ev e h => by simp [go_sem, h, jw] <;> rfl) ?_); intro a hA
    replace hA := hA.keepN [3, 11, 12, 13]
    refine wN (nT ?_)
    refine ⟨f - 1, by omega, j + 1, V, by omega, ?_, HX3.trans (hb4.mono HX3.size), hA⟩
    rw [htake, hno]
    simpa using ho3.below hb4
end Go.Proofs.YtkljkbeahdipfaaGreatDoor
/-
  Walks: store.Begin, places, Tree, plant, made.
-/
namespace Go.Proofs.YtkljkbeahdipfaaGreatDoor
open Go.RowKit
set_option linter.unusedSimpArgs false
set_option linter.unusedVariables false
set_option linter.unusedSimpArgs false
set_option linter.unusedVariables false
theorem firstV_len (nm : ByteArray) : (firstV nm).length ≤ 1000 := by
 unfold firstV
 cases h : formedV 1 1 nm ⟨0, 0, 0, none, 0, []⟩ with
 | false => exact Nat.zero_le _
 | true =>
   rw [cond_true]
   have h1 := (formed_parts h).2.1
   unfold frameV
   rw [frameB_length]
   unfold encV
   have h2 := enc1_len 1 ⟨0, 0, 0, none, 0, []⟩
   have h3 := enc2_len 1 ⟨0, 0, 0, none, 0, []⟩
   have h4 : (enc3 1 nm).length ≤ 2 + nm.size := by
    unfold enc3
    have := textB_size nm
    cases ((1 : Int) == 3) <;> simp <;> omega
   simp only [List.length_append, be_length, List.length_nil]
   omega
set_option maxRecDepth 100000 in
set_option maxHeartbeats 4000000 in
theorem begin_at {w : World} {p mb N : Nat} {d : DiskM} (h : Dk w p mb d N) (hN : N < 700000) (n : Nat) (hn : n < 100) (nm : ByteArray) (hnm : nm.size ≤ 9223372036854775807) :
 Calls Tryz.prog 150 #[.pointer (some ⟨p, 0, none⟩), .int .i64 (n : Nat), .string nm] w fun ev w' => ev = .returned (.int .i64 (beginD d n nm).1) ∧ Dk w' p mb (beginD d n nm).2 (N + 8) ∧ But p mb w w' := by
 have hbd : beginD d n nm = if firstOk nm = true then thenD (dAppend d (fileK kLog n) (firstV nm)) fun d => thenD (dSync d (fileK kLog n)) fun d => pagesD d n (readL (firstV nm)) [] else (1, d) := rfl
 have hfl := firstV_len nm
 refine calls_at 40 Tryz.func150 rfl rfl (Nat.le_of_ble_eq_true rfl) ?_
 intro a hA; replace hA := hA.norm
 refine wS (wR ?_)
 revert a; refine wo rfl rfl (by decide) (fun ev e h => by simp [go_sem, h] <;> rfl) ?_; intro a hA
 replace hA := hA.keepN [0, 1, 2]
 refine wN (nT (wS (wR ?_)))
 revert a; (iterate 2 refine wo rfl rfl (by decide) (fun ev e h => by simp [go_sem, h] <;> rfl) ?_); intro a hA
 refine wl_call hA rfl rfl (by decide) (fun ev h => exec_call Tryz.func125 (by kernel_rfl) rfl (h.f _) (by first | (simp only [mL, h.get 13 rfl, h.c] <;> rfl) | (simp [mL, h.get 13 rfl, h.c] <;> rfl))) (bodyFrame_any 1 1 nm ⟨0, 0, 0, none, 0, []⟩ w h.env.max h.env.big.2.2 h.env.tab hnm (by decide) (by decide) Reads.none8) ?_
 rintro e w1 ⟨r, rfl, hor, hb1⟩
 refine ⟨_, rfl, fun a hA => ?_⟩
 obtain ⟨ok, hok⟩ : ∃ b, formedV 1 1 nm ⟨0, 0, 0, none, 0, []⟩ = b := ⟨_, rfl⟩
 have hok2 : firstOk nm = ok := hok
 have hor : Own8 w.heap.size w1 r (firstV nm) := hor
 rw [hok] at hA
 rw [hok2] at hbd
 have hD1 := h.below hb1
 obtain ⟨F, hF⟩ : ∃ F, firstV nm = F := ⟨_, rfl⟩
 rw [hF] at hor hbd hfl
 obtain ⟨Ar, cr, rfl, hrr, hcr⟩ := own8_cap hor
 cases ok with
 | false =>
   revert a; (iterate 5 refine wo rfl rfl (by decide) (fun ev e h => by simp [go_sem, h] <;> rfl) ?_); intro a hA
   replace hA := hA.keepN [0, 1, 7, 8]
   refine wN (nT (wS (wS (wR ?_))))
   revert a; (iterate 2 refine wo rfl rfl (by decide) (fun ev e h => by simp [go_sem, h] <;> rfl) ?_); intro a hA
   replace hA := hA.keepN [0, 1, 7, 8, 18]
   refine wN (nT ?_)
   refine wp_if hA 18 _ rfl (fun hq => ?yA) (fun hq => ?nA)
   case nA => simp at hq
   case yA =>
    refine wS (wR ?_)
    revert a; (iterate 2 refine wo rfl rfl (by decide) (fun ev e h => by simp [go_sem, h] <;> rfl) ?_); intro a hA
    replace hA := hA.keepN [6]
    refine wN (nT (wp_ret (rT ?_)))
    refine ret_1 hA 6 rfl rfl ?_
    rw [hbd]
    exact ⟨rfl, hD1.more (by omega), But.of_below hb1⟩
 | true =>
   rw [if_pos rfl] at hbd
   revert a; (iterate 5 refine wo rfl rfl (by decide) (fun ev e h => by simp [go_sem, h] <;> rfl) ?_); intro a hA
   replace hA := hA.keepN [0, 1, 7, 8]
   refine wN (nT (wS (wS (wR ?_))))
   revert a; (iterate 2 refine wo rfl rfl (by decide) (fun ev e h => by simp [go_sem, h] <;> rfl) ?_); intro a hA
   replace hA := hA.keepN [0, 1, 7, 8, 18]
   refine wN (nT ?_)
   refine wp_if hA 18 _ rfl (fun hq => ?yA2) (fun hq => ?nA2)
   case yA2 => simp at hq
   case nA2 =>
    refine wp_skip (nT (wS (wS (wR ?_))))
    revert a; (iterate 2 refine wo rfl rfl (by decide) (fun ev e h => by simp [go_sem, h] <;> rfl) ?_); intro a hA
    refine wl_call hA rfl rfl (by decide) (fun ev h => exec_call Tryz.func64 (by kernel_rfl) rfl (h.f _) (by first | (simp only [mL, h.get 21 rfl, h.c] <;> rfl) | (simp [mL, h.get 21 rfl, h.c] <;> rfl))) (file_any kLog (by decide) n hn _) ?_
    rintro e w2 ⟨rfl, hb2⟩
    refine ⟨_, rfl, fun a hA => ?_⟩
    revert a; refine wo rfl rfl (by decide) (fun ev e h => by simp [go_sem, h] <;> rfl) ?_; intro a hA
    refine wl_call hA rfl rfl (by decide) (fun ev h => exec_call Tryz.func75 (by kernel_rfl) rfl (h.f _) (by first | (simp only [mL, h.get 20 rfl, h.get 22 rfl, h.get 23 rfl, h.c] <;> rfl) | (simp [mL, h.get 20 rfl, h.get 22 rfl, h.get 23 rfl, h.c] <;> rfl))) ((hD1.below hb2).append (by omega) (fileK kLog n) (fileK_small (by decide) hn) Ar F.length cr F rfl (by omega) hcr ((hrr.below hb2).more hb2.size)) ?_
    rintro e w3 ⟨rfl, h3, hb3⟩
    refine ⟨_, rfl, fun a hA => ?_⟩
    have hrr3 := (hD1.below hb2).reads hb3 ((hrr.below hb2).more hb2.size)
    have HB3 := (But.of_below (hb1.trans (hb2.mono hb1.size)) (p := p) (m := mb)).trans hb3
    obtain ⟨r3, hr3⟩ : ∃ r, dAppend d (fileK kLog n) F = r := ⟨_, rfl⟩
    obtain ⟨e3, d3⟩ := r3
    rw [hr3] at hA h3 hbd
    simp only at h3
    revert a; refine wo rfl rfl (by decide) (fun ev e h => by simp [go_sem, h] <;> rfl) ?_; intro a hA
    replace hA := hA.keepN [0, 1, 7, 9]
    refine wN (nT (wS (wR ?_)))
    revert a; (iterate 2 refine wo rfl rfl (by decide) (fun ev e h => by simp [go_sem, h] <;> rfl) ?_); intro a hA
    replace hA := hA.keepN [0, 1, 7, 9, 26]
    refine wN (nT ?_)
    refine wp_if hA 26 _ rfl (fun hq3 => ?yB) (fun hq3 => ?nB)
    case yB =>
     have hne : ¬ e3 = 0 := by simpa using hq3
     refine wS (wR ?_)
     revert a; (iterate 2 refine wo rfl rfl (by decide) (fun ev e h => by simp [go_sem, h] <;> rfl) ?_); intro a hA
     replace hA := hA.keepN [6]
     refine wN (nT (wp_ret (rT ?_)))
     refine ret_1 hA 6 rfl rfl ?_
     rw [hbd, then_stop hne]
     exact ⟨rfl, h3.more (by omega), HB3⟩
    case nB =>
     have hne : e3 = 0 := by simpa using hq3
     rw [then_go hne] at hbd
     refine wp_skip (nT (wS (wS (wR ?_))))
     revert a; (iterate 2 refine wo rfl rfl (by decide) (fun ev e h => by simp [go_sem, h] <;> rfl) ?_); intro a hA
     refine wl_call hA rfl rfl (by decide) (fun ev h => exec_call Tryz.func64 (by kernel_rfl) rfl (h.f _) (by first | (simp only [mL, h.get 29 rfl, h.c] <;> rfl) | (simp [mL, h.get 29 rfl, h.c] <;> rfl))) (file_any kLog (by decide) n hn _) ?_
     rintro e w4 ⟨rfl, hb4⟩
     refine ⟨_, rfl, fun a hA => ?_⟩
     refine wl_call hA rfl rfl (by decide) (fun ev h => exec_call Tryz.func76 (by kernel_rfl) rfl (h.f _) (by first | (simp only [mL, h.get 28 rfl, h.get 30 rfl, h.c] <;> rfl) | (simp [mL, h.get 28 rfl, h.get 30 rfl, h.c] <;> rfl))) ((h3.below hb4).sync (by omega) (fileK kLog n) (fileK_small (by decide) hn)) ?_
     rintro e w5 ⟨rfl, h5, hb5⟩
     refine ⟨_, rfl, fun a hA => ?_⟩
     have hrr5 := (h3.below hb4).reads hb5 ((hrr3.below hb4).more hb4.size)
     have HB5 := (HB3.below hb4).trans hb5
     obtain ⟨r5, hr5⟩ : ∃ r, dSync d3 (fileK kLog n) = r := ⟨_, rfl⟩
     obtain ⟨e5, d5⟩ := r5
     simp only at hbd
     rw [hr5] at hA h5 hbd
     simp only at h5
     revert a; refine wo rfl rfl (by decide) (fun ev e h => by simp [go_sem, h] <;> rfl) ?_; intro a hA
     replace hA := hA.keepN [0, 1, 7, 10]
     refine wN (nT (wS (wR ?_)))
     revert a; (iterate 2 refine wo rfl rfl (by decide) (fun ev e h => by simp [go_sem, h] <;> rfl) ?_); intro a hA
     replace hA := hA.keepN [0, 1, 7, 10, 33]
     refine wN (nT ?_)
     refine wp_if hA 33 _ rfl (fun hq5 => ?yC) (fun hq5 => ?nC)
     case yC =>
      have hne5 : ¬ e5 = 0 := by simpa using hq5
      refine wS (wR ?_)
      revert a; (iterate 2 refine wo rfl rfl (by decide) (fun ev e h => by simp [go_sem, h] <;> rfl) ?_); intro a hA
      replace hA := hA.keepN [6]
      refine wN (nT (wp_ret (rT ?_)))
      refine ret_1 hA 6 rfl rfl ?_
      rw [hbd, then_stop hne5]
      exact ⟨rfl, h5.more (by omega), HB5⟩
     case nC =>
      have hne5 : e5 = 0 := by simpa using hq5
      rw [then_go hne5] at hbd
      refine wp_skip (nT (wS (wR ?_)))
      revert a; (iterate 3 refine wo rfl rfl (by decide) (fun ev e h => by simp [go_sem, h] <;> rfl) ?_); intro a hA
      refine wl_call hA rfl rfl (by decide) (fun ev h => exec_call Tryz.func59 (by kernel_rfl) rfl (h.f _) (by first | (simp only [mL, h.get 37 rfl, h.c] <;> rfl) | (simp [mL, h.get 37 rfl, h.c] <;> rfl))) (readL_any Ar F.length cr F rfl hcr (by omega) _ h5.env hrr5) ?_
      rintro e w6 ⟨V, rfl, hV, hb6⟩
      refine ⟨_, rfl, fun a hA => ?_⟩
      have hpg := pagesD_at (h5.below hb6) (by omega) n hn hV none 0 [] (RowR.nil _) (by decide)
      refine wl_call hA rfl rfl (by decide) (fun ev h => exec_call Tryz.func63 (by kernel_rfl) rfl (h.f _) (by first | (simp only [mL, h.get 35 rfl, h.get 36 rfl, h.get 38 rfl, h.c] <;> rfl) | (simp [mL, h.get 35 rfl, h.get 36 rfl, h.get 38 rfl, h.c] <;> rfl))) (hpg) ?_
      rintro e w7 ⟨rfl, h7, hb7⟩
      refine ⟨_, rfl, fun a hA => ?_⟩
      revert a; refine wo rfl rfl (by decide) (fun ev e h => by simp [go_sem, h] <;> rfl) ?_; intro a hA
      replace hA := hA.keepN [6]
      refine wN (nT (wp_ret ?_))
      refine ret_1 hA 6 rfl rfl ?_
      rw [hbd]
      exact ⟨rfl, h7, (HB5.below hb6).trans hb7⟩
def plSh : Sh PlaceM := ⟨152, 147, 2, 24, .agg #[.int .i64 0, .string ⟨#[]⟩], pcell, fun _ => [], fun _ => rfl, fun q u hu => by
 unfold pcell at hu
 simp only [List.mem_cons, List.not_mem_nil, or_false] at hu
 rcases hu with rfl | rfl <;> rfl, Tryz.underlying147, by kernel_rfl, rfl, by decide, by decide⟩
theorem readL_nm (b : List UInt8) : (readL b).s.nm.size ≤ 60 := takeAll_nm _ (notesB_nm b)
set_option maxRecDepth 100000 in
set_option maxHeartbeats 4000000 in
theorem places_at {w : World} {p mb N : Nat} {d : DiskM} (h : Dk w p mb d N) (hN : N < 900000) :
 Calls Tryz.prog 89 #[.pointer (some ⟨p, 0, none⟩)] w fun ev w' => ∃ V, ev = .returned V ∧ OwnR plSh w.heap.size w' V (placesD d) ∧ Below w.heap.size w w' := by
 refine calls_at 32 Tryz.func89 rfl rfl (Nat.le_of_ble_eq_true rfl) ?_
 intro a hA; replace hA := hA.norm
 refine wS (wR ?_)
 revert a; refine wo rfl rfl (by decide) (fun ev e h => by simp [go_sem, h] <;> rfl) ?_; intro a hA
 replace hA := hA.keepN [0]
 refine wN (nT (wS (wR ?_)))
 revert a; refine wo rfl rfl (by decide) (fun ev e h => by simp [go_sem, h] <;> rfl) ?_; intro a hA
 replace hA := hA.keepN [0, 3]
 refine wN (nT (wS (wS (wR ?_))))
 revert a; refine wo rfl rfl (by decide) (fun ev e h => by simp [go_sem, h] <;> rfl) ?_; intro a hA
 refine wl_call hA rfl rfl (by decide) (fun ev h => exec_call Tryz.func143 (by kernel_rfl) rfl (h.f _) (by first | (simp only [mL, h.get 8 rfl, h.c] <;> rfl) | (simp [mL, h.get 8 rfl, h.c] <;> rfl))) (logs_at h hN) ?_
 rintro e w1 ⟨V, rfl, hoL, hb1⟩
 refine ⟨_, rfl, fun a hA => ?_⟩
 obtain ⟨L, hL⟩ : ∃ L, logsD d = L := ⟨_, rfl⟩
 have hL16 : L.length ≤ 16 ∧ ∀ x ∈ L, x < 16 := by
  rw [← hL]
  unfold logsD
  refine ⟨?_, fun x hx => List.mem_range.1 (List.mem_filter.1 hx).1⟩
  have := List.length_filter_le (fun n => hasD d (fileK kLog n)) (List.range 16)
  rwa [List.length_range] at this
 have hpl : placesD d = L.map fun (n : Nat) => ((n : Int), (readL (fileD d kLog n).1).s.nm) := by rw [← hL]; rfl
 rw [hL] at hoL
 obtain ⟨A, c, rfl, hrL, -⟩ := hoL.reads
 rw [List.length_map] at hA
 obtain ⟨q, hq0⟩ : ∃ q, L.length = q := ⟨_, rfl⟩
 rw [hq0] at hA hL16
 revert a; (iterate 2 refine wo rfl rfl (by decide) (fun ev e h => by simp [go_sem, h] <;> rfl) ?_); intro a hA
 replace hA := hA.keepN [0, 3, 9, 10, 11]
 refine wN (nT (wB ?_))
 refine wp_loop_at (fun f a wx => ∃ (j : Nat) (V : Value), j + f = q ∧ OwnR plSh w1.heap.size wx V ((L.take j).map fun (n : Nat) => ((n : Int), (readL (fileD d kLog n).1).s.nm)) ∧ Below w1.heap.size w1 wx ∧ At 32 [(0, .pointer (some ⟨p, 0, none⟩)), (3, V), (9, .slice A q c), (10, .int .i64 (q : Nat)), (11, .int .i64 (j : Nat))] a) (q) ?_ ?_
 ·exact ⟨0, _, by omega, OwnR.nil _ _, Below.refl _ _, hA⟩
 clear hA
 rintro f a wx ⟨j, V, hjf, ho, HX, hA⟩
 have jw : IntKind.i64.wrap ((j : Int) + 1) = ((j + 1 : Nat) : Int) := IntWalk.i64_in _ (by omega)
 refine wS (wR ?_)
 revert a; refine wo rfl rfl (by decide) (fun ev e h => by simp [go_sem, h] <;> rfl) ?_; intro a hA
 replace hA := hA.keepN [0, 3, 9, 10, 11, 12]
 refine wN (nT (wS ?_))
 refine wp_if hA 12 _ rfl (fun hq => ?yA) (fun hq => ?nA)
 case nA =>
  have hj : j = q := by simp at hq; omega
  rw [hj, ← hq0, List.take_length] at ho
  replace hA := hA.keepN [3]
  refine wp_exit (xT (xT (xB (nT (wS (wR ?_))))))
  revert a; (iterate 2 refine wo rfl rfl (by decide) (fun ev e h => by simp [go_sem, h] <;> rfl) ?_); intro a hA
  replace hA := hA.keepN [2]
  refine wN (nT (wp_ret ?_))
  refine ret_1 hA 2 rfl rfl ?_
  rw [hpl]
  exact ⟨V, rfl, ho.mono hb1.size, hb1.trans (HX.mono hb1.size)⟩
 case yA =>
  have hj : j < q := by simp at hq; omega
  have jj0 : (0 : Int) ≤ (j : Int) := by omega
  have jj1 : (j : Int) < (q : Int) := by omega
  obtain ⟨n, hn⟩ : ∃ n, L[j]? = some n := ⟨_, List.getElem?_eq_getElem (by omega)⟩
  have hn16 := hL16.2 n (List.mem_of_getElem? hn)
  have hni : (L.map fun n => ((n : Nat) : Int))[j]? = some (n : Int) := by rw [List.getElem?_map, hn]; rfl
  obtain ⟨ad, hA9, hadb, q0, -⟩ := (hrL.below HX).cell hni
  have z0 : wx.cell? (ad.add j) = some (.int .i64 (n : Nat)) := by
   have h1 : wx.cell? (ad.add (j * 1)) = some (.int .i64 (n : Nat)) := q0 _ rfl
   rwa [Nat.mul_one] at h1
  have HWx := hb1.trans (HX.mono hb1.size)
  refine wp_skip (nT (wS (wB (wS (wR ?_)))))
  revert a; (iterate 3 refine wo rfl rfl (by decide) (fun ev e h => by simp [go_sem, h, hA9, z0, jj0, jj1, hj] <;> rfl) ?_); intro a hA
  replace hA := hA.keepN [0, 3, 5, 9, 10, 11]
  refine wN (nT (wS (wR ?_)))
  revert a; (iterate 2 refine wo rfl rfl (by decide) (fun ev e h => by simp [go_sem, h, hA9, z0, jj0, jj1, hj] <;> rfl) ?_); intro a hA
  refine wl_call hA rfl rfl (by decide) (fun ev h => exec_call Tryz.func64 (by kernel_rfl) rfl (h.f _) (by first | (simp only [mL, h.get 17 rfl, h.c] <;> rfl) | (simp [mL, h.get 17 rfl, h.c, hA9, z0, jj0, jj1, hj] <;> rfl))) (file_any kLog (by decide) n (by omega) _) ?_
  rintro e w2 ⟨rfl, hb2⟩
  refine ⟨_, rfl, fun a hA => ?_⟩
  have HX2 := HX.trans (hb2.mono HX.size)
  refine wl_call hA rfl rfl (by decide) (fun ev h => exec_call Tryz.func29 (by kernel_rfl) rfl (h.f _) (by first | (simp only [mL, h.get 16 rfl, h.get 18 rfl, h.c] <;> rfl) | (simp [mL, h.get 16 rfl, h.get 18 rfl, h.c, hA9, z0, jj0, jj1, hj] <;> rfl))) (((h.below HWx).below hb2).read (fileK kLog n) (fileK_small (by decide) (by omega))) ?_
  rintro e w3 ⟨Ab, cb, rfl, hrb, hcb, hb3⟩
  refine ⟨_, rfl, fun a hA => ?_⟩
  have HX3 := HX2.trans (hb3.mono HX2.size)
  have hbl := read_lenD h.wf (fileK kLog n)
  obtain ⟨bl, hbl9⟩ : ∃ x, (dRead d (fileK kLog n)).1 = x := ⟨_, rfl⟩
  obtain ⟨be, hbe9⟩ : ∃ x, (dRead d (fileK kLog n)).2 = x := ⟨_, rfl⟩
  have hfl : (fileD d kLog n).1 = bl := hbl9
  rw [hbl9] at hA hrb hcb hbl
  rw [hbe9] at hA
  revert a; (iterate 5 refine wo rfl rfl (by decide) (fun ev e h => by simp [go_sem, h, hA9, z0, jj0, jj1, hj] <;> rfl) ?_); intro a hA
  replace hA := hA.keepN [0, 3, 5, 6, 9, 10, 11]
  refine wN (nT (wR ?_))
  revert a; (iterate 3 refine wo rfl rfl (by decide) (fun ev e h => by simp [go_sem, h, hA9, z0, jj0, jj1, hj] <;> rfl) ?_); intro a hA
  refine wl_call hA rfl rfl (by decide) (fun ev h => exec_call Tryz.func59 (by kernel_rfl) rfl (h.f _) (by first | (simp only [mL, h.get 24 rfl, h.c] <;> rfl) | (simp [mL, h.get 24 rfl, h.c, hA9, z0, jj0, jj1, hj] <;> rfl))) (readL_any Ab bl.length cb bl rfl hcb hbl _ (((h.below HWx).below hb2).below hb3).env hrb) ?_
  rintro e w4 ⟨VL, rfl, hV, hb4⟩
  refine ⟨_, rfl, fun a hA => ?_⟩
  have HX4 := HX3.trans (hb4.mono HX3.size)
  obtain ⟨l, hl⟩ : ∃ l, readL bl = l := ⟨_, rfl⟩
  rw [hl] at hV
  obtain ⟨A5, c5, L5, rfl, -, -⟩ := hV.ex
  have ho4 := ((ho.below hb2).below hb3).below hb4
  revert a; (iterate 2 refine wo rfl rfl (by decide) (fun ev e h => by simp [go_sem, h, hA9, z0, jj0, jj1, hj] <;> rfl) ?_); intro a hA
  refine wl_new hA rfl rfl (by decide) (fun ev h => by simp [go_sem, h.get 27 rfl, hA9, z0, jj0, jj1, hj]; try first | exact ⟨rfl, rfl⟩ | rfl) fun w5 a (K5 : Blk _ _ _ _) hz5 hb5 hA => ?_
  have hrow5 : RowR plSh w5 _ [((n : Int), l.s.nm)] := rowR_blk (s := plSh) (x := ((n : Int), l.s.nm)) K5 (fun p hp => (by cases hp))
  obtain ⟨r6, w6, hrun, ho6, hg6, -⟩ := run_appR (s := plSh) (c := 1) (ho4.below hb5) hrow5 (fun _ _ m _ p hp => (by cases hp)) (by rw [List.length_map, List.length_take, List.length_singleton]; omega) (HX4.trans (hb5.mono HX4.size)).size
  refine wl_op hA rfl rfl (by decide) (fun ev h => exec_append rfl (h.get 22 rfl) (h.get 28 rfl) hrun) fun a hA => ?_
  have HX6 := below_appR (HX4.trans (hb5.mono HX4.size)) (ho4.below hb5) hg6 (Nat.le_refl _) (HX4.trans (hb5.mono HX4.size)).size
  revert a; refine wo rfl rfl (by decide) (fun ev e h => by simp [go_sem, h, jw] <;> rfl) ?_; intro a hA
  replace hA := hA.keepN [0, 3, 9, 10, 11]
  refine wN (nB (nT (wR ?_)))
  revert a; (iterate 2 refine wo rfl rfl (by decide) (fun ev e h => by simp [go_sem, h, jw] <;> rfl) ?_); intro a hA
  replace hA := hA.keepN [0, 3, 9, 10, 11]
  refine wN (nT ?_)
  refine ⟨f - 1, by omega, j + 1, r6, by omega, ?_, HX6, hA⟩
  rw [List.take_add_one, hn, List.map_append]
  show OwnR plSh _ _ _ (_ ++ [((n : Int), (readL (fileD d kLog n).1).s.nm)])
  rw [hfl, hl]
  exact ho6
theorem placesD_bd (d : DiskM) : (placesD d).length ≤ 16 ∧ ∀ q ∈ placesD d, q.2.size ≤ 60 := by
 unfold placesD
 refine ⟨?_, fun q hq => ?_⟩
 ·rw [List.length_map]
  unfold logsD
  have := List.length_filter_le (fun n => hasD d (fileK kLog n)) (List.range 16)
  rwa [List.length_range] at this
 ·obtain ⟨n, _, rfl⟩ := List.mem_map.1 hq
  exact readL_nm _
set_option maxRecDepth 100000 in
theorem tree_at {w : World} {p mb N : Nat} {d : DiskM} (h : Dk w p mb d N) (hN : N < 900000) :
 Calls Tryz.prog 149 #[.pointer (some ⟨p, 0, none⟩)] w fun ev w' => ∃ r, ev = .returned (.tuple #[r, .int .i64 (treeErr (placesD d))]) ∧ Own8 w.heap.size w' r (treePage (placesD d)) ∧ Below w.heap.size w w' := by
 have hbd := placesD_bd d
 refine calls_at 9 Tryz.func149 rfl rfl (Nat.le_of_ble_eq_true rfl) ?_
 intro a hA; replace hA := hA.norm
 refine wS (wR ?_)
 revert a; (iterate 2 refine wo rfl rfl (by decide) (fun ev e h => by simp [go_sem, h] <;> rfl) ?_); intro a hA
 replace hA := hA.keepN [0]
 refine wN (nT (wS (wR ?_)))
 revert a; refine wo rfl rfl (by decide) (fun ev e h => by simp [go_sem, h] <;> rfl) ?_; intro a hA
 refine wl_call hA rfl rfl (by decide) (fun ev h => exec_call Tryz.func89 (by kernel_rfl) rfl (h.f _) (by first | (simp only [mL, h.get 4 rfl, h.c] <;> rfl) | (simp [mL, h.get 4 rfl, h.c] <;> rfl))) (places_at h hN) ?_
 rintro e w1 ⟨V, rfl, ho, hb1⟩
 refine ⟨_, rfl, fun a hA => ?_⟩
 obtain ⟨A, c, rfl, hr, hc⟩ := ho.reads
 obtain ⟨P, hP⟩ : ∃ P, placesD d = P := ⟨_, rfl⟩
 rw [hP] at hA hr hc hbd ⊢
 have he := (h.below hb1).env
 refine wl_call hA rfl rfl (by decide) (fun ev h => exec_call Tryz.func152 (by kernel_rfl) rfl (h.f _) (by first | (simp only [mL, h.get 5 rfl, h.c] <;> rfl) | (simp [mL, h.get 5 rfl, h.c] <;> rfl))) (putTree_any A c P.length P w1 he.max he.big.2.2 (fun q hq => by have := hbd.2 q hq; omega) rfl (by omega) hc hr.row) ?_
 rintro e w2 ⟨r, rfl, hor, hb2⟩
 refine ⟨_, rfl, fun a hA => ?_⟩
 revert a; (iterate 4 refine wo rfl rfl (by decide) (fun ev e h => by simp [go_sem, h] <;> rfl) ?_); intro a hA
 replace hA := hA.keepN [2, 3]
 refine wN (nT (wp_ret ?_))
 refine ret_2 hA 2 3 rfl rfl rfl ?_
 exact ⟨r, rfl, own_mono hor hb1.size, hb1.trans (hb2.mono hb1.size)⟩
theorem treePage_len (l : List PlaceM) (h : l.length ≤ 16 ∧ ∀ q ∈ l, q.2.size ≤ 60) : (treePage l).length ≤ 100000 := by
 unfold treePage
 split
 ·rename_i hrt
  clear hrt
  rw [pageB_length]
  unfold treeB
  have hm : (l.flatMap placeB).length ≤ 63 * l.length := by
   have h2 := h.2
   clear h
   induction l with
   | nil => exact Nat.zero_le _
   | cons x r ih =>
     have h3 := ih fun q hq => h2 q (List.mem_cons_of_mem _ hq)
     have h4 := h2 x List.mem_cons_self
     rw [List.flatMap_cons, List.length_append, List.length_cons]
     have : (placeB x).length = 3 + x.2.size := by unfold placeB; rw [List.length_append, be_length, textB_len]; omega
     omega
  rw [List.length_append, be_length]
  omega
 ·exact Nat.zero_le _
set_option maxRecDepth 100000 in
theorem plant_at {w : World} {p mb N : Nat} {d : DiskM} (h : Dk w p mb d N) (hN : N < 800000) :
 Calls Tryz.prog 151 #[.pointer (some ⟨p, 0, none⟩)] w fun ev w' => ev = .returned (.int .i64 (plantD d).1) ∧ Dk w' p mb (plantD d).2 (N + 3) ∧ But p mb w w' := by
 have hpd : plantD d = if treeErr (placesD d) = 0 then layD d kTree (treePage (placesD d)) else (treeErr (placesD d), d) := rfl
 have hlen := treePage_len _ (placesD_bd d)
 refine calls_at 16 Tryz.func151 rfl rfl (Nat.le_of_ble_eq_true rfl) ?_
 intro a hA; replace hA := hA.norm
 refine wS (wR ?_)
 revert a; refine wo rfl rfl (by decide) (fun ev e h => by simp [go_sem, h] <;> rfl) ?_; intro a hA
 replace hA := hA.keepN [0]
 refine wN (nT (wS (wR ?_)))
 revert a; refine wo rfl rfl (by decide) (fun ev e h => by simp [go_sem, h] <;> rfl) ?_; intro a hA
 refine wl_call hA rfl rfl (by decide) (fun ev h => exec_call Tryz.func149 (by kernel_rfl) rfl (h.f _) (by first | (simp only [mL, h.get 6 rfl, h.c] <;> rfl) | (simp [mL, h.get 6 rfl, h.c] <;> rfl))) (tree_at h (by omega)) ?_
 rintro e w1 ⟨r, rfl, hor, hb1⟩
 refine ⟨_, rfl, fun a hA => ?_⟩
 obtain ⟨te, hte⟩ : ∃ e, treeErr (placesD d) = e := ⟨_, rfl⟩
 obtain ⟨T, hT⟩ : ∃ T, treePage (placesD d) = T := ⟨_, rfl⟩
 rw [hte] at hA hpd
 rw [hT] at hor hpd hlen
 obtain ⟨Ar, cr, rfl, hrr, hcr⟩ := own8_cap hor
 have hD1 := h.below hb1
 revert a; (iterate 5 refine wo rfl rfl (by decide) (fun ev e h => by simp [go_sem, h] <;> rfl) ?_); intro a hA
 replace hA := hA.keepN [0, 3, 4]
 refine wN (nT (wS (wS (wR ?_))))
 revert a; (iterate 2 refine wo rfl rfl (by decide) (fun ev e h => by simp [go_sem, h] <;> rfl) ?_); intro a hA
 replace hA := hA.keepN [0, 3, 4, 11]
 refine wN (nT ?_)
 refine wp_if hA 11 _ rfl (fun hq => ?yA) (fun hq => ?nA)
 case yA =>
  have hne : ¬ te = 0 := by simpa using hq
  refine wS (wR ?_)
  revert a; (iterate 2 refine wo rfl rfl (by decide) (fun ev e h => by simp [go_sem, h] <;> rfl) ?_); intro a hA
  replace hA := hA.keepN [2]
  refine wN (nT (wp_ret (rT ?_)))
  refine ret_1 hA 2 rfl rfl ?_
  rw [hpd, if_neg hne]
  exact ⟨rfl, hD1.more (by omega), But.of_below hb1⟩
 case nA =>
  have hne : te = 0 := by simpa using hq
  rw [if_pos hne] at hpd
  refine wp_skip (nT (wS (wR ?_)))
  revert a; (iterate 2 refine wo rfl rfl (by decide) (fun ev e h => by simp [go_sem, h] <;> rfl) ?_); intro a hA
  refine wl_call hA rfl rfl (by decide) (fun ev h => exec_call Tryz.func26 (by kernel_rfl) rfl (h.f _) (by first | (simp only [mL, h.get 13 rfl, h.get 14 rfl, h.c] <;> rfl) | (simp [mL, h.get 13 rfl, h.get 14 rfl, h.c] <;> rfl))) (lay_at hD1 (by omega) kTree (by decide) Ar T.length cr T rfl (by omega) hcr hrr) ?_
  rintro e w2 ⟨rfl, h2, hb2⟩
  refine ⟨_, rfl, fun a hA => ?_⟩
  revert a; refine wo rfl rfl (by decide) (fun ev e h => by simp [go_sem, h] <;> rfl) ?_; intro a hA
  replace hA := hA.keepN [2]
  refine wN (nT (wp_ret ?_))
  refine ret_1 hA 2 rfl rfl ?_
  rw [hpd]
  exact ⟨rfl, h2, (But.of_below hb1).trans hb2⟩
set_option maxRecDepth 100000 in
theorem made_at {w : World} {p mb N : Nat} {d : DiskM} (h : Dk w p mb d N) (hN : N < 600000) :
 Calls Tryz.prog 86 #[.pointer (some ⟨p, 0, none⟩)] w fun ev w' => ev = .returned (.int .i64 (madeD d).1) ∧ Dk w' p mb (madeD d).2 (N + 11) ∧ But p mb w w' := by
 have hmd : madeD d = thenD (beginD d 0 sInbox) plantD := rfl
 refine calls_at 11 Tryz.func86 rfl rfl (Nat.le_of_ble_eq_true rfl) ?_
 intro a hA; replace hA := hA.norm
 refine wS (wR ?_)
 revert a; refine wo rfl rfl (by decide) (fun ev e h => by simp [go_sem, h] <;> rfl) ?_; intro a hA
 replace hA := hA.keepN [0]
 refine wN (nT (wS (wS (wR ?_))))
 revert a; refine wo rfl rfl (by decide) (fun ev e h => by simp [go_sem, h] <;> rfl) ?_; intro a hA
 refine wl_call hA rfl rfl (by decide) (fun ev h => exec_call Tryz.func150 (by kernel_rfl) rfl (h.f _) (by first | (simp only [mL, h.get 4 rfl, h.c] <;> rfl) | (simp [mL, h.get 4 rfl, h.c] <;> rfl))) (begin_at h (by omega) 0 (by decide) sInbox (by decide)) ?_
 rintro e w1 ⟨rfl, h1, hb1⟩
 refine ⟨_, rfl, fun a hA => ?_⟩
 obtain ⟨r1, hr1⟩ : ∃ r, beginD d 0 sInbox = r := ⟨_, rfl⟩
 obtain ⟨e1, d1⟩ := r1
 rw [hr1] at hA h1 hmd
 simp only at h1
 revert a; refine wo rfl rfl (by decide) (fun ev e h => by simp [go_sem, h] <;> rfl) ?_; intro a hA
 replace hA := hA.keepN [0, 3]
 refine wN (nT (wS (wR ?_)))
 revert a; (iterate 2 refine wo rfl rfl (by decide) (fun ev e h => by simp [go_sem, h] <;> rfl) ?_); intro a hA
 replace hA := hA.keepN [0, 3, 7]
 refine wN (nT ?_)
 refine wp_if hA 7 _ rfl (fun hq => ?yA) (fun hq => ?nA)
 case yA =>
  have hne : ¬ e1 = 0 := by simpa using hq
  refine wS (wR ?_)
  revert a; (iterate 2 refine wo rfl rfl (by decide) (fun ev e h => by simp [go_sem, h] <;> rfl) ?_); intro a hA
  replace hA := hA.keepN [2]
  refine wN (nT (wp_ret (rT ?_)))
  refine ret_1 hA 2 rfl rfl ?_
  rw [hmd, then_stop hne]
  exact ⟨rfl, h1.more (by omega), hb1⟩
 case nA =>
  have hne : e1 = 0 := by simpa using hq
  rw [then_go hne] at hmd
  refine wp_skip (nT (wS (wR ?_)))
  revert a; refine wo rfl rfl (by decide) (fun ev e h => by simp [go_sem, h] <;> rfl) ?_; intro a hA
  refine wl_call hA rfl rfl (by decide) (fun ev h => exec_call Tryz.func151 (by kernel_rfl) rfl (h.f _) (by first | (simp only [mL, h.get 9 rfl, h.c] <;> rfl) | (simp [mL, h.get 9 rfl, h.c] <;> rfl))) (plant_at h1 (by omega)) ?_
  rintro e w2 ⟨rfl, h2, hb2⟩
  refine ⟨_, rfl, fun a hA => ?_⟩
  revert a; refine wo rfl rfl (by decide) (fun ev e h => by simp [go_sem, h] <;> rfl) ?_; intro a hA
  replace hA := hA.keepN [2]
  refine wN (nT (wp_ret ?_))
  refine ret_1 hA 2 rfl rfl ?_
  rw [hmd]
  exact ⟨rfl, h2, hb1.trans hb2⟩
end Go.Proofs.YtkljkbeahdipfaaGreatDoor
/-
  Walk: repair.Aside.
-/
namespace Go.Proofs.YtkljkbeahdipfaaGreatDoor
open Go.RowKit
set_option linter.unusedSimpArgs false
set_option linter.unusedVariables false
set_option linter.unusedSimpArgs false
set_option linter.unusedVariables false
/-- the place of a text in a row -/
def idxV (L : List (List UInt8)) (s : List UInt8) : Int := match L.findIdx? (· == s) with
 | some i => (i : Int)
 | none => -1
theorem idxV_at {L : List (List UInt8)} {s : List UInt8} {j : Nat} (hj : L[j]? = some s) (h : ∀ i, i < j → L[i]? ≠ some s) : idxV L s = (j : Int) := by
 unfold idxV
 obtain ⟨hlt, he⟩ := List.getElem?_eq_some_iff.1 hj
 rw [show L.findIdx? (· == s) = some j from List.findIdx?_eq_some_iff_getElem.2 ⟨hlt, by simp [he], fun i hi => by
  have := h i hi
  have hl : i < L.length := by omega
  rw [List.getElem?_eq_getElem hl] at this
  simpa using this⟩]
theorem idxV_none {L : List (List UInt8)} {s : List UInt8} (h : ∀ i, i < L.length → L[i]? ≠ some s) : idxV L s = -1 := by
 unfold idxV
 rw [show L.findIdx? (· == s) = none from List.findIdx?_eq_none_iff.2 fun x hx => by
  obtain ⟨i, hi, rfl⟩ := List.getElem_of_mem hx
  have := h i hi
  rw [List.getElem?_eq_getElem hi] at this
  simpa using this]
set_option maxRecDepth 100000 in
set_option maxHeartbeats 4000000 in
theorem indexR_any (L : List (List UInt8)) (s : List UInt8) (A : Option Addr) (c : Nat) (w : World) (hr : Reads w w.heap.size 1 A L.length (L.map fun t => Value.string (St t))) (hl : L.length ≤ 1000000) : Calls Tryz.prog 166 #[.slice A L.length c, .string (St s)] w fun ev w' => ev = .returned (.int .i64 (idxV L s)) ∧ w' = w := by
 refine calls_at 19 Tryz.func166 rfl rfl (Nat.le_of_ble_eq_true rfl) ?_
 intro a hA; replace hA := hA.norm
 refine wS (wR ?_)
 revert a; refine wo rfl rfl (by decide) (fun ev e h => by simp [go_sem, h] <;> rfl) ?_; intro a hA
 replace hA := hA.keepN [0, 1]
 refine wN (nT (wS (wS (wR ?_))))
 revert a; (iterate 3 refine wo rfl rfl (by decide) (fun ev e h => by simp [go_sem, h] <;> rfl) ?_); intro a hA
 replace hA := hA.keepN [0, 1, 7, 8]
 refine wN (nT (wB ?_))
 refine wp_loop_at (fun k a wx => ∃ j : Nat, j + k = L.length ∧ (∀ i, i < j → L[i]? ≠ some s) ∧ w = wx ∧ At 19 [(0, .slice A L.length c), (1, .string (St s)), (7, .int .i64 (L.length : Nat)), (8, .int .i64 (j : Nat))] a) (L.length) ?_ ?_
 ·exact ⟨0, by omega, fun i hi => absurd hi (Nat.not_lt_zero _), rfl, hA⟩
 clear hA
 rintro k a wx ⟨j, hjk, hno, rfl, hA⟩
 refine wS (wR ?_)
 revert a; refine wo rfl rfl (by decide) (fun ev e h => by simp [go_sem, h] <;> rfl) ?_; intro a hA
 replace hA := hA.keepN [0, 1, 7, 8, 9]
 refine wN (nT (wS ?_))
 refine wp_if hA 9 _ rfl (fun hq => ?yA) (fun hq => ?nA)
 case nA =>
  have hjn : L.length ≤ j := by simp at hq; omega
  replace hA := hA.keepN []
  refine wp_exit (xT (xT (xB (nT (wS (wR ?_))))))
  revert a; refine wo rfl rfl (by decide) (fun ev e h => by simp [go_sem, h] <;> rfl) ?_; intro a hA
  replace hA := hA.keepN [4]
  refine wN (nT (wp_ret ?_))
  refine ret_1 hA 4 rfl rfl ?_
  exact ⟨by rw [idxV_none fun i hi => hno i (by omega)], rfl⟩
 case yA =>
  have hjn : j < L.length := by simp at hq; omega
  obtain ⟨x, hx⟩ : ∃ x, L[j]? = some x := ⟨_, List.getElem?_eq_getElem hjn⟩
  obtain ⟨ad, rfl, _, hcl⟩ := hr.2 (by omega)
  have hcell := hcl j (.string (St x)) (by rw [List.getElem?_map, hx]; rfl)
  have jj0 : (0 : Int) ≤ (j : Int) := by omega
  have jj1 : (j : Int) < (L.length : Int) := by omega
  have i3 : IntKind.i64.wrap (((j : Nat) : Int) + 1) = ((j + 1 : Nat) : Int) := by rw [IntWalk.i64_in _ (by omega)]; omega
  refine wp_skip (nT (wS (wB (wS (wR ?_)))))
  revert a; (iterate 2 refine wo rfl rfl (by decide) (fun ev e h => by simp [go_sem, h, hcell, jj0, jj1] <;> rfl) ?_); intro a hA
  replace hA := hA.keepN [0, 1, 5, 7, 8]
  refine wN (nT (wS (wR ?_)))
  revert a; (iterate 6 refine wo rfl rfl (by decide) (fun ev e h => by simp [go_sem, h, hcell, jj0, jj1] <;> rfl) ?_); intro a hA
  replace hA := hA.keepN [0, 1, 5, 7, 8, 16]
  refine wN (nT ?_)
  refine wp_if hA 16 _ rfl (fun hq2 => ?yB) (fun hq2 => ?nB)
  case nB =>
   have hn : x ≠ s := by rintro rfl; simp at hq2
   refine wp_skip (nB (nT (wR ?_)))
   revert a; (iterate 2 refine wo rfl rfl (by decide) (fun ev e h => by simp [go_sem, h, i3] <;> rfl) ?_); intro a hA
   replace hA := hA.keepN [0, 1, 7, 8]
   refine wN (nT ?_)
   refine ⟨k - 1, by omega, j + 1, by omega, fun i hi => ?_, rfl, hA⟩
   by_cases e : i = j
   ·subst e
    rw [hx]
    intro e
    injection e with e
    exact hn e
   ·exact hno i (by omega)
  case yB =>
   have hn : x = s := (by simpa using hq2 : s = x).symm
   subst hn
   refine wS (wR ?_)
   revert a; (iterate 2 refine wo rfl rfl (by decide) (fun ev e h => by simp [go_sem, h, hcell, jj0, jj1] <;> rfl) ?_); intro a hA
   replace hA := hA.keepN [4]
   refine wN (nT (wp_ret (rB (rT (rT (rB (rT ?_)))))))
   refine ret_1 hA 4 rfl rfl ?_
   exact ⟨by rw [idxV_at hx hno], rfl⟩
theorem idxV_has (L : List (List UInt8)) (s : List UInt8) : decide (0 ≤ idxV L s) = decide (s ∈ L) := by
 unfold idxV
 cases h : L.findIdx? (· == s) with
 | none =>
   have h0 := List.findIdx?_eq_none_iff.1 h
   have hn : s ∉ L := fun hm => by have := h0 s hm; simp at this
   simp [hn]
 | some i =>
   obtain ⟨hlt, he, _⟩ := List.findIdx?_eq_some_iff_getElem.1 h
   have hm : s ∈ L := by
    have : L[i] = s := by simpa using he
    rw [← this]; exact List.getElem_mem hlt
   simp [hm]
theorem fget_some {k : Key} : ∀ {l : List (Key × FileM)}, (fget k l).isSome = decide (k ∈ l.map (·.1))
 | [] => rfl
 | (y, u) :: r => by
   rw [fget_cons]
   by_cases h : y = k
   ·rw [if_pos h, h]; simp
   ·rw [if_neg h, fget_some]
    have h2 : ¬ k = y := fun e => h e.symm
    simp [h2]
set_option maxRecDepth 100000 in
/-- is there a file? -/
theorem hasKey_any (A : Option Addr) (c : Nat) (l : List (Key × FileM)) (x : List UInt8) (w : World) (hl : l.length ≤ 1000000) (hr : Reads w w.heap.size 1 A l.length (keyCells l)) : Calls Tryz.prog 105 #[.slice A l.length c, .string (St x)] w fun ev w' => ev = .returned (.bool (fget x l).isSome) ∧ Below w.heap.size w w' := by
 have hr2 : Reads w w.heap.size 1 A (l.map (·.1)).length ((l.map (·.1)).map fun t => Value.string (St t)) := by
  rw [List.length_map, List.map_map]
  exact hr
 have hlm : (l.map (·.1)).length = l.length := List.length_map ..
 rw [← hlm]
 refine calls_at 9 Tryz.func105 rfl rfl (Nat.le_of_ble_eq_true rfl) ?_
 intro a hA; replace hA := hA.norm
 refine wS (wR ?_)
 revert a; refine wo rfl rfl (by decide) (fun ev e h => by simp [go_sem, h] <;> rfl) ?_; intro a hA
 replace hA := hA.keepN [0, 1]
 refine wN (nT (wS (wR ?_)))
 revert a; (iterate 2 refine wo rfl rfl (by decide) (fun ev e h => by simp [go_sem, h] <;> rfl) ?_); intro a hA
 refine wl_call hA rfl rfl (by decide) (fun ev h => exec_call Tryz.func166 (by kernel_rfl) rfl (h.f _) (by first | (simp only [mL, h.get 5 rfl, h.get 6 rfl, h.c] <;> rfl) | (simp [mL, h.get 5 rfl, h.get 6 rfl, h.c] <;> rfl))) (indexR_any (l.map (·.1)) x A c w hr2 (by omega)) ?_
 rintro e w1 ⟨rfl, rfl⟩
 refine ⟨_, rfl, fun a hA => ?_⟩
 revert a; (iterate 2 refine wo rfl rfl (by decide) (fun ev e h => by simp [go_sem, h] <;> rfl) ?_); intro a hA
 replace hA := hA.keepN [4]
 refine wN (nT (wp_ret ?_))
 refine ret_1 hA 4 rfl rfl ?_
 exact ⟨ret_bool (by rw [idxV_has, fget_some]), Below.refl _ _⟩
end Go.Proofs.YtkljkbeahdipfaaGreatDoor
/-
  Walks: is a number among some, are two rows of places the same; store.stray.
-/
namespace Go.Proofs.YtkljkbeahdipfaaGreatDoor
open Go.RowKit
set_option linter.unusedSimpArgs false
set_option linter.unusedVariables false
set_option linter.unusedSimpArgs false
set_option linter.unusedVariables false
set_option maxRecDepth 100000 in
set_option maxHeartbeats 4000000 in
theorem indexI_any (l : List Int) (v : Int) (A : Option Addr) (c : Nat) (w : World) (hr : RowR intsSh w A l) (hl : l.length ≤ 1000000) : Calls Tryz.prog 200 #[.slice A l.length c, .int .i64 v] w fun ev w' => ∃ i : Int, ev = .returned (.int .i64 i) ∧ decide (0 ≤ i) = decide (v ∈ l) ∧ Below w.heap.size w w' := by
 obtain ⟨q, hq0⟩ : ∃ q, l.length = q := ⟨_, rfl⟩
 rw [hq0] at hl ⊢
 refine calls_at 19 Tryz.func200 rfl rfl (Nat.le_of_ble_eq_true rfl) ?_
 intro a hA; replace hA := hA.norm
 refine wS (wR ?_)
 revert a; refine wo rfl rfl (by decide) (fun ev e h => by simp [go_sem, h] <;> rfl) ?_; intro a hA
 replace hA := hA.keepN [0, 1]
 refine wN (nT (wS (wS (wR ?_))))
 revert a; (iterate 3 refine wo rfl rfl (by decide) (fun ev e h => by simp [go_sem, h] <;> rfl) ?_); intro a hA
 replace hA := hA.keepN [0, 1, 7, 8]
 refine wN (nT (wB ?_))
 refine wp_loop_at (fun k a wx => ∃ j : Nat, j + k = q ∧ (∀ x ∈ l.take j, x ≠ v) ∧ w = wx ∧ At 19 [(0, .slice A q c), (1, .int .i64 v), (7, .int .i64 (q : Nat)), (8, .int .i64 (j : Nat))] a) (q) ?_ ?_
 ·exact ⟨0, by omega, fun x hx => (by cases hx), rfl, hA⟩
 clear hA
 rintro k a wx ⟨j, hjk, hno, rfl, hA⟩
 refine wS (wR ?_)
 revert a; refine wo rfl rfl (by decide) (fun ev e h => by simp [go_sem, h] <;> rfl) ?_; intro a hA
 replace hA := hA.keepN [0, 1, 7, 8, 9]
 refine wN (nT (wS ?_))
 refine wp_if hA 9 _ rfl (fun hq => ?yA) (fun hq => ?nA)
 case nA =>
  have hjn : j = q := by simp at hq; omega
  rw [hjn, ← hq0, List.take_length] at hno
  replace hA := hA.keepN []
  refine wp_exit (xT (xT (xB (nT (wS (wR ?_))))))
  revert a; refine wo rfl rfl (by decide) (fun ev e h => by simp [go_sem, h] <;> rfl) ?_; intro a hA
  replace hA := hA.keepN [4]
  refine wN (nT (wp_ret ?_))
  refine ret_1 hA 4 rfl rfl ?_
  refine ⟨-1, rfl, ?_, Below.refl _ _⟩
  have : v ∉ l := fun h => hno v h rfl
  simp [this]
 case yA =>
  have hjn : j < q := by simp at hq; omega
  obtain ⟨x, hx⟩ : ∃ x, l[j]? = some x := ⟨_, List.getElem?_eq_getElem (by omega)⟩
  obtain ⟨ad, hA9, _, q0, -⟩ := hr.cell hx
  have hcell : w.cell? (ad.add j) = some (.int .i64 x) := by
   have h1 : w.cell? (ad.add (j * 1)) = some (.int .i64 x) := q0 _ rfl
   rwa [Nat.mul_one] at h1
  have jj0 : (0 : Int) ≤ (j : Int) := by omega
  have jj1 : (j : Int) < (q : Int) := by omega
  have i3 : IntKind.i64.wrap (((j : Nat) : Int) + 1) = ((j + 1 : Nat) : Int) := by rw [IntWalk.i64_in _ (by omega)]; omega
  refine wp_skip (nT (wS (wB (wS (wR ?_)))))
  revert a; (iterate 2 refine wo rfl rfl (by decide) (fun ev e h => by simp [go_sem, h, hA9, hcell, jj0, jj1, hjn] <;> rfl) ?_); intro a hA
  replace hA := hA.keepN [0, 1, 5, 7, 8]
  refine wN (nT (wS (wR ?_)))
  revert a; (iterate 6 refine wo rfl rfl (by decide) (fun ev e h => by simp [go_sem, h, hA9, hcell, jj0, jj1, hjn] <;> rfl) ?_); intro a hA
  replace hA := hA.keepN [0, 1, 5, 7, 8, 16]
  refine wN (nT ?_)
  refine wp_if hA 16 _ rfl (fun hq2 => ?yB) (fun hq2 => ?nB)
  case nB =>
   have hn : x ≠ v := by rintro rfl; simp at hq2
   refine wp_skip (nB (nT (wR ?_)))
   revert a; (iterate 2 refine wo rfl rfl (by decide) (fun ev e h => by simp [go_sem, h, i3] <;> rfl) ?_); intro a hA
   replace hA := hA.keepN [0, 1, 7, 8]
   refine wN (nT ?_)
   refine ⟨k - 1, by omega, j + 1, by omega, fun y hy => ?_, rfl, hA⟩
   rw [List.take_add_one, hx] at hy
   rcases List.mem_append.1 hy with h | h
   ·exact hno y h
   ·rw [List.mem_singleton.1 h]; exact hn
  case yB =>
   have hn : x = v := (by simpa using hq2 : v = x).symm
   refine wS (wR ?_)
   revert a; (iterate 2 refine wo rfl rfl (by decide) (fun ev e h => by simp [go_sem, h, hA9, hcell, jj0, jj1, hjn] <;> rfl) ?_); intro a hA
   replace hA := hA.keepN [4]
   refine wN (nT (wp_ret (rB (rT (rT (rB (rT ?_)))))))
   refine ret_1 hA 4 rfl rfl ?_
   refine ⟨(j : Int), rfl, ?_, Below.refl _ _⟩
   have : v ∈ l := by rw [← hn]; exact List.mem_of_getElem? hx
   rw [decide_eq_true jj0, decide_eq_true this]
set_option maxRecDepth 100000 in
theorem containsI_any (l : List Int) (v : Int) (A : Option Addr) (c : Nat) (w : World) (hr : RowR intsSh w A l) (hl : l.length ≤ 1000000) : Calls Tryz.prog 146 #[.slice A l.length c, .int .i64 v] w fun ev w' => ev = .returned (.bool (decide (v ∈ l))) ∧ Below w.heap.size w w' := by
 refine calls_at 9 Tryz.func146 rfl rfl (Nat.le_of_ble_eq_true rfl) ?_
 intro a hA; replace hA := hA.norm
 refine wS (wR ?_)
 revert a; refine wo rfl rfl (by decide) (fun ev e h => by simp [go_sem, h] <;> rfl) ?_; intro a hA
 replace hA := hA.keepN [0, 1]
 refine wN (nT (wS (wR ?_)))
 revert a; (iterate 2 refine wo rfl rfl (by decide) (fun ev e h => by simp [go_sem, h] <;> rfl) ?_); intro a hA
 refine wl_call hA rfl rfl (by decide) (fun ev h => exec_call Tryz.func200 (by kernel_rfl) rfl (h.f _) (by first | (simp only [mL, h.get 5 rfl, h.get 6 rfl, h.c] <;> rfl) | (simp [mL, h.get 5 rfl, h.get 6 rfl, h.c] <;> rfl))) (indexI_any l v A c w hr hl) ?_
 rintro e w1 ⟨i, rfl, hi, hb⟩
 refine ⟨_, rfl, fun a hA => ?_⟩
 revert a; (iterate 2 refine wo rfl rfl (by decide) (fun ev e h => by simp [go_sem, h] <;> rfl) ?_); intro a hA
 replace hA := hA.keepN [4]
 refine wN (nT (wp_ret ?_))
 refine ret_1 hA 4 rfl rfl ?_
 exact ⟨ret_bool (by rw [← hi]), hb⟩
theorem sameP_at {l m : List PlaceM} {j : Nat} {x y : PlaceM} (hx : l[j]? = some x) (hy : m[j]? = some y) : decide (l.drop j = m.drop j) = (decide (x = y) && decide (l.drop (j + 1) = m.drop (j + 1))) := by
 have hj := (List.getElem?_eq_some_iff.1 hx).1
 have hj2 := (List.getElem?_eq_some_iff.1 hy).1
 rw [List.drop_eq_getElem_cons hj, (List.getElem?_eq_some_iff.1 hx).2, List.drop_eq_getElem_cons hj2, (List.getElem?_eq_some_iff.1 hy).2]
 simp only [List.cons.injEq, Bool.decide_and]
theorem bytes_ne {a b : ByteArray} (h : a ≠ b) : ¬ a.toList = b.toList := fun e => h (by
 rw [ByteArray.toList_eq, ByteArray.toList_eq] at e
 exact ByteArray.ext (Array.ext' e))
set_option maxRecDepth 100000 in
set_option maxHeartbeats 4000000 in
theorem eqP_any (A A2 : Option Addr) (c c2 : Nat) (l l2 : List PlaceM) (w : World) (hn : l.length ≤ 100000000) (hr : RowR plSh w A l) (hr2 : RowR plSh w A2 l2) :
 Calls Tryz.prog 88 #[.slice A l.length c, .slice A2 l2.length c2] w fun ev w' => ev = .returned (.bool (decide (l = l2))) ∧ Below w.heap.size w w' := by
 obtain ⟨n, hl⟩ : ∃ n, l.length = n := ⟨_, rfl⟩
 obtain ⟨n2, hl2⟩ : ∃ n, l2.length = n := ⟨_, rfl⟩
 rw [hl] at hn ⊢
 rw [hl2]
 have HB := Below.refl w.heap.size w
 refine calls_at 26 Tryz.func88 rfl rfl (Nat.le_of_ble_eq_true rfl) ?_
 intro a hA; replace hA := hA.norm
 refine wS (wR ?_)
 revert a; refine wo rfl rfl (by decide) (fun ev e h => by simp [go_sem, h] <;> rfl) ?_; intro a hA
 replace hA := hA.keepN [0, 1]
 refine wN (nT (wS (wS (wR ?_))))
 revert a; (iterate 5 refine wo rfl rfl (by decide) (fun ev e h => by simp [go_sem, h] <;> rfl) ?_); intro a hA
 replace hA := hA.keepN [0, 1, 10]
 refine wN (nT ?_)
 refine wp_if hA 10 _ rfl (fun hq0 => ?yE) (fun hq0 => ?nE)
 case yE =>
  have hne : ¬ n = n2 := by simp at hq0; omega
  refine wS (wR ?_)
  revert a; refine wo rfl rfl (by decide) (fun ev e h => by simp [go_sem, h] <;> rfl) ?_; intro a hA
  replace hA := hA.keepN [4]
  refine wN (nT (wp_ret (rT ?_)))
  refine ret_1 hA 4 rfl rfl ?_
  refine ⟨ret_bool (Eq.symm (decide_eq_false fun e => hne ?_)), HB⟩
  rw [← hl, ← hl2, e]
 case nE =>
  obtain rfl : n = n2 := by simp at hq0; omega
  refine wp_skip (nT (wS (wS (wR ?_))))
  revert a; (iterate 3 refine wo rfl rfl (by decide) (fun ev e h => by simp [go_sem, h] <;> rfl) ?_); intro a hA
  replace hA := hA.keepN [0, 1, 12, 13]
  refine wN (nT (wB ?_))
  refine wp_loop_at (fun k a wx => ∃ (j : Nat), j + k = n ∧ decide (l = l2) = decide (l.drop j = l2.drop j) ∧ Below w.heap.size w wx ∧ At 26 [(0, .slice A n c), (1, .slice A2 n c2), (12, .int .i64 (n : Nat)), (13, .int .i64 (j : Nat))] a) (n) ?_ ?_
  ·exact ⟨0, by omega, rfl, HB, hA⟩
  clear HB hA
  rintro k a wx ⟨j, hjk, hall, HB, hA⟩
  have hwj : IntKind.i64.wrap ((j : Int) + 1) = ((j + 1 : Nat) : Int) := by rw [IntWalk.i64_in _ (by omega)]; omega
  refine wS (wR ?_)
  revert a; refine wo rfl rfl (by decide) (fun ev e h => by simp [go_sem, h] <;> rfl) ?_; intro a hA
  replace hA := hA.keepN [0, 1, 12, 13, 14]
  refine wN (nT (wS ?_))
  refine wp_if hA 14 _ rfl (fun hq => ?yL) (fun hq => ?nL)
  case yL =>
   have hlt : j < n := by simp at hq; omega
   obtain ⟨x, hx⟩ : ∃ x, l[j]? = some x := ⟨_, List.getElem?_eq_getElem (by omega)⟩
   obtain ⟨y, hy⟩ : ∃ y, l2[j]? = some y := ⟨_, List.getElem?_eq_getElem (by omega)⟩
   rw [sameP_at hx hy] at hall
   obtain ⟨ad, hA9, hadl, k0, k1⟩ := (hr.below HB).cell hx
   obtain ⟨ad2, hA29, hadl2, l0, l1⟩ := (hr2.below HB).cell hy
   have z0 : wx.cell? (ad.add (j * 2)) = some (.int .i64 x.1) := k0 _ rfl
   have z1 : wx.cell? ⟨(ad.add (j * 2)).block, (ad.add (j * 2)).off + 1, none⟩ = some (.string x.2) := k1 1 _ (by decide) rfl
   have y0 : wx.cell? (ad2.add (j * 2)) = some (.int .i64 y.1) := l0 _ rfl
   have y1 : wx.cell? ⟨(ad2.add (j * 2)).block, (ad2.add (j * 2)).off + 1, none⟩ = some (.string y.2) := l1 1 _ (by decide) rfl
   have jj0 : (0 : Int) ≤ (j : Int) := by omega
   have jj1 : (j : Int) < (n : Int) := by omega
   have hb1 : ∀ i, (⟨(ad.add (j * 2)).block, i, none⟩ : Addr).block < wx.heap.size := fun i => by show (ad.add (j * 2)).block < _; rw [block_of_add]; exact hadl
   have hb2 : ∀ i, (⟨(ad2.add (j * 2)).block, i, none⟩ : Addr).block < wx.heap.size := fun i => by show (ad2.add (j * 2)).block < _; rw [block_of_add]; exact hadl2
   refine wp_skip (nT (wS (wB (wS (wR ?_)))))
   revert a; (iterate 2 refine wo rfl rfl (by decide) (fun ev e h => by simp [go_sem, h] <;> rfl) ?_); intro a hA
   replace hA := hA.keepN [0, 1, 5, 12, 13]
   refine wN (nT (wS ?_))
   by_cases hxy : x = y
   ·have e1 : x.1 = y.1 := by rw [hxy]
    have e2 : x.2.toList = y.2.toList := by rw [hxy]
    have pRa := fun (wo : World) (hC : (fun wy => Below wx.heap.size wx wy) wo) => have v0 := (hC.cell (p := ad.add (j * 2)) (by rw [block_of_add]; exact hadl)).trans z0; have v1 := (hC.cell (p := ⟨(ad.add (j * 2)).block, (ad.add (j * 2)).off + 1, none⟩) (hb1 _)).trans z1; have v2 := (hC.cell (p := ad2.add (j * 2)) (by rw [block_of_add]; exact hadl2)).trans y0; have v3 := (hC.cell (p := ⟨(ad2.add (j * 2)).block, (ad2.add (j * 2)).off + 1, none⟩) (hb2 _)).trans y1; And.intro (v0) (And.intro (v1) (And.intro (v2) (v3)))
    refine wp_any_at hA [(.det ?dRa0), (.det ?dRa1), (.det ?dRa2), (.det ?dRa3), (.det ?dRa4), (.det ?dRa5), (.det ?dRa6), (.det ?dRa7), (.det ?dRa8)] [] (fun wy => Below wx.heap.size wx wy) (TSp [] Grows) (by kernel_rfl) rfl (by kernel_rfl) (by kernel_rfl) rfl ((Below.refl _ _).drew) (stab_sp [] [true, true, true, true, true, true, true, true, true] [true, true, true, true, true, true, true, true, true] [] rfl rfl rfl (by kernel_rfl) ⟨trivial, trivial, trivial, trivial, trivial, trivial, trivial, trivial, trivial, trivial⟩ trivial) (fun _ h => by cases h) (fun _ _ _ _ _ h => by cases h) (fun _ h => by cases h) ⟨?oRa0, ?oRa1, ?oRa2, ?oRa3, ?oRa4, ?oRa5, ?oRa6, ?oRa7, ?oRa8, trivial⟩ (by kernel_rfl) ?fRa
    case oRa0 => intro ev wo hev hC hs hph; have x0 := se hA hs 0; exact od rfl rfl (by kernel_rfl) hC (TSp.of rfl (Grows.refl _)) (by simp [go_sem, x0] <;> rfl)
    case oRa1 => intro ev wo hev hC hs hph; have x0 := se hA hs 5; exact od rfl rfl (by kernel_rfl) hC (TSp.of rfl (Grows.refl _)) (by simp [go_sem, x0] <;> rfl)
    case oRa2 => intro ev wo hev hC hs hph; have x0 := sd hs 16 0; have x1 := sd hs 17 1; exact od rfl rfl (by kernel_rfl) hC (TSp.of rfl (Grows.refl _)) (by simp [go_sem, x0, x1, hA9, jj0, jj1, hlt] <;> rfl)
    case oRa3 => intro ev wo hev hC hs hph; have x0 := sd hs 18 2; exact od rfl rfl (by kernel_rfl) hC (TSp.of rfl (Grows.refl _)) (by simp [go_sem, x0, pRa _ hC] <;> rfl)
    case oRa4 => intro ev wo hev hC hs hph; have x0 := se hA hs 1; exact od rfl rfl (by kernel_rfl) hC (TSp.of rfl (Grows.refl _)) (by simp [go_sem, x0] <;> rfl)
    case oRa5 => intro ev wo hev hC hs hph; have x0 := se hA hs 5; exact od rfl rfl (by kernel_rfl) hC (TSp.of rfl (Grows.refl _)) (by simp [go_sem, x0] <;> rfl)
    case oRa6 => intro ev wo hev hC hs hph; have x0 := sd hs 20 4; have x1 := sd hs 21 5; exact od rfl rfl (by kernel_rfl) hC (TSp.of rfl (Grows.refl _)) (by simp [go_sem, x0, x1, hA29, jj0, jj1, hlt] <;> rfl)
    case oRa7 => intro ev wo hev hC hs hph; have x0 := sd hs 22 6; exact od rfl rfl (by kernel_rfl) hC (TSp.of rfl (Grows.refl _)) (by simp [go_sem, x0, pRa _ hC] <;> rfl)
    case oRa8 => intro ev wo hev hC hs hph; have x0 := sd hs 19 3; have x1 := sd hs 23 7; exact od rfl rfl (by kernel_rfl) hC (TSp.of rfl (Grows.refl _)) (by simp [go_sem, x0, x1, e1, e2] <;> rfl)
    intro sg wf hC hph
    intro a hA
    replace hA := hA.keepN [0, 1, 12, 13, 24]
    refine nT ?_
    refine wp_if hA 24 _ rfl (fun hq2 => ?yTa) (fun hq2 => ?nTa)
    case yTa => cases hq2
    case nTa =>
     refine wp_skip (nB (nT (wR ?_)))
     revert a; (iterate 2 refine wo rfl rfl (by decide) (fun ev e h => by simp [go_sem, h, hwj] <;> rfl) ?_); intro a hA
     replace hA := hA.keepN [0, 1, 12, 13]
     refine wN (nT ?_)
     rw [decide_eq_true hxy, Bool.true_and] at hall
     exact ⟨k - 1, by omega, j + 1, by omega, hall, HB.trans (hC.mono HB.size), hA⟩
   ·by_cases e1 : x.1 = y.1
    ·have e2 : ¬ x.2.toList = y.2.toList := bytes_ne fun e => hxy (Prod.ext e1 e)
     have pRb := fun (wo : World) (hC : (fun wy => Below wx.heap.size wx wy) wo) => have v0 := (hC.cell (p := ad.add (j * 2)) (by rw [block_of_add]; exact hadl)).trans z0; have v1 := (hC.cell (p := ⟨(ad.add (j * 2)).block, (ad.add (j * 2)).off + 1, none⟩) (hb1 _)).trans z1; have v2 := (hC.cell (p := ad2.add (j * 2)) (by rw [block_of_add]; exact hadl2)).trans y0; have v3 := (hC.cell (p := ⟨(ad2.add (j * 2)).block, (ad2.add (j * 2)).off + 1, none⟩) (hb2 _)).trans y1; And.intro (v0) (And.intro (v1) (And.intro (v2) (v3)))
     refine wp_any_at hA [(.det ?dRb0), (.det ?dRb1), (.det ?dRb2), (.det ?dRb3), (.det ?dRb4), (.det ?dRb5), (.det ?dRb6), (.det ?dRb7), (.det ?dRb8)] [] (fun wy => Below wx.heap.size wx wy) (TSp [] Grows) (by kernel_rfl) rfl (by kernel_rfl) (by kernel_rfl) rfl ((Below.refl _ _).drew) (stab_sp [] [true, true, true, true, true, true, true, true, true] [true, true, true, true, true, true, true, true, true] [] rfl rfl rfl (by kernel_rfl) ⟨trivial, trivial, trivial, trivial, trivial, trivial, trivial, trivial, trivial, trivial⟩ trivial) (fun _ h => by cases h) (fun _ _ _ _ _ h => by cases h) (fun _ h => by cases h) ⟨?oRb0, ?oRb1, ?oRb2, ?oRb3, ?oRb4, ?oRb5, ?oRb6, ?oRb7, ?oRb8, trivial⟩ (by kernel_rfl) ?fRb
     case oRb0 => intro ev wo hev hC hs hph; have x0 := se hA hs 0; exact od rfl rfl (by kernel_rfl) hC (TSp.of rfl (Grows.refl _)) (by simp [go_sem, x0] <;> rfl)
     case oRb1 => intro ev wo hev hC hs hph; have x0 := se hA hs 5; exact od rfl rfl (by kernel_rfl) hC (TSp.of rfl (Grows.refl _)) (by simp [go_sem, x0] <;> rfl)
     case oRb2 => intro ev wo hev hC hs hph; have x0 := sd hs 16 0; have x1 := sd hs 17 1; exact od rfl rfl (by kernel_rfl) hC (TSp.of rfl (Grows.refl _)) (by simp [go_sem, x0, x1, hA9, jj0, jj1, hlt] <;> rfl)
     case oRb3 => intro ev wo hev hC hs hph; have x0 := sd hs 18 2; exact od rfl rfl (by kernel_rfl) hC (TSp.of rfl (Grows.refl _)) (by simp [go_sem, x0, pRb _ hC, hwj] <;> rfl)
     case oRb4 => intro ev wo hev hC hs hph; have x0 := se hA hs 1; exact od rfl rfl (by kernel_rfl) hC (TSp.of rfl (Grows.refl _)) (by simp [go_sem, x0] <;> rfl)
     case oRb5 => intro ev wo hev hC hs hph; have x0 := se hA hs 5; exact od rfl rfl (by kernel_rfl) hC (TSp.of rfl (Grows.refl _)) (by simp [go_sem, x0] <;> rfl)
     case oRb6 => intro ev wo hev hC hs hph; have x0 := sd hs 20 4; have x1 := sd hs 21 5; exact od rfl rfl (by kernel_rfl) hC (TSp.of rfl (Grows.refl _)) (by simp [go_sem, x0, x1, hA29, jj0, jj1, hlt] <;> rfl)
     case oRb7 => intro ev wo hev hC hs hph; have x0 := sd hs 22 6; exact od rfl rfl (by kernel_rfl) hC (TSp.of rfl (Grows.refl _)) (by simp [go_sem, x0, pRb _ hC, hwj] <;> rfl)
     case oRb8 => intro ev wo hev hC hs hph; have x0 := sd hs 19 3; have x1 := sd hs 23 7; exact od rfl rfl (by kernel_rfl) hC (TSp.of rfl (Grows.refl _)) (by simp [go_sem, x0, x1, e1, e2] <;> rfl)
     intro sg wf hC hph
     intro a hA
     replace hA := hA.keepN [0, 1, 12, 13, 24]
     refine nT ?_
     refine wp_if hA 24 _ rfl (fun hq2 => ?yTb) (fun hq2 => ?nTb)
     case nTb => cases hq2
     case yTb =>
      refine wS (wR ?_)
      revert a; refine wo rfl rfl (by decide) (fun ev e h => by simp [go_sem, h, hwj] <;> rfl) ?_; intro a hA
      replace hA := hA.keepN [4]
      refine wN (nT (wp_ret (rB (rT (rT (rB (rT ?_)))))))
      refine ret_1 hA 4 rfl rfl ?_
      rw [decide_eq_false hxy, Bool.false_and] at hall
      exact ⟨by rw [hall], HB.trans (hC.mono HB.size)⟩
    ·have e0 : True := trivial
     have pRc := fun (wo : World) (hC : (fun wy => Below wx.heap.size wx wy) wo) => have v0 := (hC.cell (p := ad.add (j * 2)) (by rw [block_of_add]; exact hadl)).trans z0; have v1 := (hC.cell (p := ⟨(ad.add (j * 2)).block, (ad.add (j * 2)).off + 1, none⟩) (hb1 _)).trans z1; have v2 := (hC.cell (p := ad2.add (j * 2)) (by rw [block_of_add]; exact hadl2)).trans y0; have v3 := (hC.cell (p := ⟨(ad2.add (j * 2)).block, (ad2.add (j * 2)).off + 1, none⟩) (hb2 _)).trans y1; And.intro (v0) (And.intro (v1) (And.intro (v2) (v3)))
     refine wp_any_at hA [(.det ?dRc0), (.det ?dRc1), (.det ?dRc2), (.det ?dRc3), (.det ?dRc4), (.det ?dRc5), (.det ?dRc6), (.det ?dRc7), (.det ?dRc8)] [] (fun wy => Below wx.heap.size wx wy) (TSp [] Grows) (by kernel_rfl) rfl (by kernel_rfl) (by kernel_rfl) rfl ((Below.refl _ _).drew) (stab_sp [] [true, true, true, true, true, true, true, true, true] [true, true, true, true, true, true, true, true, true] [] rfl rfl rfl (by kernel_rfl) ⟨trivial, trivial, trivial, trivial, trivial, trivial, trivial, trivial, trivial, trivial⟩ trivial) (fun _ h => by cases h) (fun _ _ _ _ _ h => by cases h) (fun _ h => by cases h) ⟨?oRc0, ?oRc1, ?oRc2, ?oRc3, ?oRc4, ?oRc5, ?oRc6, ?oRc7, ?oRc8, trivial⟩ (by kernel_rfl) ?fRc
     case oRc0 => intro ev wo hev hC hs hph; have x0 := se hA hs 0; exact od rfl rfl (by kernel_rfl) hC (TSp.of rfl (Grows.refl _)) (by simp [go_sem, x0] <;> rfl)
     case oRc1 => intro ev wo hev hC hs hph; have x0 := se hA hs 5; exact od rfl rfl (by kernel_rfl) hC (TSp.of rfl (Grows.refl _)) (by simp [go_sem, x0] <;> rfl)
     case oRc2 => intro ev wo hev hC hs hph; have x0 := sd hs 16 0; have x1 := sd hs 17 1; exact od rfl rfl (by kernel_rfl) hC (TSp.of rfl (Grows.refl _)) (by simp [go_sem, x0, x1, hA9, jj0, jj1, hlt] <;> rfl)
     case oRc3 => intro ev wo hev hC hs hph; have x0 := sd hs 18 2; exact od rfl rfl (by kernel_rfl) hC (TSp.of rfl (Grows.refl _)) (by simp [go_sem, x0, pRc _ hC, hwj] <;> rfl)
     case oRc4 => intro ev wo hev hC hs hph; have x0 := se hA hs 1; exact od rfl rfl (by kernel_rfl) hC (TSp.of rfl (Grows.refl _)) (by simp [go_sem, x0] <;> rfl)
     case oRc5 => intro ev wo hev hC hs hph; have x0 := se hA hs 5; exact od rfl rfl (by kernel_rfl) hC (TSp.of rfl (Grows.refl _)) (by simp [go_sem, x0] <;> rfl)
     case oRc6 => intro ev wo hev hC hs hph; have x0 := sd hs 20 4; have x1 := sd hs 21 5; exact od rfl rfl (by kernel_rfl) hC (TSp.of rfl (Grows.refl _)) (by simp [go_sem, x0, x1, hA29, jj0, jj1, hlt] <;> rfl)
     case oRc7 => intro ev wo hev hC hs hph; have x0 := sd hs 22 6; exact od rfl rfl (by kernel_rfl) hC (TSp.of rfl (Grows.refl _)) (by simp [go_sem, x0, pRc _ hC, hwj] <;> rfl)
     case oRc8 => intro ev wo hev hC hs hph; have x0 := sd hs 19 3; have x1 := sd hs 23 7; exact od rfl rfl (by kernel_rfl) hC (TSp.of rfl (Grows.refl _)) (by simp [go_sem, x0, x1, e1] <;> rfl)
     intro sg wf hC hph
     intro a hA
     replace hA := hA.keepN [0, 1, 12, 13, 24]
     refine nT ?_
     refine wp_if hA 24 _ rfl (fun hq2 => ?yTc) (fun hq2 => ?nTc)
     case nTc => cases hq2
     case yTc =>
      refine wS (wR ?_)
      revert a; refine wo rfl rfl (by decide) (fun ev e h => by simp [go_sem, h, hwj] <;> rfl) ?_; intro a hA
      replace hA := hA.keepN [4]
      refine wN (nT (wp_ret (rB (rT (rT (rB (rT ?_)))))))
      refine ret_1 hA 4 rfl rfl ?_
      rw [decide_eq_false hxy, Bool.false_and] at hall
      exact ⟨by rw [hall], HB.trans (hC.mono HB.size)⟩
  case nL =>
   have hjn : j = n := by simp at hq; omega
   rw [hjn, List.drop_of_length_le (by omega), List.drop_of_length_le (by omega)] at hall
   replace hA := hA.keepN []
   refine wp_exit (xT (xT (xB (nT (wS (wR ?_))))))
   revert a; refine wo rfl rfl (by decide) (fun ev e h => by simp [go_sem, h] <;> rfl) ?_; intro a hA
   replace hA := hA.keepN [4]
   refine wN (nT (wp_ret ?_))
   refine ret_1 hA 4 rfl rfl ?_
   exact ⟨by rw [hall]; rfl, HB⟩
theorem logs_mem (d : DiskM) (n : Nat) (hn : n < 16) : decide ((n : Int) ∈ (logsD d).map fun n => ((n : Nat) : Int)) = hasD d (fileK kLog n) := by
 rw [Bool.eq_iff_iff, decide_eq_true_eq, List.mem_map]
 unfold logsD
 constructor
 ·rintro ⟨m, hm, e⟩
  have : m = n := by omega
  subst this
  exact (List.mem_filter.1 hm).2
 ·intro h
  exact ⟨n, List.mem_filter.2 ⟨List.mem_range.2 hn, h⟩, rfl⟩
theorem any_range_succ (f : Nat → Bool) (j : Nat) : (List.range (j + 1)).any f = ((List.range j).any f || f j) := by
 rw [List.range_succ, List.any_append]
 simp
theorem any_range_yes {f : Nat → Bool} {j n : Nat} (hj : j < n) (h : f j = true) : (List.range n).any f = true := List.any_eq_true.2 ⟨j, List.mem_range.2 hj, h⟩
/-- is a page there without its log? -/
def strayN (d : DiskM) (n : Nat) : Bool := !hasD d (fileK kLog n) && (hasD d (fileK kIdx n) || hasD d (fileK kFlg n))
set_option maxRecDepth 100000 in
set_option maxHeartbeats 8000000 in
theorem stray_at {w : World} {p mb N : Nat} {d : DiskM} (h : Dk w p mb d N) (hN : N < 900000) :
 Calls Tryz.prog 90 #[.pointer (some ⟨p, 0, none⟩)] w fun ev w' => ev = .returned (.bool (strayD d)) ∧ Below w.heap.size w w' := by
 have hsd : strayD d = ((List.range 16).any (strayN d) || hasD d kNew) := rfl
 have hfew := h.few
 refine calls_at 32 Tryz.func90 rfl rfl (Nat.le_of_ble_eq_true rfl) ?_
 intro a hA; replace hA := hA.norm
 refine wS (wR ?_)
 revert a; refine wo rfl rfl (by decide) (fun ev e h => by simp [go_sem, h] <;> rfl) ?_; intro a hA
 replace hA := hA.keepN [0]
 refine wN (nT (wS (wR ?_)))
 revert a; refine wo rfl rfl (by decide) (fun ev e h => by simp [go_sem, h] <;> rfl) ?_; intro a hA
 refine wl_call hA rfl rfl (by decide) (fun ev h => exec_call Tryz.func143 (by kernel_rfl) rfl (h.f _) (by first | (simp only [mL, h.get 5 rfl, h.c] <;> rfl) | (simp [mL, h.get 5 rfl, h.c] <;> rfl))) (logs_at h hN) ?_
 rintro e w1 ⟨V, rfl, hoL, hb1⟩
 refine ⟨_, rfl, fun a hA => ?_⟩
 obtain ⟨A, c, rfl, hrL, -⟩ := hoL.reads
 obtain ⟨L, hL⟩ : ∃ L, ((logsD d).map fun n => ((n : Nat) : Int)) = L := ⟨_, rfl⟩
 have hmem := logs_mem d
 have hLl : L.length ≤ 16 := by
  rw [← hL, List.length_map]
  unfold logsD
  have := List.length_filter_le (fun n => hasD d (fileK kLog n)) (List.range 16)
  rwa [List.length_range] at this
 rw [hL] at hA hrL hmem
 revert a; refine wo rfl rfl (by decide) (fun ev e h => by simp [go_sem, h] <;> rfl) ?_; intro a hA
 replace hA := hA.keepN [0, 3]
 refine wN (nT (wS (wS (wR ?_))))
 revert a; refine wo rfl rfl (by decide) (fun ev e h => by simp [go_sem, h] <;> rfl) ?_; intro a hA
 replace hA := hA.keepN [0, 3, 7]
 refine wN (nT (wB ?_))
 refine wp_loop_at (fun f a wx => ∃ j : Nat, j + f = 16 ∧ (List.range j).any (strayN d) = false ∧ Below w1.heap.size w1 wx ∧ At 32 [(0, .pointer (some ⟨p, 0, none⟩)), (3, .slice A L.length c), (7, .int .i64 (j : Nat))] a) (16) ?_ ?_
 ·exact ⟨0, by omega, rfl, Below.refl _ _, hA⟩
 clear hA
 rintro f a wx ⟨j, hjf, hno, HX, hA⟩
 have jw : IntKind.i64.wrap ((j : Int) + 1) = ((j + 1 : Nat) : Int) := IntWalk.i64_in _ (by omega)
 have HW := hb1.trans (HX.mono hb1.size)
 have hD := h.below HW
 refine wS (wR ?_)
 revert a; refine wo rfl rfl (by decide) (fun ev e h => by simp [go_sem, h] <;> rfl) ?_; intro a hA
 replace hA := hA.keepN [0, 3, 7, 8]
 refine wN (nT (wS ?_))
 refine wp_if hA 8 _ rfl (fun hq => ?yA) (fun hq => ?nA)
 case nA =>
  have hj : j = 16 := by simp at hq; omega
  rw [hj] at hno
  replace hA := hA.keepN [0]
  refine wp_exit (xT (xT (xB (nT (wS (wR ?_))))))
  revert a; refine wo rfl rfl (by decide) (fun ev e h => by simp [go_sem, h] <;> rfl) ?_; intro a hA
  refine wl_call hA rfl rfl (by decide) (fun ev h => exec_call Tryz.func78 (by kernel_rfl) rfl (h.f _) (by first | (simp only [mL, h.get 29 rfl, h.c] <;> rfl) | (simp [mL, h.get 29 rfl, h.c] <;> rfl))) (hD.names (by omega)) ?_
  rintro e w2 ⟨An, cn, rfl, hrn, hb2⟩
  refine ⟨_, rfl, fun a hA => ?_⟩
  have hk := hasKey_any An cn d.files kNew w2 (by omega) hrn
  obtain ⟨q9, hq9⟩ : ∃ x, d.files.length = x := ⟨_, rfl⟩
  rw [hq9] at hA hk
  refine wl_call hA rfl rfl (by decide) (fun ev h => exec_call Tryz.func105 (by kernel_rfl) rfl (h.f _) (by first | (simp only [mL, h.get 30 rfl, h.c] <;> rfl) | (simp [mL, h.get 30 rfl, h.c] <;> rfl))) (hk) ?_
  rintro e w3 ⟨rfl, hb3⟩
  refine ⟨_, rfl, fun a hA => ?_⟩
  revert a; refine wo rfl rfl (by decide) (fun ev e h => by simp [go_sem, h] <;> rfl) ?_; intro a hA
  replace hA := hA.keepN [2]
  refine wN (nT (wp_ret ?_))
  refine ret_1 hA 2 rfl rfl ?_
  rw [hsd, hno, Bool.false_or]
  exact ⟨rfl, (HW.trans (hb2.mono HW.size)).trans (hb3.mono (HW.trans (hb2.mono HW.size)).size)⟩
 case yA =>
  have hj : j < 16 := by simp at hq; omega
  refine wp_skip (nT (wS (wB (wS (wR ?_)))))
  revert a; (iterate 2 refine wo rfl rfl (by decide) (fun ev e h => by simp [go_sem, h] <;> rfl) ?_); intro a hA
  replace hA := hA.keepN [0, 3, 4, 7]
  refine wN (nT (wS (wR ?_)))
  revert a; (iterate 2 refine wo rfl rfl (by decide) (fun ev e h => by simp [go_sem, h] <;> rfl) ?_); intro a hA
  refine wl_call hA rfl rfl (by decide) (fun ev h => exec_call Tryz.func146 (by kernel_rfl) rfl (h.f _) (by first | (simp only [mL, h.get 10 rfl, h.get 11 rfl, h.c] <;> rfl) | (simp [mL, h.get 10 rfl, h.get 11 rfl, h.c] <;> rfl))) (containsI_any L (j : Int) A c _ (hrL.below HX) (by omega)) ?_
  rintro e w2 ⟨rfl, hb2⟩
  refine ⟨_, rfl, fun a hA => ?_⟩
  rw [hmem j hj] at hA
  obtain ⟨b1, hb1'⟩ : ∃ b, hasD d (fileK kLog j) = b := ⟨_, rfl⟩
  rw [hb1'] at hA
  have HX2 := HX.trans (hb2.mono HX.size)
  have HW2 := HW.trans (hb2.mono HW.size)
  have hD2 := hD.below hb2
  have hsn : strayN d j = (!b1 && (hasD d (fileK kIdx j) || hasD d (fileK kFlg j))) := by unfold strayN; rw [hb1']
  obtain ⟨q9, hq9⟩ : ∃ x, d.files.length = x := ⟨_, rfl⟩
  cases b1 with
  | true =>
    revert a; (iterate 2 refine wo rfl rfl (by decide) (fun ev e h => by simp [go_sem, h] <;> rfl) ?_); intro a hA
    refine wl_guard _ (v := .bool false) hA rfl rfl rfl rfl (by decide) (fun hq ev h => by first | (cases hq; done) | (cases hr; done)) fun a hA => ?_
    refine wl_guard _ (v := .bool false) hA rfl rfl rfl rfl (by decide) (fun hq ev h => by first | (cases hq; done) | (cases hr; done)) fun a hA => ?_
    refine wl_guard _ (v := .bool false) hA rfl rfl rfl rfl (by decide) (fun hq ev h => by first | (cases hq; done) | (cases hr; done)) fun a hA => ?_
    refine wl_guard _ (v := .bool false) hA rfl rfl rfl rfl (by decide) (fun hq ev h => by first | (cases hq; done) | (cases hr; done)) fun a hA => ?_
    refine wl_guard _ (v := .bool false) hA rfl rfl rfl rfl (by decide) (fun hq ev h => by first | (cases hq; done) | (cases hr; done)) fun a hA => ?_
    refine wl_guard _ (v := .bool false) hA rfl rfl rfl rfl (by decide) (fun hq ev h => by first | (cases hq; done) | (cases hr; done)) fun a hA => ?_
    replace hA := hA.keepN [0, 3, 4, 7, 14, 20]
    refine wl_guard2 _ _ (v := .bool false) hA rfl rfl rfl rfl (by decide) (fun hq hr ev h => by first | (cases hq; done) | (cases hr; done)) fun a hA => ?_
    refine wl_guard2 _ _ (v := .bool false) hA rfl rfl rfl rfl (by decide) (fun hq hr ev h => by first | (cases hq; done) | (cases hr; done)) fun a hA => ?_
    refine wl_guard2 _ _ (v := .bool false) hA rfl rfl rfl rfl (by decide) (fun hq hr ev h => by first | (cases hq; done) | (cases hr; done)) fun a hA => ?_
    refine wl_guard2 _ _ (v := .bool false) hA rfl rfl rfl rfl (by decide) (fun hq hr ev h => by first | (cases hq; done) | (cases hr; done)) fun a hA => ?_
    refine wl_guard2 _ _ (v := .bool false) hA rfl rfl rfl rfl (by decide) (fun hq hr ev h => by first | (cases hq; done) | (cases hr; done)) fun a hA => ?_
    refine wl_guard _ (v := .bool false) hA rfl rfl rfl rfl (by decide) (fun hq ev h => by first | (cases hq; done) | (cases hr; done)) fun a hA => ?_
    revert a; (first | refine wka rfl rfl (by decide) rfl rfl rfl ?_ | refine wo rfl rfl (by decide) (fun ev e h => by simp [go_sem, h, gv_or, gv_and] <;> rfl) ?_); intro a hA
    replace hA := hA.keepN [0, 3, 7, 27]
    refine wN (nT ?_)
    refine wp_if hA 27 _ rfl (fun hq2 => ?yB) (fun hq2 => ?nB)
    case yB => cases hq2
    case nB =>
     refine wp_skip (nB (nT (wR ?_)))
     revert a; (iterate 2 refine wo rfl rfl (by decide) (fun ev e h => by simp [go_sem, h, jw] <;> rfl) ?_); intro a hA
     replace hA := hA.keepN [0, 3, 7]
     refine wN (nT ?_)
     exact ⟨f - 1, by omega, j + 1, by omega, by rw [any_range_succ, hno, hsn]; rfl, HX2, hA⟩
  | false =>
    revert a; (iterate 2 refine wo rfl rfl (by decide) (fun ev e h => by simp [go_sem, h, jw] <;> rfl) ?_); refine wg _ rfl rfl rfl rfl (by decide) (fun hq ev e h => by simp [go_sem, h, ↓gw_t (beq_t hq), jw] <;> rfl) ?_; intro a hA
    refine wl_kcall hA rfl rfl rfl rfl (by decide) (fun ev h => exec_call Tryz.func78 (by kernel_rfl) rfl (h.f _) (by first | (simp only [mL, h.get 15 rfl, h.c] <;> rfl) | (simp [mL, h.get 15 rfl, h.c, jw] <;> rfl))) (hD2.names (by omega)) ?_
    rintro e w3 ⟨An, cn, rfl, hrn, hb3⟩
    refine ⟨_, rfl, fun a hA => ?_⟩
    rw [hq9] at hA hrn
    have hD3 := hD2.below hb3
    have HX3 := HX2.trans (hb3.mono HX2.size)
    have HW3 := HW2.trans (hb3.mono HW2.size)
    revert a; refine wg _ rfl rfl rfl rfl (by decide) (fun hq ev e h => by simp [go_sem, h, ↓gw_t (beq_t hq), jw] <;> rfl) ?_; intro a hA
    refine wl_kcall hA rfl rfl rfl rfl (by decide) (fun ev h => exec_call Tryz.func64 (by kernel_rfl) rfl (h.f _) (by first | (simp only [mL, h.get 17 rfl, h.c] <;> rfl) | (simp [mL, h.get 17 rfl, h.c, jw] <;> rfl))) (file_any kIdx (by decide) j (by omega) _) ?_
    rintro e w4 ⟨rfl, hb4⟩
    refine ⟨_, rfl, fun a hA => ?_⟩
    have hD4 := hD3.below hb4
    have HX4 := HX3.trans (hb4.mono HX3.size)
    have HW4 := HW3.trans (hb4.mono HW3.size)
    have hk := hasKey_any An cn d.files (fileK kIdx j) w4 (by omega) (by rw [hq9]; exact (hrn.below hb4).more hb4.size)
    rw [hq9] at hk
    refine wl_kcall hA rfl rfl rfl rfl (by decide) (fun ev h => exec_call Tryz.func105 (by kernel_rfl) rfl (h.f _) (by first | (simp only [mL, h.get 16 rfl, h.get 18 rfl, h.c] <;> rfl) | (simp [mL, h.get 16 rfl, h.get 18 rfl, h.c, jw] <;> rfl))) (hk) ?_
    rintro e w5 ⟨rfl, hb5⟩
    refine ⟨_, rfl, fun a hA => ?_⟩
    have hD5 := hD4.below hb5
    have HX5 := HX4.trans (hb5.mono HX4.size)
    have HW5 := HW4.trans (hb5.mono HW4.size)
    obtain ⟨b2, hb2'⟩ : ∃ b, hasD d (fileK kIdx j) = b := ⟨_, rfl⟩
    have hb2'' : (fget (fileK kIdx j) d.files).isSome = b2 := hb2'
    rw [hb2''] at hA
    rw [hb2'] at hsn
    cases b2 with
    | true =>
      revert a; refine wg _ rfl rfl rfl rfl (by decide) (fun hq ev e h => by simp [go_sem, h, ↓gw_t (beq_t hq), jw] <;> rfl) ?_; intro a hA
      refine wl_guard2 _ _ (v := .bool false) hA rfl rfl rfl rfl (by decide) (fun hq hr ev h => by first | (cases hq; done) | (cases hr; done)) fun a hA => ?_
      refine wl_guard2 _ _ (v := .bool false) hA rfl rfl rfl rfl (by decide) (fun hq hr ev h => by first | (cases hq; done) | (cases hr; done)) fun a hA => ?_
      refine wl_guard2 _ _ (v := .bool false) hA rfl rfl rfl rfl (by decide) (fun hq hr ev h => by first | (cases hq; done) | (cases hr; done)) fun a hA => ?_
      refine wl_guard2 _ _ (v := .bool false) hA rfl rfl rfl rfl (by decide) (fun hq hr ev h => by first | (cases hq; done) | (cases hr; done)) fun a hA => ?_
      refine wl_guard2 _ _ (v := .bool false) hA rfl rfl rfl rfl (by decide) (fun hq hr ev h => by first | (cases hq; done) | (cases hr; done)) fun a hA => ?_
      replace hA := hA.keepN [0, 3, 7, 14, 20, 25]
      refine wl_guard _ hA rfl rfl rfl rfl (by decide) (fun hq ev h => by exact pick_or rfl (((h.get 20 rfl).trans (gw_t (beq_t hq)))) (h.c _) (((h.get 25 rfl).trans (gw_a (beq_t hq))))) fun a hA => ?_
      revert a; (first | refine wka rfl rfl (by decide) rfl rfl rfl ?_ | refine wo rfl rfl (by decide) (fun ev e h => by simp [go_sem, h, gv_or, gv_and, jw] <;> rfl) ?_); intro a hA
      replace hA := hA.keepN [0, 3, 7, 27]
      refine wN (nT ?_)
      refine wp_if hA 27 _ rfl (fun hq2 => ?yB2) (fun hq2 => ?nB2)
      case nB2 => cases hq2
      case yB2 =>
       refine wS (wR ?_)
       revert a; refine wo rfl rfl (by decide) (fun ev e h => by simp [go_sem, h, jw] <;> rfl) ?_; intro a hA
       replace hA := hA.keepN [2]
       refine wN (nT (wp_ret (rB (rT (rT (rB (rT ?_)))))))
       refine ret_1 hA 2 rfl rfl ?_
       rw [hsd, any_range_yes hj (by rw [hsn]; rfl)]
       exact ⟨rfl, HW5⟩
    | false =>
      revert a; refine wg _ rfl rfl rfl rfl (by decide) (fun hq ev e h => by simp [go_sem, h, ↓gw_t (beq_t hq), jw] <;> rfl) ?_; refine wg2 _ _ rfl rfl rfl rfl (by decide) (fun hq hr ev e h => by simp [go_sem, h, ↓gw_t (and_beq hq hr), ↓gw_t hq, jw] <;> rfl) ?_; intro a hA
      refine wl_kcall hA rfl rfl rfl rfl (by decide) (fun ev h => exec_call Tryz.func78 (by kernel_rfl) rfl (h.f _) (by first | (simp only [mL, h.get 21 rfl, h.c] <;> rfl) | (simp [mL, h.get 21 rfl, h.c, jw] <;> rfl))) (hD5.names (by omega)) ?_
      rintro e w6 ⟨Am, cm, rfl, hrm, hb6⟩
      refine ⟨_, rfl, fun a hA => ?_⟩
      rw [hq9] at hA hrm
      have HX6 := HX5.trans (hb6.mono HX5.size)
      have HW6 := HW5.trans (hb6.mono HW5.size)
      revert a; refine wg2 _ _ rfl rfl rfl rfl (by decide) (fun hq hr ev e h => by simp [go_sem, h, ↓gw_t (and_beq hq hr), ↓gw_t hq, jw] <;> rfl) ?_; intro a hA
      refine wl_kcall hA rfl rfl rfl rfl (by decide) (fun ev h => exec_call Tryz.func64 (by kernel_rfl) rfl (h.f _) (by first | (simp only [mL, h.get 23 rfl, h.c] <;> rfl) | (simp [mL, h.get 23 rfl, h.c, jw] <;> rfl))) (file_any kFlg (by decide) j (by omega) _) ?_
      rintro e w7 ⟨rfl, hb7⟩
      refine ⟨_, rfl, fun a hA => ?_⟩
      have HX7 := HX6.trans (hb7.mono HX6.size)
      have HW7 := HW6.trans (hb7.mono HW6.size)
      have hk2 := hasKey_any Am cm d.files (fileK kFlg j) w7 (by omega) (by rw [hq9]; exact (hrm.below hb7).more hb7.size)
      rw [hq9] at hk2
      refine wl_gcallv2 _ _ hA rfl rfl rfl rfl (by decide) (fun hq hr ev h => exec_call Tryz.func105 (by kernel_rfl) rfl (h.f _) (by first | (simp only [mL, ((h.get 22 rfl).trans (gw_t (and_beq hq hr))), ((h.get 24 rfl).trans (gw_t (and_beq hq hr))), h.c] <;> rfl) | (simp [mL, ((h.get 22 rfl).trans (gw_t (and_beq hq hr))), ((h.get 24 rfl).trans (gw_t (and_beq hq hr))), h.c, jw] <;> rfl))) (fun hq hr => hk2) fun a w8 hb8 hA => ?_
      have HX8 := HX7.trans (hb8.mono HX7.size)
      have HW8 := HW7.trans (hb8.mono HW7.size)
      obtain ⟨b3, hb3'⟩ : ∃ b, hasD d (fileK kFlg j) = b := ⟨_, rfl⟩
      have hb3'' : (fget (fileK kFlg j) d.files).isSome = b3 := hb3'
      rw [hb3''] at hA
      rw [hb3'] at hsn
      refine wl_guard _ hA rfl rfl rfl rfl (by decide) (fun hq ev h => by exact pick_or rfl (((h.get 20 rfl).trans (gw_t (beq_t hq)))) (h.c _) (((h.get 25 rfl).trans (gw_a (beq_t hq))))) fun a hA => ?_
      revert a; (first | refine wka rfl rfl (by decide) rfl rfl rfl ?_ | refine wo rfl rfl (by decide) (fun ev e h => by simp [go_sem, h, gv_or, gv_and, jw] <;> rfl) ?_); intro a hA
      replace hA := hA.keepN [0, 3, 7, 27]
      refine wN (nT ?_)
      refine wp_if hA 27 _ rfl (fun hq2 => ?yB3) (fun hq2 => ?nB3)
      case yB3 =>
       have hb9 : b3 = true := by simpa using hq2
       refine wS (wR ?_)
       revert a; refine wo rfl rfl (by decide) (fun ev e h => by simp [go_sem, h, jw] <;> rfl) ?_; intro a hA
       replace hA := hA.keepN [2]
       refine wN (nT (wp_ret (rB (rT (rT (rB (rT ?_)))))))
       refine ret_1 hA 2 rfl rfl ?_
       rw [hsd, any_range_yes hj (by rw [hsn, hb9]; rfl)]
       exact ⟨rfl, HW8⟩
      case nB3 =>
       have hb9 : b3 = false := by simpa using hq2
       refine wp_skip (nB (nT (wR ?_)))
       revert a; (iterate 2 refine wo rfl rfl (by decide) (fun ev e h => by simp [go_sem, h, jw] <;> rfl) ?_); intro a hA
       replace hA := hA.keepN [0, 3, 7]
       refine wN (nT ?_)
       exact ⟨f - 1, by omega, j + 1, by omega, by rw [any_range_succ, hno, hsn, hb9]; rfl, HX8, hA⟩
end Go.Proofs.YtkljkbeahdipfaaGreatDoor
/-
  A store in memory: its record, and the map of its names.
-/
namespace Go.Proofs.YtkljkbeahdipfaaGreatDoor
open Go.RowKit Go.Maps
def heldN (n : Nat) : DataW Value := .held (.int .i64 (n : Nat))
theorem own_map_block {w w' : World} {mn k : Nat} {D : DataW Value} (h : w.ownsMap Tryz.prog 9 heldR mn k D) (hb : w'.heap[mn]? = w.heap[mn]?) : w'.ownsMap Tryz.prog 9 heldR mn k D := by
 obtain ⟨a, c, hh, r⟩ := h
 exact ⟨a, c, hb.trans hh, r⟩
/-- the names in memory -/
structure NamesAt (w : World) (mn : Nat) (es : NamesM) : Prop where
 map : ∃ k, k ≤ 100000 ∧ w.ownsMap Tryz.prog 9 heldR mn k (dmap heldN es)
 up : Up es
/-- a name is put -/
theorem names_put {w : World} {mn k : Nat} {es : NamesM} (h : w.ownsMap Tryz.prog 9 heldR mn k (dmap heldN es)) (hup : Up es) (hn : k < maxLen) (s : ByteArray) (hs : s.size ≤ maxLen) (v : Nat) :
 ∃ w', (Instr.mapUpdate 154 (.map (some mn)) (.string s) (.int .i64 (v : Nat))).run Tryz.prog w = .ok () w' ∧ w'.ownsMap Tryz.prog 9 heldR mn (k + 1) (dmap heldN (fput s.data.toList v es)) ∧ w.mapTurned w' mn := by
 obtain ⟨w', h1, h2, h3⟩ := h.store string_key Tryz.underlying154 hn (key_of s hs) (val := .int .i64 (v : Nat)) (d := heldN v) (ps := []) rfl
 rw [dmap_put heldN hup] at h2
 exact ⟨w', h1, h2, h3⟩
/-- a store in memory -/
structure StoreAt (w : World) (ps p mn : Nat) (es : NamesM) : Prop where
 cells : Blk w ps 156 #[.pointer (some ⟨p, 0, none⟩), .map (some mn)]
 names : NamesAt w mn es
end Go.Proofs.YtkljkbeahdipfaaGreatDoor
/-
  slices.Sort of one's own row of strings.
-/
namespace Go.Proofs.YtkljkbeahdipfaaGreatDoor
open Go.RowKit
def strSh : Sh (List UInt8) := ⟨9, 55, 1, 16, .string ⟨#[]⟩, fun x => [.string (St x)], fun _ => [], fun _ => rfl, fun x u hu => by
 rw [List.mem_singleton.1 hu]
 rfl, Tryz.underlying55, by kernel_rfl, rfl, by decide, by decide⟩
theorem str_flat (l : List (List UInt8)) : l.flatMap strSh.f = l.map encStr := by
 induction l with
 | nil => rfl
 | cons x r ih => rw [List.flatMap_cons, ih]; rfl
theorem sortS_any {B : Nat} {w : World} {V : Value} {l : List (List UInt8)} (h : OwnR strSh B w V l) (hl : l.length ≤ 1000000) :
 Calls Tryz.prog 104 #[V] w fun ev w' => ev = .returned (.tuple #[]) ∧ OwnR strSh B w' V (l.mergeSort fun x y => decide (x ≤ y)) ∧ w.grownBy w' V.ownBlock := by
 obtain ⟨A, c, rfl, hr, hlc⟩ := h.reads
 rcases Nat.eq_zero_or_pos l.length with h0 | h0
 ·have hl0 := List.eq_nil_of_length_eq_zero h0
  subst hl0
  refine (Go.Proofs.AnyM.slices_Sort_string_none Tryz.sort104 A c w).mono ?_
  rintro e w' ⟨rfl, rfl⟩
  exact ⟨rfl, by simpa using h, ⟨rfl, rfl, rfl, Nat.le_refl _, fun _ _ _ => rfl⟩⟩
 ·have hrow := h.row
  rw [str_flat] at hrow
  rcases hrow.2 with ⟨h1, h2⟩ | ⟨g, cap, cur, hv, hg, hb, hn, hcap, hsz, htk⟩
  ·exfalso
   omega
  ·have hA : A = some ⟨g, 0, none⟩ ∧ c = cap := by injection hv with a b c; exact ⟨a, c⟩
   obtain ⟨rfl, rfl⟩ := hA
   have hgl : g < w.heap.size := (Array.getElem?_eq_some_iff.1 hb).1
   rw [show strSh.k = 1 from rfl, Nat.mul_one] at htk
   have hms := List.length_mergeSort (le := fun x y : List UInt8 => decide (x ≤ y)) l
   refine (Go.Proofs.AnyM.slices_Sort_string Tryz.sort104 g 0 c l w (Go.holds_of_block hb htk) hgl (by omega)).mono ?_
   rintro e w' ⟨rfl, n, os, rfl⟩
   refine ⟨rfl, ⟨?_, fun _ _ p hp => (by cases hp), fun _ _ _ _ p hp => (by cases hp)⟩, Go.grownBy_sorted _⟩
   rw [str_flat, hms]
   exact Go.ownsRow_sorted hms hg hb hn hcap hsz
end Go.Proofs.YtkljkbeahdipfaaGreatDoor
/-
  'range' over a map, in the At-style.
-/
namespace Go.Proofs.YtkljkbeahdipfaaGreatDoor
open Go.Maps
section
variable {H : Type} {P : Program} {Q : Exit → Act → World → Prop} {n : Nat} {Γ : Env} {a : Act} {w : World} {l rest : List Oper} {o : Oper} {t : Nat}
theorem wl_range {m : Operand} {T k e : TypeId} {R : Value → Option (DataW H × List MemPlace)} {b c : Nat} {D : DataW H} (hA : At n Γ a) (hg : o.guard = none) (hd : o.dst = some t) (ht : t < n) (hop : o.op = Op.range T m) (K : Keyed P k) (hT : P.underlying T = some (.map k e))
 (hm : ∀ ev, EvIn Γ ev → ev m = .map (some b)) (hown : w.ownsMap P k R b c D)
 (hk : ∀ w', w'.ranges P k R b w.heap.size c D (Maps.has D) (Maps.size D) → w.grownBy w' none → w'.heap.size = w.heap.size + 1 → ∀ a', At n ((t, .pointer (some ⟨w.heap.size, 0, none⟩)) :: Γ) a' → wpList P l.toArray Q rest a' w') : wpList P l.toArray Q (o :: rest) a w :=
 wpList_range_own w hg m T hop k e K hT R b c D (hm _ hA.evin) hown fun w' h1 h2 h3 => hk w' h1 h2 h3 _ (by rw [hd]; exact hA.put ht _)
/-- the next of a map whose keys are texts and whose elements are whole numbers -/
theorem wl_next {β : Type} {it : Operand} {k : TypeId} {R : Value → Option (DataW H × List MemPlace)} {b r c : Nat} {D : DataW H} {left : Lit → Bool} {cnt : Nat} (mkV : β → Value) (hA : At n Γ a) (hg : o.guard = none) (hd : o.dst = some t) (ht : t < n) (hop : o.op = Op.next it false) (K : Keyed P k) (hks : P.underlying k = some .string)
 (invV : ∀ v y, R v = some y → ∃ c, v = mkV c) (hit : ∀ ev, EvIn Γ ev → ev it = .pointer (some ⟨r, 0, none⟩)) (h : w.ranges P k R b r c D left cnt) (ss : List (List UInt8)) (hC : Collected D left ss)
 (hDone : ∀ a', cnt = 0 → (∀ kl, left kl = false) → At n ((t, .tuple #[.bool false]) :: Γ) a' → wpList P l.toArray Q rest a' w)
 (hMore : ∀ (x : List UInt8) (v : β) (w' : World) (cnt' : Nat) (left' : Lit → Bool) a', x.length ≤ maxLen → w'.ranges P k R b r c D left' cnt' → Collected D left' (ss ++ [x]) → cnt' < cnt → w.grownBy w' (some r) → w'.heap.size = w.heap.size →
  (Instr.entry (.pointer (some ⟨r, 0, none⟩))).run P w' = .ok (.tuple #[encStr x, mkV v]) w' → At n ((t, .tuple #[.bool true, encStr x, mkV v]) :: Γ) a' → wpList P l.toArray Q rest a' w') : wpList P l.toArray Q (o :: rest) a w :=
 wpList_next_ranges w hg it hop k K R encStr mkV (fun key kl hkey => by obtain ⟨x, hx, _⟩ := Maps.keyOf_str hks hkey; exact ⟨x, hx⟩) invV b r c D left cnt (hit _ hA.evin) h
  (fun h0 hl => hDone _ h0 hl (by rw [hd]; exact hA.put ht _)) fun x v kl y w' cnt' hkey hlk hv hat hrg hlt hgr hsz hen => by
   obtain ⟨x', ex, rfl, hx'⟩ := Maps.keyOf_str hks hkey
   have e : x = x' := encStr_inj ex
   subst e
   exact hMore x v w' cnt' _ _ hx' hrg (hC.step hlk hat) hlt hgr hsz hen (by rw [hd]; exact hA.put ht _)
theorem wl_next1 {β : Type} {it : Operand} {k : TypeId} {R : Value → Option (DataW H × List MemPlace)} {b r c : Nat} {D : DataW H} {left : Lit → Bool} {cnt : Nat} (mkV : β → Value) (hA : At n Γ a) (hg : o.guard = none) (hd : o.dst = some t) (ht : t < n) (hop : o.op = Op.next it false) (K : Keyed P k) (hks : P.underlying k = some .string)
 (invV : ∀ v y, R v = some y → ∃ c, v = mkV c) (hit : ∀ ev, EvIn Γ ev → ev it = .pointer (some ⟨r, 0, none⟩)) (h : w.ranges P k R b r c D left cnt) (ss : List (List UInt8)) (hC : Collected D left ss)
 (hk : ∀ (q : Bool) (arr : Array Value) (w' : World), arr[0]? = some (.bool q) → (q = false → w' = w ∧ cnt = 0 ∧ ∀ kl, left kl = false) →
  (q = true → ∃ (x : List UInt8) (v : β) (cnt' : Nat) (left' : Lit → Bool), x.length ≤ maxLen ∧ w'.ranges P k R b r c D left' cnt' ∧ Collected D left' (ss ++ [x]) ∧ cnt' < cnt ∧ w.grownBy w' (some r) ∧ w'.heap.size = w.heap.size ∧ (Instr.entry (.pointer (some ⟨r, 0, none⟩))).run P w' = .ok (.tuple #[encStr x, mkV v]) w') →
  ∀ a', At n ((t, .tuple arr) :: Γ) a' → wpList P l.toArray Q rest a' w') : wpList P l.toArray Q (o :: rest) a w :=
 wl_next mkV hA hg hd ht hop K hks invV hit h ss hC (fun a' h0 h1 hA' => hk false _ w rfl (fun _ => ⟨rfl, h0, h1⟩) (fun e => by cases e) a' hA')
  fun x v w' cnt' left' a' h1 h2 h3 h4 h5 h6 h7 hA' => hk true _ w' rfl (fun e => by cases e) (fun _ => ⟨x, v, cnt', left', h1, h2, h3, h4, h5, h6, h7⟩) a' hA'
end
end Go.Proofs.YtkljkbeahdipfaaGreatDoor
/-
  Walk: (*Store).Names.
-/
namespace Go.Proofs.YtkljkbeahdipfaaGreatDoor
open Go.RowKit Go.Maps
set_option linter.unusedSimpArgs false
set_option linter.unusedVariables false
set_option maxRecDepth 100000 in
set_option maxHeartbeats 8000000 in
theorem names_any {w : World} {ps p mn : Nat} {es : NamesM} (h : StoreAt w ps p mn es) (hN : es.length ≤ 100000) :
 Calls Tryz.prog 45 #[.pointer (some ⟨ps, 0, none⟩)] w fun ev w' => ∃ V, ev = .returned V ∧ OwnR strSh w.heap.size w' V (es.map (·.1)) ∧ Below w.heap.size w w' := by
 obtain ⟨k, hk, hm⟩ := h.names.map
 have hup := h.names.up
 have K := h.cells
 have hmn := hm.lt
 have c1 : w.cell? ⟨ps, 1, none⟩ = some (.map (some mn)) := K.cell 1
 clear h
 refine calls_at 23 Tryz.func45 rfl rfl (Nat.le_of_ble_eq_true rfl) ?_
 intro a hA; replace hA := hA.norm
 refine wS (wR ?_)
 revert a; refine wo rfl rfl (by decide) (fun ev e h => by simp [go_sem, h, c1] <;> rfl) ?_; intro a hA
 replace hA := hA.keepN [0]
 refine wN (nT (wS (wS (wR ?_))))
 revert a; (iterate 2 refine wo rfl rfl (by decide) (fun ev e h => by simp [go_sem, h, c1] <;> rfl) ?_); intro a hA
 replace hA := hA.keepN [0, 6]
 refine wN (nT ?_)
 refine wp_if hA 6 _ rfl (fun hq0 => ?yZ) (fun hq0 => ?nZ)
 case yZ => cases hq0
 case nZ =>
  refine wp_skip (nT (wS (wR ?_)))
  revert a; refine wo rfl rfl (by decide) (fun ev e h => by simp [go_sem, h, c1] <;> rfl) ?_; intro a hA
  replace hA := hA.keepN [0, 3]
  refine wN (nT (wS (wS (wR ?_))))
  revert a; (iterate 4 refine wo rfl rfl (by decide) (fun ev e h => by simp [go_sem, h, c1] <;> rfl) ?_); intro a hA
  refine wl_range hA rfl rfl (by decide) rfl string_key Tryz.underlying154 (fun ev h => h.get 10 rfl) hm fun w1 hr1 hg1 hz1 a hA => ?_
  have hb1 : Below w.heap.size w w1 := ⟨hg1.os, hg1.tape, hg1.output, hg1.size, fun i hi => hg1.block i hi (by simp)⟩
  replace hA := hA.keepN [3, 11]
  refine wN (nT (wB ?_))
  refine wp_loop_at (fun f a wx => ∃ (V : Value) (left : Lit → Bool) (cnt : Nat) (ss : List (List UInt8)), cnt ≤ f ∧ ss.length + cnt ≤ 100000 ∧ wx.ranges Tryz.prog 9 heldR mn w.heap.size k (dmap heldN es) left cnt ∧ Collected (dmap heldN es) left ss ∧ OwnR strSh w1.heap.size wx V ss ∧ Below w.heap.size w wx ∧ w1.heap.size ≤ wx.heap.size ∧ At 23 [(3, V), (11, .pointer (some ⟨w.heap.size, 0, none⟩))] a) ((Maps.size (dmap heldN es))) ?_ ?_
  ·exact ⟨_, _, _, [], Nat.le_refl _, by rw [dmap_size]; simpa using hN, hr1, Collected.start _, OwnR.nil _ _, hb1, Nat.le_refl _, hA⟩
  clear hA
  rintro f a wx ⟨V, left, cnt, ss, hcf, hsc, hr, hC, ho, HB, hsz, hA⟩
  have hown : ∀ g, V.ownBlock = some g → w1.heap.size ≤ g := fun g e => (ho.row.lt g e).1
  refine wS (wR ?_)
  refine wl_next1 id hA rfl rfl (by decide) rfl string_key Tryz.underlying9 (fun v y _ => ⟨v, rfl⟩) (fun ev h => h.get 11 rfl) hr ss hC fun q arr w2 harr hF hT a hA => ?_
  revert a; refine wo rfl rfl (by decide) (fun ev e h => by simp [go_sem, h, harr] <;> rfl) ?_; intro a hA
  replace hA := hA.keepN [3, 11, 13]
  refine wN (nT (wS ?_))
  refine wp_if hA 13 _ rfl (fun hq1 => ?yN) (fun hq1 => ?nN)
  case nN =>
   obtain ⟨rfl, h0, hl0⟩ := hF hq1
   have hp := hC.perm hm string_key Tryz.underlying9 hl0
   rw [dmap_keys] at hp
   replace hA := hA.keepN [3]
   refine wp_exit (xT (xT (xB (nT (wS (wR ?_))))))
   revert a; refine wo rfl rfl (by decide) (fun ev e h => by simp [go_sem, h, harr] <;> rfl) ?_; intro a hA
   have hs := sortS_any ho (by omega)
   rw [show ss.mergeSort (fun x y => decide (x ≤ y)) = es.map (·.1) from sorted_names hup hp] at hs
   refine wl_call hA rfl rfl (by decide) (fun ev h => exec_call Tryz.func104 (by kernel_rfl) rfl (h.f _) (by first | (simp only [mL, h.get 20 rfl, h.c] <;> rfl) | (simp [mL, h.get 20 rfl, h.c, harr] <;> rfl))) (hs) ?_
   rintro e w3 ⟨rfl, ho3, hg3⟩
   refine ⟨_, rfl, fun a hA => ?_⟩
   replace hA := hA.keepN [3]
   refine wN (nT (wS (wR ?_)))
   revert a; (iterate 2 refine wo rfl rfl (by decide) (fun ev e h => by simp [go_sem, h, harr] <;> rfl) ?_); intro a hA
   replace hA := hA.keepN [2]
   refine wN (nT (wp_ret ?_))
   refine ret_1 hA 2 rfl rfl ?_
   exact ⟨V, rfl, ho3.mono (by omega), HB.grown hg3 HB.size fun g e => by have := hown g e; omega⟩
  case yN =>
   obtain ⟨x, v, cnt', left', hx, hr2, hC2, hlt, hg2, hz2, hen⟩ := hT hq1
   have hO2 : Only w.heap.size wx w2 := ⟨hg2.os, hg2.tape, hg2.output, hz2, fun i hi => by
    rcases Nat.lt_or_ge i wx.heap.size with h1 | h1
    ·exact hg2.block i h1 (fun e => hi (Option.some.inj e))
    ·rw [Array.getElem?_eq_none h1, Array.getElem?_eq_none (by omega)]⟩
   have ho2 := ho.only hO2 (fun g e => by have := hown g e; omega) (fun _ _ p hp => (by cases hp))
   have HB2 : Below w.heap.size w w2 := ⟨hg2.os.trans HB.os, hg2.tape.trans HB.tape, hg2.output.trans HB.output, by have := HB.size; omega, fun i hi => (hO2.block i (by omega)).trans (HB.block i hi)⟩
   have hsz2 : w1.heap.size ≤ w2.heap.size := by omega
   refine wp_skip (nT (wB (wS (wR ?_))))
   refine wl_op hA rfl rfl (by decide) (fun ev h => by simp [go_sem, h.get 11 rfl, harr, hen]; try first | exact ⟨rfl, rfl⟩ | rfl) fun a hA => ?_
   revert a; (iterate 2 refine wo rfl rfl (by decide) (fun ev e h => by simp [go_sem, h, harr] <;> rfl) ?_); intro a hA
   replace hA := hA.keepN [3, 4, 11]
   refine wN (nT (wR ?_))
   revert a; (iterate 2 refine wo rfl rfl (by decide) (fun ev e h => by simp [go_sem, h, harr] <;> rfl) ?_); intro a hA
   refine wl_new hA rfl rfl (by decide) (fun ev h => by simp [go_sem, h.get 17 rfl, harr]; try first | exact ⟨rfl, rfl⟩ | rfl) fun w5 a (K5 : Blk _ _ _ _) hz5 hb5 hA => ?_
   have ho5 := ho2.below hb5
   have HX5 := HB2.trans (hb5.mono HB2.size)
   have hr5 := hr2.kept (row := none) ⟨hb5.os, hb5.tape, hb5.output, hb5.size, fun i hi _ => hb5.block i hi⟩ (by simp) (by simp)
   have hsz5 : w1.heap.size ≤ w5.heap.size := by omega
   have hrow : RowR strSh w5 _ [x] := rowR_blk (s := strSh) (x := x) K5 (fun p hp => (by cases hp))
   obtain ⟨r, w6, hrun, ho6, hg6, -⟩ := run_appR (s := strSh) (c := 1) ho5 hrow (fun _ _ m _ p hp => (by cases hp)) (by simp <;> omega) hsz5
   refine wl_op hA rfl rfl (by decide) (fun ev h => exec_append rfl (h.get 16 rfl) (h.get 18 rfl) hrun) fun a hA => ?_
   have HX6 := below_appR HX5 ho5 hg6 (by omega) HX5.size
   have hr6 := hr5.kept hg6 (fun e => by have := hown _ e.symm; omega) (fun e => by have := hown _ e.symm; omega)
   revert a; refine wo rfl rfl (by decide) (fun ev e h => by simp [go_sem, h, harr] <;> rfl) ?_; intro a hA
   replace hA := hA.keepN [3, 11]
   refine wN (nB (nT ?_))
   exact ⟨f - 1, by omega, _, left', cnt', ss ++ [x], by omega, by simp; omega, hr6, hC2, ho6, HX6, by have := hg6.size; omega, hA⟩
end Go.Proofs.YtkljkbeahdipfaaGreatDoor
/-
  Walk: store.Open.
-/
namespace Go.Proofs.YtkljkbeahdipfaaGreatDoor
open Go.RowKit
set_option linter.unusedSimpArgs false
set_option linter.unusedVariables false
set_option linter.unusedSimpArgs false
set_option linter.unusedVariables false
/-- what Open leaves of a disk -/
def openTo (d : DiskM) : DiskM := if d.files = [] then (madeD d).2 else d
theorem open_lost {d : DiskM} (h : d.lost = true) : openD d = (6, d, []) := by unfold openD; rw [if_pos h]
theorem open_full {d : DiskM} (h : d.lost = false) (h2 : d.files = []) (h3 : ¬ (madeD d).1 = 0) : openD d = ((madeD d).1, (madeD d).2, []) := by
 unfold openD
 rw [h, if_neg (by decide), if_pos ⟨h2, h3⟩]
theorem open_bad {d : DiskM} (h : d.lost = false) (h2 : ¬ (d.files = [] ∧ ¬ (madeD d).1 = 0)) (h3 : openOk (openTo d) = false) : openD d = (9, openTo d, []) := by
 unfold openD
 rw [h, if_neg (by decide), if_neg h2]
 show (if openOk (openTo d) = true then _ else _) = _
 rw [if_neg (by rw [h3]; decide)]
 rfl
theorem open_fine {d : DiskM} (h : d.lost = false) (h2 : ¬ (d.files = [] ∧ ¬ (madeD d).1 = 0)) (h3 : openOk (openTo d) = true) : openD d = (0, openTo d, namesP (placesD (openTo d))) := by
 unfold openD
 rw [h, if_neg (by decide), if_neg h2]
 show (if openOk (openTo d) = true then _ else _) = _
 rw [if_pos h3]
 rfl
/-- what Open answers -/
def OpenIs (B : Nat) (w : World) (p : Nat) (ev : Ending) (r : Int × NamesM) : Prop := (¬ r.1 = 0 → ev = .returned (.tuple #[.pointer none, .int .i64 r.1])) ∧ (r.1 = 0 → ∃ ps mn, ev = .returned (.tuple #[.pointer (some ⟨ps, 0, none⟩), .int .i64 0]) ∧ StoreAt w ps p mn r.2 ∧ B ≤ ps ∧ B ≤ mn)
theorem OpenIs.no {B : Nat} {w : World} {p : Nat} {e : Int} {n : NamesM} (h : ¬ e = 0) : OpenIs B w p (.returned (.tuple #[.pointer none, .int .i64 e])) (e, n) := ⟨fun _ => rfl, fun h2 => absurd h2 h⟩
theorem namesP_snoc (l : List PlaceM) (x : PlaceM) : namesP (l ++ [x]) = fput x.2.data.toList x.1.toNat (namesP l) := by unfold namesP; rw [List.foldl_append]; rfl
theorem tree_few (b : List UInt8) : ((getTreeV b).getD []).length ≤ b.length := by
 unfold getTreeV
 cases pageGet 3 b with
 | none => exact Nat.zero_le _
 | some q =>
   show (Option.getD (if rightTreeV (readTree q) = true ∧ pageB 3 (treeB (readTree q)) = b then some (readTree q) else none) []).length ≤ _
   split
   ·rename_i h
    have h1 := congrArg List.length h.2
    rw [pageB_length] at h1
    have h2 : ∀ l : List PlaceM, l.length ≤ (treeB l).length := fun l => by
     unfold treeB
     rw [List.length_append]
     have h3 : l.length ≤ (l.flatMap placeB).length := by
      induction l with
      | nil => exact Nat.le_refl _
      | cons x r ih =>
        rw [List.flatMap_cons, List.length_append, List.length_cons]
        have : (placeB x).length = 3 + x.2.size := by unfold placeB; rw [List.length_append, be_length, textB_len]; omega
        omega
     omega
    have := h2 (readTree q)
    show (readTree q).length ≤ _
    omega
   ·exact Nat.zero_le _
set_option maxRecDepth 100000 in
set_option maxHeartbeats 16000000 in
theorem open_at {w : World} {p mb N : Nat} {d : DiskM} (h : Dk w p mb d N) (hN : N < 500000) :
 Calls Tryz.prog 33 #[.pointer (some ⟨p, 0, none⟩)] w fun ev w' => OpenIs w.heap.size w' p ev ((openD d).1, (openD d).2.2) ∧ Dk w' p mb (openD d).2.1 (N + 11) ∧ But p mb w w' := by
 have hfew := h.few
 refine calls_at 81 Tryz.func33 rfl rfl (Nat.le_of_ble_eq_true rfl) ?_
 intro a hA; replace hA := hA.norm
 refine wS (wR ?_)
 revert a; (iterate 2 refine wo rfl rfl (by decide) (fun ev e h => by simp [go_sem, h] <;> rfl) ?_); intro a hA
 replace hA := hA.keepN [0]
 refine wN (nT (wS (wB (wS (wR ?_)))))
 revert a; (iterate 3 refine wo rfl rfl (by decide) (fun ev e h => by simp [go_sem, h] <;> rfl) ?_); intro a hA
 replace hA := hA.keepN [0, 14]
 refine wN (nT ?_)
 refine wp_if hA 14 _ rfl (fun hq => ?yA) (fun hq => ?nA)
 case yA => cases hq
 case nA =>
  refine wS (wR ?_)
  revert a; refine wo rfl rfl (by decide) (fun ev e h => by simp [go_sem, h] <;> rfl) ?_; intro a hA
  refine wl_call hA rfl rfl (by decide) (fun ev h => exec_call Tryz.func81 (by kernel_rfl) rfl (h.f _) (by first | (simp only [mL, h.get 18 rfl, h.c] <;> rfl) | (simp [mL, h.get 18 rfl, h.c] <;> rfl))) (h.lost) ?_
  rintro e w1 ⟨rfl, hb1⟩
  refine ⟨_, rfl, fun a hA => ?_⟩
  obtain ⟨lo, hlo⟩ : ∃ b, d.lost = b := ⟨_, rfl⟩
  rw [hlo] at hA
  have hD1 := h.below hb1
  revert a; refine wo rfl rfl (by decide) (fun ev e h => by simp [go_sem, h] <;> rfl) ?_; intro a hA
  replace hA := hA.keepN [0, 17]
  refine wN (nT ?_)
  refine wp_if hA 17 _ rfl (fun hq1 => ?yB) (fun hq1 => ?nB)
  case yB =>
   have hl1 : lo = true := by simpa using hq1
   refine wS (wR ?_)
   revert a; (iterate 2 refine wo rfl rfl (by decide) (fun ev e h => by simp [go_sem, h] <;> rfl) ?_); intro a hA
   replace hA := hA.keepN [2, 3]
   refine wN (nT (wp_ret (rB (rT ?_))))
   refine ret_2 hA 2 3 rfl rfl rfl ?_
   rw [open_lost (by rw [hlo, hl1])]
   exact ⟨OpenIs.no (by decide), hD1.more (by omega), But.of_below hb1⟩
  case nB =>
   have hl0 : d.lost = false := by rw [hlo]; simpa using hq1
   refine wp_skip (nB (nT (wS (wS (wR ?_)))))
   revert a; refine wo rfl rfl (by decide) (fun ev e h => by simp [go_sem, h] <;> rfl) ?_; intro a hA
   refine wl_call hA rfl rfl (by decide) (fun ev h => exec_call Tryz.func78 (by kernel_rfl) rfl (h.f _) (by first | (simp only [mL, h.get 20 rfl, h.c] <;> rfl) | (simp [mL, h.get 20 rfl, h.c] <;> rfl))) (hD1.names (by omega)) ?_
   rintro e w2 ⟨An, cn, rfl, -, hb2⟩
   refine ⟨_, rfl, fun a hA => ?_⟩
   have hD2 := hD1.below hb2
   have HB2 := hb1.trans (hb2.mono hb1.size)
   revert a; (iterate 2 refine wo rfl rfl (by decide) (fun ev e h => by simp [go_sem, h] <;> rfl) ?_); intro a hA
   replace hA := hA.keepN [0, 23]
   refine wN (nT ?_)
   refine wp_join (fun a wx => Dk wx p mb (openTo d) (N + 11) ∧ ¬ (d.files = [] ∧ ¬ (madeD d).1 = 0) ∧ But p mb w wx ∧ At 81 [(0, .pointer (some ⟨p, 0, none⟩))] a) ?jfT ?jrT
   refine wp_if hA 23 _ rfl (fun hq2 => ?yC) (fun hq2 => ?nC)
   case yC =>
    have hf0 : d.files = [] := by
     have h9 : ((d.files.length : Nat) : Int) = 0 := beq_iff_eq.1 hq2
     exact List.eq_nil_of_length_eq_zero (by omega)
    refine wS (wR ?_)
    revert a; refine wo rfl rfl (by decide) (fun ev e h => by simp [go_sem, h] <;> rfl) ?_; intro a hA
    refine wl_call hA rfl rfl (by decide) (fun ev h => exec_call Tryz.func86 (by kernel_rfl) rfl (h.f _) (by first | (simp only [mL, h.get 24 rfl, h.c] <;> rfl) | (simp [mL, h.get 24 rfl, h.c] <;> rfl))) (made_at hD2 (by omega)) ?_
    rintro e w3 ⟨rfl, h3, hb3⟩
    refine ⟨_, rfl, fun a hA => ?_⟩
    obtain ⟨me, hme⟩ : ∃ e, (madeD d).1 = e := ⟨_, rfl⟩
    rw [hme] at hA
    have HB3 := (But.of_below HB2 (p := p) (m := mb)).trans hb3
    revert a; refine wo rfl rfl (by decide) (fun ev e h => by simp [go_sem, h] <;> rfl) ?_; intro a hA
    replace hA := hA.keepN [0, 4]
    refine wN (nT (wS (wR ?_)))
    revert a; (iterate 2 refine wo rfl rfl (by decide) (fun ev e h => by simp [go_sem, h] <;> rfl) ?_); intro a hA
    replace hA := hA.keepN [0, 4, 27]
    refine wN (nT ?_)
    refine wp_if hA 27 _ rfl (fun hq3 => ?yD) (fun hq3 => ?nD)
    case yD =>
     have hne : ¬ me = 0 := by simpa using hq3
     refine wS (wR ?_)
     revert a; (iterate 3 refine wo rfl rfl (by decide) (fun ev e h => by simp [go_sem, h] <;> rfl) ?_); intro a hA
     replace hA := hA.keepN [2, 3]
     refine wN (nT (wp_ret (rT ?_)))
     refine ret_2 hA 2 3 rfl rfl rfl ?_
     rw [open_full hl0 hf0 (by rw [hme]; exact hne), hme]
     exact ⟨OpenIs.no hne, h3, HB3⟩
    case nD =>
     have hne : me = 0 := by simpa using hq3
     replace hA := hA.keepN [0]
     refine wp_skip (nT ?_)
     refine ⟨?_, fun h9 => h9.2 (by rw [hme, hne]), HB3, hA⟩
     unfold openTo
     rw [if_pos hf0]
     exact h3
   case nC =>
    have hf0 : ¬ d.files = [] := fun e => by
     rw [e] at hq2
     simp at hq2
    replace hA := hA.keepN [0]
    refine wp_skip (nT ?_)
    refine ⟨?_, fun h9 => hf0 h9.1, But.of_below HB2, hA⟩
    unfold openTo
    rw [if_neg hf0]
    exact hD2.more (by omega)
   clear hA
   rintro a wx ⟨hD, hmo, HB, hA⟩
   obtain ⟨d2, hd2⟩ : ∃ x, openTo d = x := ⟨_, rfl⟩
   have hbad := fun h => open_bad hl0 hmo h
   have hfine := fun h => open_fine hl0 hmo h
   rw [hd2] at hD hbad hfine
   have hok : openOk d2 = ((getTreeV (dRead d2 kTree).1).isSome && decide ((getTreeV (dRead d2 kTree).1).getD [] = placesD d2) && !strayD d2 && (placesD d2).all fun p => (wholeD d2 p.1.toNat).2 == 0) := rfl
   have hszw := HB.size
   refine wS (wR ?_)
   revert a; refine wo rfl rfl (by decide) (fun ev e h => by simp [go_sem, h] <;> rfl) ?_; intro a hA
   refine wl_call hA rfl rfl (by decide) (fun ev h => exec_call Tryz.func29 (by kernel_rfl) rfl (h.f _) (by first | (simp only [mL, h.get 30 rfl, h.c] <;> rfl) | (simp [mL, h.get 30 rfl, h.c] <;> rfl))) (hD.read kTree (by decide)) ?_
   rintro e w4 ⟨At9, ct, rfl, hrt, hct, hb4⟩
   refine ⟨_, rfl, fun a hA => ?_⟩
   have hD4 := hD.below hb4
   have htl := read_lenD hD.wf kTree
   obtain ⟨tb, htb⟩ : ∃ x, (dRead d2 kTree).1 = x := ⟨_, rfl⟩
   obtain ⟨te, hte⟩ : ∃ x, (dRead d2 kTree).2 = x := ⟨_, rfl⟩
   rw [htb] at hA hrt hct htl hok
   rw [hte] at hA
   have he4 := hD4.env
   revert a; (iterate 5 refine wo rfl rfl (by decide) (fun ev e h => by simp [go_sem, h] <;> rfl) ?_); intro a hA
   replace hA := hA.keepN [0, 5]
   refine wN (nT (wS (wR ?_)))
   revert a; refine wo rfl rfl (by decide) (fun ev e h => by simp [go_sem, h] <;> rfl) ?_; intro a hA
   refine wl_call hA rfl rfl (by decide) (fun ev h => exec_call Tryz.func87 (by kernel_rfl) rfl (h.f _) (by first | (simp only [mL, h.get 35 rfl, h.c] <;> rfl) | (simp [mL, h.get 35 rfl, h.c] <;> rfl))) (getTree_any At9 ct tb.length tb w4 he4.max he4.big.2.2 rfl (by omega) hct hrt) ?_
   rintro e w5 ⟨r, rfl, hor, hb5⟩
   refine ⟨_, rfl, fun a hA => ?_⟩
   have hD5 := hD4.below hb5
   have H5 := hb4.trans (hb5.mono hb4.size)
   obtain ⟨o, ho⟩ : ∃ o, getTreeV tb = o := ⟨_, rfl⟩
   rw [ho] at hA hor hok
   obtain ⟨l, hl⟩ : ∃ l, o.getD [] = l := ⟨_, rfl⟩
   rw [hl] at hor hok
   have hoP : OwnR plSh w4.heap.size w5 r l := ⟨hor, fun _ _ p hp => (by cases hp), fun _ _ _ _ p hp => (by cases hp)⟩
   obtain ⟨Al, cl, rfl, hrl, -⟩ := hoP.reads
   obtain ⟨ge, hge⟩ : ∃ e, getErr o = e := ⟨_, rfl⟩
   rw [hge] at hA
   revert a; (iterate 5 refine wo rfl rfl (by decide) (fun ev e h => by simp [go_sem, h] <;> rfl) ?_); intro a hA
   replace hA := hA.keepN [0, 7, 8]
   refine wN (nT (wS (wS (wR ?_))))
   revert a; (iterate 3 refine wo rfl rfl (by decide) (fun ev e h => by simp [go_sem, h] <;> rfl) ?_); (iterate 2 refine wg _ rfl rfl rfl rfl (by decide) (fun hq ev e h => by simp [go_sem, h, ↓gw_t (beq_t hq)] <;> rfl) ?_); intro a hA
   by_cases hge0 : ge = 0
   ·have hgz := hge0
    rw [hge0] at hA
    refine wl_kcall hA rfl rfl rfl rfl (by decide) (fun ev h => exec_call Tryz.func89 (by kernel_rfl) rfl (h.f _) (by first | (simp only [mL, h.get 43 rfl, h.c] <;> rfl) | (simp [mL, h.get 43 rfl, h.c] <;> rfl))) (places_at hD5 (by omega)) ?_
    rintro e w6 ⟨V, rfl, hoV, hb6⟩
    refine ⟨_, rfl, fun a hA => ?_⟩
    have hD6 := hD5.below hb6
    have H6 := H5.trans (hb6.mono H5.size)
    obtain ⟨A2, c2, rfl, hr2, -⟩ := hoV.reads
    obtain ⟨P, hP⟩ : ∃ P, placesD d2 = P := ⟨_, rfl⟩
    have hPb := placesD_bd d2
    rw [hP] at hA hr2 hok hPb hfine
    have hll : l.length ≤ 100000000 := by
     have := tree_few tb
     rw [ho, hl] at this
     omega
    obtain ⟨lq, hlq⟩ : ∃ x, l.length = x := ⟨_, rfl⟩
    obtain ⟨pq, hpq⟩ : ∃ x, P.length = x := ⟨_, rfl⟩
    have heq := eqP_any Al A2 cl c2 l P w6 hll (hrl.below hb6) hr2
    rw [hlq, hpq] at heq
    rw [hlq, hpq] at hA
    refine wl_kcall hA rfl rfl rfl rfl (by decide) (fun ev h => exec_call Tryz.func88 (by kernel_rfl) rfl (h.f _) (by first | (simp only [mL, h.get 42 rfl, h.get 44 rfl, h.c] <;> rfl) | (simp [mL, h.get 42 rfl, h.get 44 rfl, h.c] <;> rfl))) (heq) ?_
    rintro e w7 ⟨rfl, hb7⟩
    refine ⟨_, rfl, fun a hA => ?_⟩
    have hD7 := hD6.below hb7
    have H7 := H6.trans (hb7.mono H6.size)
    obtain ⟨b1, hb1'⟩ : ∃ b, decide (l = P) = b := ⟨_, rfl⟩
    rw [hb1'] at hA hok
    cases b1 with
    | false =>
      have hokf : openOk d2 = false := by rw [hok]; simp
      revert a; refine wg _ rfl rfl rfl rfl (by decide) (fun hq ev e h => by simp [go_sem, h, ↓gw_t (beq_t hq)] <;> rfl) ?_; (first | refine wko rfl rfl (by decide) rfl rfl rfl ?_ | refine wo rfl rfl (by decide) (fun ev e h => by simp [go_sem, h, gv_or, gv_and] <;> rfl) ?_); refine wo rfl rfl (by decide) (fun ev e h => by simp [go_sem, h] <;> rfl) ?_; intro a hA
      refine wl_guard _ (v := .bool false) hA rfl rfl rfl rfl (by decide) (fun hq ev h => by first | (cases hq; done) | (cases hr; done)) fun a hA => ?_
      refine wl_guard _ (v := .bool false) hA rfl rfl rfl rfl (by decide) (fun hq ev h => by first | (cases hq; done) | (cases hr; done)) fun a hA => ?_
      replace hA := hA.keepN [0, 7, 48, 50]
      revert a; (first | refine wko rfl rfl (by decide) rfl rfl rfl ?_ | refine wo rfl rfl (by decide) (fun ev e h => by simp [go_sem, h, gv_or, gv_and] <;> rfl) ?_); intro a hA
      replace hA := hA.keepN [0, 7, 51]
      refine wN (nT ?_)
      refine wp_if hA 51 _ rfl (fun hq5 => ?yF) (fun hq5 => ?nF)
      case nF => cases hq5
      case yF =>
       refine wS (wR ?_)
       revert a; (iterate 2 refine wo rfl rfl (by decide) (fun ev e h => by simp [go_sem, h] <;> rfl) ?_); intro a hA
       replace hA := hA.keepN [2, 3]
       refine wN (nT (wp_ret (rT ?_)))
       refine ret_2 hA 2 3 rfl rfl rfl ?_
       rw [hbad hokf]
       exact ⟨OpenIs.no (by decide), hD7, HB.below H7⟩
    | true =>
      revert a; refine wg _ rfl rfl rfl rfl (by decide) (fun hq ev e h => by simp [go_sem, h, ↓gw_t (beq_t hq)] <;> rfl) ?_; (first | refine wko rfl rfl (by decide) rfl rfl rfl ?_ | refine wo rfl rfl (by decide) (fun ev e h => by simp [go_sem, h, gv_or, gv_and] <;> rfl) ?_); refine wo rfl rfl (by decide) (fun ev e h => by simp [go_sem, h] <;> rfl) ?_; refine wg _ rfl rfl rfl rfl (by decide) (fun hq ev e h => by simp [go_sem, h, ↓gw_t (beq_t hq)] <;> rfl) ?_; intro a hA
      refine wl_kcall hA rfl rfl rfl rfl (by decide) (fun ev h => exec_call Tryz.func90 (by kernel_rfl) rfl (h.f _) (by first | (simp only [mL, h.get 49 rfl, h.c] <;> rfl) | (simp [mL, h.get 49 rfl, h.c] <;> rfl))) (stray_at hD7 (by omega)) ?_
      rintro e w8 ⟨rfl, hb8⟩
      refine ⟨_, rfl, fun a hA => ?_⟩
      have hD8 := hD7.below hb8
      have H8 := H7.trans (hb8.mono H7.size)
      obtain ⟨b2, hb2'⟩ : ∃ b, strayD d2 = b := ⟨_, rfl⟩
      rw [hb2'] at hA hok
      revert a; (first | refine wko rfl rfl (by decide) rfl rfl rfl ?_ | refine wo rfl rfl (by decide) (fun ev e h => by simp [go_sem, h, gv_or, gv_and] <;> rfl) ?_); intro a hA
      replace hA := hA.keepN [0, 7, 51]
      refine wN (nT ?_)
      refine wp_if hA 51 _ rfl (fun hq4 => ?yE) (fun hq4 => ?nE)
      case yE =>
       have hbt : b2 = true := by simpa using hq4
       have hokf : openOk d2 = false := by rw [hok, hbt]; simp
       refine wS (wR ?_)
       revert a; (iterate 2 refine wo rfl rfl (by decide) (fun ev e h => by simp [go_sem, h] <;> rfl) ?_); intro a hA
       replace hA := hA.keepN [2, 3]
       refine wN (nT (wp_ret (rT ?_)))
       refine ret_2 hA 2 3 rfl rfl rfl ?_
       rw [hbad hokf]
       exact ⟨OpenIs.no (by decide), hD8, HB.below H8⟩
      case nE =>
       have hbt : b2 = false := by simpa using hq4
       have hlP : l = P := of_decide_eq_true hb1'
       have hos : o.isSome = true := by
        cases hs : o.isSome with
        | true => rfl
        | false =>
          rw [hge0] at hge
          unfold getErr at hge
          rw [hs] at hge
          revert hge
          decide
       have hok2 : openOk d2 = l.all fun p => (wholeD d2 p.1.toNat).2 == 0 := by rw [hok, hos, hbt, hlP]; rfl
       have hlb : ∀ x ∈ l, ∃ n : Nat, x.1 = (n : Int) ∧ n < 16 := fun x hx => by
        rw [hlP, ← hP] at hx
        obtain ⟨n, hn, rfl⟩ := List.mem_map.1 hx
        exact ⟨n, rfl, List.mem_range.1 (List.mem_filter.1 hn).1⟩
       have hlsz : ∀ x ∈ l, x.2.size ≤ 60 := fun x hx => hPb.2 x (hlP ▸ hx)
       have hl16 : lq ≤ 16 := by rw [← hlq, hlP]; exact hPb.1
       have hrl8 := ((hrl.below hb6).below hb7).below hb8
       have HB8 := HB.below H8
       have hsz8 := HB8.size
       refine wp_skip (nT (wS (wR ?_)))
       revert a; refine wo rfl rfl (by decide) (fun ev e h => by simp [go_sem, h] <;> rfl) ?_; intro a hA
       refine wl_op hA rfl rfl (by decide) (fun ev h => by simp [go_sem, run_makeMap]; try first | exact ⟨rfl, rfl⟩ | rfl) fun a hA => ?_
       obtain ⟨wm, hwm⟩ : ∃ x, w8.alloc (.map #[] 0) = x := ⟨_, rfl⟩
       rw [hwm]
       have hbm : Below w8.heap.size w8 wm := by rw [← hwm]; exact (Below.refl _ _).alloc (Nat.le_refl _) _
       have hzm : wm.heap.size = w8.heap.size + 1 := by rw [← hwm]; exact World.size_alloc _ _
       have hmap0 : wm.ownsMap Tryz.prog 9 heldR w8.heap.size 0 (dmap heldN []) := by rw [← hwm]; exact World.ownsMap_made w8 _ _ _
       revert a; refine wo rfl rfl (by decide) (fun ev e h => by simp [go_sem, h] <;> rfl) ?_; intro a hA
       refine wl_new hA rfl rfl (by decide) (fun ev h => by simp [go_sem, h.get 54 rfl]; try first | exact ⟨rfl, rfl⟩ | rfl) fun w9 a (K9 : Blk _ _ _ _) hz9 hb9 hA => ?_
       have H9 := hbm.trans (hb9.mono hbm.size)
       have hmap9 := own_map_block hmap0 (hb9.block _ (by omega))
       revert a; refine wo rfl rfl (by decide) (fun ev e h => by simp [go_sem, h] <;> rfl) ?_; intro a hA
       replace hA := hA.keepN [0, 7, 9]
       refine wN (nT (wS (wS (wR ?_))))
       revert a; (iterate 3 refine wo rfl rfl (by decide) (fun ev e h => by simp [go_sem, h] <;> rfl) ?_); intro a hA
       replace hA := hA.keepN [0, 9, 56, 57, 58]
       refine wN (nT (wB ?_))
       refine wp_loop_at (fun f a wy => ∃ (j k : Nat), j + f = lq ∧ k ≤ j ∧ wy.ownsMap Tryz.prog 9 heldR w8.heap.size k (dmap heldN (namesP (l.take j))) ∧ Up (namesP (l.take j)) ∧ (∀ q ∈ l.take j, (wholeD d2 q.1.toNat).2 = 0) ∧ Blk wy wm.heap.size 156 #[.pointer (some ⟨p, 0, none⟩), .map (some w8.heap.size)] ∧ Below w8.heap.size w8 wy ∧ At 81 [(0, .pointer (some ⟨p, 0, none⟩)), (9, .pointer (some ⟨wm.heap.size, 0, none⟩)), (56, .slice Al lq cl), (57, .int .i64 (lq : Nat)), (58, .int .i64 (j : Nat))] a) (lq) ?_ ?_
       ·exact ⟨0, 0, by omega, Nat.le_refl _, hmap9, up_nil, fun q hq => (by cases hq), K9, H9, hA⟩
       clear hA K9 H9 hmap9
       rintro f a wy ⟨j, k, hjf, hkj, hmap, hup, hall, K9, H9, hA⟩
       have jw : IntKind.i64.wrap ((j : Int) + 1) = ((j + 1 : Nat) : Int) := IntWalk.i64_in _ (by omega)
       refine wS (wR ?_)
       revert a; refine wo rfl rfl (by decide) (fun ev e h => by simp [go_sem, h] <;> rfl) ?_; intro a hA
       replace hA := hA.keepN [0, 9, 56, 57, 58, 59]
       refine wN (nT (wS ?_))
       refine wp_if hA 59 _ rfl (fun hq5 => ?yI) (fun hq5 => ?nI)
       case nI =>
        have hj : j = lq := by simp at hq5; omega
        rw [hj, ← hlq, List.take_length] at hmap hup hall
        have hokt : openOk d2 = true := by
         rw [hok2, List.all_eq_true]
         intro q hq
         rw [hall q hq]
         rfl
        replace hA := hA.keepN [9]
        refine wp_exit (xT (xT (xB (nT (wS (wR ?_))))))
        revert a; (iterate 3 refine wo rfl rfl (by decide) (fun ev e h => by simp [go_sem, h] <;> rfl) ?_); intro a hA
        replace hA := hA.keepN [2, 3]
        refine wN (nT (wp_ret ?_))
        refine ret_2 hA 2 3 rfl rfl rfl ?_
        rw [hfine hokt]
        refine ⟨⟨fun h9 => absurd rfl h9, fun _ => ⟨_, w8.heap.size, rfl, ⟨K9, ⟨⟨k, by omega, ?_⟩, ?_⟩⟩, by omega, by omega⟩⟩, hD8.below H9, HB8.below H9⟩
        ·rw [← hlP]; exact hmap
        ·rw [← hlP]; exact hup
       case yI =>
        have hj : j < lq := by simp at hq5; omega
        have jj0 : (0 : Int) ≤ (j : Int) := by omega
        have jj1 : (j : Int) < (lq : Int) := by omega
        obtain ⟨x, hx⟩ : ∃ x, l[j]? = some x := ⟨_, List.getElem?_eq_getElem (by omega)⟩
        have hxm := List.mem_of_getElem? hx
        obtain ⟨n, hxn, hn16⟩ := hlb x hxm
        have hxs := hlsz x hxm
        obtain ⟨ad, hAl, hadb, q0, q1⟩ := (hrl8.below H9).cell hx
        have z0 : wy.cell? (ad.add (j * 2)) = some (.int .i64 x.1) := q0 _ rfl
        have z1 : wy.cell? ⟨(ad.add (j * 2)).block, (ad.add (j * 2)).off + 1, none⟩ = some (.string x.2) := q1 1 _ (by decide) rfl
        rw [hxn] at z0
        have s9 := H9.size
        refine wp_skip (nT (wS (wB (wS (wR ?_)))))
        revert a; (iterate 2 refine wo rfl rfl (by decide) (fun ev e h => by simp [go_sem, h, hAl, z0, z1, jj0, jj1, hj] <;> rfl) ?_); intro a hA
        refine wl_local [.int .i64 (n : Nat), .string x.2] hA rfl rfl (by decide) (fun ev h => by simp [go_sem, hAl, z0, z1, jj0, jj1, hj]; try first | exact ⟨rfl, rfl⟩ | rfl) rfl rfl (by rfl) (fun w1 g ev hb h => by simp [go_sem, h.get 11 rfl, h.get 61 rfl, hAl, z0, z1, jj0, jj1, hj, setAll, hb.cell, hb.frozen]) fun w10 a (K10 : Blk _ _ _ _) hz10 hb10 hA => ?_
        have hmapb := own_map_block hmap (hb10.block _ hmap.lt)
        have K9b := K9.below hb10 K9.lt
        have H10 := H9.trans (hb10.mono s9)
        replace hA := hA.keepN [0, 9, 11, 56, 57, 58]
        refine wN (nT (wS (wS (wR ?_))))
        revert a; (iterate 3 refine wo rfl rfl (by decide) (fun ev e h => by simp [go_sem, h, K10.cell] <;> rfl) ?_); intro a hA
        refine wl_call hA rfl rfl (by decide) (fun ev h => exec_call Tryz.func22 (by kernel_rfl) rfl (h.f _) (by first | (simp only [mL, h.get 63 rfl, h.get 65 rfl, h.c] <;> rfl) | (simp [mL, h.get 63 rfl, h.get 65 rfl, h.c, K10.cell] <;> rfl))) (whole_at (hD8.below H10) n (by omega)) ?_
        rintro e w11 ⟨v, rfl, hv, hb11⟩
        refine ⟨_, rfl, fun a hA => ?_⟩
        have hmapc := own_map_block hmapb (hb11.block _ hmapb.lt)
        have K9c := K9b.below hb11 K9b.lt
        have K10c := K10.below hb11 K10.lt
        have H11 := H10.trans (hb11.mono H10.size)
        obtain ⟨V9, M9, rfl, hoM9, -⟩ := hv.ex
        obtain ⟨A9, c9, rfl, -, -⟩ := hoM9.reads
        obtain ⟨we, hwe⟩ : ∃ e, (wholeD d2 n).2 = e := ⟨_, rfl⟩
        rw [hwe] at hA
        revert a; (iterate 3 refine wo rfl rfl (by decide) (fun ev e h => by simp [go_sem, h, K10.cell] <;> rfl) ?_); intro a hA
        refine wl_local [.string (wholeD d2 n).1.nm, .int .u32 ((wholeD d2 n).1.ep : Nat), .int .u32 ((wholeD d2 n).1.nx : Nat), .slice A9 M9.length c9] hA rfl rfl (by decide) (fun ev h => by simp [go_sem, K10.cell]; try first | exact ⟨rfl, rfl⟩ | rfl) rfl rfl (by rfl) (fun w1 g ev hb h => by simp [go_sem, h.get 12 rfl, h.get 67 rfl, K10.cell, setAll, hb.cell, hb.frozen]) fun w12 a (K12 : Blk _ _ _ _) hz12 hb12 hA => ?_
        have hmapd := own_map_block hmapc (hb12.block _ hmapc.lt)
        have K9d := K9c.below hb12 K9c.lt
        have K10d := K10c.below hb12 K10c.lt
        have H12 := H11.trans (hb12.mono H11.size)
        revert a; refine wo rfl rfl (by decide) (fun ev e h => by simp [go_sem, h, K10.cell] <;> rfl) ?_; intro a hA
        replace hA := hA.keepN [0, 9, 11, 13, 56, 57, 58]
        refine wN (nT (wS (wR ?_)))
        revert a; (iterate 2 refine wo rfl rfl (by decide) (fun ev e h => by simp [go_sem, h, K10.cell] <;> rfl) ?_); intro a hA
        replace hA := hA.keepN [0, 9, 11, 56, 57, 58, 70]
        refine wN (nT ?_)
        refine wp_if hA 70 _ rfl (fun hq6 => ?yJ) (fun hq6 => ?nJ)
        case yJ =>
         have hne : ¬ we = 0 := by simpa using hq6
         have hokf : openOk d2 = false := by
          rw [hok2, List.all_eq_false]
          refine ⟨x, hxm, ?_⟩
          rw [hxn, Int.toNat_natCast, hwe]
          simpa using hne
         refine wS (wR ?_)
         revert a; (iterate 2 refine wo rfl rfl (by decide) (fun ev e h => by simp [go_sem, h, K10.cell] <;> rfl) ?_); intro a hA
         replace hA := hA.keepN [2, 3]
         refine wN (nT (wp_ret (rT (rB (rT (rT (rB (rT ?_))))))))
         refine ret_2 hA 2 3 rfl rfl rfl ?_
         rw [hbad hokf]
         exact ⟨OpenIs.no (by decide), hD8.below H12, HB8.below H12⟩
        case nJ =>
         have hwe0 : we = 0 := by simpa using hq6
         have pR20 := fun (wo : World) (hC : (fun wo => Below w12.heap.size w12 wo) wo) => have Ky := K9d.below hC K9d.lt; have Kz := K10d.below hC K10d.lt; And.intro (Ky.cell) (Kz.cell)
         refine wp_skip (nT ?_)
         refine wp_region_split 8 ?_
         simp only [List.take_succ_cons, List.take_zero, List.drop_succ_cons, List.drop_zero]
         refine wp_any_split_at hA [(.det ?dR200), (.det ?dR201), (.det ?dR202), (.det ?dR203), (.det ?dR204), (.det ?dR205), (.det ?dR206), (.det ?dR207)] [] (fun wo => Below w12.heap.size w12 wo) (TSp [] Grows) (by kernel_rfl) rfl (by kernel_rfl) (by kernel_rfl) rfl (by kernel_rfl) (by kernel_rfl) (by kernel_rfl) (by kernel_rfl) ((Below.refl _ _).drew) (stab_sp [] [true, true, true, true, true, true, true, true] [true, true, true, true, true, true, true, true] [] rfl rfl rfl (by kernel_rfl) ⟨trivial, trivial, trivial, trivial, trivial, trivial, trivial, trivial, trivial⟩ trivial) (fun _ h => by cases h) (fun _ _ _ _ _ h => by cases h) (fun _ h => by cases h) ⟨?oR200, ?oR201, ?oR202, ?oR203, ?oR204, ?oR205, ?oR206, ?oR207, trivial⟩ (by kernel_rfl) ?fR20
         case oR200 => intro ev wo hev hC hs hph; have x0 := se hA hs 9; exact od rfl rfl (by kernel_rfl) hC (TSp.of rfl (Grows.refl _)) (by simp [go_sem, x0] <;> rfl)
         case oR201 => intro ev wo hev hC hs hph; have x0 := sd hs 71 0; exact od rfl rfl (by kernel_rfl) hC (TSp.of rfl (Grows.refl _)) (by simp [go_sem, x0] <;> rfl)
         case oR202 => intro ev wo hev hC hs hph; have x0 := sd hs 72 1; exact od rfl rfl (by kernel_rfl) hC (TSp.of rfl (Grows.refl _)) (by simp [go_sem, x0] <;> rfl)
         case oR203 => intro ev wo hev hC hs hph; have x0 := sd hs 73 2; exact od rfl rfl (by kernel_rfl) hC (TSp.of rfl (Grows.refl _)) (by simp [go_sem, x0, pR20 _ hC, K10.cell] <;> rfl)
         case oR204 => intro ev wo hev hC hs hph; have x0 := se hA hs 11; exact od rfl rfl (by kernel_rfl) hC (TSp.of rfl (Grows.refl _)) (by simp [go_sem, x0] <;> rfl)
         case oR205 => intro ev wo hev hC hs hph; have x0 := sd hs 75 4; exact od rfl rfl (by kernel_rfl) hC (TSp.of rfl (Grows.refl _)) (by simp [go_sem, x0, pR20 _ hC, K10.cell] <;> rfl)
         case oR206 => intro ev wo hev hC hs hph; have x0 := se hA hs 11; exact od rfl rfl (by kernel_rfl) hC (TSp.of rfl (Grows.refl _)) (by simp [go_sem, x0] <;> rfl)
         case oR207 => intro ev wo hev hC hs hph; have x0 := sd hs 77 6; exact od rfl rfl (by kernel_rfl) hC (TSp.of rfl (Grows.refl _)) (by simp [go_sem, x0, pR20 _ hC, K10.cell] <;> rfl)
         intro sg wf hC hph
         intro a hA
         replace hA := hA.keepN [0, 9, 56, 57, 58, 74, 76, 78]
         have hmape := own_map_block hmapd (hC.block _ hmapd.lt)
         have K9e := K9d.below hC K9d.lt
         have H13 := H12.trans (hC.mono H12.size)
         obtain ⟨w14, hrun, hmapf, hturn⟩ := names_put hmape hup (by unfold maxLen; omega) x.2 (by unfold maxLen; omega) n
         refine wl_skip hA rfl rfl (fun ev h => by simp [go_sem, h.get 74 rfl, h.get 76 rfl, h.get 78 rfl, hrun]; try first | exact ⟨rfl, rfl⟩ | rfl) ?_
         replace hA := hA.keepN [0, 9, 56, 57, 58]
         refine wN (nB (nT (wR ?_)))
         revert a; (iterate 2 refine wo rfl rfl (by decide) (fun ev e h => by simp [go_sem, h, jw] <;> rfl) ?_); intro a hA
         replace hA := hA.keepN [0, 9, 56, 57, 58]
         refine wN (nT ?_)
         have htk : namesP (l.take (j + 1)) = fput x.2.data.toList n (namesP (l.take j)) := by
          rw [List.take_add_one, hx]
          show namesP (_ ++ [x]) = _
          rw [namesP_snoc, hxn, Int.toNat_natCast]
         refine ⟨f - 1, by omega, j + 1, k + 1, by omega, by omega, ?_, ?_, fun q hq => ?_, K9e.grown hturn.grown (fun e => ?_), H13.grown hturn.grown H13.size (fun g e => ?_), hA⟩
         ·rw [htk]; exact hmapf
         ·rw [htk]; exact up_fput hup
         ·rw [List.take_add_one, hx] at hq
          rcases List.mem_append.1 hq with h9 | h9
          ·exact hall q h9
          ·rw [List.mem_singleton.1 h9, hxn, Int.toNat_natCast, hwe, hwe0]
         ·injection e with e
          omega
         ·injection e with e
          omega
   ·have hos : o.isSome = false := by
     cases hs : o.isSome with
     | false => rfl
     | true => exfalso; apply hge0; rw [← hge]; unfold getErr; rw [hs]; rfl
    have hokf : openOk d2 = false := by rw [hok, hos]; rfl
    have hge9 : ge = 9 := by rw [← hge]; unfold getErr; rw [hos]; rfl
    rw [hge9] at hA
    refine wl_guard _ (v := .bool false) hA rfl rfl rfl rfl (by decide) (fun hq ev h => by first | (cases hq; done) | (cases hr; done)) fun a hA => ?_
    refine wl_guard _ (v := .bool false) hA rfl rfl rfl rfl (by decide) (fun hq ev h => by first | (cases hq; done) | (cases hr; done)) fun a hA => ?_
    refine wl_guard _ (v := .bool false) hA rfl rfl rfl rfl (by decide) (fun hq ev h => by first | (cases hq; done) | (cases hr; done)) fun a hA => ?_
    revert a; (first | refine wko rfl rfl (by decide) rfl rfl rfl ?_ | refine wo rfl rfl (by decide) (fun ev e h => by simp [go_sem, h, gv_or, gv_and] <;> rfl) ?_); intro a hA
    refine wl_op hA rfl rfl (by decide) (fun ev h => by simp [go_sem, h.get 47 rfl]; try first | exact ⟨rfl, rfl⟩ | rfl) fun a hA => ?_
    revert a; refine wg _ rfl rfl rfl rfl (by decide) (fun hq ev e h => by simp [go_sem, h, ↓gw_t (beq_t hq)] <;> rfl) ?_; intro a hA
    refine wl_guard _ (v := .bool false) hA rfl rfl rfl rfl (by decide) (fun hq ev h => by first | (cases hq; done) | (cases hr; done)) fun a hA => ?_
    revert a; (first | refine wko rfl rfl (by decide) rfl rfl rfl ?_ | refine wo rfl rfl (by decide) (fun ev e h => by simp [go_sem, h, gv_or, gv_and] <;> rfl) ?_); intro a hA
    replace hA := hA.keepN [0, 7, 51]
    refine wN (nT ?_)
    refine wp_if hA 51 _ rfl (fun hq6 => ?yG) (fun hq6 => ?nG)
    case nG => cases hq6
    case yG =>
     refine wS (wR ?_)
     revert a; (iterate 2 refine wo rfl rfl (by decide) (fun ev e h => by simp [go_sem, h] <;> rfl) ?_); intro a hA
     replace hA := hA.keepN [2, 3]
     refine wN (nT (wp_ret (rT ?_)))
     refine ret_2 hA 2 3 rfl rfl rfl ?_
     rw [hbad hokf]
     exact ⟨OpenIs.no (by decide), hD5, HB.below H5⟩
end Go.Proofs.YtkljkbeahdipfaaGreatDoor
/-
  A mailbox's log, plainly: its notes; they are read back as the mailbox.
-/
namespace Go.Proofs.YtkljkbeahdipfaaGreatDoor
open Go.RowKit
def msgBare (u : Nat) : MsgV := ⟨u, 0, 0, none, 0, []⟩
def boxNote (nm : ByteArray) (ep : Nat) : NoteV := ⟨1, ep, nm, msgBare 0⟩
end Go.Proofs.YtkljkbeahdipfaaGreatDoor
/-
  Plainly: a file that is laid has these bytes, or those that it had, wherever the power goes.
-/
namespace Go.Proofs.YtkljkbeahdipfaaGreatDoor
theorem awayD_no {d : DiskM} {k : Key} (hl : d.lost = false) (h : fget k d.files = none) : awayD d k = (0, d) := by
 have e : dRemove d k = (7, d) := by
  unfold dRemove
  rw [hl, if_neg (by decide), h]
 unfold awayD
 rw [e, if_pos rfl]
theorem right_new : right kNew = true := by decide
end Go.Proofs.YtkljkbeahdipfaaGreatDoor
/-
  Plainly: a store that is opened on an empty disk.
-/
namespace Go.Proofs.YtkljkbeahdipfaaGreatDoor
open Go.RowKit
theorem readL_first (nm : ByteArray) (h : firstOk nm = true) : readL (firstV nm) = ⟨⟨nm, 1, 1, []⟩, (firstV nm).length⟩ := by
 have hf : firstV nm = framesB [boxNote nm 1] := by
  unfold firstV
  rw [show formedV 1 1 nm ⟨0, 0, 0, none, 0, []⟩ = true from h, cond_true]
  unfold framesB
  simp
  rfl
 have hs := scan_all [boxNote nm 1] (fun n hn => by rw [List.mem_singleton.1 hn]; exact ⟨h, (by show 1 < 4294967296; decide), (by show 0 < 4294967296; decide)⟩)
 unfold readL
 rw [hf, hs.1, hs.2]
 rfl
-- disks whose power stays
theorem calm_append {c : Nat} {l : List (Key × FileM)} {k : Key} {b : List UInt8} (hr : right k = true) (hroom : b.length ≤ c - used l) : dAppend ⟨c, l, -1, false⟩ k b = (0, ⟨c, fput k ⟨((fget k l).getD FileM.none_).b ++ b, ((fget k l).getD FileM.none_).safe, ((fget k l).getD FileM.none_).ever⟩ l, -1, false⟩) := by
 unfold dAppend
 rw [if_neg (fun h => by cases h), if_neg (by rw [hr]; decide), if_neg (by show ¬ c - used l < _; omega), if_neg (fun hh => absurd hh.1 (by show ¬ (-1 : Int) = 0; decide))]
 rfl
theorem calm_sync {c : Nat} {l : List (Key × FileM)} {k : Key} {f : FileM} (hg : fget k l = some f) : dSync ⟨c, l, -1, false⟩ k = (0, ⟨c, fput k ⟨f.b, f.b.length, true⟩ l, -1, false⟩) := by
 unfold dSync
 rw [if_neg (fun h => by cases h)]
 show (match fget k l with | none => _ | some f => _) = _
 rw [hg]
 rfl
theorem calm_rename {c : Nat} {l : List (Key × FileM)} {a b : Key} {f : FileM} (hr : right b = true) (hne : a ≠ b) (hg : fget a l = some f) (hw : f.whole = true) : dRename ⟨c, l, -1, false⟩ a b = (0, ⟨c, fdel a (fput b f l), -1, false⟩) := by
 unfold dRename
 rw [if_neg (fun h => by cases h), if_neg (fun hh => by
  rcases hh with hh | hh
  ·rw [hr] at hh; cases hh
  ·exact hne hh)]
 show (match fget a l with | none => _ | some f => _) = _
 rw [hg]
 show (if f.whole = false then _ else _) = _
 rw [if_neg (by rw [hw]; decide)]
 rfl
/-- a file that is laid while the power stays -/
theorem calm_lay {c : Nat} {l : List (Key × FileM)} {k : Key} {b : List UInt8} (hup : Up l) (hn : fget kNew l = none) (hr : right k = true) (hk : kNew ≠ k) (hroom : b.length ≤ c - used l) : layD ⟨c, l, -1, false⟩ k b = (0, ⟨c, fput k ⟨b, b.length, true⟩ l, -1, false⟩) := by
 unfold layD
 rw [awayD_no rfl hn, then_go rfl]
 show thenD (dAppend ⟨c, l, -1, false⟩ kNew b) _ = _
 rw [calm_append right_new hroom, hn, then_go rfl]
 show thenD (dSync ⟨c, fput kNew ⟨b, 0, false⟩ l, -1, false⟩ kNew) _ = _
 rw [calm_sync (f := ⟨b, 0, false⟩) (by rw [fget_fput, if_pos rfl]), then_go rfl]
 show dRename ⟨c, fput kNew ⟨b, b.length, true⟩ (fput kNew ⟨b, 0, false⟩ l), -1, false⟩ kNew k = _
 rw [calm_rename hr hk (f := ⟨b, b.length, true⟩) (by rw [fget_fput, if_pos rfl]) (by simp [FileM.whole])]
 have e : fdel kNew (fput k ⟨b, b.length, true⟩ (fput kNew ⟨b, b.length, true⟩ (fput kNew ⟨b, 0, false⟩ l))) = fput k ⟨b, b.length, true⟩ l := by
  refine up_ext (up_fdel (up_fput (up_fput (up_fput hup))) _) (up_fput hup) fun j => ?_
  rw [fget_fdel, fget_fput, fget_fput, fget_fput, fget_fput]
  by_cases h1 : j = kNew
  ·subst h1
   rw [if_pos rfl, if_neg hk, hn]
  ·rw [if_neg h1, if_neg h1, if_neg h1]
 rw [e]
end Go.Proofs.YtkljkbeahdipfaaGreatDoor
/-
  Plainly: what is made of an empty disk.
-/
namespace Go.Proofs.YtkljkbeahdipfaaGreatDoor
open Go.RowKit
theorem inbox_first : firstOk sInbox = true := by decide +kernel
theorem inbox_len : (firstV sInbox).length = 55 := by decide +kernel
def logI : LogT := ⟨⟨sInbox, 1, 1, []⟩, 55⟩
theorem inbox_log : readL (firstV sInbox) = logI := by rw [readL_first _ inbox_first, inbox_len]; rfl
theorem inbox_pages : (pagesL logI []).e = 0 := by decide +kernel
theorem inbox_flg : (pagesL logI []).b.length ≤ 100 := by decide +kernel
theorem inbox_idx : (pagesL logI []).c.length ≤ 100 := by decide +kernel
theorem inbox_tree : treeErr [((0 : Int), sInbox)] = 0 := by decide +kernel
theorem inbox_tlen : (treePage [((0 : Int), sInbox)]).length ≤ 100 := by decide +kernel
abbrev kL0 : Key := [108, 111, 103, 46, 48]
abbrev kI0 : Key := [105, 100, 120, 46, 48]
abbrev kF0 : Key := [102, 108, 103, 46, 48]
theorem kL0_is : fileK kLog 0 = kL0 := by decide +kernel
theorem kI0_is : fileK kIdx 0 = kI0 := by decide +kernel
theorem kF0_is : fileK kFlg 0 = kF0 := by decide +kernel
/-- a file that was laid -/
abbrev safeF (b : List UInt8) : FileM := ⟨b, b.length, true⟩
theorem begin_first {c : Nat} (hc : 1000 ≤ c) : beginD ⟨c, [], -1, false⟩ 0 sInbox = (0, ⟨c, [(kF0, safeF (pagesL logI []).b), (kI0, safeF (pagesL logI []).c), (kL0, safeF (firstV sInbox))], -1, false⟩) := by
 unfold beginD
 rw [if_pos inbox_first, kL0_is, calm_append (by decide) (by rw [inbox_len]; show 55 ≤ c - 0; omega), then_go rfl]
 show thenD (dSync ⟨c, [(kL0, ⟨firstV sInbox, 0, false⟩)], -1, false⟩ kL0) _ = _
 rw [calm_sync (f := ⟨firstV sInbox, 0, false⟩) rfl, then_go rfl]
 show pagesD ⟨c, [(kL0, safeF (firstV sInbox))], -1, false⟩ 0 (readL (firstV sInbox)) [] = _
 have hf := inbox_flg
 have hi := inbox_idx
 have hl := inbox_len
 unfold pagesD
 rw [inbox_log, if_pos inbox_pages, kF0_is, kI0_is, calm_lay (List.pairwise_singleton _ _) rfl (by decide) (by decide) (by show _ ≤ c - ((firstV sInbox).length + 0); omega), then_go rfl]
 show layD ⟨c, [(kF0, safeF (pagesL logI []).b), (kL0, safeF (firstV sInbox))], -1, false⟩ kI0 (pagesL logI []).c = _
 rw [calm_lay (List.pairwise_cons.2 ⟨fun q hq => by rw [List.mem_singleton.1 hq]; decide, List.pairwise_singleton _ _⟩) rfl (by decide) (by decide) (by show _ ≤ c - ((pagesL logI []).b.length + ((firstV sInbox).length + 0)); omega)]
 rfl
theorem logs_of {c : Nat} {l : List (Key × FileM)} {fu : Int} {lo : Bool} : logsD ⟨c, l, fu, lo⟩ = (List.range 16).filter fun n => decide (fileK kLog n ∈ l.map (·.1)) := by
 unfold logsD
 refine List.filter_congr fun n _ => ?_
 rw [Bool.eq_iff_iff, decide_eq_true_iff]
 exact mem_names.symm
theorem places_first {c : Nat} {x : List (Key × FileM)} {fu : Int} {a b : FileM} (hx : x.map (·.1) = [] ∨ x.map (·.1) = [kTree]) : placesD ⟨c, (kF0, a) :: (kI0, b) :: (kL0, safeF (firstV sInbox)) :: x, fu, false⟩ = [((0 : Int), sInbox)] := by
 have e : logsD ⟨c, (kF0, a) :: (kI0, b) :: (kL0, safeF (firstV sInbox)) :: x, fu, false⟩ = [0] := by
  rw [logs_of, List.map_cons, List.map_cons, List.map_cons]
  rcases hx with hx | hx
  ·rw [hx]
   show (List.range 16).filter (fun n => decide (fileK kLog n ∈ [kF0, kI0, kL0])) = [0]
   decide +kernel
  ·rw [hx]
   show (List.range 16).filter (fun n => decide (fileK kLog n ∈ [kF0, kI0, kL0, kTree])) = [0]
   decide +kernel
 unfold placesD
 rw [e]
 show [((0 : Int), (readL (fileD _ kLog 0).1).s.nm)] = _
 unfold fileD
 rw [kL0_is]
 show [((0 : Int), (readL (firstV sInbox)).s.nm)] = _
 rw [inbox_log]
 rfl
abbrev firstFiles : List (Key × FileM) := [(kF0, safeF (pagesL logI []).b), (kI0, safeF (pagesL logI []).c), (kL0, safeF (firstV sInbox)), (kTree, safeF (treePage [((0 : Int), sInbox)]))]
theorem made_first {c : Nat} (hc : 1000 ≤ c) : madeD ⟨c, [], -1, false⟩ = (0, ⟨c, firstFiles, -1, false⟩) := by
 unfold madeD
 rw [begin_first hc, then_go rfl]
 unfold plantD
 have hf := inbox_flg
 have hi := inbox_idx
 have hl := inbox_len
 have ht := inbox_tlen
 rw [places_first (Or.inl rfl), if_pos inbox_tree]
 rw [calm_lay (List.pairwise_cons.2 ⟨fun q hq => by
  rcases List.mem_cons.1 hq with rfl | hq
  ·decide
  ·rw [List.mem_singleton.1 hq]; decide, List.pairwise_cons.2 ⟨fun q hq => by rw [List.mem_singleton.1 hq]; decide, List.pairwise_singleton _ _⟩⟩) rfl (by decide) (by decide) (by show _ ≤ c - ((pagesL logI []).b.length + ((pagesL logI []).c.length + ((firstV sInbox).length + 0))); omega)]
 rfl
theorem first_tree : getTreeV (treePage [((0 : Int), sInbox)]) = some [((0 : Int), sInbox)] := by decide +kernel
theorem first_flags : getFlagsV (pagesL logI []).b = some (1, []) := by decide +kernel
theorem first_idx : (idxL logI).err = 0 ∧ (idxL logI).page = (pagesL logI []).c := by decide +kernel
theorem first_whole {c : Nat} {fu : Int} : (wholeD ⟨c, firstFiles, fu, false⟩ 0).2 = 0 := by
 have e1 : fileD ⟨c, firstFiles, fu, false⟩ kLog 0 = (firstV sInbox, 0) := by unfold fileD; rw [kL0_is]; rfl
 have e2 : fileD ⟨c, firstFiles, fu, false⟩ kIdx 0 = ((pagesL logI []).c, 0) := by unfold fileD; rw [kI0_is]; rfl
 have e3 : flagsD ⟨c, firstFiles, fu, false⟩ 0 = some (1, []) := by unfold flagsD fileD; rw [kF0_is]; exact first_flags
 have h1 : wholeOk ⟨c, firstFiles, fu, false⟩ 0 = true := by
  unfold wholeOk
  rw [e1, e2, e3, inbox_log, first_idx.1, first_idx.2, inbox_len]
  simp
  decide +kernel
 have h2 : rightB (boxF logI []) = true := by decide +kernel
 unfold wholeD
 rw [e1, e3, inbox_log, if_pos rfl, if_pos ⟨h1, h2⟩]
theorem first_stray {c : Nat} {fu : Int} : strayD ⟨c, firstFiles, fu, false⟩ = false := by
 have h : ∀ k, hasD ⟨c, firstFiles, fu, false⟩ k = decide (k ∈ [kF0, kI0, kL0, kTree]) := fun k => by
  rw [Bool.eq_iff_iff, decide_eq_true_iff]
  exact mem_names.symm
 unfold strayD
 simp only [h]
 decide +kernel
/-- a store on an empty disk -/
theorem open_first {c : Nat} (hc : 1000 ≤ c) : openD ⟨c, [], -1, false⟩ = (0, ⟨c, firstFiles, -1, false⟩, [(sInbox.data.toList, 0)]) := by
 have hp : placesD ⟨c, firstFiles, -1, false⟩ = [((0 : Int), sInbox)] := places_first (Or.inr rfl)
 have ho : openOk ⟨c, firstFiles, -1, false⟩ = true := by
  unfold openOk
  have et : (dRead ⟨c, firstFiles, -1, false⟩ kTree).1 = treePage [((0 : Int), sInbox)] := rfl
  rw [et, first_tree, hp, first_stray]
  have := first_whole (c := c) (fu := -1)
  simp [this]
 unfold openD
 rw [if_neg (fun h => by cases h), if_neg (by rw [made_first hc]; exact fun h => h.2 rfl)]
 show (if openOk (madeD ⟨c, [], -1, false⟩).2 = true then _ else _) = _
 rw [made_first hc, if_pos ho]
 show (0, _, namesP (placesD ⟨c, firstFiles, -1, false⟩)) = _
 rw [hp]
 rfl
end Go.Proofs.YtkljkbeahdipfaaGreatDoor
/-
  Walk: cubbylaw19.awake.
-/
namespace Go.Proofs.YtkljkbeahdipfaaGreatDoor
open Go.RowKit Go.Maps
set_option linter.unusedSimpArgs false
set_option linter.unusedVariables false
theorem wfd_first (c : Nat) (hc : c ≤ 4194304) : WFD ⟨c, [], -1, false⟩ := ⟨up_nil, Nat.zero_le _, hc, by show (-1 : Int) ≤ -1; omega, by show (-1 : Int) ≤ _; omega, fun q hq => by cases hq⟩
/-- a store on an empty disk -/
theorem open_first_at {w : World} {p mb N c : Nat} (h : Dk w p mb ⟨c, [], -1, false⟩ N) (hN : N < 500000) (hc : 1000 ≤ c) :
 Calls Tryz.prog 33 #[.pointer (some ⟨p, 0, none⟩)] w fun ev w' => ∃ ps mn, ev = .returned (.tuple #[.pointer (some ⟨ps, 0, none⟩), .int .i64 0]) ∧ StoreAt w' ps p mn [(sInbox.data.toList, 0)] ∧ w.heap.size ≤ ps ∧ w.heap.size ≤ mn ∧ Dk w' p mb ⟨c, firstFiles, -1, false⟩ (N + 11) ∧ But p mb w w' := by
 refine (open_at h hN).mono ?_
 rw [open_first hc]
 rintro ev w' ⟨ho, hD, hB⟩
 obtain ⟨ps, mn, h1, h2, h3, h4⟩ := ho.2 rfl
 exact ⟨ps, mn, h1, h2, h3, h4, hD, hB⟩
set_option maxRecDepth 100000 in
set_option maxHeartbeats 8000000 in
theorem awake19_any (w : World) (he : EnvS w) :
 Calls Tryz.prog 25 #[] w fun ev w' => ev = .returned (.bool true) ∧ Below w.heap.size w w' := by
 refine calls_at 26 Tryz.func25 rfl rfl (Nat.le_of_ble_eq_true rfl) ?_
 intro a hA; replace hA := hA.norm
 refine wS (wR ?_)
 revert a; refine wo rfl rfl (by decide) (fun ev e h => by simp [go_sem, h] <;> rfl) ?_; intro a hA
 replace hA := hA.keepN []
 refine wN (nT (wS (wR ?_)))
 refine wl_call hA rfl rfl (by decide) (fun ev h => exec_call Tryz.func16 (by kernel_rfl) rfl (h.f _) (by first | (simp only [mL, h.c] <;> rfl) | (simp [mL, h.c] <;> rfl))) (new_at 1000 (by omega) w) ?_
 rintro e w1 ⟨p, mb, rfl, hd, hp, hmb, hb1⟩
 refine ⟨_, rfl, fun a hA => ?_⟩
 have hD : Dk w1 p mb ⟨1000, [], -1, false⟩ 0 := ⟨⟨[], rfl, hd⟩, wfd_first 1000 (by omega), Nat.le_refl _, ⟨w, he, hb1, hp, hmb⟩⟩
 revert a; (iterate 5 refine wo rfl rfl (by decide) (fun ev e h => by simp [go_sem, h] <;> rfl) ?_); intro a hA
 replace hA := hA.keepN [1]
 refine wN (nT (wS (wR ?_)))
 revert a; refine wo rfl rfl (by decide) (fun ev e h => by simp [go_sem, h] <;> rfl) ?_; intro a hA
 refine wl_call hA rfl rfl (by decide) (fun ev h => exec_call Tryz.func33 (by kernel_rfl) rfl (h.f _) (by first | (simp only [mL, h.get 10 rfl, h.c] <;> rfl) | (simp [mL, h.get 10 rfl, h.c] <;> rfl))) (open_first_at hD (by omega) (by omega)) ?_
 rintro e w2 ⟨ps, mn, rfl, hS, hps, hmn, hD2, hB2⟩
 refine ⟨_, rfl, fun a hA => ?_⟩
 have HB2 := hb1.trans (hB2.toBelow hb1.size hp hmb)
 revert a; (iterate 5 refine wo rfl rfl (by decide) (fun ev e h => by simp [go_sem, h] <;> rfl) ?_); intro a hA
 replace hA := hA.keepN [3, 4]
 refine wN (nT (wS (wR ?_)))
 revert a; (iterate 3 refine wo rfl rfl (by decide) (fun ev e h => by simp [go_sem, h] <;> rfl) ?_); (iterate 2 refine wg _ rfl rfl rfl rfl (by decide) (fun hq ev e h => by simp [go_sem, h, ↓gw_t (beq_t hq)] <;> rfl) ?_); refine wka rfl rfl (by decide) rfl rfl rfl ?_; refine wo rfl rfl (by decide) (fun ev e h => by simp [go_sem, h] <;> rfl) ?_; refine wg _ rfl rfl rfl rfl (by decide) (fun hq ev e h => by simp [go_sem, h, ↓gw_t (beq_t hq)] <;> rfl) ?_; intro a hA
 refine wl_kcall hA rfl rfl rfl rfl (by decide) (fun ev h => exec_call Tryz.func45 (by kernel_rfl) rfl (h.f _) (by first | (simp only [mL, h.get 21 rfl, h.c] <;> rfl) | (simp [mL, h.get 21 rfl, h.c] <;> rfl))) (names_any hS (by simp)) ?_
 rintro e w3 ⟨V, rfl, ho3, hb3⟩
 refine ⟨_, rfl, fun a hA => ?_⟩
 obtain ⟨A, c, rfl, hr3, hc3⟩ := ho3.reads
 revert a; (iterate 2 refine wg _ rfl rfl rfl rfl (by decide) (fun hq ev e h => by simp [go_sem, h, ↓gw_t (beq_t hq)] <;> rfl) ?_); intro a hA
 replace hA := hA.keepN [20, 24]
 revert a; refine wka rfl rfl (by decide) rfl rfl rfl ?_; refine wo rfl rfl (by decide) (fun ev e h => by simp [go_sem, h] <;> rfl) ?_; intro a hA
 replace hA := hA.keepN [0]
 refine wN (nT (wp_ret ?_))
 refine ret_1 hA 0 rfl rfl ?_
 exact ⟨rfl, HB2.trans (hb3.mono HB2.size)⟩
end Go.Proofs.YtkljkbeahdipfaaGreatDoor
/-
  Walks: a store that is nil.
-/
namespace Go.Proofs.YtkljkbeahdipfaaGreatDoor
open Go.RowKit Go.Maps
set_option linter.unusedSimpArgs false
set_option linter.unusedVariables false
set_option maxRecDepth 100000
set_option maxHeartbeats 4000000
theorem names0_any (w : World) : Calls Tryz.prog 45 #[.pointer none] w fun ev w' => ev = .returned (.slice none 0 0) ∧ Below w.heap.size w w' := by
 have HB := Below.refl w.heap.size w
 refine calls_at 23 Tryz.func45 rfl rfl (Nat.le_of_ble_eq_true rfl) ?_
 intro a hA; replace hA := hA.norm
 refine wS (wR ?_)
 revert a; refine wo rfl rfl (by decide) (fun ev e h => by simp [go_sem, h] <;> rfl) ?_; intro a hA
 replace hA := hA.keepN [0]
 refine wN (nT (wS (wS (wR ?_))))
 revert a; (iterate 2 refine wo rfl rfl (by decide) (fun ev e h => by simp [go_sem, h] <;> rfl) ?_); intro a hA
 replace hA := hA.keepN [0, 6]
 refine wN (nT ?_)
 refine wp_if hA 6 _ rfl (fun hq0 => ?yZ) (fun hq0 => ?nZ)
 case nZ => cases hq0
 case yZ =>
  refine wS (wR ?_)
  revert a; refine wo rfl rfl (by decide) (fun ev e h => by simp [go_sem, h] <;> rfl) ?_; intro a hA
  replace hA := hA.keepN [2]
  refine wN (nT (wp_ret (rT ?_)))
  refine ret_1 hA 2 rfl rfl ?_
  exact ⟨rfl, HB⟩
theorem number0_any (s : Value) (w : World) : Calls Tryz.prog 46 #[.pointer none, s] w fun ev w' => ev = .returned (.int .i64 (-1)) ∧ Below w.heap.size w w' := by
 have HB := Below.refl w.heap.size w
 refine calls_at 21 Tryz.func46 rfl rfl (Nat.le_of_ble_eq_true rfl) ?_
 intro a hA; replace hA := hA.norm
 refine wS (wR ?_)
 revert a; refine wo rfl rfl (by decide) (fun ev e h => by simp [go_sem, h] <;> rfl) ?_; intro a hA
 replace hA := hA.keepN [0, 1]
 refine wN (nT (wS (wS (wR ?_))))
 revert a; (iterate 2 refine wo rfl rfl (by decide) (fun ev e h => by simp [go_sem, h] <;> rfl) ?_); intro a hA
 replace hA := hA.keepN [0, 1, 8]
 refine wN (nT ?_)
 refine wp_if hA 8 _ rfl (fun hq0 => ?yZ) (fun hq0 => ?nZ)
 case nZ => cases hq0
 case yZ =>
  refine wS (wR ?_)
  revert a; refine wo rfl rfl (by decide) (fun ev e h => by simp [go_sem, h] <;> rfl) ?_; intro a hA
  replace hA := hA.keepN [4]
  refine wN (nT (wp_ret (rT ?_)))
  refine ret_1 hA 4 rfl rfl ?_
  exact ⟨rfl, HB⟩
theorem create0_any (s : Value) (w : World) : Calls Tryz.prog 94 #[.pointer none, s] w fun ev w' => ev = .returned (.int .i64 1) ∧ Below w.heap.size w w' := by
 have HB := Below.refl w.heap.size w
 refine calls_at 70 Tryz.func94 rfl rfl (Nat.le_of_ble_eq_true rfl) ?_
 intro a hA; replace hA := hA.norm
 refine wS (wR ?_)
 revert a; refine wo rfl rfl (by decide) (fun ev e h => by simp [go_sem, h] <;> rfl) ?_; intro a hA
 replace hA := hA.keepN [0, 1]
 refine wN (nT (wS (wS (wR ?_))))
 revert a; (iterate 2 refine wo rfl rfl (by decide) (fun ev e h => by simp [go_sem, h] <;> rfl) ?_); intro a hA
 replace hA := hA.keepN [0, 1, 11]
 refine wN (nT ?_)
 refine wp_if hA 11 _ rfl (fun hq0 => ?yZ) (fun hq0 => ?nZ)
 case nZ => cases hq0
 case yZ =>
  refine wS (wR ?_)
  revert a; refine wo rfl rfl (by decide) (fun ev e h => by simp [go_sem, h] <;> rfl) ?_; intro a hA
  replace hA := hA.keepN [4]
  refine wN (nT (wp_ret (rT ?_)))
  refine ret_1 hA 4 rfl rfl ?_
  exact ⟨rfl, HB⟩
theorem open0_any (w : World) : Calls Tryz.prog 33 #[.pointer none] w fun ev w' => ev = .returned (.tuple #[.pointer none, .int .i64 1]) ∧ Below w.heap.size w w' := by
 have HB := Below.refl w.heap.size w
 refine calls_at 81 Tryz.func33 rfl rfl (Nat.le_of_ble_eq_true rfl) ?_
 intro a hA; replace hA := hA.norm
 refine wS (wR ?_)
 revert a; (iterate 2 refine wo rfl rfl (by decide) (fun ev e h => by simp [go_sem, h] <;> rfl) ?_); intro a hA
 replace hA := hA.keepN [0]
 refine wN (nT (wS (wB (wS (wR ?_)))))
 revert a; (iterate 3 refine wo rfl rfl (by decide) (fun ev e h => by simp [go_sem, h] <;> rfl) ?_); intro a hA
 replace hA := hA.keepN [0, 14]
 refine wN (nT ?_)
 refine wp_if hA 14 _ rfl (fun hq0 => ?yZ) (fun hq0 => ?nZ)
 case nZ => cases hq0
 case yZ =>
  refine wS (wR ?_)
  revert a; (iterate 2 refine wo rfl rfl (by decide) (fun ev e h => by simp [go_sem, h] <;> rfl) ?_); intro a hA
  replace hA := hA.keepN [2, 3]
  refine wN (nT (wp_ret (rB (rT ?_))))
  refine ret_2 hA 2 3 rfl rfl rfl ?_
  exact ⟨rfl, HB⟩
abbrev boxZC : Array Value := #[.string ⟨#[]⟩, .int .u32 0, .int .u32 0, .slice none 0 0]
theorem load0_any (s : Value) (w : World) : Calls Tryz.prog 35 #[.pointer none, s] w fun ev w' => ev = .returned (.tuple #[.agg boxZC, .int .i64 1]) ∧ Below w.heap.size w w' := by
 refine calls_at 39 Tryz.func35 rfl rfl (Nat.le_of_ble_eq_true rfl) ?_
 intro a hA; replace hA := hA.norm
 refine wS (wR ?_)
 refine wl_new hA rfl rfl (by decide) (fun ev h => by simp [go_sem]; try first | exact ⟨rfl, rfl⟩ | rfl) fun w1 a (K1 : Blk _ _ _ _) hz1 hb1 hA => ?_
 revert a; refine wo rfl rfl (by decide) (fun ev e h => by simp [go_sem, h] <;> rfl) ?_; intro a hA
 replace hA := hA.keepN [0, 1, 4]
 refine wN (nT (wS (wS (wR ?_))))
 revert a; (iterate 2 refine wo rfl rfl (by decide) (fun ev e h => by simp [go_sem, h] <;> rfl) ?_); intro a hA
 replace hA := hA.keepN [0, 1, 4, 10]
 refine wN (nT ?_)
 refine wp_if hA 10 _ rfl (fun hq0 => ?yZ) (fun hq0 => ?nZ)
 case nZ => cases hq0
 case yZ =>
  refine wS (wR ?_)
  revert a; refine wo rfl rfl (by decide) (fun ev e h => by simp [go_sem, h] <;> rfl) ?_; intro a hA
  refine wl_set [.string ⟨#[]⟩, .int .u32 0, .int .u32 0, .slice none 0 0] hA rfl rfl K1 (by rfl) (fun ev h => by simp [go_sem, h.get 4 rfl, h.get 11 rfl, setAll, K1.cell, K1.frozen]) fun w2 (K1 : Blk _ _ _ _) hs2 => ?_
  revert a; refine wo rfl rfl (by decide) (fun ev e h => by simp [go_sem, h, K1.cell] <;> rfl) ?_; intro a hA
  replace hA := hA.keepN [4, 5]
  refine wN (nT (wp_ret (rT ?_)))
  refine bodyPost_ret (by simp [results, Tryz.results35, go_sem, hA.env 4 _ rfl, hA.env 5 _ rfl, K1.cell]; try first | exact ⟨rfl, rfl⟩ | rfl) hA.defers ?_
  exact ⟨rfl, hs2.below hb1 (Nat.le_refl _)⟩
set_option maxHeartbeats 8000000 in
theorem store0_any (s u f h : Value) (w : World) : Calls Tryz.prog 96 #[.pointer none, s, u, f, h] w fun ev w' => ev = .returned (.int .i64 1) ∧ Below w.heap.size w w' := by
 refine calls_at 37 Tryz.func96 rfl rfl (Nat.le_of_ble_eq_true rfl) ?_
 intro a hA; replace hA := hA.norm
 refine wS (wR ?_)
 revert a; refine wo rfl rfl (by decide) (fun ev e h => by simp [go_sem, h] <;> rfl) ?_; intro a hA
 replace hA := hA.keepN [0, 1, 2, 3, 4]
 refine wN (nT (wS (wR ?_)))
 revert a; (iterate 2 refine wo rfl rfl (by decide) (fun ev e h => by simp [go_sem, h] <;> rfl) ?_); intro a hA
 refine wl_call hA rfl rfl (by decide) (fun ev h => exec_call Tryz.func35 (by kernel_rfl) rfl (h.f _) (by first | (simp only [mL, h.get 15 rfl, h.get 16 rfl, h.c] <;> rfl) | (simp [mL, h.get 15 rfl, h.get 16 rfl, h.c] <;> rfl))) (load0_any s w) ?_
 rintro e w1 ⟨rfl, hb1⟩
 refine ⟨_, rfl, fun a hA => ?_⟩
 revert a; (iterate 3 refine wo rfl rfl (by decide) (fun ev e h => by simp [go_sem, h] <;> rfl) ?_); intro a hA
 refine wl_local [.string ⟨#[]⟩, .int .u32 0, .int .u32 0, .slice none 0 0] hA rfl rfl (by decide) (fun ev h => by simp [go_sem]; try first | exact ⟨rfl, rfl⟩ | rfl) rfl rfl (by rfl) (fun w1 g ev hb h => by simp [go_sem, h.get 11 rfl, h.get 18 rfl, setAll, hb.cell, hb.frozen]) fun w2 a (K2 : Blk _ _ _ _) hz2 hb2 hA => ?_
 have HB := hb1.trans (hb2.mono hb1.size)
 revert a; refine wo rfl rfl (by decide) (fun ev e h => by simp [go_sem, h] <;> rfl) ?_; intro a hA
 replace hA := hA.keepN [0, 2, 3, 4, 11, 12]
 refine wN (nT (wS (wS (wR ?_))))
 revert a; (iterate 2 refine wo rfl rfl (by decide) (fun ev e h => by simp [go_sem, h] <;> rfl) ?_); intro a hA
 replace hA := hA.keepN [0, 2, 3, 4, 11, 12, 21]
 refine wN (nT ?_)
 refine wp_if hA 21 _ rfl (fun hq0 => ?yZ) (fun hq0 => ?nZ)
 case nZ => cases hq0
 case yZ =>
  refine wS (wR ?_)
  revert a; (iterate 2 refine wo rfl rfl (by decide) (fun ev e h => by simp [go_sem, h] <;> rfl) ?_); intro a hA
  replace hA := hA.keepN [10]
  refine wN (nT (wp_ret (rT ?_)))
  refine ret_1 hA 10 rfl rfl ?_
  exact ⟨rfl, HB⟩
set_option maxHeartbeats 8000000 in
theorem expunge0_any (s u f : Value) (w : World) : Calls Tryz.prog 97 #[.pointer none, s, u, f] w fun ev w' => ev = .returned (.tuple #[.slice none 0 0, .int .i64 1]) ∧ Below w.heap.size w w' := by
 refine calls_at 66 Tryz.func97 rfl rfl (Nat.le_of_ble_eq_true rfl) ?_
 intro a hA; replace hA := hA.norm
 refine wS (wR ?_)
 revert a; (iterate 2 refine wo rfl rfl (by decide) (fun ev e h => by simp [go_sem, h] <;> rfl) ?_); intro a hA
 replace hA := hA.keepN [0, 1, 2, 3]
 refine wN (nT (wS (wR ?_)))
 revert a; (iterate 2 refine wo rfl rfl (by decide) (fun ev e h => by simp [go_sem, h] <;> rfl) ?_); intro a hA
 refine wl_call hA rfl rfl (by decide) (fun ev h => exec_call Tryz.func35 (by kernel_rfl) rfl (h.f _) (by first | (simp only [mL, h.get 19 rfl, h.get 20 rfl, h.c] <;> rfl) | (simp [mL, h.get 19 rfl, h.get 20 rfl, h.c] <;> rfl))) (load0_any s w) ?_
 rintro e w1 ⟨rfl, hb1⟩
 refine ⟨_, rfl, fun a hA => ?_⟩
 revert a; (iterate 3 refine wo rfl rfl (by decide) (fun ev e h => by simp [go_sem, h] <;> rfl) ?_); intro a hA
 refine wl_local [.string ⟨#[]⟩, .int .u32 0, .int .u32 0, .slice none 0 0] hA rfl rfl (by decide) (fun ev h => by simp [go_sem]; try first | exact ⟨rfl, rfl⟩ | rfl) rfl rfl (by rfl) (fun w1 g ev hb h => by simp [go_sem, h.get 10 rfl, h.get 22 rfl, setAll, hb.cell, hb.frozen]) fun w2 a (K2 : Blk _ _ _ _) hz2 hb2 hA => ?_
 have HB := hb1.trans (hb2.mono hb1.size)
 revert a; refine wo rfl rfl (by decide) (fun ev e h => by simp [go_sem, h] <;> rfl) ?_; intro a hA
 replace hA := hA.keepN [0, 2, 3, 10, 11]
 refine wN (nT (wS (wS (wR ?_))))
 revert a; (iterate 2 refine wo rfl rfl (by decide) (fun ev e h => by simp [go_sem, h] <;> rfl) ?_); intro a hA
 replace hA := hA.keepN [0, 2, 3, 10, 11, 25]
 refine wN (nT ?_)
 refine wp_if hA 25 _ rfl (fun hq0 => ?yZ) (fun hq0 => ?nZ)
 case nZ => cases hq0
 case yZ =>
  refine wS (wR ?_)
  revert a; (iterate 3 refine wo rfl rfl (by decide) (fun ev e h => by simp [go_sem, h] <;> rfl) ?_); intro a hA
  replace hA := hA.keepN [8, 9]
  refine wN (nT (wp_ret (rT ?_)))
  refine ret_2 hA 8 9 rfl rfl rfl ?_
  exact ⟨rfl, HB⟩
set_option maxHeartbeats 8000000 in
theorem copy0_any (s t u : Value) (w : World) : Calls Tryz.prog 98 #[.pointer none, s, t, u] w fun ev w' => ev = .returned (.tuple #[.slice none 0 0, .int .i64 1]) ∧ Below w.heap.size w w' := by
 refine calls_at 74 Tryz.func98 rfl rfl (Nat.le_of_ble_eq_true rfl) ?_
 intro a hA; replace hA := hA.norm
 refine wS (wR ?_)
 refine wl_op hA rfl rfl (by decide) (fun ev h => by simp [go_sem, h.c]; try first | exact ⟨rfl, rfl⟩ | rfl) fun a hA => ?_
 refine wl_op hA rfl rfl (by decide) (fun ev h => by simp [go_sem, h.c]; try first | exact ⟨rfl, rfl⟩ | rfl) fun a hA => ?_
 replace hA := hA.keepN [0, 1, 2, 3]
 refine wN (nT (wS (wS (wR ?_))))
 refine wl_op hA rfl rfl (by decide) (fun ev h => by simp [go_sem, h.get 0 rfl]; try first | exact ⟨rfl, rfl⟩ | rfl) fun a hA => ?_
 refine wl_op hA rfl rfl (by decide) (fun ev h => by simp [go_sem, h.c, h.get 16 rfl]; try first | exact ⟨rfl, rfl⟩ | rfl) fun a hA => ?_
 refine wl_op hA rfl rfl (by decide) (fun ev h => by simp [go_sem, h.get 17 rfl]; try first | exact ⟨rfl, rfl⟩ | rfl) fun a hA => ?_
 refine wl_guard _ (v := .bool false) hA rfl rfl rfl rfl (by decide) (fun hq ev h => by first | (cases hq; done) | (cases hr; done)) fun a hA => ?_
 refine wl_guard _ (v := .bool false) hA rfl rfl rfl rfl (by decide) (fun hq ev h => by first | (cases hq; done) | (cases hr; done)) fun a hA => ?_
 refine wl_guard _ (v := .bool false) hA rfl rfl rfl rfl (by decide) (fun hq ev h => by first | (cases hq; done) | (cases hr; done)) fun a hA => ?_
 refine wl_guard _ (v := .bool false) hA rfl rfl rfl rfl (by decide) (fun hq ev h => by first | (cases hq; done) | (cases hr; done)) fun a hA => ?_
 refine wl_guard _ (v := .bool false) hA rfl rfl rfl rfl (by decide) (fun hq ev h => by first | (cases hq; done) | (cases hr; done)) fun a hA => ?_
 refine wl_guard2 _ _ (v := .bool false) hA rfl rfl rfl rfl (by decide) (fun hq hr ev h => by first | (cases hq; done) | (cases hr; done)) fun a hA => ?_
 refine wl_guard2 _ _ (v := .bool false) hA rfl rfl rfl rfl (by decide) (fun hq hr ev h => by first | (cases hq; done) | (cases hr; done)) fun a hA => ?_
 replace hA := hA.keepN [0, 1, 2, 3, 18, 23, 24, 25]
 refine wl_guard2 _ _ (v := .bool false) hA rfl rfl rfl rfl (by decide) (fun hq hr ev h => by first | (cases hq; done) | (cases hr; done)) fun a hA => ?_
 refine wl_guard2 _ _ (v := .bool false) hA rfl rfl rfl rfl (by decide) (fun hq hr ev h => by first | (cases hq; done) | (cases hr; done)) fun a hA => ?_
 refine wl_guard _ (v := .bool false) hA rfl rfl rfl rfl (by decide) (fun hq ev h => by first | (cases hq; done) | (cases hr; done)) fun a hA => ?_
 revert a; (first | refine wka rfl rfl (by decide) rfl rfl rfl ?_ | refine wo rfl rfl (by decide) (fun ev e h => by simp [go_sem, h, gv_or, gv_and] <;> rfl) ?_); intro a hA
 replace hA := hA.keepN [0, 1, 2, 3, 29]
 refine wN (nT ?_)
 refine wp_if hA 29 _ rfl (fun hq1 => ?yY) (fun hq1 => ?nY)
 case yY => cases hq1
 case nY =>
 refine wp_skip (nT (wS (wR ?_)))
 refine wl_op hA rfl rfl (by decide) (fun ev h => by simp [go_sem, h.get 0 rfl]; try first | exact ⟨rfl, rfl⟩ | rfl) fun a hA => ?_
 refine wl_op hA rfl rfl (by decide) (fun ev h => by simp [go_sem, h.get 1 rfl]; try first | exact ⟨rfl, rfl⟩ | rfl) fun a hA => ?_
 refine wl_call hA rfl rfl (by decide) (fun ev h => exec_call Tryz.func35 (by kernel_rfl) rfl (h.f _) (by first | (simp only [mL, h.get 31 rfl, h.get 32 rfl, h.c] <;> rfl) | (simp [mL, h.get 31 rfl, h.get 32 rfl, h.c] <;> rfl))) (load0_any s w) ?_
 rintro e w1 ⟨rfl, hb1⟩
 refine ⟨_, rfl, fun a hA => ?_⟩
 refine wl_op hA rfl rfl (by decide) (fun ev h => by simp [go_sem, h.get 33 rfl]; try first | exact ⟨rfl, rfl⟩ | rfl) fun a hA => ?_
 refine wl_op hA rfl rfl (by decide) (fun ev h => by simp [go_sem, h.get 30 rfl]; try first | exact ⟨rfl, rfl⟩ | rfl) fun a hA => ?_
 refine wl_op hA rfl rfl (by decide) (fun ev h => by simp [go_sem, h.get 30 rfl]; try first | exact ⟨rfl, rfl⟩ | rfl) fun a hA => ?_
 refine wl_local [.string ⟨#[]⟩, .int .u32 0, .int .u32 0, .slice none 0 0] hA rfl rfl (by decide) (fun ev h => by simp [go_sem]; try first | exact ⟨rfl, rfl⟩ | rfl) rfl rfl (by rfl) (fun w1 g ev hb h => by simp [go_sem, h.get 10 rfl, h.get 34 rfl, setAll, hb.cell, hb.frozen]) fun w2 a (K2 : Blk _ _ _ _) hz2 hb2 hA => ?_
 have HB := hb1.trans (hb2.mono hb1.size)
 refine wl_op hA rfl rfl (by decide) (fun ev h => by simp [go_sem, h.get 35 rfl]; try first | exact ⟨rfl, rfl⟩ | rfl) fun a hA => ?_
 replace hA := hA.keepN [0, 2, 3, 10, 11]
 refine wN (nT (wS (wS (wR ?_))))
 refine wl_op hA rfl rfl (by decide) (fun ev h => by simp [go_sem, h.get 11 rfl]; try first | exact ⟨rfl, rfl⟩ | rfl) fun a hA => ?_
 refine wl_op hA rfl rfl (by decide) (fun ev h => by simp [go_sem, h.c, h.get 36 rfl]; try first | exact ⟨rfl, rfl⟩ | rfl) fun a hA => ?_
 replace hA := hA.keepN [0, 2, 3, 10, 11, 37]
 refine wN (nT ?_)
 refine wp_if hA 37 _ rfl (fun hq0 => ?yZ) (fun hq0 => ?nZ)
 case nZ => cases hq0
 case yZ =>
  refine wS (wR ?_)
  refine wl_op hA rfl rfl (by decide) (fun ev h => by simp [go_sem, h.get 11 rfl]; try first | exact ⟨rfl, rfl⟩ | rfl) fun a hA => ?_
  refine wl_op hA rfl rfl (by decide) (fun ev h => by simp [go_sem, h.c]; try first | exact ⟨rfl, rfl⟩ | rfl) fun a hA => ?_
  refine wl_op hA rfl rfl (by decide) (fun ev h => by simp [go_sem, h.get 38 rfl]; try first | exact ⟨rfl, rfl⟩ | rfl) fun a hA => ?_
  replace hA := hA.keepN [8, 9]
  refine wN (nT (wp_ret (rT ?_)))
  refine ret_2 hA 8 9 rfl rfl rfl ?_
  exact ⟨rfl, HB⟩
end Go.Proofs.YtkljkbeahdipfaaGreatDoor
/-
  Walks: an op on a store that is nil.
-/
namespace Go.Proofs.YtkljkbeahdipfaaGreatDoor
open Go.RowKit Go.Maps
set_option linter.unusedSimpArgs false
set_option linter.unusedVariables false
set_option maxRecDepth 100000
set_option maxHeartbeats 8000000
/-- what is done to a store -/
structure OpV where
 k : Nat
 nm : ByteArray
 dst : ByteArray
 m : MsgV
 ua : Option Addr
 uc : Nat
 us : List Nat
 f : Int
 h : Int
 all : Bool
def opC (o : OpV) : List Value := [.int .u8 (o.k : Nat), .string o.nm, .string o.dst, .int .u32 (o.m.uid : Nat), .int .i64 o.m.date, .int .i64 o.m.flags, .slice o.m.a o.m.b.length o.m.c, .slice o.ua o.us.length o.uc, .int .i64 o.f, .int .i64 o.h, .bool o.all]
theorem append0_any (s : Value) (m : MsgV) (w : World) : Calls Tryz.prog 95 #[.pointer none, s, .agg #[.int .u32 (m.uid : Nat), .int .i64 m.date, .int .i64 m.flags, .slice m.a m.b.length m.c]] w fun ev w' => ev = .returned (.tuple #[.int .u32 0, .int .i64 1]) ∧ Below w.heap.size w w' := by
 refine calls_at 43 Tryz.func95 rfl rfl (Nat.le_of_ble_eq_true rfl) ?_
 intro a hA; replace hA := hA.norm
 refine wS (wR ?_)
 refine wl_new hA rfl rfl (by decide) (fun ev h => by simp [go_sem, h.get 2 rfl]; try first | exact ⟨rfl, rfl⟩ | rfl) fun w0 a (K0 : Blk _ _ _ _) hz0 hb0 hA => ?_
 revert a; (iterate 2 refine wo rfl rfl (by decide) (fun ev e h => by simp [go_sem, h] <;> rfl) ?_); intro a hA
 replace hA := hA.keepN [0, 1, 5]
 refine wN (nT (wS (wR ?_)))
 revert a; (iterate 2 refine wo rfl rfl (by decide) (fun ev e h => by simp [go_sem, h] <;> rfl) ?_); intro a hA
 refine wl_call hA rfl rfl (by decide) (fun ev h => exec_call Tryz.func35 (by kernel_rfl) rfl (h.f _) (by first | (simp only [mL, h.get 14 rfl, h.get 15 rfl, h.c] <;> rfl) | (simp [mL, h.get 14 rfl, h.get 15 rfl, h.c] <;> rfl))) (load0_any s _) ?_
 rintro e w1 ⟨rfl, hb1⟩
 refine ⟨_, rfl, fun a hA => ?_⟩
 have HB1 := hb0.trans (hb1.mono hb0.size)
 revert a; (iterate 3 refine wo rfl rfl (by decide) (fun ev e h => by simp [go_sem, h] <;> rfl) ?_); intro a hA
 refine wl_local [.string ⟨#[]⟩, .int .u32 0, .int .u32 0, .slice none 0 0] hA rfl rfl (by decide) (fun ev h => by simp [go_sem]; try first | exact ⟨rfl, rfl⟩ | rfl) rfl rfl (by rfl) (fun w1 g ev hb h => by simp [go_sem, h.get 8 rfl, h.get 17 rfl, setAll, hb.cell, hb.frozen]) fun w2 a (K2 : Blk _ _ _ _) hz2 hb2 hA => ?_
 have HB := HB1.trans (hb2.mono HB1.size)
 revert a; refine wo rfl rfl (by decide) (fun ev e h => by simp [go_sem, h] <;> rfl) ?_; intro a hA
 replace hA := hA.keepN [0, 5, 8, 9]
 refine wN (nT (wS (wS (wR ?_))))
 revert a; (iterate 2 refine wo rfl rfl (by decide) (fun ev e h => by simp [go_sem, h] <;> rfl) ?_); intro a hA
 replace hA := hA.keepN [0, 5, 8, 9, 20]
 refine wN (nT ?_)
 refine wp_if hA 20 _ rfl (fun hq0 => ?yZ) (fun hq0 => ?nZ)
 case nZ => cases hq0
 case yZ =>
  refine wS (wR ?_)
  revert a; (iterate 3 refine wo rfl rfl (by decide) (fun ev e h => by simp [go_sem, h] <;> rfl) ?_); intro a hA
  replace hA := hA.keepN [6, 7]
  refine wN (nT (wp_ret (rT ?_)))
  refine ret_2 hA 6 7 rfl rfl rfl ?_
  exact ⟨rfl, HB⟩
theorem do0_any (o : OpV) (w : World) : Calls Tryz.prog 40 #[.pointer none, .agg (opC o).toArray] w fun ev w' => ev = .returned (.tuple #[.slice none 0 0, .int .i64 1]) ∧ Below w.heap.size w w' := by
 obtain ⟨k, nm, dst, m, ua, uc, us, f, h, all⟩ := o
 unfold opC
 refine calls_at 73 Tryz.func40 rfl rfl (Nat.le_of_ble_eq_true rfl) ?_
 intro a hA; replace hA := hA.norm
 refine wS (wR ?_)
 refine wl_new hA rfl rfl (by decide) (fun ev h => by simp [go_sem, h.get 1 rfl]; try first | exact ⟨rfl, rfl⟩ | rfl) fun w0 a (K0 : Blk _ _ _ _) hz0 hb0 hA => ?_
 revert a; (iterate 2 refine wo rfl rfl (by decide) (fun ev e h => by simp [go_sem, h, K0.cell] <;> rfl) ?_); intro a hA
 replace hA := hA.keepN [0, 3]
 refine wN (nT (wS (wB (wS (wR ?_)))))
 revert a; (iterate 4 refine wo rfl rfl (by decide) (fun ev e h => by simp [go_sem, h, K0.cell] <;> rfl) ?_); intro a hA
 replace hA := hA.keepN [0, 3, 8]
 refine wN (nT ?_)
 refine wp_if hA 8 _ rfl (fun hq0 => ?yA) (fun hq0 => ?nA)
 case yA =>
  refine wS (wR ?_)
  revert a; (iterate 3 refine wo rfl rfl (by decide) (fun ev e h => by simp [go_sem, h, K0.cell] <;> rfl) ?_); intro a hA
  refine wl_call hA rfl rfl (by decide) (fun ev h => exec_call Tryz.func94 (by kernel_rfl) rfl (h.f _) (by first | (simp only [mL, h.get 12 rfl, h.get 14 rfl, h.c] <;> rfl) | (simp [mL, h.get 12 rfl, h.get 14 rfl, h.c, K0.cell] <;> rfl))) (create0_any _ _) ?_
  rintro e w1 ⟨rfl, hb1⟩
  refine ⟨_, rfl, fun a hA => ?_⟩
  have HB := hb0.trans (hb1.mono hb0.size)
  revert a; (iterate 2 refine wo rfl rfl (by decide) (fun ev e h => by simp [go_sem, h, K0.cell] <;> rfl) ?_); intro a hA
  replace hA := hA.keepN [4, 5]
  refine wN (nT (wp_ret (rB (rT ?_))))
  refine ret_2 hA 4 5 rfl rfl rfl ?_
  exact ⟨rfl, HB⟩
 case nA =>
  refine wS (wR ?_)
  revert a; (iterate 4 refine wo rfl rfl (by decide) (fun ev e h => by simp [go_sem, h, K0.cell] <;> rfl) ?_); intro a hA
  replace hA := hA.keepN [0, 3, 16]
  refine wN (nT ?_)
  refine wp_if hA 16 _ rfl (fun hq1 => ?yB) (fun hq1 => ?nB)
  case yB =>
   refine wS (wR ?_)
   revert a; (iterate 5 refine wo rfl rfl (by decide) (fun ev e h => by simp [go_sem, h, K0.cell] <;> rfl) ?_); intro a hA
   refine wl_call hA rfl rfl (by decide) (fun ev h => exec_call Tryz.func95 (by kernel_rfl) rfl (h.f _) (by first | (simp only [mL, h.get 21 rfl, h.get 23 rfl, h.get 25 rfl, h.c] <;> rfl) | (simp [mL, h.get 21 rfl, h.get 23 rfl, h.get 25 rfl, h.c, K0.cell] <;> rfl))) (append0_any _ m _) ?_
   rintro e w1 ⟨rfl, hb1⟩
   refine ⟨_, rfl, fun a hA => ?_⟩
   have HB := hb0.trans (hb1.mono hb0.size)
   revert a; (iterate 5 refine wo rfl rfl (by decide) (fun ev e h => by simp [go_sem, h, K0.cell] <;> rfl) ?_); intro a hA
   replace hA := hA.keepN [6, 7]
   refine wN (nT (wS (wS (wR ?_))))
   revert a; (iterate 2 refine wo rfl rfl (by decide) (fun ev e h => by simp [go_sem, h, K0.cell] <;> rfl) ?_); intro a hA
   replace hA := hA.keepN [6, 7, 30]
   refine wN (nT ?_)
   refine wp_if hA 30 _ rfl (fun hq2 => ?yC) (fun hq2 => ?nC)
   case nC => cases hq2
   case yC =>
    refine wS (wR ?_)
    revert a; (iterate 3 refine wo rfl rfl (by decide) (fun ev e h => by simp [go_sem, h, K0.cell] <;> rfl) ?_); intro a hA
    replace hA := hA.keepN [4, 5]
    refine wN (nT (wp_ret (rT (rB (rT ?_)))))
    refine ret_2 hA 4 5 rfl rfl rfl ?_
    exact ⟨rfl, HB⟩
  case nB =>
   refine wS (wR ?_)
   revert a; (iterate 4 refine wo rfl rfl (by decide) (fun ev e h => by simp [go_sem, h, K0.cell] <;> rfl) ?_); intro a hA
   replace hA := hA.keepN [0, 3, 35]
   refine wN (nT ?_)
   refine wp_if hA 35 _ rfl (fun hq3 => ?yD) (fun hq3 => ?nD)
   case yD =>
    refine wS (wR ?_)
    revert a; (iterate 9 refine wo rfl rfl (by decide) (fun ev e h => by simp [go_sem, h, K0.cell] <;> rfl) ?_); intro a hA
    refine wl_call hA rfl rfl (by decide) (fun ev h => exec_call Tryz.func96 (by kernel_rfl) rfl (h.f _) (by first | (simp only [mL, h.get 39 rfl, h.get 41 rfl, h.get 43 rfl, h.get 45 rfl, h.get 47 rfl, h.c] <;> rfl) | (simp [mL, h.get 39 rfl, h.get 41 rfl, h.get 43 rfl, h.get 45 rfl, h.get 47 rfl, h.c, K0.cell] <;> rfl))) (store0_any _ _ _ _ _) ?_
    rintro e w1 ⟨rfl, hb1⟩
    refine ⟨_, rfl, fun a hA => ?_⟩
    have HB := hb0.trans (hb1.mono hb0.size)
    revert a; refine wo rfl rfl (by decide) (fun ev e h => by simp [go_sem, h, K0.cell] <;> rfl) ?_; intro a hA
    replace hA := hA.keepN [4, 48]
    revert a; refine wo rfl rfl (by decide) (fun ev e h => by simp [go_sem, h, K0.cell] <;> rfl) ?_; intro a hA
    replace hA := hA.keepN [4, 5]
    refine wN (nT (wp_ret (rB (rT ?_))))
    refine ret_2 hA 4 5 rfl rfl rfl ?_
    exact ⟨rfl, HB⟩
   case nD =>
    refine wS (wR ?_)
    revert a; (iterate 4 refine wo rfl rfl (by decide) (fun ev e h => by simp [go_sem, h, K0.cell] <;> rfl) ?_); intro a hA
    replace hA := hA.keepN [0, 3, 49]
    refine wN (nT ?_)
    refine wp_if hA 49 _ rfl (fun hq4 => ?yE) (fun hq4 => ?nE)
    case yE =>
     refine wS (wR ?_)
     revert a; (iterate 7 refine wo rfl rfl (by decide) (fun ev e h => by simp [go_sem, h, K0.cell] <;> rfl) ?_); intro a hA
     refine wl_call hA rfl rfl (by decide) (fun ev h => exec_call Tryz.func97 (by kernel_rfl) rfl (h.f _) (by first | (simp only [mL, h.get 53 rfl, h.get 55 rfl, h.get 57 rfl, h.get 59 rfl, h.c] <;> rfl) | (simp [mL, h.get 53 rfl, h.get 55 rfl, h.get 57 rfl, h.get 59 rfl, h.c, K0.cell] <;> rfl))) (expunge0_any _ _ _ _) ?_
     rintro e w1 ⟨rfl, hb1⟩
     refine ⟨_, rfl, fun a hA => ?_⟩
     have HB := hb0.trans (hb1.mono hb0.size)
     revert a; (iterate 3 refine wo rfl rfl (by decide) (fun ev e h => by simp [go_sem, h, K0.cell] <;> rfl) ?_); intro a hA
     replace hA := hA.keepN [4, 62]
     revert a; refine wo rfl rfl (by decide) (fun ev e h => by simp [go_sem, h, K0.cell] <;> rfl) ?_; intro a hA
     replace hA := hA.keepN [4, 5]
     refine wN (nT (wp_ret (rB (rT ?_))))
     refine ret_2 hA 4 5 rfl rfl rfl ?_
     exact ⟨rfl, HB⟩
    case nE =>
     refine wp_skip (nB (nT (wS (wR ?_))))
     revert a; (iterate 7 refine wo rfl rfl (by decide) (fun ev e h => by simp [go_sem, h, K0.cell] <;> rfl) ?_); intro a hA
     refine wl_call hA rfl rfl (by decide) (fun ev h => exec_call Tryz.func98 (by kernel_rfl) rfl (h.f _) (by first | (simp only [mL, h.get 63 rfl, h.get 65 rfl, h.get 67 rfl, h.get 69 rfl, h.c] <;> rfl) | (simp [mL, h.get 63 rfl, h.get 65 rfl, h.get 67 rfl, h.get 69 rfl, h.c, K0.cell] <;> rfl))) (copy0_any _ _ _ _) ?_
     rintro e w1 ⟨rfl, hb1⟩
     refine ⟨_, rfl, fun a hA => ?_⟩
     have HB := hb0.trans (hb1.mono hb0.size)
     revert a; (iterate 3 refine wo rfl rfl (by decide) (fun ev e h => by simp [go_sem, h, K0.cell] <;> rfl) ?_); intro a hA
     replace hA := hA.keepN [4, 72]
     revert a; refine wo rfl rfl (by decide) (fun ev e h => by simp [go_sem, h, K0.cell] <;> rfl) ?_; intro a hA
     replace hA := hA.keepN [4, 5]
     refine wN (nT (wp_ret ?_))
     refine ret_2 hA 4 5 rfl rfl rfl ?_
     exact ⟨rfl, HB⟩
end Go.Proofs.YtkljkbeahdipfaaGreatDoor
