/-
  Walk of the law: what any bytes say as a log, and the mailbox that it is.
-/
import Derived.Test.YtmjikfeaopmejaaGreatDoorLbe
import Derived.Deep.Slices
import Derived.Deep.Fields
import Derived.ChangeSame
import Derived.ChangeSlices
import Derived.Carry
import Derived.SizedLaws
import Derived.Lib.SmallJoins
import Derived.Deep.DeepHandedRow
import Derived.LaidSub
import Derived.Lib.LaidTab
import Derived.MakeChecks
import Derived.Test.YtmjikfeaopmejaaGreatDoorCards
import Derived.Test.YtmjikfeaopmejaaGreatDoorTie
import Derived.SevenTiedAt
namespace Go.Proofs.YtmjikfeaopmejaaGreatDoor
open Go.RowKit
set_option linter.unusedSimpArgs false
set_option linter.unusedVariables false
theorem notesB_nil : notesB [] = [] := by
  unfold notesB scan
  rw [scan_end (by decide)]
  rfl
theorem logAwake_any (w : World) (hm : MaxCell w) (hg : 0 < w.heap.size) (htab : Lib.TabIs Tryz.prog w "internal/strconv.uint64pow10" .u64 Lib.pow10Tab) :
    Calls Tryz.prog 18 #[] w fun ev w' => ev = .returned (.bool true) ∧ Below w.heap.size w w' := by
  refine calls_at 10 Tryz.func18 rfl rfl (Nat.le_of_ble_eq_true rfl) ?_
  intro a hA; replace hA := hA.norm
  refine wS (wR ?_)
  revert a; refine wo rfl rfl (by decide) (fun ev e h => by simp [go_sem, h] <;> rfl) ?_; intro a hA
  replace hA := hA.keepN []
  refine wN (nT (wS (wR ?_)))
  refine wl_call hA rfl rfl (by decide) (fun ev h => exec_call Tryz.func19 (by kernel_rfl) rfl (h.f _) (by first | (simp only [mL, h.c] <;> rfl) | (simp [mL, h.c] <;> rfl))) (read_any none 0 0 [] rfl (Nat.le_refl _) (by decide) w hm hg htab Reads.none8) ?_
  rintro e w1 ⟨v, L, rfl, ho, hlv, hb1⟩
  refine ⟨_, rfl, fun a hA => ?_⟩
  rw [notesB_nil, show (takeAll []).nm = ⟨#[]⟩ from rfl, show (takeAll []).ep = 0 from rfl, show (takeAll []).nx = 1 from rfl, show cleanS (takeAll []) = true from rfl] at hA
  obtain ⟨A0, c0, rfl, _⟩ := ho.reads
  refine wl_local [.string ⟨#[]⟩, .int .u32 0, .int .u32 1, .slice A0 L.length c0, .int .i64 ((scan []).2 : Nat), .bool true] hA rfl rfl (by decide) (fun ev h => by simp [go_sem]; try first | exact ⟨rfl, rfl⟩ | rfl) rfl rfl (by rfl) (fun w1 g ev hb h => by simp [go_sem, h.get 1 rfl, h.get 2 rfl, setAll, hb.cell, hb.frozen]) fun w2 a (K : Blk _ _ _ _) hz2 hb2 hA => ?_
  replace hA := hA.keepN [1]
  refine wN (nT (wS (wR ?_)))
  revert a; (iterate 3 refine wo rfl rfl (by decide) (fun ev e h => by simp [go_sem, h, K.cell] <;> rfl) ?_); (iterate 3 refine wg _ rfl rfl rfl rfl (by decide) (fun hq ev e h => by simp [go_sem, h, ↓gw_t (beq_t hq), K.cell] <;> rfl) ?_); refine wka rfl rfl (by decide) rfl rfl rfl ?_; refine wo rfl rfl (by decide) (fun ev e h => by simp [go_sem, h, K.cell] <;> rfl) ?_; intro a hA
  replace hA := hA.keepN [0]
  refine wN (nT (wp_ret ?_))
  refine ret_1 hA 0 rfl rfl ?_
  exact ⟨rfl, hb1.trans (hb2.mono hb1.size)⟩
theorem boxS_nm (s : LogS) : (boxS s).nm = s.nm := by unfold boxS; cases cleanS s <;> rfl
theorem boxS_len (s : LogS) : (boxS s).msgs.length = s.live.length := by
  unfold boxS
  cases cleanS s
  · rw [cond_false]; exact renum_len 0 s.live
  · rw [cond_true]; exact List.length_map ..
/-- what the notes of bytes are bounded by -/
theorem notesB_small (b : List UInt8) : ∀ y ∈ notesB b, y.o.length ≤ 20000 ∧ y.ep < 4294967296 ∧ y.u < 4294967296 := by
  intro x hx
  unfold notesB notesR at hx
  obtain ⟨r, _, hr⟩ := List.mem_flatMap.1 hx
  cases hd : decOk (r.kind : Int) r.b with
  | false => rw [hd] at hr; cases hr
  | true =>
    rw [hd, cond_true, List.mem_singleton] at hr
    subst hr
    refine ⟨?_, inN_lt _ 4, rd2_lt _ _⟩
    unfold decOk at hd
    simp only [Bool.and_eq_true] at hd
    exact (formed_parts hd.2.1).2.2.1
theorem notesB_len (b : List UInt8) : (notesB b).length ≤ b.length := by
  have h := scan_len b
  suffices H : ∀ l : List RecB, (notesR l).length ≤ l.length by unfold notesB; exact Nat.le_trans (H _) h
  intro l
  induction l with
  | nil => exact Nat.le_refl _
  | cons r l ih =>
    unfold notesR at ih ⊢
    rw [List.flatMap_cons, List.length_append, List.length_cons]
    have : (bif decOk (r.kind : Int) r.b then [noteOf r.kind r.at_ r.b] else []).length ≤ 1 := by
      cases decOk (r.kind : Int) r.b
      · exact Nat.zero_le _
      · exact Nat.le_refl _
    omega
theorem ofEp_lt {l : List NoteB} (h : ∀ y ∈ l, y.ep < 4294967296) : ofEp l < 4294967296 := by
  suffices H : ∀ (l : List NoteB) (e : Nat), e < 4294967296 → (∀ m ∈ l, m.ep < 4294967296) → l.foldl (fun e n => max e n.ep) e < 4294967296 from H l 0 (by decide) h
  intro l
  induction l with
  | nil => intro e h _; exact h
  | cons y r ih =>
    intro e h h2
    rw [List.foldl_cons]
    refine ih _ ?_ fun m hm => h2 m (List.mem_cons_of_mem _ hm)
    have := h2 y List.mem_cons_self
    omega
/-- what is known of the log of few bytes -/
theorem log_small {b : List UInt8} {L : List LiveV} (hn : b.length ≤ 16000000) (hlv : L.map liveL = (ofAll (notesB b)).live.map noteL) : L.length ≤ 16000000 ∧ (∀ x ∈ L, x.m.b.length ≤ 1000000) ∧ (ofAll (notesB b)).ep < 4294967296 := by
  have h1 := notesB_len b
  have h2 := ofLive_len (notesB b)
  have h3 : L.length = (ofLive (notesB b)).length := by have := congrArg List.length hlv; rw [List.length_map, List.length_map] at this; exact this
  refine ⟨by omega, fun x hx => ?_, ofEp_lt fun y hy => (notesB_small b y hy).2.1⟩
  have h2 : liveL x ∈ (ofAll (notesB b)).live.map noteL := by rw [← hlv]; exact List.mem_map_of_mem hx
  obtain ⟨y, hy, e⟩ := List.mem_map.1 h2
  have h3 := congrArg (fun q : Nat × Nat × Int × Int × List UInt8 × Nat => q.2.2.2.2.1) e
  have h4 : y.o = x.m.b := h3
  have := (notesB_small b y (ofLive_mem hy).1).1
  rw [← h4]
  omega
set_option maxRecDepth 100000 in
set_option maxHeartbeats 4000000 in
theorem logReads_law (A : Option Addr) (n c : Nat) (b : List UInt8) (hl : b.length = n) (hc : n ≤ c) (w : World) (hm : MaxCell w) (hg : 0 < w.heap.size) (htab : Lib.TabIs Tryz.prog w "internal/strconv.uint64pow10" .u64 Lib.pow10Tab) (hr : Reads w w.heap.size 1 A n (u8s b)) :
    Calls Tryz.prog 4 #[.slice A n c] w fun ev w' => ev = .returned (.bool true) ∧ Below w.heap.size w w' := by
  have Ht := Lib.tabBelow_of_tabIs htab
  refine calls_at 81 Tryz.func4 rfl rfl (Nat.le_of_ble_eq_true rfl) ?_
  intro a hA; replace hA := hA.norm
  refine wS (wR ?_)
  revert a; refine wo rfl rfl (by decide) (fun ev e h => by simp [go_sem, h] <;> rfl) ?_; intro a hA
  replace hA := hA.keepN [0]
  refine wN (nT (wS (wS (wR ?_))))
  refine wl_call hA rfl rfl (by decide) (fun ev h => exec_call Tryz.func18 (by kernel_rfl) rfl (h.f _) (by first | (simp only [mL, h.c] <;> rfl) | (simp [mL, h.c] <;> rfl))) (logAwake_any w hm hg htab) ?_
  rintro e w1 ⟨rfl, HB⟩
  refine ⟨_, rfl, fun a hA => ?_⟩
  revert a; (iterate 2 refine wo rfl rfl (by decide) (fun ev e h => by simp [go_sem, h] <;> rfl) ?_); (iterate 3 refine wg _ rfl rfl rfl rfl (by decide) (fun hq ev e h => by simp [go_sem, h, ↓gw_t (beq_t hq)] <;> rfl) ?_); refine wko rfl rfl (by decide) rfl rfl rfl ?_; intro a hA
  replace hA := hA.keepN [0, 16]
  refine wN (nT ?_)
  refine wp_if hA 16 _ rfl (fun hq => ?yA) (fun hq => ?nA)
  case yA =>
    refine wS (wR ?_)
    refine wl_call hA rfl rfl (by decide) (fun ev h => exec_call Tryz.func18 (by kernel_rfl) rfl (h.f _) (by first | (simp only [mL, h.c] <;> rfl) | (simp [mL, h.c] <;> rfl))) (logAwake_any _ (hm.below hg HB) (Nat.lt_of_lt_of_le hg HB.size) (Ht _ HB)) ?_
    rintro e w4 ⟨rfl, hb4⟩
    refine ⟨_, rfl, fun a hA => ?_⟩
    replace HB := HB.trans (hb4.mono HB.size)
    revert a; refine wo rfl rfl (by decide) (fun ev e h => by simp [go_sem, h] <;> rfl) ?_; intro a hA
    replace hA := hA.keepN [2]
    refine wN (nT (wp_ret (rT ?_)))
    refine ret_1 hA 2 rfl rfl ?_
    exact ⟨rfl, HB⟩
  case nA =>
    have hn : n ≤ 30000 := by simp at hq; omega
    refine wp_skip (nT (wS (wR ?_)))
    revert a; refine wo rfl rfl (by decide) (fun ev e h => by simp [go_sem, h] <;> rfl) ?_; intro a hA
    refine wl_call hA rfl rfl (by decide) (fun ev h => exec_call Tryz.func19 (by kernel_rfl) rfl (h.f _) (by first | (simp only [mL, h.get 18 rfl, h.c] <;> rfl) | (simp [mL, h.get 18 rfl, h.c] <;> rfl))) (read_any A n c b hl hc (by omega) _ (hm.below hg HB) (Nat.lt_of_lt_of_le hg HB.size) (Ht _ HB) ((hr.below HB).more HB.size)) ?_
    rintro e w3 ⟨v, L, rfl, ho, hlv, hb3⟩
    refine ⟨_, rfl, fun a hA => ?_⟩
    replace HB := HB.trans (hb3.mono HB.size)
    rw [takeAll_of _ (notesB_kind b)] at hA hlv
    obtain ⟨S, hS⟩ : ∃ S, ofAll (notesB b) = S := ⟨_, rfl⟩
    obtain ⟨hLs, hsm, hep⟩ := log_small (by omega) hlv
    rw [hS] at hA hlv hep
    obtain ⟨T, hT⟩ : ∃ T, (scan b).2 = T := ⟨_, rfl⟩
    rw [hT] at hA
    obtain ⟨A0, c0, rfl, hrr, _⟩ := ho.reads
    refine wl_local [.string S.nm, .int .u32 (S.ep : Nat), .int .u32 (S.nx : Nat), .slice A0 L.length c0, .int .i64 (T : Nat), .bool (cleanS S)] hA rfl rfl (by decide) (fun ev h => by simp [go_sem]; try first | exact ⟨rfl, rfl⟩ | rfl) rfl rfl (by rfl) (fun w1 g ev hb h => by simp [go_sem, h.get 3 rfl, h.get 19 rfl, setAll, hb.cell, hb.frozen]) fun w4 a (K3 : Blk _ _ _ _) hz4 hb4 hA => ?_
    replace HB := HB.trans (hb4.mono HB.size)
    replace hrr := hrr.below hb4
    replace hA := hA.keepN [0, 3]
    refine wN (nT (wS (wR ?_)))
    revert a; refine wo rfl rfl (by decide) (fun ev e h => by simp [go_sem, h] <;> rfl) ?_; intro a hA
    refine wl_call hA rfl rfl (by decide) (fun ev h => exec_call Tryz.func20 (by kernel_rfl) rfl (h.f _) (by first | (simp only [mL, h.get 21 rfl, h.c] <;> rfl) | (simp [mL, h.get 21 rfl, h.c] <;> rfl))) (notes_any A n c b hl hc (by omega) _ (hm.below hg HB) (Nat.lt_of_lt_of_le hg HB.size) (Ht _ HB) ((hr.below HB).more HB.size)) ?_
    rintro e w5 ⟨v2, u2, N, P, rfl, hoN, -, hN, -, hNl, hNu, hb5⟩
    refine ⟨_, rfl, fun a hA => ?_⟩
    replace HB := HB.trans (hb5.mono HB.size)
    replace hrr := hrr.below hb5
    replace K3 := K3.below hb5 K3.lt
    rw [hT] at hA
    obtain ⟨A2, c2, rfl, hrN, _⟩ := hoN.reads
    revert a; (iterate 7 refine wo rfl rfl (by decide) (fun ev e h => by simp [go_sem, h] <;> rfl) ?_); intro a hA
    replace hA := hA.keepN [3, 4, 6]
    refine wN (nT (wS (wR ?_)))
    revert a; refine wo rfl rfl (by decide) (fun ev e h => by simp [go_sem, h] <;> rfl) ?_; intro a hA
    refine wl_call hA rfl rfl (by decide) (fun ev h => exec_call Tryz.func21 (by kernel_rfl) rfl (h.f _) (by first | (simp only [mL, h.get 27 rfl, h.c] <;> rfl) | (simp [mL, h.get 27 rfl, h.c] <;> rfl))) (refOf_any A2 N.length c2 N _ rfl (by omega) hrN hNu) ?_
    rintro e w6 ⟨v3, M, rfl, hoM, hM, -, hb6⟩
    refine ⟨_, rfl, fun a hA => ?_⟩
    replace HB := HB.trans (hb6.mono HB.size)
    replace hrr := hrr.below hb6
    replace K3 := K3.below hb6 K3.lt
    rw [hN, boxS_z0, cleanS_z0, hS] at hA
    rw [hN, boxS_z0, hS] at hM
    obtain ⟨Am, cm, rfl, hrM, _⟩ := hoM.reads
    revert a; (iterate 3 refine wo rfl rfl (by decide) (fun ev e h => by simp [go_sem, h] <;> rfl) ?_); intro a hA
    refine wl_local [.string (boxS S).nm, .int .u32 ((boxS S).ep : Nat), .int .u32 ((boxS S).nx : Nat), .slice Am M.length cm] hA rfl rfl (by decide) (fun ev h => by simp [go_sem]; try first | exact ⟨rfl, rfl⟩ | rfl) rfl rfl (by rfl) (fun w1 g ev hb h => by simp [go_sem, h.get 7 rfl, h.get 29 rfl, setAll, hb.cell, hb.frozen]) fun w7 a (K7 : Blk _ _ _ _) hz7 hb7 hA => ?_
    replace HB := HB.trans (hb7.mono HB.size)
    replace hrr := hrr.below hb7
    replace K3 := K3.below hb7 K3.lt
    replace hrM := hrM.below hb7
    revert a; refine wo rfl rfl (by decide) (fun ev e h => by simp [go_sem, h, K3.cell] <;> rfl) ?_; intro a hA
    replace hA := hA.keepN [3, 6, 7, 8]
    refine wN (nT (wS (wR ?_)))
    revert a; refine wo rfl rfl (by decide) (fun ev e h => by simp [go_sem, h, K3.cell] <;> rfl) ?_; intro a hA
    refine wl_call hA rfl rfl (by decide) (fun ev h => exec_call Tryz.func22 (by kernel_rfl) rfl (h.f _) (by first | (simp only [mL, h.get 31 rfl, h.c] <;> rfl) | (simp [mL, h.get 31 rfl, h.c, K3.cell] <;> rfl))) (box_any S (T : Int) A0 c0 L.length L _ hLs rfl hrr hsm hlv hep) ?_
    rintro e w8 ⟨v4, M4, rfl, hoM4, hM4, hb8⟩
    refine ⟨_, rfl, fun a hA => ?_⟩
    replace HB := HB.trans (hb8.mono HB.size)
    replace K3 := K3.below hb8 K3.lt
    replace hrM := hrM.below hb8
    replace K7 := K7.below hb8 K7.lt
    obtain ⟨A4, c4, rfl, hrM4, _⟩ := hoM4.reads
    refine wl_local [.string (boxS S).nm, .int .u32 ((boxS S).ep : Nat), .int .u32 ((boxS S).nx : Nat), .slice A4 M4.length c4] hA rfl rfl (by decide) (fun ev h => by simp [go_sem, K3.cell]; try first | exact ⟨rfl, rfl⟩ | rfl) rfl rfl (by rfl) (fun w1 g ev hb h => by simp [go_sem, h.get 9 rfl, h.get 32 rfl, K3.cell, setAll, hb.cell, hb.frozen]) fun w9 a (K9 : Blk _ _ _ _) hz9 hb9 hA => ?_
    replace HB := HB.trans (hb9.mono HB.size)
    replace K3 := K3.below hb9 K3.lt
    replace hrM := hrM.below hb9
    replace K7 := K7.below hb9 K7.lt
    replace hrM4 := hrM4.below hb9
    have hLl : L.length = S.live.length := by have := congrArg List.length hlv; rw [List.length_map, List.length_map] at this; exact this
    have hML : M.length = L.length := by
      have := congrArg List.length hM
      rw [List.length_map, boxS_len] at this
      omega
    have hnm := boxS_nm S
    rw [hML, hnm] at K7
    rw [hnm] at K9
    replace hA := hA.keepN [3, 6, 7, 8, 9]
    refine wN (nT (wS (wS (wR ?_))))
    revert a; (iterate 5 refine wo rfl rfl (by decide) (fun ev e h => by simp [go_sem, h, K3.cell, K7.cell, K9.cell] <;> rfl) ?_); (iterate 4 refine wg _ rfl rfl rfl rfl (by decide) (fun hq ev e h => by simp [go_sem, h, ↓gw_t (beq_t hq), K3.cell, K7.cell, K9.cell] <;> rfl) ?_); refine wko rfl rfl (by decide) rfl rfl rfl ?_; intro a hA
    replace hA := hA.keepN [3, 7, 8, 9, 42]
    revert a; refine wo rfl rfl (by decide) (fun ev e h => by simp [go_sem, h, K3.cell, K7.cell, K9.cell] <;> rfl) ?_; (iterate 7 refine wg _ rfl rfl rfl rfl (by decide) (fun hq ev e h => by simp [go_sem, h, ↓gw_t (beq_t hq), K3.cell, K7.cell, K9.cell] <;> rfl) ?_); refine wko rfl rfl (by decide) rfl rfl rfl ?_; refine wo rfl rfl (by decide) (fun ev e h => by simp [go_sem, h, K3.cell, K7.cell, K9.cell] <;> rfl) ?_; intro a hA
    replace hA := hA.keepN [3, 7, 8, 9, 52]
    revert a; (iterate 5 refine wg _ rfl rfl rfl rfl (by decide) (fun hq ev e h => by simp [go_sem, h, ↓gw_t (beq_t hq), K3.cell, K7.cell, K9.cell] <;> rfl) ?_); refine wko rfl rfl (by decide) rfl rfl rfl ?_; refine wo rfl rfl (by decide) (fun ev e h => by simp [go_sem, h, K3.cell, K7.cell, K9.cell] <;> rfl) ?_; (iterate 2 refine wg _ rfl rfl rfl rfl (by decide) (fun hq ev e h => by simp [go_sem, h, ↓gw_t (beq_t hq), K3.cell, K7.cell, K9.cell] <;> rfl) ?_); intro a hA
    refine wl_gcallv _ hA rfl rfl rfl rfl (by decide) (fun hq ev h => exec_call Tryz.func23 (by kernel_rfl) rfl (h.f _) (by first | (simp only [mL, ((h.get 60 rfl).trans (gw_t (beq_t hq))), ((h.get 61 rfl).trans (gw_t (beq_t hq))), h.c] <;> rfl) | (simp [mL, ((h.get 60 rfl).trans (gw_t (beq_t hq))), ((h.get 61 rfl).trans (gw_t (beq_t hq))), h.c, K3.cell, K7.cell, K9.cell] <;> rfl))) (fun hq => (refSameBoxR_any S.nm S.nm A4 Am c4 cm M4.length L.length (boxS S).ep (boxS S).ep (boxS S).nx (boxS S).nx M4 M _ (by have := congrArg List.length hM4; rw [List.length_map, boxS_len] at this; omega) hrM4.msgR (hML ▸ hrM.msgR)).mono fun e' w' h => (⟨by rw [h.1, boxSame_msgB (hM4.trans hM.symm)], h.2⟩ : e' = .returned (.bool true) ∧ _)) fun a w10 hb10 hA => ?_
    replace HB := HB.trans (hb10.mono HB.size)
    replace K3 := K3.below hb10 K3.lt
    replace hrM := hrM.below hb10
    replace K7 := K7.below hb10 K7.lt
    replace hrM4 := hrM4.below hb10
    revert a; refine wg _ rfl rfl rfl rfl (by decide) (fun hq ev e h => by simp [go_sem, h, ↓gw_t (beq_t hq), K3.cell, K7.cell, K9.cell] <;> rfl) ?_; intro a hA
    replace hA := hA.keepN [3, 7, 8, 59, 63]
    revert a; refine wko rfl rfl (by decide) rfl rfl rfl ?_; intro a hA
    replace hA := hA.keepN [3, 7, 8, 64]
    refine wN (nT ?_)
    refine wp_if hA 64 _ rfl (fun hq2 => ?yB) (fun hq2 => ?nB)
    case yB =>
      simp at hq2
    case nB =>
      refine wp_skip (nT (wS (wR ?_)))
      revert a; (iterate 3 refine wo rfl rfl (by decide) (fun ev e h => by simp [go_sem, h, K3.cell, K7.cell, K9.cell] <;> rfl) ?_); (iterate 6 refine wg _ rfl rfl rfl rfl (by decide) (fun hq ev e h => by simp [go_sem, h, ↓gw_t (beq_t hq), K3.cell, K7.cell, K9.cell] <;> rfl) ?_); refine wg2 _ _ rfl rfl rfl rfl (by decide) (fun hq hr ev e h => by simp [go_sem, h, ↓gw_t (and_beq hq hr), ↓gw_t hq, K3.cell, K7.cell, K9.cell] <;> rfl) ?_; intro a hA
      replace hA := hA.keepN [7, 67, 73, 74]
      revert a; (iterate 4 refine wg2 _ _ rfl rfl rfl rfl (by decide) (fun hq hr ev e h => by simp [go_sem, h, ↓gw_t (and_beq hq hr), ↓gw_t hq, K3.cell, K7.cell, K9.cell] <;> rfl) ?_); intro a hA
      refine wl_guard _ hA rfl rfl rfl rfl (by decide) (fun hq ev h => by exact pick_and rfl (((h.get 73 rfl).trans (gw_t (beq_t hq)))) (((h.get 78 rfl).trans (gw_a (beq_t hq)))) (h.c _)) fun a hA => ?_
      revert a; refine wko rfl rfl (by decide) rfl rfl rfl ?_; refine wo rfl rfl (by decide) (fun ev e h => by simp [go_sem, h, K3.cell, K7.cell, K9.cell] <;> rfl) ?_; intro a hA
      replace hA := hA.keepN [2]
      refine wN (nT (wp_ret ?_))
      refine ret_1 hA 2 rfl rfl ?_
      refine ⟨ret_bool ?_, HB⟩
      unfold boxS
      cases cleanS S <;> simp
end Go.Proofs.YtmjikfeaopmejaaGreatDoor
/-
  Walk of the law: what is written of a mailbox is read as the same, and clean; what can't be written is refused.
-/
namespace Go.Proofs.YtmjikfeaopmejaaGreatDoor
open Go.RowKit
set_option linter.unusedSimpArgs false
set_option linter.unusedVariables false
def fewS : Nat → List MsgV → Bool
  | s, [] => decide (s ≤ 60000)
  | s, m :: r => bif decide (60000 < s + 1 + m.b.length) then false else fewS (s + 1 + m.b.length) r
theorem fewS_true : ∀ {s : Nat} {l : List MsgV}, fewS s l = true → s + l.length + (l.map fun m => m.b.length).sum ≤ 60000
  | s, [], h => by
    unfold fewS at h
    simpa using h
  | s, m :: r, h => by
    unfold fewS at h
    cases hd : decide (60000 < s + 1 + m.b.length) with
    | true => rw [hd] at h; cases h
    | false =>
      rw [hd, cond_false] at h
      have := fewS_true h
      rw [List.length_cons, List.map_cons, List.sum_cons]
      omega
theorem fewS_drop {j : Nat} {l : List MsgV} {x : MsgV} (hx : l[j]? = some x) (s : Nat) : fewS s (l.drop j) = bif decide (60000 < s + 1 + x.b.length) then false else fewS (s + 1 + x.b.length) (l.drop (j + 1)) := by
  have hj := (List.getElem?_eq_some_iff.1 hx).1
  rw [List.drop_eq_getElem_cons hj, (List.getElem?_eq_some_iff.1 hx).2]
  rfl
set_option maxRecDepth 100000 in
theorem few_any (nm : ByteArray) (e nx : Nat) (A : Option Addr) (n c : Nat) (l : List MsgV) (w : World) (hs : nm.size ≤ 140737488355328) (hn : n ≤ 140737488355328) (hsz : ∀ m ∈ l, m.b.length ≤ 140737488355328) (hms : MsgR w A n l) :
    Calls Tryz.prog 25 #[.agg (boxC nm e nx A n c)] w fun ev w' => ev = .returned (.bool (fewS nm.size l)) ∧ Below w.heap.size w w' := by
  have hl := hms.len
  refine calls_at 29 Tryz.func25 rfl rfl (Nat.le_of_ble_eq_true rfl) ?_
  intro a hA; replace hA := hA.norm
  refine wS (wR ?_)
  refine wl_new hA rfl rfl (by decide) (fun ev h => by simp [go_sem, h.get 0 rfl]; try first | exact ⟨rfl, rfl⟩ | rfl) fun w1 a (K : Blk _ _ _ _) hz0 hb0 hA => ?_
  replace hms := hms.below hb0
  unfold boxC at K
  revert a; refine wo rfl rfl (by decide) (fun ev e h => by simp [go_sem, h, K.cell] <;> rfl) ?_; intro a hA
  replace hA := hA.keepN [1]
  refine wN (nT (wS (wR ?_)))
  revert a; (iterate 4 refine wo rfl rfl (by decide) (fun ev e h => by simp [go_sem, h, K.cell] <;> rfl) ?_); intro a hA
  replace hA := hA.keepN [1, 3]
  refine wN (nT (wS (wS (wR ?_))))
  revert a; (iterate 4 refine wo rfl rfl (by decide) (fun ev e h => by simp [go_sem, h, K.cell] <;> rfl) ?_); intro a hA
  replace hA := hA.keepN [1, 3, 10, 11]
  refine wN (nT (wB ?_))
  have HB := Below.refl w1.heap.size w1
  refine wp_loop_at (fun kk a wx => ∃ (j s : Nat), j + kk = n ∧ At 29 [(1, .pointer (some ⟨w.heap.size, 0, none⟩)), (3, .int .i64 (s : Nat)), (10, .int .i64 (n : Nat)), (11, .int .i64 (j : Nat))] a ∧ fewS nm.size l = fewS s (l.drop j) ∧ s ≤ 140737488355328 ∧ Below w1.heap.size w1 wx) (n) ?_ ?_
  · exact ⟨0, _, by omega, hA, rfl, hs, HB⟩
  clear HB
  rintro kk a wx ⟨j, s, hjk, hA, hfe, hs2, HB⟩
  have Kx := K.below HB K.lt
  refine wS (wR ?_)
  revert a; refine wo rfl rfl (by decide) (fun ev e h => by simp [go_sem, h] <;> rfl) ?_; intro a hA
  replace hA := hA.keepN [1, 3, 10, 11, 12]
  refine wN (nT (wS ?_))
  refine wp_if hA 12 _ rfl (fun hq => ?yL) (fun hq => ?nL)
  case yL =>
    have hlt : j < n := by simp at hq; omega
    obtain ⟨x, hx⟩ : ∃ x, l[j]? = some x := ⟨_, List.getElem?_eq_getElem (by omega)⟩
    have hxs := hsz x (List.mem_of_getElem? hx)
    obtain ⟨ad, rfl, hadl, k0, k1, k2, k3⟩ := hms.at_ hx
    have z3 := (HB.cell (p := ⟨(ad.add (j * 4)).block, (ad.add (j * 4)).off + 3, none⟩) hadl).trans k3
    have jj0 : (0 : Int) ≤ (j : Int) := by omega
    have jj1 : (j : Int) < (n : Int) := by omega
    have hwj : IntKind.i64.wrap ((j : Int) + 1) = (j : Int) + 1 := IntWalk.i64_in _ (by omega)
    have hw1 : IntKind.i64.wrap ((s : Int) + 1) = (s : Int) + 1 := IntWalk.i64_in _ (by omega)
    have hw2 : IntKind.i64.wrap ((s : Int) + 1 + (x.b.length : Int)) = ((s + 1 + x.b.length : Nat) : Int) := by rw [IntWalk.i64_in _ (by omega)]; omega
    rw [fewS_drop hx] at hfe
    refine wp_skip (nT (wS (wB (wS (wR ?_)))))
    revert a; (iterate 2 refine wo rfl rfl (by decide) (fun ev e h => by simp [go_sem, h, Kx.cell, z3, jj0, jj1, hw1, hw2] <;> rfl) ?_); intro a hA
    replace hA := hA.keepN [1, 3, 4, 10, 11]
    refine wN (nT (wS (wR ?_)))
    revert a; (iterate 10 refine wo rfl rfl (by decide) (fun ev e h => by simp [go_sem, h, Kx.cell, z3, jj0, jj1, hw1, hw2] <;> rfl) ?_); intro a hA
    replace hA := hA.keepN [1, 10, 11, 23]
    revert a; refine wo rfl rfl (by decide) (fun ev e h => by simp [go_sem, h, Kx.cell, z3, jj0, jj1, hw1, hw2] <;> rfl) ?_; intro a hA
    replace hA := hA.keepN [1, 3, 10, 11]
    refine wN (nT (wS (wR ?_)))
    revert a; (iterate 2 refine wo rfl rfl (by decide) (fun ev e h => by simp [go_sem, h, Kx.cell, z3, jj0, jj1, hw1, hw2] <;> rfl) ?_); intro a hA
    replace hA := hA.keepN [1, 3, 10, 11, 25]
    refine wN (nT ?_)
    refine wp_if hA 25 _ rfl (fun hq2 => ?yR) (fun hq2 => ?nR)
    case yR =>
      have hq2 : decide (60000 < s + 1 + x.b.length) = true := by simp at hq2 ⊢; omega
      rw [hq2, cond_true] at hfe
      refine wS (wR ?_)
      revert a; refine wo rfl rfl (by decide) (fun ev e h => by simp [go_sem, h, Kx.cell, z3, jj0, jj1, hw1, hw2] <;> rfl) ?_; intro a hA
      replace hA := hA.keepN [2]
      refine wN (nT (wp_ret (rB (rT (rT (rB (rT ?_)))))))
      refine ret_1 hA 2 rfl rfl ?_
      exact ⟨ret_bool hfe.symm, hb0.trans (HB.mono hb0.size)⟩
    case nR =>
      have hq2 : decide (60000 < s + 1 + x.b.length) = false := by simp at hq2 ⊢; omega
      rw [hq2, cond_false] at hfe
      refine wp_skip (nB (nT (wR ?_)))
      revert a; (iterate 2 refine wo rfl rfl (by decide) (fun ev e h => by simp [go_sem, h, hwj] <;> rfl) ?_); intro a hA
      replace hA := hA.keepN [1, 3, 10, 11]
      refine wN (nT ?_)
      rw [show ((j : Int) + 1) = ((j + 1 : Nat) : Int) by omega] at hA
      exact ⟨kk - 1, by omega, j + 1, s + 1 + x.b.length, by omega, hA, hfe, by simp at hq2; omega, HB⟩
  case nL =>
    have hjn : j = n := by simp at hq; omega
    rw [hjn, ← hl, List.drop_length] at hfe
    replace hA := hA.keepN [3]
    refine wp_exit (xT (xT (xB (nT (wS (wR ?_))))))
    revert a; (iterate 3 refine wo rfl rfl (by decide) (fun ev e h => by simp [go_sem, h] <;> rfl) ?_); intro a hA
    replace hA := hA.keepN [2]
    refine wN (nT (wp_ret ?_))
    refine ret_1 hA 2 rfl rfl ?_
    exact ⟨ret_bool (by rw [hfe]; unfold fewS; simp; omega), hb0.trans (HB.mono hb0.size)⟩
theorem all_drop {j : Nat} {l : List MsgV} {x : MsgV} (hx : l[j]? = some x) : (l.drop j).all fitsM = (fitsM x && (l.drop (j + 1)).all fitsM) := by
  have hj := (List.getElem?_eq_some_iff.1 hx).1
  rw [List.drop_eq_getElem_cons hj, (List.getElem?_eq_some_iff.1 hx).2]
  rfl
theorem right_step (r s t f x y : Bool) : (r && (s && t && x && (f && y))) = (((r && s) && t) && f && (x && y)) := by cases r <;> cases s <;> cases t <;> cases f <;> cases x <;> rfl
set_option maxRecDepth 100000 in
set_option maxHeartbeats 8000000 in
theorem logBack_law (nm : ByteArray) (e nx : Nat) (A : Option Addr) (n c : Nat) (l : List MsgV) (w : World) (hm : MaxCell w) (hg : 0 < w.heap.size) (htab : Lib.TabIs Tryz.prog w "internal/strconv.uint64pow10" .u64 Lib.pow10Tab)
    (hs : nm.size ≤ 140737488355328) (hn : n ≤ 140737488355328) (hsz : ∀ m ∈ l, m.b.length ≤ 140737488355328) (he : e < 4294967296) (hnx : nx < 4294967296) (hu : ∀ m ∈ l, m.uid < 4294967296) (hms : MsgR w A n l) :
    Calls Tryz.prog 6 #[.agg (boxC nm e nx A n c)] w fun ev w' => ev = .returned (.bool true) ∧ Below w.heap.size w w' := by
  have Ht := Lib.tabBelow_of_tabIs htab
  have hl := hms.len
  have hms0 := hms
  refine calls_at 108 Tryz.func6 rfl rfl (Nat.le_of_ble_eq_true rfl) ?_
  intro a hA; replace hA := hA.norm
  refine wS (wR ?_)
  refine wl_new hA rfl rfl (by decide) (fun ev h => by simp [go_sem, h.get 0 rfl]; try first | exact ⟨rfl, rfl⟩ | rfl) fun w1 a (K1 : Blk _ _ _ _) hz1 HB hA => ?_
  unfold boxC at K1
  revert a; refine wo rfl rfl (by decide) (fun ev e h => by simp [go_sem, h] <;> rfl) ?_; intro a hA
  replace hA := hA.keepN [1]
  refine wN (nT (wS (wS (wR ?_))))
  refine wl_call hA rfl rfl (by decide) (fun ev h => exec_call Tryz.func18 (by kernel_rfl) rfl (h.f _) (by first | (simp only [mL, h.c] <;> rfl) | (simp [mL, h.c] <;> rfl))) (logAwake_any _ (hm.below hg HB) (Nat.lt_of_lt_of_le hg HB.size) (Ht _ HB)) ?_
  rintro e w2 ⟨rfl, hb2⟩
  refine ⟨_, rfl, fun a hA => ?_⟩
  replace HB := HB.trans (hb2.mono HB.size)
  replace K1 := K1.below hb2 K1.lt
  revert a; (iterate 2 refine wo rfl rfl (by decide) (fun ev e h => by simp [go_sem, h, K1.cell] <;> rfl) ?_); refine wg _ rfl rfl rfl rfl (by decide) (fun hq ev e h => by simp [go_sem, h, ↓gw_t (beq_t hq), K1.cell] <;> rfl) ?_; intro a hA
  refine wl_gcallv _ hA rfl rfl rfl rfl (by decide) (fun hq ev h => exec_call Tryz.func25 (by kernel_rfl) rfl (h.f _) (by first | (simp only [mL, ((h.get 13 rfl).trans (gw_t (beq_t hq))), h.c] <;> rfl) | (simp [mL, ((h.get 13 rfl).trans (gw_t (beq_t hq))), h.c, K1.cell] <;> rfl))) (fun hq => few_any nm e nx A n c l _ hs hn hsz (hms0.below HB)) fun a w3 hb3 hA => ?_
  replace HB := HB.trans (hb3.mono HB.size)
  replace K1 := K1.below hb3 K1.lt
  obtain ⟨fw, hfw⟩ : ∃ f, fewS nm.size l = f := ⟨_, rfl⟩
  rw [hfw] at hA
  revert a; refine wg _ rfl rfl rfl rfl (by decide) (fun hq ev e h => by simp [go_sem, h, ↓gw_t (beq_t hq), K1.cell] <;> rfl) ?_; refine wko rfl rfl (by decide) rfl rfl rfl ?_; intro a hA
  replace hA := hA.keepN [1, 16]
  refine wN (nT ?_)
  refine wp_if hA 16 _ rfl (fun hq => ?yA) (fun hq => ?nA)
  case yA =>
    refine wS (wR ?_)
    refine wl_call hA rfl rfl (by decide) (fun ev h => exec_call Tryz.func18 (by kernel_rfl) rfl (h.f _) (by first | (simp only [mL, h.c] <;> rfl) | (simp [mL, h.c, K1.cell] <;> rfl))) (logAwake_any _ (hm.below hg HB) (Nat.lt_of_lt_of_le hg HB.size) (Ht _ HB)) ?_
    rintro e w4 ⟨rfl, hb4⟩
    refine ⟨_, rfl, fun a hA => ?_⟩
    replace HB := HB.trans (hb4.mono HB.size)
    revert a; refine wo rfl rfl (by decide) (fun ev e h => by simp [go_sem, h, K1.cell] <;> rfl) ?_; intro a hA
    replace hA := hA.keepN [2]
    refine wN (nT (wp_ret (rT ?_)))
    refine ret_1 hA 2 rfl rfl ?_
    exact ⟨rfl, HB⟩
  case nA =>
    have hft : fewS nm.size l = true := by
      rw [hfw]
      cases fw
      · simp at hq
      · rfl
    have hfb := fewS_true hft
    clear hfw hq
    refine wp_skip (nT (wS (wR ?_)))
    revert a; refine wo rfl rfl (by decide) (fun ev e h => by simp [go_sem, h, K1.cell] <;> rfl) ?_; intro a hA
    refine wl_call hA rfl rfl (by decide) (fun ev h => exec_call Tryz.func26 (by kernel_rfl) rfl (h.f _) (by first | (simp only [mL, h.get 19 rfl, h.c] <;> rfl) | (simp [mL, h.get 19 rfl, h.c, K1.cell] <;> rfl))) (write_any nm e nx A n c l _ (hm.below hg HB) (Nat.lt_of_lt_of_le hg HB.size) (Ht _ HB) (by omega) (by omega) (by omega) he hnx hu (hms0.below HB)) ?_
    rintro e w5 ⟨r, rfl, hor, hb5⟩
    refine ⟨_, rfl, fun a hA => ?_⟩
    replace HB := HB.trans (hb5.mono HB.size)
    replace K1 := K1.below hb5 K1.lt
    obtain ⟨Ar, cr, rfl, _, hcr⟩ := own_reads hor
    obtain ⟨NB, hNB⟩ : ∃ b : List UInt8, (bif writeOk nm e nx l then framesB (notesW nm e nx l) else []) = b := ⟨_, rfl⟩
    rw [hNB] at hor hcr hA
    revert a; (iterate 5 refine wo rfl rfl (by decide) (fun ev e h => by simp [go_sem, h, K1.cell] <;> rfl) ?_); intro a hA
    replace hA := hA.keepN [1, 3, 4]
    refine wN (nT (wS (wR ?_)))
    revert a; (iterate 2 refine wo rfl rfl (by decide) (fun ev e h => by simp [go_sem, h, K1.cell] <;> rfl) ?_); intro a hA
    refine wl_call hA rfl rfl (by decide) (fun ev h => exec_call Tryz.func27 (by kernel_rfl) rfl (h.f _) (by first | (simp only [mL, h.get 24 rfl, h.c] <;> rfl) | (simp [mL, h.get 24 rfl, h.c, K1.cell] <;> rfl))) (refNamed_any nm (by omega) _) ?_
    rintro e w6 ⟨rfl, hb6⟩
    refine ⟨_, rfl, fun a hA => ?_⟩
    replace HB := HB.trans (hb6.mono HB.size)
    replace K1 := K1.below hb6 K1.lt
    replace hor := hor.below hb6
    revert a; refine wo rfl rfl (by decide) (fun ev e h => by simp [go_sem, h, K1.cell] <;> rfl) ?_; (iterate 3 refine wg _ rfl rfl rfl rfl (by decide) (fun hq ev e h => by simp [go_sem, h, ↓gw_t (beq_t hq), K1.cell] <;> rfl) ?_); refine wka rfl rfl (by decide) rfl rfl rfl ?_; refine wo rfl rfl (by decide) (fun ev e h => by simp [go_sem, h, K1.cell] <;> rfl) ?_; intro a hA
    replace hA := hA.keepN [1, 3, 4, 5]
    refine wN (nT (wS (wR ?_)))
    revert a; refine wo rfl rfl (by decide) (fun ev e h => by simp [go_sem, h, K1.cell] <;> rfl) ?_; intro a hA
    replace hA := hA.keepN [1, 3, 4, 5, 6]
    refine wN (nT (wS (wS (wR ?_))))
    revert a; (iterate 4 refine wo rfl rfl (by decide) (fun ev e h => by simp [go_sem, h, K1.cell] <;> rfl) ?_); intro a hA
    replace hA := hA.keepN [1, 3, 4, 5, 6, 33, 34]
    refine wN (nT (wB ?_))
    have hwo := writeOk_eq nm e nx l
    refine wp_loop_at (fun kk a wx => ∃ (j : Nat) (rj : Bool), j + kk = n ∧ At 108 [(1, .pointer (some ⟨w.heap.size, 0, none⟩)), (3, .slice Ar NB.length cr), (4, .int .i64 (bif writeOk nm e nx l then 0 else 1)), (5, .bool rj), (6, .int .u32 (lastM 0 (l.take j) : Nat)), (33, .int .i64 (n : Nat)), (34, .int .i64 (j : Nat))] a ∧ writeOk nm e nx l = (rj && (risesM nx (lastM 0 (l.take j)) (l.drop j) && (l.drop j).all fitsM)) ∧ Below w6.heap.size w6 wx) (n) ?_ ?_
    · refine ⟨0, _, by omega, hA, ?_, Below.refl _ _⟩
      rw [hwo]
      congr 2
    rintro kk a wx ⟨j, rj, hjk, hA, hR, HL⟩
    have h6 : w.heap.size < w6.heap.size := K1.lt
    have Kx := K1.below HL h6
    have HBx : Below w.heap.size w wx := HB.trans (HL.mono (Nat.le_of_lt h6))
    have hwx : w6.heap.size ≤ wx.heap.size := HL.size
    refine wS (wR ?_)
    revert a; refine wo rfl rfl (by decide) (fun ev e h => by simp [go_sem, h] <;> rfl) ?_; intro a hA
    replace hA := hA.keepN [1, 3, 4, 5, 6, 33, 34, 35]
    refine wN (nT (wS ?_))
    refine wp_if hA 35 _ rfl (fun hq => ?yL) (fun hq => ?nL)
    case yL =>
      have hlt : j < n := by simp at hq; omega
      obtain ⟨x, hx⟩ : ∃ x, l[j]? = some x := ⟨_, List.getElem?_eq_getElem (by omega)⟩
      obtain ⟨ad, rfl, hadl, k0, k1, k2, k3⟩ := hms0.at_ hx
      have z0 := (HBx.cell hadl).trans k0
      have z1 := (HBx.cell (p := ⟨(ad.add (j * 4)).block, (ad.add (j * 4)).off + 1, none⟩) hadl).trans k1
      have z2 := (HBx.cell (p := ⟨(ad.add (j * 4)).block, (ad.add (j * 4)).off + 2, none⟩) hadl).trans k2
      have z3 := (HBx.cell (p := ⟨(ad.add (j * 4)).block, (ad.add (j * 4)).off + 3, none⟩) hadl).trans k3
      have jj0 : (0 : Int) ≤ (j : Int) := by omega
      have jj1 : (j : Int) < (n : Int) := by omega
      have hwj : IntKind.i64.wrap ((j : Int) + 1) = (j : Int) + 1 := IntWalk.i64_in _ (by omega)
      rw [rises_drop hx, all_drop hx] at hR
      rw [right_step] at hR
      refine wp_skip (nT (wS (wB (wS (wR ?_)))))
      revert a; (iterate 2 refine wo rfl rfl (by decide) (fun ev e h => by simp [go_sem, h, Kx.cell, z0, z1, z2, z3, jj0, jj1] <;> rfl) ?_); intro a hA
      replace hA := hA.keepN [1, 3, 4, 5, 6, 7, 33, 34]
      refine wN (nT (wS (wR ?_)))
      revert a; (iterate 5 refine wo rfl rfl (by decide) (fun ev e h => by simp [go_sem, h, Kx.cell, z0, z1, z2, z3, jj0, jj1] <;> rfl) ?_); intro a hA
      refine wl_local [.int .u32 (x.uid : Nat), .int .i64 x.date, .int .i64 x.flags, .slice x.a x.b.length x.c] hA rfl rfl (by decide) (fun ev h => by simp [go_sem, Kx.cell, z0, z1, z2, z3, jj0, jj1]; try first | exact ⟨rfl, rfl⟩ | rfl) rfl rfl (by rfl) (fun w1 g ev hb h => by simp [go_sem, h.get 8 rfl, h.get 41 rfl, Kx.cell, z0, z1, z2, z3, jj0, jj1, setAll, hb.cell, hb.frozen]) fun w7 a (K7 : Blk _ _ _ _) hz7 hb7 hA => ?_
      replace Kx := Kx.below hb7 Kx.lt
      replace HL := HL.trans (hb7.mono hwx)
      replace hA := hA.keepN [1, 3, 4, 5, 6, 8, 33, 34]
      refine wN (nT (wS (wR ?_)))
      revert a; (iterate 2 refine wo rfl rfl (by decide) (fun ev e h => by simp [go_sem, h, K7.cell, Kx.cell, int_beq] <;> rfl) ?_); (iterate 4 refine wg _ rfl rfl rfl rfl (by decide) (fun hq ev e h => by simp [go_sem, h, ↓gw_t (beq_t hq), K7.cell, Kx.cell, int_beq] <;> rfl) ?_); refine wka rfl rfl (by decide) rfl rfl rfl ?_; refine wo rfl rfl (by decide) (fun ev e h => by simp [go_sem, h, K7.cell, Kx.cell, int_beq] <;> rfl) ?_; (iterate 2 refine wg _ rfl rfl rfl rfl (by decide) (fun hq ev e h => by simp [go_sem, h, ↓gw_t (beq_t hq), K7.cell, Kx.cell, int_beq] <;> rfl) ?_); intro a hA
      replace hA := hA.keepN [1, 3, 4, 8, 33, 34, 49, 51]
      revert a; (iterate 4 refine wg _ rfl rfl rfl rfl (by decide) (fun hq ev e h => by simp [go_sem, h, ↓gw_t (beq_t hq), K7.cell, Kx.cell, int_beq] <;> rfl) ?_); (iterate 3 refine wg2 _ _ rfl rfl rfl rfl (by decide) (fun hq hr ev e h => by simp [go_sem, h, ↓gw_t (and_beq hq hr), ↓gw_t hq, K7.cell, Kx.cell, int_beq] <;> rfl) ?_); intro a hA
      refine wl_guard _ hA rfl rfl rfl rfl (by decide) (fun hq ev h => by exact pick_or rfl (((h.get 55 rfl).trans (gw_t (beq_t hq)))) (h.c _) (((h.get 58 rfl).trans (gw_a (beq_t hq))))) fun a hA => ?_
      revert a; refine wka rfl rfl (by decide) rfl rfl rfl ?_; refine wo rfl rfl (by decide) (fun ev e h => by simp [go_sem, h, K7.cell, Kx.cell, int_beq] <;> rfl) ?_; intro a hA
      replace hA := hA.keepN [1, 3, 4, 8, 33, 34, 61]
      revert a; refine wg _ rfl rfl rfl rfl (by decide) (fun hq ev e h => by simp [go_sem, h, ↓gw_t (beq_t hq), K7.cell, Kx.cell, int_beq] <;> rfl) ?_; intro a hA
      refine wl_gcallv _ hA rfl rfl rfl rfl (by decide) (fun hq ev h => exec_call Tryz.func28 (by kernel_rfl) rfl (h.f _) (by first | (simp only [mL, ((h.get 62 rfl).trans (gw_t (beq_t hq))), h.c] <;> rfl) | (simp [mL, ((h.get 62 rfl).trans (gw_t (beq_t hq))), h.c, K7.cell, Kx.cell, int_beq] <;> rfl))) (fun hq => refFits_any (x.uid : Nat) x.date x.flags x.a x.b.length x.c _) fun a w8 hb8 hA => ?_
      replace Kx := Kx.below hb8 Kx.lt
      replace K7 := K7.below hb8 K7.lt
      replace HL := HL.trans (hb8.mono (by omega))
      revert a; refine wka rfl rfl (by decide) rfl rfl rfl ?_; refine wo rfl rfl (by decide) (fun ev e h => by simp [go_sem, h, K7.cell, hwj] <;> rfl) ?_; intro a hA
      replace hA := hA.keepN [1, 3, 4, 5, 8, 33, 34]
      refine wN (nT (wR ?_))
      revert a; (iterate 3 refine wo rfl rfl (by decide) (fun ev e h => by simp [go_sem, h, K7.cell, hwj] <;> rfl) ?_); intro a hA
      replace hA := hA.keepN [1, 3, 4, 5, 6, 33, 34]
      refine wN (nB (nT (wR ?_)))
      revert a; (iterate 2 refine wo rfl rfl (by decide) (fun ev e h => by simp [go_sem, h, K7.cell, hwj] <;> rfl) ?_); intro a hA
      replace hA := hA.keepN [1, 3, 4, 5, 6, 33, 34]
      refine wN (nT ?_)
      rw [show ((j : Int) + 1) = ((j + 1 : Nat) : Int) by omega] at hA
      refine ⟨kk - 1, by omega, j + 1, _, by omega, by rw [lastM_take hx 0]; exact hA, ?_, HL⟩
      rw [lastM_take hx 0]
      rw [show ((nx : Int) == 4294967295) = (nx == 4294967295) by rw [Bool.eq_iff_iff]; simp; omega]
      exact hR
    case nL =>
      have hjn : j = n := by simp at hq; omega
      rw [hjn, ← hl, List.drop_length] at hR
      have hR : writeOk nm e nx l = rj := by rw [hR]; unfold risesM; simp
      replace hA := hA.keepN [1, 3, 4, 5]
      refine wp_exit (xT (xT (xB (nT (wS (wS (wR ?_)))))))
      revert a; (iterate 2 refine wo rfl rfl (by decide) (fun ev e h => by simp [go_sem, h] <;> rfl) ?_); intro a hA
      replace hA := hA.keepN [1, 3, 4, 69]
      refine wN (nT ?_)
      cases rj with
      | false =>
        refine wp_if hA 69 _ rfl (fun hq2 => ?yB) (fun hq2 => ?nB)
        case nB => cases hq2
        case yB =>
          have hnil : NB = [] := by rw [← hNB, hR]; rfl
          rw [hR] at hA
          refine wS (wR ?_)
          revert a; (iterate 3 refine wo rfl rfl (by decide) (fun ev e h => by simp [go_sem, h] <;> rfl) ?_); (iterate 3 refine wg _ rfl rfl rfl rfl (by decide) (fun hq ev e h => by simp [go_sem, h, ↓gw_t (beq_t hq)] <;> rfl) ?_); refine wka rfl rfl (by decide) rfl rfl rfl ?_; refine wo rfl rfl (by decide) (fun ev e h => by simp [go_sem, h] <;> rfl) ?_; intro a hA
          replace hA := hA.keepN [2]
          refine wN (nT (wp_ret (rT ?_)))
          refine ret_1 hA 2 rfl rfl ?_
          exact ⟨ret_bool (by rw [hnil]; rfl), HBx⟩
      | true =>
        have hNB : framesB (notesW nm e nx l) = NB := by rw [← hNB, hR]; rfl
        rw [hR, cond_true] at hA
        refine wp_if hA 69 _ rfl (fun hq2 => ?yB2) (fun hq2 => ?nB2)
        case yB2 => cases hq2
        case nB2 =>
          refine wp_skip (nT (wS (wS (wR ?_))))
          revert a; (iterate 4 refine wo rfl rfl (by decide) (fun ev e h => by simp [go_sem, h, Kx.cell] <;> rfl) ?_); (iterate 3 refine wg _ rfl rfl rfl rfl (by decide) (fun hq ev e h => by simp [go_sem, h, ↓gw_t (beq_t hq), Kx.cell] <;> rfl) ?_); refine wko rfl rfl (by decide) rfl rfl rfl ?_; intro a hA
          replace hA := hA.keepN [1, 3, 4, 84]
          refine wN (nT ?_)
          refine wp_if hA 84 _ rfl (fun hq3 => ?yC) (fun hq3 => ?nC)
          case yC =>
            refine wS (wR ?_)
            revert a; (iterate 3 refine wo rfl rfl (by decide) (fun ev e h => by simp [go_sem, h, Kx.cell] <;> rfl) ?_); intro a hA
            replace hA := hA.keepN [2]
            refine wN (nT (wp_ret (rT ?_)))
            refine ret_1 hA 2 rfl rfl ?_
            exact ⟨rfl, HBx⟩
          case nC =>
            have hx0 : 0 < nx ∧ nx ≤ 4294967290 := by simp at hq3; omega
            have hFs := formed_notes hR he hnx hu
            have hlen := framesB_le2 hFs
            have hl2 := notesW_len nm e nx l
            rw [hNB, sumB_notesW] at hlen
            have hNl : NB.length ≤ 16000000 := by omega
            obtain ⟨hnB, hsB⟩ := scan_all _ hFs
            rw [hNB] at hnB hsB
            obtain ⟨LL, htk, hri, hba⟩ := write_back hR hu hx0.1 hx0.2
            rw [← hnB] at htk
            have hclean : cleanS (⟨nm, e, nx, LL⟩ : LogS) = true := hri
            have hbx : boxS (⟨nm, e, nx, LL⟩ : LogS) = ⟨nm, e, nx, l.map msgB⟩ := by
              unfold boxS
              rw [hclean, cond_true]
              show BoxB.mk nm e nx (LL.map bare4) = _
              rw [hba]
              rfl
            replace hor := hor.below HL
            obtain ⟨Ar', cr', eR, hRa, hca⟩ := own_reads hor
            injection eR with eR1 _ eR2
            subst eR1 eR2
            refine wp_skip (nT (wS (wR ?_)))
            revert a; refine wo rfl rfl (by decide) (fun ev e h => by simp [go_sem, h, Kx.cell] <;> rfl) ?_; intro a hA
            refine wl_call hA rfl rfl (by decide) (fun ev h => exec_call Tryz.func19 (by kernel_rfl) rfl (h.f _) (by first | (simp only [mL, h.get 87 rfl, h.c] <;> rfl) | (simp [mL, h.get 87 rfl, h.c, Kx.cell] <;> rfl))) (read_any Ar _ cr NB rfl hca hNl _ (hm.below hg HBx) (Nat.lt_of_lt_of_le hg HBx.size) (Ht _ HBx) hRa) ?_
            rintro e w9 ⟨v8, L, rfl, hoL, hlv, hb9⟩
            refine ⟨_, rfl, fun a hA => ?_⟩
            replace HBx := HBx.trans (hb9.mono HBx.size)
            replace Kx := Kx.below hb9 Kx.lt
            have hofA := htk
            rw [takeAll_of _ (notesB_kind _)] at hofA
            rw [takeAll_of _ (notesB_kind _)] at hlv hA
            obtain ⟨hLs, hsm2, hep⟩ := log_small hNl hlv
            rw [hofA] at hA hlv hep
            rw [hclean, hsB] at hA
            obtain ⟨A0, c0, rfl, hrr, _⟩ := hoL.reads
            obtain ⟨T, hT⟩ : ∃ T, NB.length = T := ⟨_, rfl⟩
            rw [hT] at hA
            refine wl_local [.string nm, .int .u32 (e : Nat), .int .u32 (nx : Nat), .slice A0 L.length c0, .int .i64 (T : Nat), .bool true] hA rfl rfl (by decide) (fun ev h => by simp [go_sem, Kx.cell]; try first | exact ⟨rfl, rfl⟩ | rfl) rfl rfl (by rfl) (fun w1 g ev hb h => by simp [go_sem, h.get 9 rfl, h.get 88 rfl, Kx.cell, setAll, hb.cell, hb.frozen]) fun w10 a (K9 : Blk _ _ _ _) hz10 hb10 hA => ?_
            replace HBx := HBx.trans (hb10.mono HBx.size)
            replace Kx := Kx.below hb10 Kx.lt
            replace hrr := hrr.below hb10
            replace hA := hA.keepN [1, 3, 4, 9]
            have pE := fun (wo : World) (hC : (fun wy => Below w10.heap.size w10 wy) wo) => have Kz := K9.below hC K9.lt; have Ky := Kx.below hC Kx.lt; And.intro (Kz.cell) (Ky.cell)
            refine wN (nT (wS ?_))
            refine wp_region_split 19 ?_
            simp only [List.take_succ_cons, List.take_zero, List.drop_succ_cons, List.drop_zero]
            refine wp_any_split_at hA [(.det ?dE0), (.det ?dE1), (.det ?dE2), (.det ?dE3), (.det ?dE4), (.det ?dE5), (.det ?dE6), (.det ?dE7), (.det ?dE8), (.det ?dE9), (.det ?dE10), (.det ?dE11), (.det ?dE12), (.det ?dE13), (.det ?dE14), (.used (fun v wy => ∃ (A4 : Option Addr) (c4 : Nat) (M4 : List MsgV), v = .agg #[.string nm, .int .u32 (e : Nat), .int .u32 (nx : Nat), .slice A4 M4.length c4] ∧ RowR msgSh wy A4 M4 ∧ M4.map msgB = l.map msgB)), (.det ?dE16), (.det ?dE17), (.det ?dE18)] [] (fun wy => Below w10.heap.size w10 wy) (TSp [] Grows) (by kernel_rfl) rfl (by kernel_rfl) (by kernel_rfl) rfl (by kernel_rfl) (by kernel_rfl) (by kernel_rfl) (by kernel_rfl) ((Below.refl _ _).drew) (stab_sp [] [true, true, true, true, true, true, true, true, true, true, true, true, true, true, true, false, true, true, true] [true, true, true, true, true, true, true, true, true, true, true, true, true, true, true, false, true, true, true] [] rfl rfl rfl (by kernel_rfl) ⟨trivial, trivial, trivial, trivial, trivial, trivial, trivial, trivial, trivial, trivial, trivial, trivial, trivial, trivial, trivial, (fun _ _ _ _ ⟨A4, c4, M4, h1, h2, h3⟩ hb => ⟨A4, c4, M4, h1, h2.below hb, h3⟩), trivial, trivial, trivial, trivial⟩ trivial) (fun _ h => by cases h) (fun _ _ _ _ _ h => by cases h) (fun _ h => by cases h) ⟨?oE0, ?oE1, ?oE2, ?oE3, ?oE4, ?oE5, ?oE6, ?oE7, ?oE8, ?oE9, ?oE10, ?oE11, ?oE12, ?oE13, ?oE14, ?oE15, ?oE16, ?oE17, ?oE18, trivial⟩ (by kernel_rfl) ?fE
            case oE0 => intro ev wo hev hC hs hph; have x0 := se hA hs 4; exact od rfl rfl (by kernel_rfl) hC (TSp.of rfl (Grows.refl _)) (by simp [go_sem, x0] <;> rfl)
            case oE1 => intro ev wo hev hC hs hph; have x0 := sd hs 89 0; exact od rfl rfl (by kernel_rfl) hC (TSp.of rfl (Grows.refl _)) (by simp [go_sem, x0, hev.const] <;> rfl)
            case oE2 => intro ev wo hev hC hs hph; have x0 := sd hs 90 1; exact od rfl rfl (by kernel_rfl) hC (TSp.of rfl (Grows.refl _)) (by simp [go_sem, x0] <;> rfl)
            case oE3 => intro ev wo hev hC hs hph; have x0 := se hA hs 9; have y := sd hs 91 2; exact ob_gv _ rfl rfl y rfl (by kernel_rfl) hC (TSp.of rfl (Grows.refl _)) (fun hq => by simp [go_sem, x0] <;> rfl) (by rfl)
            case oE4 => intro ev wo hev hC hs hph; have x0 := sd hs 92 3; have y := sd hs 91 2; exact ob_gv _ rfl rfl y rfl (by kernel_rfl) hC (TSp.of rfl (Grows.refl _)) (fun hq => by simp [go_sem, (x0.trans (gw_t (beq_t hq))), pE _ hC, Kx.cell] <;> rfl) (by rfl)
            case oE5 => intro ev wo hev hC hs hph; have x0 := sd hs 91 2; have x1 := sd hs 93 4; exact od rfl rfl (by kernel_rfl) hC (TSp.of rfl (Grows.refl _)) (by rw [pick_and rfl x0 x1 (hev.const _)] <;> rfl)
            case oE6 => intro ev wo hev hC hs hph; have x0 := sd hs 94 5; exact od rfl rfl (by kernel_rfl) hC (TSp.of rfl (Grows.refl _)) (by simp [go_sem, x0] <;> rfl)
            case oE7 => intro ev wo hev hC hs hph; have x0 := se hA hs 9; have y := sd hs 95 6; exact ob_gv _ rfl rfl y rfl (by kernel_rfl) hC (TSp.of rfl (Grows.refl _)) (fun hq => by simp [go_sem, x0] <;> rfl) (by rfl)
            case oE8 => intro ev wo hev hC hs hph; have x0 := sd hs 96 7; have y := sd hs 95 6; exact ob_gv _ rfl rfl y rfl (by kernel_rfl) hC (TSp.of rfl (Grows.refl _)) (fun hq => by simp [go_sem, (x0.trans (gw_t (beq_t hq))), pE _ hC, Kx.cell] <;> rfl) (by rfl)
            case oE9 => intro ev wo hev hC hs hph; have x0 := se hA hs 3; have y := sd hs 95 6; exact ob_gv _ rfl rfl y rfl (by kernel_rfl) hC (TSp.of rfl (Grows.refl _)) (fun hq => by simp [go_sem, x0] <;> rfl) (by rfl)
            case oE10 => intro ev wo hev hC hs hph; have x0 := sd hs 98 9; have y := sd hs 95 6; exact ob_gv _ rfl rfl y rfl (by kernel_rfl) hC (TSp.of rfl (Grows.refl _)) (fun hq => by simp [go_sem, (x0.trans (gw_t (beq_t hq)))] <;> rfl) (by rfl)
            case oE11 => intro ev wo hev hC hs hph; have x0 := sd hs 97 8; have x1 := sd hs 99 10; have y := sd hs 95 6; exact ob_gv _ rfl rfl y rfl (by kernel_rfl) hC (TSp.of rfl (Grows.refl _)) (fun hq => by simp [go_sem, (x0.trans (gw_t (beq_t hq))), (x1.trans (gw_t (beq_t hq)))] <;> rfl) (by rfl)
            case oE12 => intro ev wo hev hC hs hph; have x0 := sd hs 95 6; have x1 := sd hs 100 11; exact od rfl rfl (by kernel_rfl) hC (TSp.of rfl (Grows.refl _)) (by rw [pick_and rfl x0 x1 (hev.const _)] <;> rfl)
            case oE13 => intro ev wo hev hC hs hph; have x0 := sd hs 101 12; exact od rfl rfl (by kernel_rfl) hC (TSp.of rfl (Grows.refl _)) (by simp [go_sem, x0] <;> rfl)
            case oE14 => intro ev wo hev hC hs hph; have x0 := se hA hs 9; have y := sd hs 102 13; exact ob_gv _ rfl rfl y rfl (by kernel_rfl) hC (TSp.of rfl (Grows.refl _)) (fun hq => by simp [go_sem, x0, pE _ hC, Kx.cell] <;> rfl) (by rfl)
            case oE15 =>
              intro ev wo hev hC hs hph
              have e103 := sd hs 103 14
              have e102 := sd hs 102 13
              have Kz := K9.below hC K9.lt
              have Ky := Kx.below hC Kx.lt
              exact ob_yes (wanted_bool rfl rfl e102 (by simp)) (does_enter (exec_call Tryz.func22 (by kernel_rfl) rfl (hev.func _) (by simp [e103, gw]; rw [← hclean]; try rfl)) (Calls.mono (box_any (⟨nm, e, nx, LL⟩ : LogS) (T : Int) A0 c0 L.length L wo hLs rfl (hrr.below hC) hsm2 hlv hep) (by
                rw [hbx]
                rintro ev' w7 ⟨v4, M4, rfl, hoM4, hM4, hb7⟩
                obtain ⟨A4, c4, rfl, hrM4, _⟩ := hoM4.reads
                exact ⟨_, rfl, hC.trans (hb7.mono hC.size), TSp.of rfl hb7, ⟨A4, c4, M4, rfl, hrM4, hM4⟩, no_start (by kernel_rfl)⟩)))
            case oE16 => intro ev wo hev hC hs hph; have x0 := se hA hs 1; have y := sd hs 102 13; exact ob_gv _ rfl rfl y rfl (by kernel_rfl) hC (TSp.of rfl (Grows.refl _)) (fun hq => by simp [go_sem, x0, pE _ hC, Kx.cell] <;> rfl) (by rfl)
            case oE17 =>
              intro ev wo hev hC hs hph
              have u104 := su hs 104 15
              have e105 := sd hs 105 16
              have e102 := sd hs 102 13
              have Kz := K9.below hC K9.lt
              have Ky := Kx.below hC Kx.lt
              obtain ⟨A4, c4, M4, e104, hr4, hm4⟩ := u104
              have hl4 : M4.length ≤ 140737488355328 := by
                have := congrArg List.length hm4
                rw [List.length_map, List.length_map] at this
                omega
              exact ob_gcall _ rfl rfl e102 rfl (by kernel_rfl) (by rfl) (fun hq => exec_call Tryz.func23 (by kernel_rfl) rfl (hev.func _) (by simp [e104, (e105.trans (gw_t (beq_t hq)))]; try first | exact ⟨rfl, rfl⟩ | rfl)) (fun hq => (refSameBoxR_any nm nm A4 A c4 c M4.length n e e nx nx M4 l wo hl4 hr4.msgR (hms0.below (HBx.trans (hC.mono HBx.size)))).mono fun e' w' h => (⟨by rw [h.1, boxSame_msgB hm4], h.2⟩ : e' = .returned (.bool true) ∧ _)) (fun w3 hb3 => ⟨hC.trans (hb3.mono hC.size), TSp.of rfl hb3⟩)
            case oE18 => intro ev wo hev hC hs hph; have x0 := sd hs 102 13; have x1 := sd hs 106 17; exact od rfl rfl (by kernel_rfl) hC (TSp.of rfl (Grows.refl _)) (by rw [pick_and rfl x0 x1 (hev.const _)] <;> rfl)
            intro sg wf hC hph
            intro x104 hx104
            intro a hA
            replace hA := hA.keepN [107]
            revert a; refine wo rfl rfl (by decide) (fun ev e h => by simp [go_sem, h, Kx.cell] <;> rfl) ?_; intro a hA
            replace hA := hA.keepN [2]
            refine wN (nT (wp_ret ?_))
            refine ret_1 hA 2 rfl rfl ?_
            exact ⟨ret_bool (by simp), HBx.trans (hC.mono HBx.size)⟩
end Go.Proofs.YtmjikfeaopmejaaGreatDoor
/-
  Arguments, opened by their types: numbers, texts, structs of one-cell fields, slices of what reads.
-/
namespace Go.Proofs.YtmjikfeaopmejaaGreatDoor
open Go.ChangeShapes Go.WideShapes Go.Deep Go.RowKit
theorem cell_lt' {w : World} {a : Addr} {v : Value} (h : w.cell? a = some v) : a.block < w.heap.size := by
  rcases Nat.lt_or_ge a.block w.heap.size with hlt | hge
  · exact hlt
  · unfold World.cell? at h
    simp [Array.getElem?_eq_none hge] at h
/-- cells that read at a type -/
def Fits {H : Type} (enc : TypeId × Value → H) (P : Program) (w : World) (t : TypeId) (cs : List Value) : Prop := ∃ base spare held fuel x, DataW.trod enc P w base spare held fuel t cs = some x
section
variable {H : Type} {enc : TypeId × Value → H} {P : Program} {w : World} {t e : TypeId} {cs : List Value}
theorem fits_int {k : IntKind} (h : Fits enc P w t cs) (ht : P.underlying t = some (.int k)) : ∃ n, cs = [.int k n] ∧ (Lit.int k n).wf = true := by
  obtain ⟨_, _, _, _, _, h⟩ := h
  obtain ⟨n, e, _, hw⟩ := DataW.trod_int ht h
  exact ⟨n, e, hw⟩
theorem fits_string (h : Fits enc P w t cs) (ht : P.underlying t = some .string) : ∃ s : ByteArray, cs = [.string s] ∧ s.size ≤ maxLen := by
  obtain ⟨_, _, _, _, _, h⟩ := h
  obtain ⟨s, e, _, hw⟩ := DataW.trod_string ht h
  exact ⟨s, e, hw⟩
theorem fits_bool (h : Fits enc P w t cs) (ht : P.underlying t = some .bool) : ∃ b, cs = [.bool b] := by
  obtain ⟨_, _, _, _, _, h⟩ := h
  obtain ⟨s, e, _⟩ := DataW.trod_bool ht h
  exact ⟨s, e⟩
theorem fits_fields {fs : Array Field} (h : Fits enc P w t cs) (ht : P.underlying t = some (.struct fs)) (hone : oneCellFields P fs = true) (hC : P.cellsOf t = fs.size) : cs.length = fs.size ∧ ∀ (j : Nat) (f : Field) (c : Value), fs[j]? = some f → cs[j]? = some c → Fits enc P w f.type [c] := by
  obtain ⟨base, spare, held, fuel, x, h⟩ := h
  obtain ⟨ys, n, _, _, hl, hyl, hat⟩ := DataW.trod_struct ht h
  refine ⟨by rw [hl, hC], fun j f c hf hc => ?_⟩
  obtain ⟨ho, hk⟩ := hone_of hone j f hf
  have h1 := hat j f hf
  have hj := (Array.getElem?_eq_some_iff.1 hf).1
  rw [ho, hk] at h1
  have hd1 : (List.drop j cs).take 1 = [c] := by
    have hjl := (List.getElem?_eq_some_iff.1 hc).1
    rw [List.drop_eq_getElem_cons hjl, (List.getElem?_eq_some_iff.1 hc).2]
    rfl
  rw [hd1, List.getElem?_eq_getElem (by omega)] at h1
  exact ⟨base, spare, held, n, _, h1⟩
theorem rows_at (k : Nat) : ∀ (L : List (List Value)) (i j : Nat) (x : List Value), (∀ x ∈ L, x.length = k) → L[i]? = some x → j < k → L.flatten[i * k + j]? = x[j]?
  | y :: r, 0, j, x, hL, h, hj => by
    have e : y = x := by simpa using h
    subst e
    have := hL y List.mem_cons_self
    rw [List.flatten_cons, Nat.zero_mul, Nat.zero_add, List.getElem?_append_left (by omega)]
  | y :: r, i + 1, j, x, hL, h, hj => by
    have ih := rows_at k r i j x (fun z hz => hL z (List.mem_cons_of_mem _ hz)) (by simpa using h) hj
    have := hL y List.mem_cons_self
    have hm : k ≤ (i + 1) * k + j := by rw [Nat.succ_mul]; omega
    rw [List.flatten_cons, List.getElem?_append_right (by omega)]
    have e : (i + 1) * k + j - y.length = i * k + j := by rw [Nat.succ_mul]; omega
    rw [e]; exact ih
theorem rows_len (k : Nat) : ∀ (L : List (List Value)), (∀ x ∈ L, x.length = k) → L.flatten.length = L.length * k
  | [], _ => by simp
  | y :: r, h => by
    have := rows_len k r fun z hz => h z (List.mem_cons_of_mem _ hz)
    rw [List.flatten_cons, List.length_append, this, h y List.mem_cons_self, List.length_cons, Nat.succ_mul]; omega
theorem fits_slice (h : Fits enc P w t cs) (ht : P.underlying t = some (.slice e)) (hk : 0 < P.cellsOf e) :
    ∃ (A : Option Addr) (n c : Nat) (L : List (List Value)), cs = [.slice A n c] ∧ n ≤ c ∧ c ≤ maxLen ∧ L.length = n ∧ (∀ x ∈ L, x.length = P.cellsOf e ∧ Fits enc P w e x) ∧ Reads w w.heap.size (P.cellsOf e) A n L.flatten := by
  obtain ⟨base, spare, held, fuel, x, hf⟩ := h
  rcases open_slice ht hf with ⟨hcs, _⟩ | ⟨a, len, cap, m, n0, D, Pl, hcs, _, hl, hm, hmm, hdx, hx⟩
  · exact ⟨none, 0, 0, [], hcs, Nat.le_refl _, Nat.zero_le _, rfl, fun x hx => (by cases hx), by simp, fun hn => absurd hn (by simp)⟩
  · have hml : len ≤ m := by rw [hmm]; split <;> omega
    have hall : ∀ n, n ≤ len → ∃ L : List (List Value), L.length = n ∧ (∀ x ∈ L, x.length = P.cellsOf e ∧ Fits enc P w e x) ∧ ∀ i x, L[i]? = some x → ∀ j u, x[j]? = some u → w.cell? (a.add (i * P.cellsOf e + j)) = some u := by
      intro n
      induction n with
      | zero => intro _; exact ⟨[], rfl, by simp, by simp⟩
      | succ n ih =>
        intro hnl
        obtain ⟨L, hl1, hl2, hl3⟩ := ih (by omega)
        obtain ⟨cs', hcc, htr⟩ := hx n (by omega)
        obtain ⟨_, hlen, hat⟩ := World.cells?_some hcc
        refine ⟨L ++ [cs'], by simp [hl1], ?_, ?_⟩
        · intro y hy
          rcases List.mem_append.1 hy with h | h
          · exact hl2 y h
          · rw [List.mem_singleton] at h
            subst h
            exact ⟨hlen, base, spare, held, n0, _, htr⟩
        · intro i y hi' j u hj
          rcases Nat.lt_or_ge i L.length with h | h
          · rw [List.getElem?_append_left h] at hi'; exact hl3 i y hi' j u hj
          · rw [List.getElem?_append_right h] at hi'
            have h0 : i - L.length = 0 := by
              rcases Nat.eq_zero_or_pos (i - L.length) with h' | h'
              · exact h'
              · rw [List.getElem?_eq_none (by simp; omega)] at hi'; cases hi'
            rw [h0] at hi'
            have hy : cs' = y := by simpa using hi'
            subst hy
            obtain rfl : i = n := by omega
            have hj2 : j < P.cellsOf e := by
              have := (List.getElem?_eq_some_iff.1 hj).1
              omega
            have := hat j hj2
            rw [hj, Go.Deep.add_add] at this
            exact this
    obtain ⟨L, hL1, hL2, hL3⟩ := hall len (Nat.le_refl _)
    refine ⟨some a, len, cap, L, hcs, hl, hm, hL1, hL2, ?_, fun hn => ⟨a, rfl, ?_, ?_⟩⟩
    · rw [rows_len _ L fun x hx => (hL2 x hx).1, hL1]
    · obtain ⟨x, hx0⟩ : ∃ x, L[0]? = some x := ⟨_, List.getElem?_eq_getElem (by omega)⟩
      have hxl := (hL2 x (List.mem_of_getElem? hx0)).1
      obtain ⟨u, hu⟩ : ∃ u, x[0]? = some u := ⟨_, List.getElem?_eq_getElem (by omega)⟩
      have := cell_lt' (hL3 0 x hx0 0 u hu)
      rwa [block_of_add] at this
    · intro j u hj
      have hjl := (List.getElem?_eq_some_iff.1 hj).1
      rw [rows_len _ L fun x hx => (hL2 x hx).1] at hjl
      have hq : j / P.cellsOf e < L.length := Nat.div_lt_of_lt_mul (by rw [Nat.mul_comm]; exact hjl)
      have he2 : j / P.cellsOf e * P.cellsOf e + j % P.cellsOf e = j := by rw [Nat.mul_comm]; exact Nat.div_add_mod j _
      have hp := rows_at (P.cellsOf e) L (j / P.cellsOf e) (j % P.cellsOf e) _ (fun x hx => (hL2 x hx).1) (List.getElem?_eq_getElem hq) (Nat.mod_lt _ hk)
      rw [he2, hj] at hp
      have := hL3 _ _ (List.getElem?_eq_getElem hq) _ u hp.symm
      rw [he2] at this
      exact this
theorem fits_top {base0 : Nat} {spare : Nat → Bool} {held : Bool} {v : Value} {d : DataW H} {ps : List MemPlace} (h : DataW.Trod enc P w base0 spare held t v d ps) : Fits enc P w t v.cells.toList := by
  obtain ⟨fuel, hf⟩ := h
  exact ⟨_, _, _, fuel, _, hf⟩
theorem fits_struct {base0 : Nat} {spare : Nat → Bool} {held : Bool} {r : Reach} {b0 : Nat} {fs : Array Field} {v : Value} {d : DataW H} {ps : List MemPlace} (hv : Value.okWide P w r b0 t v) (ht : P.underlying t = some (.struct fs)) (h : DataW.Trod enc P w base0 spare held t v d ps) : ∃ cs : Array Value, v = .agg cs ∧ Fits enc P w t cs.toList := by
  obtain ⟨cs, rfl, _⟩ := okWide_struct ht hv
  exact ⟨cs, rfl, fits_top h⟩
theorem fits_plain {base0 : Nat} {spare : Nat → Bool} {held : Bool} {v : Value} {d : DataW H} {ps : List MemPlace} (h : DataW.Trod enc P w base0 spare held t v d ps) (hc : v.cells = #[v]) : Fits enc P w t [v] := by
  have := fits_top h
  rwa [hc] at this
theorem choose_list {M : Type} {f : M → List Value} {Q : M → Prop} : ∀ {L : List (List Value)}, (∀ x ∈ L, ∃ m, x = f m ∧ Q m) → ∃ l : List M, L = l.map f ∧ ∀ m ∈ l, Q m
  | [], _ => ⟨[], rfl, by simp⟩
  | x :: r, h => by
    obtain ⟨m, rfl, hm⟩ := h x List.mem_cons_self
    obtain ⟨l, rfl, hl⟩ := choose_list (L := r) fun y hy => h y (List.mem_cons_of_mem _ hy)
    exact ⟨m :: l, rfl, fun y hy => by
      rcases List.mem_cons.1 hy with e | e
      · subst e; exact hm
      · exact hl y e⟩
/-- all arguments stay behind a call that writes below nothing -/
theorem args_stay (hl : laidOutB P = true) {W W' : World} {sp : Nat → Bool} : ∀ {ts : List TypeId} {vs : List Value} {ds : List (DataW H)} {ps : List MemPlace}, (ts.all fun t => P.readableRec t && decide (t < P.types.size)) = true →
    DataW.TrodAll enc P W 0 (fun _ => true) true ts vs ds ps → (∀ x ∈ ps, W.sameAt W' x) → (∀ x ∈ ps, sp x.block = true) → DataW.TrodAll enc P W' 0 sp true ts vs ds ps
  | [], [], [], _, _, h, _, _ => h
  | _ :: _, _ :: _, _ :: _, _, ha, ⟨p, q, h1, h2, e⟩, hsame, hs => by
    rw [List.all_cons, Bool.and_eq_true, Bool.and_eq_true, decide_eq_true_eq] at ha
    subst e
    exact ⟨p, q, WideElems.Trod_stays hl ha.1.1 ha.1.2 h1 (fun x hx => hsame x (List.mem_append_left _ hx)) (fun x hx => hs x (List.mem_append_left _ hx)),
      args_stay hl ha.2 h2 (fun x hx => hsame x (List.mem_append_right _ hx)) (fun x hx => hs x (List.mem_append_right _ hx)), rfl⟩
end
end Go.Proofs.YtmjikfeaopmejaaGreatDoor
/-
  Arguments, opened by their types, with a bound on their sizes.
-/
namespace Go.Proofs.YtmjikfeaopmejaaGreatDoor
open Go.ChangeShapes Go.WideShapes Go.Deep Go.RowKit
/-- cells that read at a type; no part is longer than R -/
def FitsZ {H : Type} (R : Nat) (enc : TypeId × Value → H) (P : Program) (w : World) (t : TypeId) (cs : List Value) : Prop := ∃ base spare held fuel d ps, DataW.trod enc P w base spare held fuel t cs = some (d, ps) ∧ ∀ k ∈ d.weights P t, k ≤ R
section
variable {H : Type} {enc : TypeId × Value → H} {P : Program} {w : World} {t e : TypeId} {cs : List Value} {R : Nat}
theorem FitsZ.fits (h : FitsZ R enc P w t cs) : Fits enc P w t cs := by
  obtain ⟨b, s, hd, f, d, ps, h, _⟩ := h
  exact ⟨b, s, hd, f, _, h⟩
theorem mem_weightsAll {e : TypeId} {dd : DataW H} {k : Nat} : ∀ {l : List (DataW H)}, dd ∈ l → k ∈ dd.weights P e → k ∈ DataW.weightsAll P e l
  | y :: r, h, hk => by
    unfold DataW.weightsAll
    rw [List.mem_append]
    rcases List.mem_cons.1 h with rfl | h
    · exact .inl hk
    · exact .inr (mem_weightsAll h hk)
theorem fitsZ_string (h : FitsZ R enc P w t cs) (ht : P.underlying t = some .string) : ∃ s : ByteArray, cs = [.string s] ∧ s.size ≤ maxLen ∧ s.size ≤ R := by
  obtain ⟨_, _, _, _, d, ps, h, hz⟩ := h
  obtain ⟨s, e, hx, hw⟩ := DataW.trod_string ht h
  refine ⟨s, e, hw, hz _ ?_⟩
  rw [(Prod.mk.inj hx).1]
  show s.size ∈ [s.data.toList.length]
  rw [List.mem_singleton, Array.length_toList]; rfl
theorem fitsZ_fields {fs : Array Field} (h : FitsZ R enc P w t cs) (ht : P.underlying t = some (.struct fs)) (hone : oneCellFields P fs = true) (hC : P.cellsOf t = fs.size) : cs.length = fs.size ∧ ∀ (j : Nat) (f : Field) (c : Value), fs[j]? = some f → cs[j]? = some c → FitsZ R enc P w f.type [c] := by
  obtain ⟨base, spare, held, fuel, d, ps, h, hz⟩ := h
  obtain ⟨ys, n, _, hx, hl, hyl, hat⟩ := DataW.trod_struct ht h
  refine ⟨by rw [hl, hC], fun j f c hf hc => ?_⟩
  obtain ⟨ho, hk⟩ := hone_of hone j f hf
  have h1 := hat j f hf
  have hj := (Array.getElem?_eq_some_iff.1 hf).1
  rw [ho, hk] at h1
  have hd1 : (List.drop j cs).take 1 = [c] := by
    have hjl := (List.getElem?_eq_some_iff.1 hc).1
    rw [List.drop_eq_getElem_cons hjl, (List.getElem?_eq_some_iff.1 hc).2]
    rfl
  have hy : ys[j]? = some (ys[j]'(by omega)) := List.getElem?_eq_getElem (by omega)
  rw [hd1, hy] at h1
  refine ⟨base, spare, held, n, _, _, h1, fun k hk => hz k ?_⟩
  rw [(Prod.mk.inj hx).1]
  unfold DataW.weights
  rw [ht]
  refine DataW.weights_mem_each (j := j) (t := f.type) (d := (ys[j]'(by omega)).1) ?_ ?_ k hk
  · rw [List.getElem?_map, Array.getElem?_toList, hf]; rfl
  · rw [List.getElem?_map, hy]; rfl
theorem fitsZ_slice (h : FitsZ R enc P w t cs) (ht : P.underlying t = some (.slice e)) (hk : 0 < P.cellsOf e) (heb : 1 ≤ P.bytesOf e) :
    ∃ (A : Option Addr) (n c : Nat) (L : List (List Value)), cs = [.slice A n c] ∧ n ≤ c ∧ c ≤ maxLen ∧ n ≤ R ∧ L.length = n ∧ (∀ x ∈ L, x.length = P.cellsOf e ∧ FitsZ R enc P w e x) ∧ Reads w w.heap.size (P.cellsOf e) A n L.flatten := by
  obtain ⟨base, spare, held, fuel, d, ps, hf, hz⟩ := h
  rcases open_slice ht hf with ⟨hcs, _⟩ | ⟨a, len, cap, m, n0, D, Pl, hcs, _, hl, hm, hmm, hdx, hx⟩
  · exact ⟨none, 0, 0, [], hcs, Nat.le_refl _, Nat.zero_le _, Nat.zero_le _, rfl, fun x hx => (by cases hx), by simp, fun hn => absurd hn (by simp)⟩
  · have hml : len ≤ m := by rw [hmm]; split <;> omega
    have hdw : d = .slice ((List.range len).map D) ((List.range (m - len)).map fun j => D (len + j)) := congrArg Prod.fst hdx
    have hall : ∀ n, n ≤ len → ∃ L : List (List Value), L.length = n ∧ (∀ x ∈ L, x.length = P.cellsOf e ∧ FitsZ R enc P w e x) ∧ ∀ i x, L[i]? = some x → ∀ j u, x[j]? = some u → w.cell? (a.add (i * P.cellsOf e + j)) = some u := by
      intro n
      induction n with
      | zero => intro _; exact ⟨[], rfl, by simp, by simp⟩
      | succ n ih =>
        intro hnl
        obtain ⟨L, hl1, hl2, hl3⟩ := ih (by omega)
        obtain ⟨cs', hcc, htr⟩ := hx n (by omega)
        obtain ⟨_, hlen, hat⟩ := World.cells?_some hcc
        refine ⟨L ++ [cs'], by simp [hl1], ?_, ?_⟩
        · intro y hy
          rcases List.mem_append.1 hy with h | h
          · exact hl2 y h
          · rw [List.mem_singleton] at h
            subst h
            refine ⟨hlen, base, spare, held, n0, _, _, htr, fun k hk' => hz k ?_⟩
            rw [hdw]
            unfold DataW.weights
            rw [ht]
            simp only [List.mem_cons, List.mem_append]
            exact .inr (.inl (mem_weightsAll (List.mem_map.2 ⟨n, List.mem_range.2 (by omega), rfl⟩) hk'))
        · intro i y hi' j u hj
          rcases Nat.lt_or_ge i L.length with h | h
          · rw [List.getElem?_append_left h] at hi'; exact hl3 i y hi' j u hj
          · rw [List.getElem?_append_right h] at hi'
            have h0 : i - L.length = 0 := by
              rcases Nat.eq_zero_or_pos (i - L.length) with h' | h'
              · exact h'
              · rw [List.getElem?_eq_none (by simp; omega)] at hi'; cases hi'
            rw [h0] at hi'
            have hy : cs' = y := by simpa using hi'
            subst hy
            obtain rfl : i = n := by omega
            have hj2 : j < P.cellsOf e := by
              have := (List.getElem?_eq_some_iff.1 hj).1
              omega
            have := hat j hj2
            rw [hj, Go.Deep.add_add] at this
            exact this
    obtain ⟨L, hL1, hL2, hL3⟩ := hall len (Nat.le_refl _)
    refine ⟨some a, len, cap, L, hcs, hl, hm, ?_, hL1, hL2, ?_, fun hn => ⟨a, rfl, ?_, ?_⟩⟩
    · have hq := hz ((len + (m - len)) * P.bytesOf e) (by rw [hdw]; simp [DataW.weights, ht])
      have e2 : (len + (m - len)) * 1 ≤ (len + (m - len)) * P.bytesOf e := Nat.mul_le_mul_left _ heb
      omega
    · rw [rows_len _ L fun x hx => (hL2 x hx).1, hL1]
    · obtain ⟨x, hx0⟩ : ∃ x, L[0]? = some x := ⟨_, List.getElem?_eq_getElem (by omega)⟩
      have hxl := (hL2 x (List.mem_of_getElem? hx0)).1
      obtain ⟨u, hu⟩ : ∃ u, x[0]? = some u := ⟨_, List.getElem?_eq_getElem (by omega)⟩
      have := cell_lt' (hL3 0 x hx0 0 u hu)
      rwa [block_of_add] at this
    · intro j u hj
      have hjl := (List.getElem?_eq_some_iff.1 hj).1
      rw [rows_len _ L fun x hx => (hL2 x hx).1] at hjl
      have hq : j / P.cellsOf e < L.length := Nat.div_lt_of_lt_mul (by rw [Nat.mul_comm]; exact hjl)
      have he2 : j / P.cellsOf e * P.cellsOf e + j % P.cellsOf e = j := by rw [Nat.mul_comm]; exact Nat.div_add_mod j _
      have hp := rows_at (P.cellsOf e) L (j / P.cellsOf e) (j % P.cellsOf e) _ (fun x hx => (hL2 x hx).1) (List.getElem?_eq_getElem hq) (Nat.mod_lt _ hk)
      rw [he2, hj] at hp
      have := hL3 _ _ (List.getElem?_eq_getElem hq) _ u hp.symm
      rw [he2] at this
      exact this
theorem sized_at {ts : List TypeId} {ds : List (DataW H)} (h : (DataW.weightsEach P ts ds).all (· ≤ reachBytes) = true) {j : Nat} {t : TypeId} {d : DataW H} (ht : ts[j]? = some t) (hd : ds[j]? = some d) : ∀ k ∈ d.weights P t, k ≤ 140737488355328 := by
  intro k hk
  have := List.all_eq_true.1 h _ (DataW.weights_mem_each ht hd k hk)
  have h2 : reachBytes < 2 ^ 47 := reachBytes_lt
  simp only [decide_eq_true_eq] at this
  omega
theorem fitsZ_top {base0 : Nat} {spare : Nat → Bool} {held : Bool} {v : Value} {d : DataW H} {ps : List MemPlace} (h : DataW.Trod enc P w base0 spare held t v d ps) (hz : ∀ k ∈ d.weights P t, k ≤ R) : FitsZ R enc P w t v.cells.toList := by
  obtain ⟨fuel, hf⟩ := h
  exact ⟨_, _, _, fuel, _, _, hf, hz⟩
theorem fitsZ_struct {base0 : Nat} {spare : Nat → Bool} {held : Bool} {r : Reach} {b0 : Nat} {fs : Array Field} {v : Value} {d : DataW H} {ps : List MemPlace} (hv : Value.okWide P w r b0 t v) (ht : P.underlying t = some (.struct fs)) (h : DataW.Trod enc P w base0 spare held t v d ps) (hz : ∀ k ∈ d.weights P t, k ≤ R) : ∃ cs : Array Value, v = .agg cs ∧ FitsZ R enc P w t cs.toList := by
  obtain ⟨cs, rfl, _⟩ := okWide_struct ht hv
  exact ⟨cs, rfl, fitsZ_top h hz⟩
theorem fitsZ_plain {base0 : Nat} {spare : Nat → Bool} {held : Bool} {v : Value} {d : DataW H} {ps : List MemPlace} (h : DataW.Trod enc P w base0 spare held t v d ps) (hc : v.cells = #[v]) (hz : ∀ k ∈ d.weights P t, k ≤ R) : FitsZ R enc P w t [v] := by
  have := fitsZ_top h hz
  rwa [hc] at this
end
end Go.Proofs.YtmjikfeaopmejaaGreatDoor
/-
  Arguments, opened: numbers, truths, bytes.
-/
namespace Go.Proofs.YtmjikfeaopmejaaGreatDoor
open Go.RowKit Go.ChangeShapes Go.WideShapes
theorem u32_range {n : Int} (h : (Lit.int .u32 n).wf = true) : ∃ k : Nat, n = (k : Nat) ∧ k < 4294967296 := by
  simp [Lit.wf, IntKind.min, IntKind.max, IntKind.signed, IntKind.bits] at h
  exact ⟨n.toNat, by omega, by omega⟩
theorem u8_range {n : Int} (h : (Lit.int .u8 n).wf = true) : ∃ k : UInt8, n = (k.toNat : Nat) := by
  simp [Lit.wf, IntKind.min, IntKind.max, IntKind.signed, IntKind.bits] at h
  refine ⟨UInt8.ofNat n.toNat, ?_⟩
  rw [UInt8.toNat_ofNat']
  omega
theorem i64_range {n : Int} (h : (Lit.int .i64 n).wf = true) : -9223372036854775808 ≤ n ∧ n ≤ 9223372036854775807 := by
  simp [Lit.wf, IntKind.min, IntKind.max, IntKind.signed, IntKind.bits] at h
  omega
theorem map_flat {M : Type} (f : M → List Value) (l : List M) : (l.map f).flatten = l.flatMap f := by
  induction l with
  | nil => rfl
  | cons x r ih => rw [List.map_cons, List.flatten_cons, List.flatMap_cons, ih]
theorem flat_one {M : Type} (f : M → Value) (l : List M) : (l.map fun x => [f x]).flatten = l.map f := by
  induction l with
  | nil => rfl
  | cons x r ih => rw [List.map_cons, List.flatten_cons, ih]; rfl
theorem list1 {α : Type} {x : List α} (h : x.length = 1) : ∃ a, x = [a] := by
  match x, h with
  | [a], _ => exact ⟨a, rfl⟩
theorem list4 {α : Type} {x : List α} (h : x.length = 4) : ∃ a b c d, x = [a, b, c, d] := by
  match x, h with
  | [a, b, c, d], _ => exact ⟨a, b, c, d, rfl⟩
theorem array4 {α : Type} {x : Array α} (h : x.toList.length = 4) : ∃ a b c d, x = #[a, b, c, d] := by
  obtain ⟨l⟩ := x
  obtain ⟨a, b, c, d, e⟩ := list4 (show l.length = 4 from h)
  exact ⟨a, b, c, d, by rw [e]⟩
section
variable {H : Type} {enc : TypeId × Value → H} {w : World} {R : Nat}
theorem open_bytesZ {c1 : Value} (h : FitsZ R enc Tryz.prog w 23 [c1]) : ∃ (A : Option Addr) (c : Nat) (l : List UInt8), c1 = .slice A l.length c ∧ l.length ≤ c ∧ c ≤ maxLen ∧ l.length ≤ R ∧ Reads w w.heap.size 1 A l.length (u8s l) := by
  have hk : Tryz.prog.cellsOf 5 = 1 := by kernel_rfl
  obtain ⟨A, n, c, L, hcs, hn, hc, hR, hl, hL, hr⟩ := fitsZ_slice h Tryz.underlying23 (by rw [hk]; omega) (Nat.le_of_ble_eq_true (by kernel_rfl))
  rw [hk] at hr
  obtain ⟨l, rfl, _⟩ := choose_list (f := fun b : UInt8 => [.int .u8 ((b.toNat : Nat) : Int)]) (Q := fun _ => True) fun x hx => by
    obtain ⟨hx1, hx2⟩ := hL x hx
    rw [hk] at hx1
    obtain ⟨a, rfl⟩ := list1 hx1
    obtain ⟨u, e0, hu⟩ := fits_int hx2.fits Tryz.underlying5
    obtain ⟨k, rfl⟩ := u8_range hu
    exact ⟨k, e0, trivial⟩
  rw [List.length_map] at hl
  rw [flat_one (fun b : UInt8 => .int .u8 ((b.toNat : Nat) : Int))] at hr
  subst hl
  simp only [List.cons.injEq, and_true] at hcs
  exact ⟨A, c, l, hcs, hn, hc, hR, hr⟩
theorem fitsZ_part {t : TypeId} {cs : List Value} {fs : Array Field} (h : FitsZ R enc Tryz.prog w t cs) (ht : Tryz.prog.underlying t = some (.struct fs)) : cs.length = Tryz.prog.cellsOf t ∧ ∀ (j : Nat) (f : Field), fs[j]? = some f → FitsZ R enc Tryz.prog w f.type ((cs.drop f.offset).take (Tryz.prog.cellsOf f.type)) := by
  obtain ⟨base, spare, held, fuel, d, ps, h, hz⟩ := h
  obtain ⟨ys, n, _, hx, hl, hyl, hat⟩ := DataW.trod_struct ht h
  refine ⟨hl, fun j f hf => ?_⟩
  have h1 := hat j f hf
  have hj := (Array.getElem?_eq_some_iff.1 hf).1
  have hy : ys[j]? = some (ys[j]'(by omega)) := List.getElem?_eq_getElem (by omega)
  rw [hy] at h1
  refine ⟨base, spare, held, n, _, _, h1, fun k hk => hz k ?_⟩
  rw [(Prod.mk.inj hx).1]
  unfold DataW.weights
  rw [ht]
  refine DataW.weights_mem_each (j := j) (t := f.type) (d := (ys[j]'(by omega)).1) ?_ ?_ k hk
  · rw [List.getElem?_map, Array.getElem?_toList, hf]; rfl
  · rw [List.getElem?_map, hy]; rfl
end
theorem tab_met {l : List (String × DataW Unit)} {W : World} (h : laidMetH Tryz.prog l W) (hl : l.filter (fun x => x.1 == "internal/strconv.uint64pow10") = [("internal/strconv.uint64pow10", Lib.tabData .u64 Lib.pow10Tab)]) :
    Lib.TabIs Tryz.prog W "internal/strconv.uint64pow10" .u64 Lib.pow10Tab := by
  have h1 := laidMetH.filter (fun x => x.1 == "internal/strconv.uint64pow10") h
  rw [hl, MakeChecks.laidMetH_plain _ _ _ (by kernel_rfl)] at h1
  exact Lib.tabIs_of_head (g := 2) (t := 194) (e := 88) (n := 20) (by kernel_rfl) (by kernel_rfl) Tryz.underlying194 Tryz.underlying88 (by kernel_rfl) (by kernel_rfl) h1
section
variable {H : Type} {enc : TypeId × Value → H} {W : World} {base0 b0 : Nat} {spare : Nat → Bool} {held : Bool} {r : Reach} {R : Nat}
set_option maxRecDepth 100000 in
theorem i64_arg {v : Value} {d : DataW H} {ps : List MemPlace} (hv : Value.okWide Tryz.prog W r b0 3 v) (h : DataW.Trod enc Tryz.prog W base0 spare held 3 v d ps) : ∃ k : Int, v = .int .i64 k ∧ -9223372036854775808 ≤ k ∧ k ≤ 9223372036854775807 := by
  obtain ⟨x0, rfl, _, _, h0⟩ := open_int Tryz.underlying3 hv h
  exact ⟨x0, rfl, i64_range h0⟩
set_option maxRecDepth 100000 in
theorem bytes_arg {v : Value} {d : DataW H} {ps : List MemPlace} (hv : Value.okWide Tryz.prog W r b0 23 v) (h : DataW.Trod enc Tryz.prog W base0 spare held 23 v d ps) (hz : ∀ k ∈ d.weights Tryz.prog 23, k ≤ R) :
    ∃ (A : Option Addr) (c : Nat) (l : List UInt8), v = .slice A l.length c ∧ l.length ≤ c ∧ c ≤ maxLen ∧ l.length ≤ R ∧ Reads W W.heap.size 1 A l.length (u8s l) := by
  obtain ⟨A, n, c, rfl⟩ := okWide_slice Tryz.underlying23 hv
  obtain ⟨A', c', l, e, b⟩ := open_bytesZ (fitsZ_plain h rfl hz)
  exact ⟨A', c', l, e, b⟩
set_option maxRecDepth 100000 in
theorem u32_arg {v : Value} {d : DataW H} {ps : List MemPlace} (hv : Value.okWide Tryz.prog W r b0 22 v) (h : DataW.Trod enc Tryz.prog W base0 spare held 22 v d ps) : ∃ k : Nat, v = .int .u32 (k : Nat) ∧ k < 4294967296 := by
  obtain ⟨x0, rfl, _, _, h0⟩ := open_int Tryz.underlying22 hv h
  obtain ⟨k, rfl, hk⟩ := u32_range h0
  exact ⟨k, rfl, hk⟩
set_option maxRecDepth 100000 in
theorem bool_arg {v : Value} {d : DataW H} {ps : List MemPlace} (hv : Value.okWide Tryz.prog W r b0 4 v) (h : DataW.Trod enc Tryz.prog W base0 spare held 4 v d ps) : ∃ b : Bool, v = .bool b := by
  obtain ⟨b, rfl, _⟩ := open_bool Tryz.underlying4 hv h
  exact ⟨b, rfl⟩
end
end Go.Proofs.YtmjikfeaopmejaaGreatDoor
/-
  Arguments, opened: messages, mailboxes, notes.
-/
namespace Go.Proofs.YtmjikfeaopmejaaGreatDoor
open Go.RowKit Go.ChangeShapes Go.WideShapes
theorem list7 {α : Type} {x : List α} (h : x.length = 7) : ∃ a b c d e f g, x = [a, b, c, d, e, f, g] := by
  match x, h with
  | [a, b, c, d, e, f, g], _ => exact ⟨a, b, c, d, e, f, g, rfl⟩
section
variable {H : Type} {enc : TypeId × Value → H} {w : World} {R : Nat}
/-- a message whose octets read -/
structure MsgOk (R : Nat) (w : World) (m : MsgV) : Prop where
  octs : Reads w w.heap.size 1 m.a m.b.length (u8s m.b)
  uid : m.uid < 4294967296
  cap : m.b.length ≤ m.c ∧ m.c ≤ 9223372036854775807
  size : m.b.length ≤ R
  date : -9223372036854775808 ≤ m.date ∧ m.date ≤ 9223372036854775807
  flags : -9223372036854775808 ≤ m.flags ∧ m.flags ≤ 9223372036854775807
set_option maxRecDepth 100000 in
theorem open_msgZ {x : List Value} (h : FitsZ R enc Tryz.prog w 25 x) : ∃ m : MsgV, x = msgC m ∧ MsgOk R w m := by
  obtain ⟨hx3, hx4⟩ := fitsZ_fields h Tryz.underlying25 (by kernel_rfl) (by kernel_rfl)
  obtain ⟨a0, a1, a2, a3, rfl⟩ := list4 hx3
  obtain ⟨u, e0, hu⟩ := fits_int (hx4 0 _ a0 rfl rfl).fits Tryz.underlying22
  obtain ⟨d, e1, hd⟩ := fits_int (hx4 1 _ a1 rfl rfl).fits Tryz.underlying2
  obtain ⟨f, e2, hf⟩ := fits_int (hx4 2 _ a2 rfl rfl).fits Tryz.underlying3
  obtain ⟨k, rfl, hk⟩ := u32_range hu
  obtain ⟨A, c, l, rfl, h1, h2, h3, h4⟩ := open_bytesZ (hx4 3 _ a3 rfl rfl)
  simp only [List.cons.injEq, and_true] at e0 e1 e2
  subst e0 e1 e2
  exact ⟨⟨k, d, f, A, c, l⟩, rfl, h4, hk, ⟨h1, by unfold maxLen at h2; exact h2⟩, h3, i64_range hd, i64_range hf⟩
set_option maxRecDepth 100000 in
theorem open_msgsZ {c1 : Value} (h : FitsZ R enc Tryz.prog w 48 [c1]) : ∃ (A : Option Addr) (c : Nat) (l : List MsgV), c1 = .slice A l.length c ∧ l.length ≤ c ∧ c ≤ maxLen ∧ l.length ≤ R ∧ Msgs w A l.length l ∧ ∀ m ∈ l, MsgOk R w m := by
  have hk : Tryz.prog.cellsOf 25 = 4 := by kernel_rfl
  obtain ⟨A, n, c, L, hcs, hn, hc, hR, hl, hL, hr⟩ := fitsZ_slice h Tryz.underlying48 (by rw [hk]; omega) (Nat.le_of_ble_eq_true (by kernel_rfl))
  rw [hk] at hr
  obtain ⟨l, rfl, hq⟩ := choose_list (f := msgC) (Q := MsgOk R w) fun x hx => open_msgZ (hL x hx).2
  rw [List.length_map] at hl
  rw [map_flat] at hr
  subst hl
  simp only [List.cons.injEq, and_true] at hcs
  exact ⟨A, c, l, hcs, hn, hc, hR, ⟨rfl, hr, fun m hm => (hq m hm).octs, fun m hm => (hq m hm).uid, fun m hm => (hq m hm).cap⟩, hq⟩
set_option maxRecDepth 100000 in
theorem open_boxZ {cs : Array Value} (h : FitsZ R enc Tryz.prog w 50 cs.toList) : ∃ (nm : ByteArray) (e nx : Nat) (A : Option Addr) (c : Nat) (l : List MsgV), cs = boxC nm e nx A l.length c ∧ nm.size ≤ maxLen ∧ nm.size ≤ R ∧ e < 4294967296 ∧ nx < 4294967296 ∧ l.length ≤ c ∧ c ≤ maxLen ∧ l.length ≤ R ∧ Msgs w A l.length l ∧ ∀ m ∈ l, MsgOk R w m := by
  obtain ⟨hx3, hx4⟩ := fitsZ_fields h Tryz.underlying50 (by kernel_rfl) (by kernel_rfl)
  obtain ⟨a0, a1, a2, a3, rfl⟩ := array4 (show cs.toList.length = 4 from hx3)
  obtain ⟨s, e0, hs, hsR⟩ := fitsZ_string (hx4 0 _ a0 rfl rfl) Tryz.underlying9
  obtain ⟨u1, e1, hu1⟩ := fits_int (hx4 1 _ a1 rfl rfl).fits Tryz.underlying22
  obtain ⟨u2, e2, hu2⟩ := fits_int (hx4 2 _ a2 rfl rfl).fits Tryz.underlying22
  obtain ⟨k1, rfl, hk1⟩ := u32_range hu1
  obtain ⟨k2, rfl, hk2⟩ := u32_range hu2
  obtain ⟨A, c, l, rfl, h1, h2, h3, h4, h5⟩ := open_msgsZ (hx4 3 _ a3 rfl rfl)
  simp only [List.cons.injEq, and_true] at e0 e1 e2
  subst e0 e1 e2
  exact ⟨s, k1, k2, A, c, l, rfl, hs, hsR, hk1, hk2, h1, h2, h3, h4, h5⟩
structure NoteOk (R : Nat) (w : World) (e : Nat) (nm : ByteArray) (m : MsgV) : Prop where
  ep : e < 4294967296
  name : nm.size ≤ maxLen
  msg : MsgOk R w m
set_option maxRecDepth 100000 in
theorem open_noteZ {x : List Value} (h : FitsZ R enc Tryz.prog w 27 x) : ∃ (k : Int) (e : Nat) (nm : ByteArray) (m : MsgV), x = (noteC k e nm m).toList ∧ NoteOk R w e nm m := by
  obtain ⟨hl, hx⟩ := fitsZ_part h Tryz.underlying27
  rw [show Tryz.prog.cellsOf 27 = 7 by kernel_rfl] at hl
  obtain ⟨a0, a1, a2, a3, a4, a5, a6, rfl⟩ := list7 hl
  have c0 : FitsZ R enc Tryz.prog w 3 [a0] := hx 0 _ rfl
  have c1 : FitsZ R enc Tryz.prog w 22 [a1] := hx 1 _ rfl
  have c2 : FitsZ R enc Tryz.prog w 9 [a2] := hx 2 _ rfl
  have h4 : Tryz.prog.cellsOf 25 = 4 := by kernel_rfl
  have c3 : FitsZ R enc Tryz.prog w 25 (List.take (Tryz.prog.cellsOf 25) (List.drop 3 [a0, a1, a2, a3, a4, a5, a6])) := hx 3 _ rfl
  rw [h4] at c3
  replace c3 : FitsZ R enc Tryz.prog w 25 [a3, a4, a5, a6] := c3
  obtain ⟨k, e0, _⟩ := fits_int c0.fits Tryz.underlying3
  obtain ⟨u, e1, hu⟩ := fits_int c1.fits Tryz.underlying22
  obtain ⟨s, e2, hs, _⟩ := fitsZ_string c2 Tryz.underlying9
  obtain ⟨m, e3, hm⟩ := open_msgZ c3
  obtain ⟨q, rfl, hq⟩ := u32_range hu
  simp only [List.cons.injEq, and_true] at e0 e1 e2
  subst e0 e1 e2
  refine ⟨k, q, s, m, ?_, hq, hs, hm⟩
  unfold noteC
  unfold msgC at e3
  simp only [List.cons.injEq, and_true] at e3
  obtain ⟨rfl, rfl, rfl, rfl⟩ := e3
  rfl
end
section
variable {H : Type} {enc : TypeId × Value → H} {W : World} {base0 b0 : Nat} {spare : Nat → Bool} {held : Bool} {r : Reach} {R : Nat}
set_option maxRecDepth 100000 in
theorem box_arg {v : Value} {d : DataW H} {ps : List MemPlace} (hv : Value.okWide Tryz.prog W r b0 50 v) (h : DataW.Trod enc Tryz.prog W base0 spare held 50 v d ps) (hz : ∀ k ∈ d.weights Tryz.prog 50, k ≤ R) :
    ∃ (nm : ByteArray) (e nx : Nat) (A : Option Addr) (c : Nat) (l : List MsgV), v = .agg (boxC nm e nx A l.length c) ∧ nm.size ≤ maxLen ∧ nm.size ≤ R ∧ e < 4294967296 ∧ nx < 4294967296 ∧ l.length ≤ c ∧ c ≤ maxLen ∧ l.length ≤ R ∧ Msgs W A l.length l ∧ ∀ m ∈ l, MsgOk R W m := by
  obtain ⟨cs, rfl, hf⟩ := fitsZ_struct hv Tryz.underlying50 h hz
  obtain ⟨nm, e, nx, A, c, l, rfl, b⟩ := open_boxZ hf
  exact ⟨nm, e, nx, A, c, l, rfl, b⟩
set_option maxRecDepth 100000 in
theorem msg_arg {v : Value} {d : DataW H} {ps : List MemPlace} (hv : Value.okWide Tryz.prog W r b0 25 v) (h : DataW.Trod enc Tryz.prog W base0 spare held 25 v d ps) (hz : ∀ k ∈ d.weights Tryz.prog 25, k ≤ R) :
    ∃ m : MsgV, v = .agg #[.int .u32 (m.uid : Nat), .int .i64 m.date, .int .i64 m.flags, .slice m.a m.b.length m.c] ∧ MsgOk R W m := by
  obtain ⟨cs, rfl, hf⟩ := fitsZ_struct hv Tryz.underlying25 h hz
  obtain ⟨m, e, hm⟩ := open_msgZ hf
  exact ⟨m, by congr 1; exact Array.ext' e, hm⟩
set_option maxRecDepth 100000 in
theorem note_arg {v : Value} {d : DataW H} {ps : List MemPlace} (hv : Value.okWide Tryz.prog W r b0 27 v) (h : DataW.Trod enc Tryz.prog W base0 spare held 27 v d ps) (hz : ∀ k ∈ d.weights Tryz.prog 27, k ≤ R) :
    ∃ (k : Int) (e : Nat) (nm : ByteArray) (m : MsgV), v = .agg (noteC k e nm m) ∧ NoteOk R W e nm m := by
  obtain ⟨cs, rfl, hf⟩ := fitsZ_struct hv Tryz.underlying27 h hz
  obtain ⟨k, e, nm, m, hx, hm⟩ := open_noteZ hf
  exact ⟨k, e, nm, m, by congr 1; exact Array.ext' hx, hm⟩
end
end Go.Proofs.YtmjikfeaopmejaaGreatDoor
/-
  What is written of a mailbox is read as the same, and clean, and what can not be written is refused: cubbylaw10.LogBack answers true, for every mailbox.
-/
namespace Go.Proofs.YtmjikfeaopmejaaGreatDoor.LogBack
open Go.RowKit Go.ChangeShapes Go.WideShapes Go.ChangeAt
open Go.ChangeMaps (open_string shut_string)
set_option linter.unusedVariables false
theorem own : ownKnob Tryz.prog.godebug = none := by kernel_rfl
set_option maxRecDepth 100000 in
theorem contract (H : Type) (enc : TypeId × Value → H) (W : World) (base : Nat) (args : Array Value) (ds gs : List (DataW H)) (before : List MemPlace)
    (hval : ∀ (j : Nat) t v, Tryz.f6.params[j]? = some t → args[j]? = some v → Value.okWide Tryz.prog W .any base t v)
    (hW : DataW.Whole enc Tryz.prog Tryz.f6.params.toList Rows.logBackSpec.vars false W args.toList ds gs before) (hz : (DataW.weightsEach Tryz.prog (Tryz.f6.params.toList ++ (OpenSpec.ofChange Rows.logBackSpec).bare.plain.varTypes Tryz.prog) (ds ++ gs)).all (· ≤ reachBytes) = true) (hL : laidMetH Tryz.prog Rows.logBackRow.laid W) (hsh : W.ShapedOpen Tryz.prog) :
    Calls Tryz.prog 6 args W fun e W' => ∃ v, e = .returned v ∧ Rows.logBackSpec.post enc Tryz.prog Tryz.f6 false true false false W args v W' := by
  have hW' := hW
  obtain ⟨p, q, hA0, hV, rfl, hfz, hnd⟩ := hW
  have hA : DataW.TrodAll enc Tryz.prog W 0 (fun _ => true) true Tryz.f6.params.toList args.toList ds p := hA0
  rw [Tryz.params6] at hA hval
  have hAk := hA
  obtain ⟨v0, d0, rfl, rfl, g0⟩ := trodAll_one hA
  obtain ⟨rfl, rfl⟩ := trodVars_none hV
  obtain ⟨nm, e, nx, A, c, l, rfl, b1, b2, b3, b4, b5, b6, b7, b8, b9⟩ := box_arg (hval 0 50 v0 rfl rfl) g0 (sized_at hz (j := 0) (t := 50) (by kernel_rfl) rfl)
  obtain ⟨mx, hm⟩ := Tryz.laysM146.s1_3 W hsh
  have ht : Lib.TabIs Tryz.prog W "internal/strconv.uint64pow10" .u64 Lib.pow10Tab := tab_met hL (by kernel_rfl)
  clear hA0
  refine (logBack_law nm e nx A l.length c l W ⟨mx, hm⟩ (block_lt_of_cell hm) ht b2 b7 (fun x hx => (b9 x hx).size) b3 b4 (fun x hx => (b9 x hx).uid) b8.msgR).mono fun e W' ⟨he, hb⟩ => ?_
  subst he
  exact ⟨_, rfl, post_of_below (pv := []) hW' (fun _ _ _ => trodAll_mk1 (shut_bool Tryz.underlying4 _)) (fun sp hsp => args_stay (by kernel_rfl) (by kernel_rfl) hAk (fun x hx => hb.same (by simpa using hW'.lt x (List.mem_append_left _ hx))) (fun x hx => hsp x (List.mem_append_left _ hx))) (fun _ _ => rfl) rfl
    hb (ok_one (by kernel_rfl) rfl (okWide_bool_mk Tryz.underlying4 _))⟩
set_option maxRecDepth 100000 in
theorem reads (os : Os) {H : Type} (enc : TypeId × Value → H) : ∃ places, DataW.whole enc Tryz.prog ((World.laidAll Tryz.prog os Rows.logBackRow.laid).forCall (fun _ _ => 0) ⟨#[], #[.agg #[.string ⟨#[]⟩, .int .u32 0, .int .u32 0, .slice none 0 0]], []⟩).memory Tryz.f6.params.toList Rows.logBackSpec.vars false #[Value.agg #[.string ⟨#[]⟩, .int .u32 0, .int .u32 0, .slice none 0 0]].toList 8 = some ([.agg [.lit (.string []), .lit (.int .u32 0), .lit (.int .u32 0), .nil]], [], places) :=
  ⟨[], by kernel_rfl⟩
set_option maxRecDepth 100000 in
theorem lifted (os : Os) (started : os.Started) (H : Type) (enc : TypeId × Value → H) (F : Stop.Interp) :
    ReturnsInHanded {} Tryz.checked os 6 .any ((OpenSpec.ofChange Rows.logBackSpec).preRow enc Tryz.prog Tryz.f6 Rows.logBackRow.domain false Rows.logBackRow.laid) (((OpenSpec.ofChange Rows.logBackSpec).at F).post enc Tryz.prog Tryz.f6 false true false false) := by
  obtain ⟨places, hx⟩ := reads os enc
  refine returnsInHanded_of_row (C := Tryz.checked) (s := OpenSpec.ofChange Rows.logBackSpec) own started (by kernel_rfl) Tryz.func6
    (witness_row_shaped (enc := enc) (C := Tryz.checked) false (World.laidAll Tryz.prog os Rows.logBackRow.laid) #[.agg #[.string ⟨#[]⟩, .int .u32 0, .int .u32 0, .slice none 0 0]] (World.laidAll_os _ _ _) (World.shaped_of_ZipB (by kernel_rfl) (by kernel_rfl)) (by kernel_rfl)
      (OpenSpec.preRow_of_cond 8 hx (by kernel_rfl) (fun k hk => by cases hk) (by kernel_rfl) (laidMet_laidAll _ (by kernel_rfl) (by kernel_rfl)))) ?_
  intro W base args ds gs before hval hW _ _ hz hL hsh _
  exact contract H enc W base args ds gs before hval hW hz hL hsh
theorem said : Rows.LogBackSaid :=
  OpenClaim.holds_of_cond 6 Tryz.f6 rfl rfl rfl rfl rfl rfl rfl ⟨rfl, rfl, rfl, rfl, rfl⟩ rfl rfl rfl rfl rfl (by kernel_rfl) Tryz.func6 (by kernel_rfl)
    (of_decide_eq_true (by kernel_rfl)) (by unfold Func.isWrapper; first | (rw [if_pos (by decide +kernel)]; kernel_rfl) | (rw [if_neg (by decide +kernel)]; exact ⟨rfl, rfl⟩))
    (fun os started H enc _ F => by rw [OpenClaim.pre_eq_preRow]; exact lifted os started H enc F)
theorem plain (f : FuncId) (fn : Func) (hf : Tryz.pinned.checked.prog.funcNamed "cubby/cubbylaw10.LogBack" = some f) (hfn : Tryz.pinned.checked.prog.funcs[f]? = some fn) :
    false = Tryz.pinned.checked.prog.looks [] ∧ ∀ (j : Nat) t, fn.params[j]? = some t → Tryz.pinned.checked.prog.wantsStandIn t = false := by
  obtain rfl : f = 6 := Option.some.inj ((show Tryz.prog.funcNamed "cubby/cubbylaw10.LogBack" = some 6 by kernel_rfl).symm.trans hf) |>.symm
  obtain rfl : fn = Tryz.f6 := (Option.some.inj (Tryz.func6.symm.trans hfn)).symm
  refine ⟨by kernel_rfl, fun j t ht => ?_⟩
  rw [Tryz.params6] at ht
  have hm : t ∈ [50] := by simpa using Array.mem_of_getElem? ht
  have hall : ([50].all fun u => !Tryz.prog.wantsStandIn u) = true := by kernel_rfl
  exact (show Tryz.prog.wantsStandIn t = false by simpa using List.all_eq_true.1 hall t hm)
theorem holds : Rows.LogBackCardSaid :=
  Claim7.holds_tied_plain_at .later [] _ _ _ _ said (fun _ h => by cases h) (by kernel_rfl) (fun _ h => by cases h) logBack_row_tie rfl ⟨rfl, rfl⟩ (by kernel_rfl) rfl plain (by kernel_rfl)
#print axioms holds
end Go.Proofs.YtmjikfeaopmejaaGreatDoor.LogBack
