/-
  Walks: parse: what a command holds; message, store, numbered.
-/
import Derived.Test.YtjhaccmcjlbllaaGreatDoorXpc
namespace Go.Proofs.YtjhaccmcjlbllaaGreatDoor
open Go.RowKit
set_option linter.unusedSimpArgs false
set_option linter.unusedVariables false
set_option linter.unusedSimpArgs false
set_option linter.unusedVariables false
structure SlV where
  A : Option Addr
  n : Nat
  c : Nat
abbrev SlV.v (x : SlV) : Value := .slice x.A x.n x.c
/-- a command -/
structure CmdV where
  tag : ByteArray
  nm : ByteArray
  uid : Bool
  us : ByteArray
  pw : ByteArray
  bx : ByteArray
  rf : ByteArray
  pt : ByteArray
  fl : Int
  hx : Int
  si : Bool
  hd : Bool
  dt : Int
  oc : SlV
  st : SlV
  it : SlV
  ks : SlV
abbrev cmdC (x : CmdV) : Array Value := #[.string x.tag, .string x.nm, .bool x.uid, .string x.us, .string x.pw, .string x.bx, .string x.rf, .string x.pt, .int .i64 x.fl, .int .i64 x.hx, .bool x.si, .bool x.hd, .int .i64 x.dt, x.oc.v, x.st.v, x.it.v, x.ks.v]
theorem blk_ne {w : World} {i j : Nat} {T T2 : TypeId} {cs cs2 : Array Value} (K : Blk w i T cs) (K2 : Blk w j T2 cs2) (h : T ≠ T2) : i ≠ j := by
  rintro rfl
  unfold Blk at K K2
  rw [K] at K2
  injection K2 with K2
  injection K2 with _ K2
  exact h K2
theorem RdP.blk {w : World} {pr : Nat} {l : List TokI} {bad : Bool} (h : RdP w pr l bad) : ∃ cs, Blk w pr 99 cs := by
  obtain ⟨A, c, K, _⟩ := h.ex
  exact ⟨_, K⟩
theorem rd_only {w w' : World} {pr pc : Nat} {l : List TokI} {bad : Bool} {cs : Array Value} (h : RdP w pr l bad) (K : Blk w pc 66 cs) (hs : Only pc w w') : RdP w' pr l bad := by
  obtain ⟨A, c, K2, hr, hc, ht⟩ := h.ex
  have hne : ∀ ad, A = some ad → ad.block ≠ pc := fun ad e => by
    obtain ⟨cs', k⟩ := ht ad e
    exact blk_ne k K (by decide)
  refine ⟨A, c, hs.blk K2 (blk_ne K2 K (by decide)), ⟨⟨hr.row.1, fun h0 => ?_⟩, fun m _ p hp => by cases hp⟩, hc, fun ad e => ?_⟩
  · obtain ⟨ad, e, hlt, hcl⟩ := hr.row.2 h0
    refine ⟨ad, e, by rw [hs.size]; exact hlt, fun j u hu => ?_⟩
    rw [World.cell?_of_block (hs.block _ (by rw [block_of_add]; exact hne ad e))]
    exact hcl j u hu
  · obtain ⟨cs', k⟩ := ht ad e
    exact ⟨cs', hs.blk k (hne ad e)⟩
theorem sub_nil (l : List TokI) : Sub [] l := ⟨Nat.zero_le _, fun t h => by cases h⟩
/-- what a reader's method that fills a command may turn -/
abbrev TurnC (pr pc : Nat) (w w' : World) : Prop := Apart (fun i => i = pr ∨ i = pc) w w'
theorem TurnC.of {pr pc : Nat} {w w' : World} (T : TurnR pr w w') : TurnC pr pc w w' := Apart.mono' T fun _ e => .inl e
theorem TurnC.turn {pr pc : Nat} {w w2 w3 : World} (T : TurnC pr pc w w2) (T2 : TurnR pr w2 w3) : TurnC pr pc w w3 := Apart.trans T T2 fun _ _ e => .inl e
theorem TurnC.put {pr pc : Nat} {w w2 w3 : World} (T : TurnC pr pc w w2) (hs : Only pc w2 w3) : TurnC pr pc w w3 := Apart.only T hs (.inr (.inr rfl))
theorem TurnC.put1 {pr pc : Nat} {w w2 w3 : World} (T : TurnC pr pc w w2) (hs : Only pr w2 w3) : TurnC pr pc w w3 := Apart.only T hs (.inr (.inl rfl))
theorem FineG.turnC {G pr pc : Nat} {w w' : World} (h : FineG G w) (h1 : G ≤ pr) (h2 : G ≤ pc) (T : TurnC pr pc w w') : FineG G w' := h.keep (T.toBelow (fun i e => by rcases e with e | e <;> omega) h.size)
/-- what such a method gives -/
structure Filled (pr pc G : Nat) (tag : ByteArray) (l : List TokI) (w w' : World) : Prop where
  ex : ∃ (v : CmdV) (l' : List TokI) (b : Bool), RdP w' pr l' b ∧ Blk w' pc 66 (cmdC v) ∧ v.tag = tag ∧ Sub l' l
  turn : TurnC pr pc w w'
set_option maxRecDepth 100000 in
set_option maxHeartbeats 8000000 in
theorem storeP_any (pr pc : Nat) (l : List TokI) (bad : Bool) (v : CmdV) (w : World) (h : RdP w pr l bad) (K : Blk w pc 66 (cmdC v)) {G : Nat} (hw : FineG G w) (hG : G ≤ pr) (hG2 : G ≤ pc) (hl : l.length ≤ 1048576) (ht : ∀ t ∈ l, t.t.length ≤ 1048576) : Calls Tryz.prog 111 #[.pointer (some ⟨pr, 0, none⟩), .pointer (some ⟨pc, 0, none⟩)] w fun ev w' => ev = .returned (.tuple #[]) ∧ Filled pr pc G v.tag l w w' := by
  obtain ⟨tag, nm, uid, us, pw, bx, rf, pt, fl, hx, si, hd, dt, oc, st, it, ks⟩ := v
  unfold cmdC at K
  have hpc : pc ≠ pr := by
    obtain ⟨cs, k⟩ := h.blk
    exact blk_ne K k (by decide)
  have TC : TurnC pr pc w w := Apart.refl _ _
  have hsub := Sub.refl l
  refine calls_at 48 Tryz.func111 rfl rfl (Nat.le_of_ble_eq_true rfl) ?_
  intro a hA; replace hA := hA.norm
  refine wS (wR ?_)
  revert a; (iterate 2 refine wo rfl rfl (by decide) (fun ev e h => by simp [go_sem, h] <;> rfl) ?_); intro a hA
  refine wl_call hA rfl rfl (by decide) (fun ev h => exec_call Tryz.func77 (by kernel_rfl) rfl (h.f _) (by first | (simp only [mL, h.get 7 rfl, h.c] <;> rfl) | (simp [mL, h.get 7 rfl, h.c] <;> rfl))) (setP_any pr l bad _ h hw hG hl ht) ?_
  rintro e w1 ⟨A1, n1, c1, b1, rfl, h, T1⟩
  refine ⟨_, rfl, fun a hA => ?_⟩
  replace K := Apart.blk T1 K hpc
  replace TC := TC.turn T1
  replace hw := hw.turn hG T1
  replace hsub := (sub_take [1] l bad).trans hsub
  clear T1
  revert a; (iterate 2 refine wo rfl rfl (by decide) (fun ev e h => by simp [go_sem, h] <;> rfl) ?_); intro a hA
  have K0 := K
  refine wl_setf ([.string tag, .string nm, .bool uid, .string us, .string pw, .string bx, .string rf, .string pt, .int .i64 fl, .int .i64 hx, .bool si, .bool hd, .int .i64 dt, oc.v, .slice A1 n1 c1, it.v, ks.v]) _ hA rfl rfl K (j := 14) (by rfl) (fun ev h => by simp [go_sem, h.get 10 rfl, h.get 8 rfl, K.cell, K.frozen]; try first | exact ⟨rfl, rfl⟩ | rfl) fun w2 (K : Blk _ _ _ _) hs => ?_
  replace h := rd_only h K0 hs
  replace TC := TC.put hs
  replace hw := hw.keep (hs.below (Below.refl _ _) hG2)
  clear K0 hs
  replace hA := hA.keepN [0, 1]
  refine wN (nT (wS (wR ?_)))
  revert a; refine wo rfl rfl (by decide) (fun ev e h => by simp [go_sem, h] <;> rfl) ?_; intro a hA
  refine wl_new hA rfl rfl (by decide) (fun ev h => by simp [go_sem, h.c]; try first | exact ⟨rfl, rfl⟩ | rfl) fun w3a a (Kka : Blk _ _ _ _) hzka hbka hA => ?_
  replace h := h.below hbka
  replace K := K.below hbka K.lt
  replace TC := TC.turn (TurnR.of hbka)
  replace hw := hw.below hbka
  have htsa : (takeT [1] (takeL [1] l bad) b1).length ≤ 1048576 := takeT_len (hsub.small ht)
  refine wl_call hA rfl rfl (by decide) (fun ev h => exec_call Tryz.func49 (by kernel_rfl) rfl (h.f _) (by first | (simp only [mL, h.get 12 rfl, h.get 13 rfl, h.c] <;> rfl) | (simp [mL, h.get 12 rfl, h.get 13 rfl, h.c] <;> rfl))) (takeP_any pr [1] _ 1 (takeL [1] l bad) b1 _ h Kka (by decide) (by have := hsub.1; omega)) ?_
  rintro e w3 ⟨rfl, h, T1⟩
  refine ⟨_, rfl, fun a hA => ?_⟩
  replace K := Apart.blk T1 K hpc
  replace TC := TC.turn T1
  replace hw := hw.turn hG T1
  replace hsub := (sub_take [1] (takeL [1] l bad) b1).trans hsub
  clear T1
  refine wl_call hA rfl rfl (by decide) (fun ev h => exec_call Tryz.func50 (by kernel_rfl) rfl (h.f _) (by first | (simp only [mL, h.get 14 rfl, h.c] <;> rfl) | (simp [mL, h.get 14 rfl, h.c] <;> rfl))) (great_any (takeT [1] (takeL [1] l bad) b1) _ (by omega)) ?_
  rintro e w4 ⟨rfl, hb4⟩
  refine ⟨_, rfl, fun a hA => ?_⟩
  replace h := h.below hb4
  replace K := K.below hb4 K.lt
  replace TC := TC.turn (TurnR.of hb4)
  replace hw := hw.below hb4
  refine wl_call hA rfl rfl (by decide) (fun ev h => exec_call Tryz.func158 (by kernel_rfl) rfl (h.f _) (by first | (simp only [mL, h.get 15 rfl, h.c] <;> rfl) | (simp [mL, h.get 15 rfl, h.c] <;> rfl))) (Tryz.strings_CutSuffix (St (greatS (takeT [1] (takeL [1] l bad) b1))) _ _ (by show (greatS _).length ≤ _; unfold greatS; rw [List.length_map]; omega)) ?_
  rintro e w5 ⟨rfl, rfl⟩
  refine ⟨_, rfl, fun a hA => ?_⟩
  obtain ⟨q1, hq1⟩ : ∃ q, Lib.trimSuffix (St (greatS (takeT [1] (takeL [1] l bad) b1))).data.toList (⟨#[46, 83, 73, 76, 69, 78, 84]⟩ : ByteArray).data.toList = q := ⟨_, rfl⟩
  obtain ⟨q2, hq2⟩ : ∃ q, Lib.hasSuffix (St (greatS (takeT [1] (takeL [1] l bad) b1))).data.toList (⟨#[46, 83, 73, 76, 69, 78, 84]⟩ : ByteArray).data.toList = q := ⟨_, rfl⟩
  rw [hq1, hq2] at hA
  revert a; (iterate 5 refine wo rfl rfl (by decide) (fun ev e h => by simp [go_sem, h] <;> rfl) ?_); intro a hA
  replace hA := hA.keepN [0, 1, 4, 5]
  refine wN (nT (wS (wR ?_)))
  revert a; (iterate 4 refine wo rfl rfl (by decide) (fun ev e h => by simp [go_sem, h] <;> rfl) ?_); intro a hA
  have K0 := K
  refine wl_setf ([.string tag, .string nm, .bool uid, .string us, .string pw, .string bx, .string rf, .string pt, .int .i64 fl, .int .i64 hx, .bool q2, .bool hd, .int .i64 dt, oc.v, .slice A1 n1 c1, it.v, ks.v]) _ hA rfl rfl K (j := 10) (by rfl) (fun ev h => by simp [go_sem, h.get 22 rfl, h.get 20 rfl, K.cell, K.frozen]; try first | exact ⟨rfl, rfl⟩ | rfl) fun w6 (K : Blk _ _ _ _) hs => ?_
  replace h := rd_only h K0 hs
  replace TC := TC.put hs
  replace hw := hw.keep (hs.below (Below.refl _ _) hG2)
  clear K0 hs
  replace hA := hA.keepN [0, 1, 4]
  refine wN (nT (wS (wR ?_)))
  revert a; refine wo rfl rfl (by decide) (fun ev e h => by simp [go_sem, h] <;> rfl) ?_; intro a hA
  refine wl_new hA rfl rfl (by decide) (fun ev h => by simp [go_sem, h.c]; try first | exact ⟨rfl, rfl⟩ | rfl) fun w7 a (KN : Blk _ _ _ _) hz7 hb7 hA => ?_
  replace h := h.below hb7
  replace K := K.below hb7 K.lt
  replace TC := TC.turn (TurnR.of hb7)
  replace hw := hw.below hb7
  revert a; refine wo rfl rfl (by decide) (fun ev e h => by simp [go_sem, h] <;> rfl) ?_; intro a hA
  refine wl_call hA rfl rfl (by decide) (fun ev h => exec_call Tryz.func159 (by kernel_rfl) rfl (h.f _) (by first | (simp only [mL, h.get 24 rfl, h.get 25 rfl, h.c] <;> rfl) | (simp [mL, h.get 24 rfl, h.get 25 rfl, h.c] <;> rfl))) (indexS_any [[70, 76, 65, 71, 83], [43, 70, 76, 65, 71, 83], [45, 70, 76, 65, 71, 83]] q1 _ _ _ KN (by decide)) ?_
  rintro e w8 ⟨rfl, rfl⟩
  refine ⟨_, rfl, fun a hA => ?_⟩
  obtain ⟨z, hz⟩ : ∃ z, idxV [[70, 76, 65, 71, 83], [43, 70, 76, 65, 71, 83], [45, 70, 76, 65, 71, 83]] q1 = z := ⟨_, rfl⟩
  rw [hz] at hA
  revert a; (iterate 2 refine wo rfl rfl (by decide) (fun ev e h => by simp [go_sem, h] <;> rfl) ?_); intro a hA
  have K0 := K
  refine wl_setf ([.string tag, .string nm, .bool uid, .string us, .string pw, .string bx, .string rf, .string pt, .int .i64 fl, .int .i64 z, .bool q2, .bool hd, .int .i64 dt, oc.v, .slice A1 n1 c1, it.v, ks.v]) _ hA rfl rfl K (j := 9) (by rfl) (fun ev h => by simp [go_sem, h.get 28 rfl, h.get 26 rfl, K.cell, K.frozen]; try first | exact ⟨rfl, rfl⟩ | rfl) fun w9 (K : Blk _ _ _ _) hs => ?_
  replace h := rd_only h K0 hs
  replace TC := TC.put hs
  replace hw := hw.keep (hs.below (Below.refl _ _) hG2)
  clear K0 hs
  obtain ⟨ARw10, cRw10, KRw10, hrw10, hcw10, htkw10⟩ := h.ex
  have KR0w10 := KRw10
  replace hA := hA.keepN [0, 1]
  refine wN (nT (wS (wR ?_)))
  revert a; (iterate 6 refine wo rfl rfl (by decide) (fun ev e h => by simp [go_sem, h, KRw10.cell, K.cell] <;> rfl) ?_); (iterate 4 refine wg _ rfl rfl rfl rfl (by decide) (fun hq ev e h => by simp [go_sem, h, ↓gw_t (beq_t hq), KRw10.cell, K.cell] <;> rfl) ?_); intro a hA
  replace hA := hA.keepN [0, 1, 29, 34, 38]
  revert a; refine wg _ rfl rfl rfl rfl (by decide) (fun hq ev e h => by simp [go_sem, h, ↓gw_t (beq_t hq), KRw10.cell, K.cell] <;> rfl) ?_; refine wko rfl rfl (by decide) rfl rfl rfl ?_; (iterate 2 refine wo rfl rfl (by decide) (fun ev e h => by simp [go_sem, h, KRw10.cell, K.cell] <;> rfl) ?_); intro a hA
  refine wl_setf ([.slice ARw10 ((takeL [1] (takeL [1] l bad) b1)).length cRw10, .bool (!okT [1] (takeL [1] l bad) b1 || decide (z < 0))]) _ hA rfl rfl KRw10 (j := 1) (by rfl) (fun ev h => by simp [go_sem, h.get 42 rfl, h.get 40 rfl, KRw10.cell, K.cell, KRw10.cell, KRw10.frozen]; try first | exact ⟨rfl, rfl⟩ | rfl) fun w10 (KRw10 : Blk _ _ _ _) hsw10 => ?_
  have hqw10 := rows_turnP hrw10 htkw10 KR0w10 (Apart.only (Apart.refl (fun i => i = pr) _) hsw10 (.inr rfl))
  clear h
  have h : RdP w10 pr ((takeL [1] (takeL [1] l bad) b1)) (!okT [1] (takeL [1] l bad) b1 || decide (z < 0)) := ⟨ARw10, cRw10, KRw10, hqw10.1, hcw10, hqw10.2⟩
  replace K := hsw10.blk K hpc
  replace TC := TC.put1 hsw10
  replace hw := hw.keep (hsw10.below (Below.refl _ _) hG)
  replace hA := hA.keepN [0, 1]
  refine wN (nT (wR ?_))
  revert a; (iterate 2 refine wo rfl rfl (by decide) (fun ev e h => by simp [go_sem, h, KRw10.cell, K.cell] <;> rfl) ?_); intro a hA
  refine wl_call hA rfl rfl (by decide) (fun ev h => exec_call Tryz.func107 (by kernel_rfl) rfl (h.f _) (by first | (simp only [mL, h.get 44 rfl, h.c] <;> rfl) | (simp [mL, h.get 44 rfl, h.c, KRw10.cell, K.cell] <;> rfl))) (flagsP_any pr (takeL [1] (takeL [1] l bad) b1) _ _ h (by have := hsub.1; omega) (hsub.small ht)) ?_
  rintro e w11 ⟨k11, l11, b11, rfl, h, sub11, T1⟩
  refine ⟨_, rfl, fun a hA => ?_⟩
  replace K := Apart.blk T1 K hpc
  replace TC := TC.turn T1
  replace hw := hw.turn hG T1
  replace hsub := (sub11).trans hsub
  clear T1
  revert a; (iterate 2 refine wo rfl rfl (by decide) (fun ev e h => by simp [go_sem, h, KRw10.cell, K.cell] <;> rfl) ?_); intro a hA
  have K0 := K
  refine wl_setf ([.string tag, .string nm, .bool uid, .string us, .string pw, .string bx, .string rf, .string pt, .int .i64 k11, .int .i64 z, .bool q2, .bool hd, .int .i64 dt, oc.v, .slice A1 n1 c1, it.v, ks.v]) _ hA rfl rfl K (j := 8) (by rfl) (fun ev h => by simp [go_sem, h.get 47 rfl, h.get 45 rfl, KRw10.cell, K.cell, K.cell, K.frozen]; try first | exact ⟨rfl, rfl⟩ | rfl) fun w12 (K : Blk _ _ _ _) hs => ?_
  replace h := rd_only h K0 hs
  replace TC := TC.put hs
  replace hw := hw.keep (hs.below (Below.refl _ _) hG2)
  clear K0 hs
  refine wN ?_
  exact end_0 hA rfl ⟨rfl, ⟨⟨⟨tag, nm, uid, us, pw, bx, rf, pt, k11, z, q2, hd, dt, oc, ⟨A1, n1, c1⟩, it, ks⟩, _, _, h, K, rfl, hsub⟩, TC⟩⟩
set_option maxRecDepth 100000 in
set_option maxHeartbeats 8000000 in
theorem messageP_any (pr pc : Nat) (l : List TokI) (bad : Bool) (v : CmdV) (w : World) (h : RdP w pr l bad) (K : Blk w pc 66 (cmdC v)) {G : Nat} (hw : FineG G w) (hG : G ≤ pr) (hG2 : G ≤ pc) (hl : l.length ≤ 1048576) (ht : ∀ t ∈ l, t.t.length ≤ 1048576) : Calls Tryz.prog 76 #[.pointer (some ⟨pr, 0, none⟩), .pointer (some ⟨pc, 0, none⟩)] w fun ev w' => ev = .returned (.tuple #[]) ∧ Filled pr pc G v.tag l w w' := by
  obtain ⟨tag, nm, uid, us, pw, bx, rf, pt, fl, hx, si, hd, dt, oc, st, it, ks⟩ := v
  unfold cmdC at K
  have hpc : pc ≠ pr := by
    obtain ⟨cs, k⟩ := h.blk
    exact blk_ne K k (by decide)
  have TC : TurnC pr pc w w := Apart.refl _ _
  have hsub := Sub.refl l
  refine calls_at 56 Tryz.func76 rfl rfl (Nat.le_of_ble_eq_true rfl) ?_
  intro a hA; replace hA := hA.norm
  refine wS (wR ?_)
  revert a; (iterate 2 refine wo rfl rfl (by decide) (fun ev e h => by simp [go_sem, h] <;> rfl) ?_); intro a hA
  refine wl_call hA rfl rfl (by decide) (fun ev h => exec_call Tryz.func75 (by kernel_rfl) rfl (h.f _) (by first | (simp only [mL, h.get 7 rfl, h.c] <;> rfl) | (simp [mL, h.get 7 rfl, h.c] <;> rfl))) (boxP_any pr l bad _ h hw hG (by have := hsub.1; omega) (hsub.small ht)) ?_
  rintro e w1 ⟨sw1, bw1, rfl, h, T1⟩
  refine ⟨_, rfl, fun a hA => ?_⟩
  replace K := Apart.blk T1 K hpc
  replace TC := TC.turn T1
  replace hw := hw.turn hG T1
  replace hsub := (sub_take [1, 2] l bad).trans hsub
  clear T1
  revert a; (iterate 2 refine wo rfl rfl (by decide) (fun ev e h => by simp [go_sem, h] <;> rfl) ?_); intro a hA
  have K0 := K
  refine wl_setf ([.string tag, .string nm, .bool uid, .string us, .string pw, .string sw1, .string rf, .string pt, .int .i64 fl, .int .i64 hx, .bool si, .bool hd, .int .i64 dt, oc.v, st.v, it.v, ks.v]) _ hA rfl rfl K (j := 5) (by rfl) (fun ev h => by simp [go_sem, h.get 10 rfl, h.get 8 rfl, K.cell, K.frozen]; try first | exact ⟨rfl, rfl⟩ | rfl) fun w2 (K : Blk _ _ _ _) hs => ?_
  replace h := rd_only h K0 hs
  replace TC := TC.put hs
  replace hw := hw.keep (hs.below (Below.refl _ _) hG2)
  clear K0 hs
  replace hA := hA.keepN [0, 1]
  refine wN (nT (wS (wS (wR ?_))))
  revert a; refine wo rfl rfl (by decide) (fun ev e h => by simp [go_sem, h] <;> rfl) ?_; intro a hA
  refine wl_call hA rfl rfl (by decide) (fun ev h => exec_call Tryz.func106 (by kernel_rfl) rfl (h.f _) (by first | (simp only [mL, h.get 11 rfl, h.c] <;> rfl) | (simp [mL, h.get 11 rfl, h.c] <;> rfl))) (nextP_any pr 3 (takeL [1, 2] l bad) bw1 _ h) ?_
  rintro e w3 ⟨rfl, hb3⟩
  refine ⟨_, rfl, fun a hA => ?_⟩
  replace h := h.below hb3
  replace K := K.below hb3 K.lt
  replace TC := TC.turn (TurnR.of hb3)
  replace hw := hw.below hb3
  obtain ⟨nx, hnx⟩ : ∃ q, nextS 3 (takeL [1, 2] l bad) bw1 = q := ⟨_, rfl⟩
  rw [hnx] at hA
  clear hnx hb3
  replace hA := hA.keepN [0, 1, 12]
  refine wN (nT ?_)
  refine wp_join (fun a wx => ∃ (fl' : Int) (l' : List TokI) (b' : Bool), At 56 [(0, .pointer (some ⟨pr, 0, none⟩)), (1, .pointer (some ⟨pc, 0, none⟩))] a ∧ RdP wx pr l' b' ∧ Blk wx pc 66 #[.string tag, .string nm, .bool uid, .string us, .string pw, .string sw1, .string rf, .string pt, .int .i64 fl', .int .i64 hx, .bool si, .bool hd, .int .i64 dt, oc.v, st.v, it.v, ks.v] ∧ TurnC pr pc w wx ∧ FineG G wx ∧ Sub l' l) ?jfJ ?jrJ
  case jfJ =>
    refine wp_if hA 12 _ rfl (fun hq => ?yA) (fun hq => ?nA)
    case yA =>
      refine wR ?_
      revert a; (iterate 2 refine wo rfl rfl (by decide) (fun ev e h => by simp [go_sem, h] <;> rfl) ?_); intro a hA
      refine wl_call hA rfl rfl (by decide) (fun ev h => exec_call Tryz.func107 (by kernel_rfl) rfl (h.f _) (by first | (simp only [mL, h.get 14 rfl, h.c] <;> rfl) | (simp [mL, h.get 14 rfl, h.c] <;> rfl))) (flagsP_any pr (takeL [1, 2] l bad) bw1 _ h (by have := hsub.1; omega) (hsub.small ht)) ?_
      rintro e w4 ⟨k4, l4, b4, rfl, h, sub4, T1⟩
      refine ⟨_, rfl, fun a hA => ?_⟩
      replace K := Apart.blk T1 K hpc
      replace TC := TC.turn T1
      replace hw := hw.turn hG T1
      replace hsub := (sub4).trans hsub
      clear T1
      revert a; (iterate 2 refine wo rfl rfl (by decide) (fun ev e h => by simp [go_sem, h] <;> rfl) ?_); intro a hA
      have K0 := K
      refine wl_setf ([.string tag, .string nm, .bool uid, .string us, .string pw, .string sw1, .string rf, .string pt, .int .i64 k4, .int .i64 hx, .bool si, .bool hd, .int .i64 dt, oc.v, st.v, it.v, ks.v]) _ hA rfl rfl K (j := 8) (by rfl) (fun ev h => by simp [go_sem, h.get 17 rfl, h.get 15 rfl, K.cell, K.frozen]; try first | exact ⟨rfl, rfl⟩ | rfl) fun w5 (K : Blk _ _ _ _) hs => ?_
      replace h := rd_only h K0 hs
      replace TC := TC.put hs
      replace hw := hw.keep (hs.below (Below.refl _ _) hG2)
      clear K0 hs
      replace hA := hA.keepN [0, 1]
      refine wN (nT ?_)
      exact ⟨_, _, _, hA, h, K, TC, hw, hsub⟩
    case nA =>
      replace hA := hA.keepN [0, 1]
      refine wp_skip (nT ?_)
      exact ⟨_, _, _, hA, h, K, TC, hw, hsub⟩
  clear hA h K TC hw hsub
  rintro a wx ⟨fl', l', b', hA, h, K, TC, hw, hsub⟩
  obtain ⟨AR, cR, KR, -, -, -⟩ := h.ex
  refine wS (wS (wR ?_))
  revert a; (iterate 6 refine wo rfl rfl (by decide) (fun ev e h => by simp [go_sem, h, KR.cell] <;> rfl) ?_); intro a hA
  replace hA := hA.keepN [0, 1, 23]
  refine wN (nT ?_)
  refine wp_join (fun a wy => ∃ (hd' : Bool) (dt' : Int) (l2 : List TokI) (b2 : Bool), At 56 [(0, .pointer (some ⟨pr, 0, none⟩)), (1, .pointer (some ⟨pc, 0, none⟩))] a ∧ RdP wy pr l2 b2 ∧ Blk wy pc 66 #[.string tag, .string nm, .bool uid, .string us, .string pw, .string sw1, .string rf, .string pt, .int .i64 fl', .int .i64 hx, .bool si, .bool hd', .int .i64 dt', oc.v, st.v, it.v, ks.v] ∧ TurnC pr pc w wy ∧ FineG G wy ∧ Sub l2 l) ?jfJ2 ?jrJ2
  case jfJ2 =>
    refine wp_if hA 23 _ rfl (fun hq2 => ?yB) (fun hq2 => ?nB)
    case yB =>
      refine wS (wR ?_)
      revert a; refine wo rfl rfl (by decide) (fun ev e h => by simp [go_sem, h, KR.cell] <;> rfl) ?_; intro a hA
      refine wl_new hA rfl rfl (by decide) (fun ev h => by simp [go_sem, h.c, KR.cell]; try first | exact ⟨rfl, rfl⟩ | rfl) fun w6a a (Kkc : Blk _ _ _ _) hzkc hbkc hA => ?_
      replace h := h.below hbkc
      replace K := K.below hbkc K.lt
      replace TC := TC.turn (TurnR.of hbkc)
      replace hw := hw.below hbkc
      have htsc : (takeT [2] l' b').length ≤ 1048576 := takeT_len (hsub.small ht)
      refine wl_call hA rfl rfl (by decide) (fun ev h => exec_call Tryz.func49 (by kernel_rfl) rfl (h.f _) (by first | (simp only [mL, h.get 25 rfl, h.get 26 rfl, h.c] <;> rfl) | (simp [mL, h.get 25 rfl, h.get 26 rfl, h.c, KR.cell] <;> rfl))) (takeP_any pr [2] _ 1 l' b' _ h Kkc (by decide) (by have := hsub.1; omega)) ?_
      rintro e w6 ⟨rfl, h, T1⟩
      refine ⟨_, rfl, fun a hA => ?_⟩
      replace K := Apart.blk T1 K hpc
      replace TC := TC.turn T1
      replace hw := hw.turn hG T1
      replace hsub := (sub_take [2] l' b').trans hsub
      clear T1
      refine wl_call hA rfl rfl (by decide) (fun ev h => exec_call Tryz.func108 (by kernel_rfl) rfl (h.f _) (by first | (simp only [mL, h.get 27 rfl, h.c] <;> rfl) | (simp [mL, h.get 27 rfl, h.c, KR.cell] <;> rfl))) (dateW_any (takeT [2] l' b') _ (by omega)) ?_
      rintro e w7 ⟨t7, ok7, rfl, hb7⟩
      refine ⟨_, rfl, fun a hA => ?_⟩
      replace h := h.below hb7
      replace K := K.below hb7 K.lt
      replace TC := TC.turn (TurnR.of hb7)
      replace hw := hw.below hb7
      obtain ⟨AR2, cR2, KR2, -, -, -⟩ := h.ex
      revert a; (iterate 5 refine wo rfl rfl (by decide) (fun ev e h => by simp [go_sem, h, KR2.cell] <;> rfl) ?_); intro a hA
      replace hA := hA.keepN [0, 1, 4, 5]
      refine wN (nT (wR ?_))
      revert a; (iterate 9 refine wo rfl rfl (by decide) (fun ev e h => by simp [go_sem, h, KR2.cell] <;> rfl) ?_); refine wg _ rfl rfl rfl rfl (by decide) (fun hq ev e h => by simp [go_sem, h, ↓gw_t (beq_t hq), KR2.cell] <;> rfl) ?_; intro a hA
      replace hA := hA.keepN [0, 1, 31, 32, 33, 34, 39, 40]
      revert a; refine wg _ rfl rfl rfl rfl (by decide) (fun hq ev e h => by simp [go_sem, h, ↓gw_t (beq_t hq), KR2.cell] <;> rfl) ?_; refine wko rfl rfl (by decide) rfl rfl rfl ?_; (iterate 2 refine wo rfl rfl (by decide) (fun ev e h => by simp [go_sem, h, KR2.cell] <;> rfl) ?_); intro a hA
      have K0 := K
      refine wl_setf ([.string tag, .string nm, .bool uid, .string us, .string pw, .string sw1, .string rf, .string pt, .int .i64 fl', .int .i64 hx, .bool si, .bool true, .int .i64 dt, oc.v, st.v, it.v, ks.v]) _ hA rfl rfl K (j := 11) (by rfl) (fun ev h => by simp [go_sem, h.c, h.get 44 rfl, KR2.cell, K.cell, K.frozen]; try first | exact ⟨rfl, rfl⟩ | rfl) fun w8 (K : Blk _ _ _ _) hs => ?_
      replace h := rd_only h K0 hs
      replace TC := TC.put hs
      replace hw := hw.keep (hs.below (Below.refl _ _) hG2)
      clear K0 hs
      revert a; (iterate 2 refine wo rfl rfl (by decide) (fun ev e h => by simp [go_sem, h, KR2.cell] <;> rfl) ?_); intro a hA
      have K0 := K
      refine wl_setf ([.string tag, .string nm, .bool uid, .string us, .string pw, .string sw1, .string rf, .string pt, .int .i64 fl', .int .i64 hx, .bool si, .bool true, .int .i64 t7, oc.v, st.v, it.v, ks.v]) _ hA rfl rfl K (j := 12) (by rfl) (fun ev h => by simp [go_sem, h.get 46 rfl, h.get 34 rfl, KR2.cell, K.cell, K.frozen]; try first | exact ⟨rfl, rfl⟩ | rfl) fun w9 (K : Blk _ _ _ _) hs => ?_
      replace h := rd_only h K0 hs
      replace TC := TC.put hs
      replace hw := hw.keep (hs.below (Below.refl _ _) hG2)
      clear K0 hs
      obtain ⟨ARw10, cRw10, KRw10, hrw10, hcw10, htkw10⟩ := h.ex
      have KR0w10 := KRw10
      revert a; (iterate 2 refine wo rfl rfl (by decide) (fun ev e h => by simp [go_sem, h, KRw10.cell, K.cell] <;> rfl) ?_); intro a hA
      refine wl_setf ([.slice ARw10 ((takeL [2] l' b')).length cRw10, .bool (!okT [2] l' b' || !ok7)]) _ hA rfl rfl KRw10 (j := 1) (by rfl) (fun ev h => by simp [go_sem, h.get 48 rfl, h.get 42 rfl, KRw10.cell, K.cell, KRw10.cell, KRw10.frozen]; try first | exact ⟨rfl, rfl⟩ | rfl) fun w10 (KRw10 : Blk _ _ _ _) hsw10 => ?_
      have hqw10 := rows_turnP hrw10 htkw10 KR0w10 (Apart.only (Apart.refl (fun i => i = pr) _) hsw10 (.inr rfl))
      clear h
      have h : RdP w10 pr ((takeL [2] l' b')) (!okT [2] l' b' || !ok7) := ⟨ARw10, cRw10, KRw10, hqw10.1, hcw10, hqw10.2⟩
      replace K := hsw10.blk K hpc
      replace TC := TC.put1 hsw10
      replace hw := hw.keep (hsw10.below (Below.refl _ _) hG)
      replace hA := hA.keepN [0, 1]
      refine wN (nT ?_)
      exact ⟨_, _, _, _, hA, h, K, TC, hw, hsub⟩
    case nB =>
      replace hA := hA.keepN [0, 1]
      refine wp_skip (nT ?_)
      exact ⟨_, _, _, _, hA, h, K, TC, hw, hsub⟩
  clear hA h K TC hw hsub KR
  rintro a wy ⟨hd', dt', l2, b2, hA, h, K, TC, hw, hsub⟩
  refine wR ?_
  revert a; (iterate 2 refine wo rfl rfl (by decide) (fun ev e h => by simp [go_sem, h, K.cell] <;> rfl) ?_); intro a hA
  refine wl_new hA rfl rfl (by decide) (fun ev h => by simp [go_sem, h.c, K.cell]; try first | exact ⟨rfl, rfl⟩ | rfl) fun w11a a (Kkd : Blk _ _ _ _) hzkd hbkd hA => ?_
  replace h := h.below hbkd
  replace K := K.below hbkd K.lt
  replace TC := TC.turn (TurnR.of hbkd)
  replace hw := hw.below hbkd
  have htsd : (takeT [2] l2 b2).length ≤ 1048576 := takeT_len (hsub.small ht)
  refine wl_call hA rfl rfl (by decide) (fun ev h => exec_call Tryz.func49 (by kernel_rfl) rfl (h.f _) (by first | (simp only [mL, h.get 50 rfl, h.get 51 rfl, h.c] <;> rfl) | (simp [mL, h.get 50 rfl, h.get 51 rfl, h.c, K.cell] <;> rfl))) (takeP_any pr [2] _ 1 l2 b2 _ h Kkd (by decide) (by have := hsub.1; omega)) ?_
  rintro e w11 ⟨rfl, h, T1⟩
  refine ⟨_, rfl, fun a hA => ?_⟩
  replace K := Apart.blk T1 K hpc
  replace TC := TC.turn T1
  replace hw := hw.turn hG T1
  replace hsub := (sub_take [2] l2 b2).trans hsub
  clear T1
  obtain ⟨cc, w12, hcv, hKb, hb12, hz12⟩ := conv_bytF (takeT [2] l2 b2) w11
  refine wl_op hA rfl rfl (by decide) (fun ev h => by simp [go_sem, h.get 52 rfl, K.cell, hcv]; try first | exact ⟨rfl, rfl⟩ | rfl) fun a hA => ?_
  replace h := h.below hb12
  replace K := K.below hb12 K.lt
  replace TC := TC.turn (TurnR.of hb12)
  replace hw := hw.below hb12
  revert a; (iterate 2 refine wo rfl rfl (by decide) (fun ev e h => by simp [go_sem, h, K.cell] <;> rfl) ?_); intro a hA
  have K0 := K
  refine wl_setf ([.string tag, .string nm, .bool uid, .string us, .string pw, .string sw1, .string rf, .string pt, .int .i64 fl', .int .i64 hx, .bool si, .bool hd', .int .i64 dt', .slice (some ⟨w11.heap.size, 0, none⟩) (takeT [2] l2 b2).length cc, st.v, it.v, ks.v]) _ hA rfl rfl K (j := 13) (by rfl) (fun ev h => by simp [go_sem, h.get 55 rfl, h.get 53 rfl, K.cell, K.cell, K.frozen]; try first | exact ⟨rfl, rfl⟩ | rfl) fun w13 (K : Blk _ _ _ _) hs => ?_
  replace h := rd_only h K0 hs
  replace TC := TC.put hs
  replace hw := hw.keep (hs.below (Below.refl _ _) hG2)
  clear K0 hs
  refine wN ?_
  exact end_0 hA rfl ⟨rfl, ⟨⟨⟨tag, nm, uid, us, pw, sw1, rf, pt, fl', hx, si, hd', dt', ⟨some ⟨w11.heap.size, 0, none⟩, (takeT [2] l2 b2).length, cc⟩, st, it, ks⟩, _, _, h, K, rfl, hsub⟩, TC⟩⟩
set_option maxRecDepth 100000 in
set_option maxHeartbeats 8000000 in
theorem numberedP_any (pr pc : Nat) (l : List TokI) (bad : Bool) (v : CmdV) (w : World) (h : RdP w pr l bad) (K : Blk w pc 66 (cmdC v)) {G : Nat} (hw : FineG G w) (hG : G ≤ pr) (hG2 : G ≤ pc) (hl : l.length ≤ 1048576) (ht : ∀ t ∈ l, t.t.length ≤ 1048576) : Calls Tryz.prog 78 #[.pointer (some ⟨pr, 0, none⟩), .pointer (some ⟨pc, 0, none⟩)] w fun ev w' => (∃ q, ev = .returned (.bool q)) ∧ Filled pr pc G v.tag l w w' := by
  obtain ⟨tag, nm, uid, us, pw, bx, rf, pt, fl, hx, si, hd, dt, oc, st, it, ks⟩ := v
  unfold cmdC at K
  have hpc : pc ≠ pr := by
    obtain ⟨cs, k⟩ := h.blk
    exact blk_ne K k (by decide)
  have TC : TurnC pr pc w w := Apart.refl _ _
  have hsub := Sub.refl l
  refine calls_at 45 Tryz.func78 rfl rfl (Nat.le_of_ble_eq_true rfl) ?_
  intro a hA; replace hA := hA.norm
  refine wS (wR ?_)
  revert a; refine wo rfl rfl (by decide) (fun ev e h => by simp [go_sem, h, K.cell] <;> rfl) ?_; intro a hA
  replace hA := hA.keepN [0, 1]
  refine wN (nT (wS (wS (wR ?_))))
  revert a; (iterate 4 refine wo rfl rfl (by decide) (fun ev e h => by simp [go_sem, h, K.cell] <;> rfl) ?_); intro a hA
  replace hA := hA.keepN [0, 1, 8]
  refine wN (nT (wB (wS (wR ?_))))
  revert a; (iterate 2 refine wo rfl rfl (by decide) (fun ev e h => by simp [go_sem, h, K.cell] <;> rfl) ?_); intro a hA
  replace hA := hA.keepN [0, 1, 8, 9]
  refine wN (nT ?_)
  refine wp_if hA 9 _ rfl (fun hq => ?yA) (fun hq => ?nA)
  case yA =>
    refine wS (wR ?_)
    revert a; (iterate 2 refine wo rfl rfl (by decide) (fun ev e h => by simp [go_sem, h, K.cell] <;> rfl) ?_); intro a hA
    refine wl_call hA rfl rfl (by decide) (fun ev h => exec_call Tryz.func77 (by kernel_rfl) rfl (h.f _) (by first | (simp only [mL, h.get 12 rfl, h.c] <;> rfl) | (simp [mL, h.get 12 rfl, h.c, K.cell] <;> rfl))) (setP_any pr l bad _ h hw hG hl ht) ?_
    rintro e w1 ⟨A1, n1, c1, b1, rfl, h, T1⟩
    refine ⟨_, rfl, fun a hA => ?_⟩
    replace K := Apart.blk T1 K hpc
    replace TC := TC.turn T1
    replace hw := hw.turn hG T1
    replace hsub := (sub_take [1] l bad).trans hsub
    clear T1
    revert a; (iterate 2 refine wo rfl rfl (by decide) (fun ev e h => by simp [go_sem, h, K.cell] <;> rfl) ?_); intro a hA
    have K0 := K
    refine wl_setf ([.string tag, .string nm, .bool uid, .string us, .string pw, .string bx, .string rf, .string pt, .int .i64 fl, .int .i64 hx, .bool si, .bool hd, .int .i64 dt, oc.v, .slice A1 n1 c1, it.v, ks.v]) _ hA rfl rfl K (j := 14) (by rfl) (fun ev h => by simp [go_sem, h.get 15 rfl, h.get 13 rfl, K.cell, K.cell, K.frozen]; try first | exact ⟨rfl, rfl⟩ | rfl) fun w2 (K : Blk _ _ _ _) hs => ?_
    replace h := rd_only h K0 hs
    replace TC := TC.put hs
    replace hw := hw.keep (hs.below (Below.refl _ _) hG2)
    clear K0 hs
    replace hA := hA.keepN [0, 1]
    refine wN (nT (wR ?_))
    revert a; (iterate 2 refine wo rfl rfl (by decide) (fun ev e h => by simp [go_sem, h, K.cell] <;> rfl) ?_); intro a hA
    refine wl_call hA rfl rfl (by decide) (fun ev h => exec_call Tryz.func110 (by kernel_rfl) rfl (h.f _) (by first | (simp only [mL, h.get 17 rfl, h.c] <;> rfl) | (simp [mL, h.get 17 rfl, h.c, K.cell] <;> rfl))) (itemsP_any pr (takeL [1] l bad) b1 _ h (by have := hsub.1; omega) (hsub.small ht)) ?_
    rintro e w3 ⟨A3, n3, c3, l3, b3, rfl, h, sub3, T1⟩
    refine ⟨_, rfl, fun a hA => ?_⟩
    replace K := Apart.blk T1 K hpc
    replace TC := TC.turn T1
    replace hw := hw.turn hG T1
    replace hsub := (sub3).trans hsub
    clear T1
    revert a; (iterate 2 refine wo rfl rfl (by decide) (fun ev e h => by simp [go_sem, h, K.cell] <;> rfl) ?_); intro a hA
    have K0 := K
    refine wl_setf ([.string tag, .string nm, .bool uid, .string us, .string pw, .string bx, .string rf, .string pt, .int .i64 fl, .int .i64 hx, .bool si, .bool hd, .int .i64 dt, oc.v, .slice A1 n1 c1, .slice A3 n3 c3, ks.v]) _ hA rfl rfl K (j := 15) (by rfl) (fun ev h => by simp [go_sem, h.get 20 rfl, h.get 18 rfl, K.cell, K.cell, K.frozen]; try first | exact ⟨rfl, rfl⟩ | rfl) fun w4 (K : Blk _ _ _ _) hs => ?_
    replace h := rd_only h K0 hs
    replace TC := TC.put hs
    replace hw := hw.keep (hs.below (Below.refl _ _) hG2)
    clear K0 hs
    replace hA := hA.keepN []
    refine wN (nB (nT (wS (wR ?_))))
    revert a; refine wo rfl rfl (by decide) (fun ev e h => by simp [go_sem, h, K.cell] <;> rfl) ?_; intro a hA
    replace hA := hA.keepN [4]
    refine wN (nT (wp_ret ?_))
    refine ret_1 hA 4 rfl rfl ?_
    exact ⟨⟨_, rfl⟩, ⟨⟨⟨tag, nm, uid, us, pw, bx, rf, pt, fl, hx, si, hd, dt, oc, ⟨A1, n1, c1⟩, ⟨A3, n3, c3⟩, ks⟩, _, _, h, K, rfl, hsub⟩, TC⟩⟩
  case nA =>
    refine wS (wR ?_)
    revert a; (iterate 2 refine wo rfl rfl (by decide) (fun ev e h => by simp [go_sem, h, K.cell] <;> rfl) ?_); intro a hA
    replace hA := hA.keepN [0, 1, 8, 21]
    refine wN (nT ?_)
    refine wp_if hA 21 _ rfl (fun hq2 => ?yB) (fun hq2 => ?nB)
    case yB =>
      refine wR ?_
      revert a; (iterate 2 refine wo rfl rfl (by decide) (fun ev e h => by simp [go_sem, h, K.cell] <;> rfl) ?_); intro a hA
      refine wl_call hA rfl rfl (by decide) (fun ev h => exec_call Tryz.func111 (by kernel_rfl) rfl (h.f _) (by first | (simp only [mL, h.get 23 rfl, h.get 24 rfl, h.c] <;> rfl) | (simp [mL, h.get 23 rfl, h.get 24 rfl, h.c, K.cell] <;> rfl))) (storeP_any pr pc l bad ⟨tag, nm, uid, us, pw, bx, rf, pt, fl, hx, si, hd, dt, oc, st, it, ks⟩ _ h K hw hG hG2 hl ht) ?_
      rintro e w1 ⟨rfl, ⟨⟨v2, l2, b2, h2, K2, ht2, sub2⟩, TC2⟩⟩
      refine ⟨_, rfl, fun a hA => ?_⟩
      replace hA := hA.keepN []
      refine wN (nB (nT (wS (wR ?_))))
      revert a; refine wo rfl rfl (by decide) (fun ev e h => by simp [go_sem, h, K.cell] <;> rfl) ?_; intro a hA
      replace hA := hA.keepN [4]
      refine wN (nT (wp_ret ?_))
      refine ret_1 hA 4 rfl rfl ?_
      exact ⟨⟨_, rfl⟩, ⟨⟨v2, l2, b2, h2, K2, ht2, sub2⟩, TC2⟩⟩
    case nB =>
      refine wS (wR ?_)
      revert a; (iterate 2 refine wo rfl rfl (by decide) (fun ev e h => by simp [go_sem, h, K.cell] <;> rfl) ?_); intro a hA
      replace hA := hA.keepN [0, 1, 8, 26]
      refine wN (nT ?_)
      refine wp_if hA 26 _ rfl (fun hq3 => ?yC) (fun hq3 => ?nC)
      case yC =>
        refine wS (wR ?_)
        revert a; (iterate 2 refine wo rfl rfl (by decide) (fun ev e h => by simp [go_sem, h, K.cell] <;> rfl) ?_); intro a hA
        refine wl_call hA rfl rfl (by decide) (fun ev h => exec_call Tryz.func77 (by kernel_rfl) rfl (h.f _) (by first | (simp only [mL, h.get 29 rfl, h.c] <;> rfl) | (simp [mL, h.get 29 rfl, h.c, K.cell] <;> rfl))) (setP_any pr l bad _ h hw hG hl ht) ?_
        rintro e w1 ⟨A1, n1, c1, b1, rfl, h, T1⟩
        refine ⟨_, rfl, fun a hA => ?_⟩
        replace K := Apart.blk T1 K hpc
        replace TC := TC.turn T1
        replace hw := hw.turn hG T1
        replace hsub := (sub_take [1] l bad).trans hsub
        clear T1
        revert a; (iterate 2 refine wo rfl rfl (by decide) (fun ev e h => by simp [go_sem, h, K.cell] <;> rfl) ?_); intro a hA
        have K0 := K
        refine wl_setf ([.string tag, .string nm, .bool uid, .string us, .string pw, .string bx, .string rf, .string pt, .int .i64 fl, .int .i64 hx, .bool si, .bool hd, .int .i64 dt, oc.v, .slice A1 n1 c1, it.v, ks.v]) _ hA rfl rfl K (j := 14) (by rfl) (fun ev h => by simp [go_sem, h.get 32 rfl, h.get 30 rfl, K.cell, K.cell, K.frozen]; try first | exact ⟨rfl, rfl⟩ | rfl) fun w2 (K : Blk _ _ _ _) hs => ?_
        replace h := rd_only h K0 hs
        replace TC := TC.put hs
        replace hw := hw.keep (hs.below (Below.refl _ _) hG2)
        clear K0 hs
        replace hA := hA.keepN [0, 1]
        refine wN (nT (wR ?_))
        revert a; (iterate 2 refine wo rfl rfl (by decide) (fun ev e h => by simp [go_sem, h, K.cell] <;> rfl) ?_); intro a hA
        refine wl_call hA rfl rfl (by decide) (fun ev h => exec_call Tryz.func75 (by kernel_rfl) rfl (h.f _) (by first | (simp only [mL, h.get 34 rfl, h.c] <;> rfl) | (simp [mL, h.get 34 rfl, h.c, K.cell] <;> rfl))) (boxP_any pr (takeL [1] l bad) b1 _ h hw hG (by have := hsub.1; omega) (hsub.small ht)) ?_
        rintro e w3 ⟨sw3, bw3, rfl, h, T1⟩
        refine ⟨_, rfl, fun a hA => ?_⟩
        replace K := Apart.blk T1 K hpc
        replace TC := TC.turn T1
        replace hw := hw.turn hG T1
        replace hsub := (sub_take [1, 2] (takeL [1] l bad) b1).trans hsub
        clear T1
        revert a; (iterate 2 refine wo rfl rfl (by decide) (fun ev e h => by simp [go_sem, h, K.cell] <;> rfl) ?_); intro a hA
        have K0 := K
        refine wl_setf ([.string tag, .string nm, .bool uid, .string us, .string pw, .string sw3, .string rf, .string pt, .int .i64 fl, .int .i64 hx, .bool si, .bool hd, .int .i64 dt, oc.v, .slice A1 n1 c1, it.v, ks.v]) _ hA rfl rfl K (j := 5) (by rfl) (fun ev h => by simp [go_sem, h.get 37 rfl, h.get 35 rfl, K.cell, K.cell, K.frozen]; try first | exact ⟨rfl, rfl⟩ | rfl) fun w4 (K : Blk _ _ _ _) hs => ?_
        replace h := rd_only h K0 hs
        replace TC := TC.put hs
        replace hw := hw.keep (hs.below (Below.refl _ _) hG2)
        clear K0 hs
        replace hA := hA.keepN []
        refine wN (nB (nT (wS (wR ?_))))
        revert a; refine wo rfl rfl (by decide) (fun ev e h => by simp [go_sem, h, K.cell] <;> rfl) ?_; intro a hA
        replace hA := hA.keepN [4]
        refine wN (nT (wp_ret ?_))
        refine ret_1 hA 4 rfl rfl ?_
        exact ⟨⟨_, rfl⟩, ⟨⟨⟨tag, nm, uid, us, pw, sw3, rf, pt, fl, hx, si, hd, dt, oc, ⟨A1, n1, c1⟩, it, ks⟩, _, _, h, K, rfl, hsub⟩, TC⟩⟩
      case nC =>
        refine wS (wR ?_)
        revert a; (iterate 2 refine wo rfl rfl (by decide) (fun ev e h => by simp [go_sem, h, K.cell] <;> rfl) ?_); intro a hA
        replace hA := hA.keepN [0, 1, 38]
        refine wN (nT ?_)
        refine wp_if hA 38 _ rfl (fun hq4 => ?yD) (fun hq4 => ?nD)
        case yD =>
          refine wR ?_
          revert a; (iterate 2 refine wo rfl rfl (by decide) (fun ev e h => by simp [go_sem, h, K.cell] <;> rfl) ?_); intro a hA
          refine wl_call hA rfl rfl (by decide) (fun ev h => exec_call Tryz.func112 (by kernel_rfl) rfl (h.f _) (by first | (simp only [mL, h.get 41 rfl, h.c] <;> rfl) | (simp [mL, h.get 41 rfl, h.c, K.cell] <;> rfl))) (keysP_any pr l bad _ h hl) ?_
          rintro e w1 ⟨A1, c1, b1, rfl, h, T1⟩
          refine ⟨_, rfl, fun a hA => ?_⟩
          replace K := Apart.blk T1 K hpc
          replace TC := TC.turn T1
          replace hw := hw.turn hG T1
          replace hsub := (sub_nil l).trans hsub
          clear T1
          revert a; (iterate 2 refine wo rfl rfl (by decide) (fun ev e h => by simp [go_sem, h, K.cell] <;> rfl) ?_); intro a hA
          have K0 := K
          refine wl_setf ([.string tag, .string nm, .bool uid, .string us, .string pw, .string bx, .string rf, .string pt, .int .i64 fl, .int .i64 hx, .bool si, .bool hd, .int .i64 dt, oc.v, st.v, it.v, .slice A1 l.length c1]) _ hA rfl rfl K (j := 16) (by rfl) (fun ev h => by simp [go_sem, h.get 44 rfl, h.get 42 rfl, K.cell, K.cell, K.frozen]; try first | exact ⟨rfl, rfl⟩ | rfl) fun w2 (K : Blk _ _ _ _) hs => ?_
          replace h := rd_only h K0 hs
          replace TC := TC.put hs
          replace hw := hw.keep (hs.below (Below.refl _ _) hG2)
          clear K0 hs
          replace hA := hA.keepN []
          refine wN (nB (nT (wS (wR ?_))))
          revert a; refine wo rfl rfl (by decide) (fun ev e h => by simp [go_sem, h, K.cell] <;> rfl) ?_; intro a hA
          replace hA := hA.keepN [4]
          refine wN (nT (wp_ret ?_))
          refine ret_1 hA 4 rfl rfl ?_
          exact ⟨⟨_, rfl⟩, ⟨⟨⟨tag, nm, uid, us, pw, bx, rf, pt, fl, hx, si, hd, dt, oc, st, it, ⟨A1, l.length, c1⟩⟩, _, _, h, K, rfl, hsub⟩, TC⟩⟩
        case nD =>
          refine wS (wR ?_)
          revert a; refine wo rfl rfl (by decide) (fun ev e h => by simp [go_sem, h, K.cell] <;> rfl) ?_; intro a hA
          replace hA := hA.keepN [4]
          refine wN (nT (wp_ret (rB (rT ?_))))
          refine ret_1 hA 4 rfl rfl ?_
          exact ⟨⟨_, rfl⟩, ⟨⟨⟨tag, nm, uid, us, pw, bx, rf, pt, fl, hx, si, hd, dt, oc, st, it, ks⟩, _, _, h, K, rfl, hsub⟩, TC⟩⟩
end Go.Proofs.YtjhaccmcjlbllaaGreatDoor
/-
  Walk: parse.arguments.
-/
namespace Go.Proofs.YtjhaccmcjlbllaaGreatDoor
open Go.RowKit
set_option linter.unusedSimpArgs false
set_option linter.unusedVariables false
set_option linter.unusedSimpArgs false
set_option linter.unusedVariables false
set_option maxRecDepth 100000 in
set_option maxHeartbeats 8000000 in
theorem argumentsP_any (pr pc : Nat) (l : List TokI) (bad : Bool) (v : CmdV) (w : World) (h : RdP w pr l bad) (K : Blk w pc 66 (cmdC v)) {G : Nat} (hw : FineG G w) (hG : G ≤ pr) (hG2 : G ≤ pc) (hl : l.length ≤ 1048576) (ht : ∀ t ∈ l, t.t.length ≤ 1048576) : Calls Tryz.prog 52 #[.pointer (some ⟨pr, 0, none⟩), .pointer (some ⟨pc, 0, none⟩)] w fun ev w' => ev = .returned (.tuple #[]) ∧ Filled pr pc G v.tag l w w' := by
  obtain ⟨tag, nm, uid, us, pw, bx, rf, pt, fl, hx, si, hd, dt, oc, st, it, ks⟩ := v
  unfold cmdC at K
  have hpc : pc ≠ pr := by
    obtain ⟨cs, k⟩ := h.blk
    exact blk_ne K k (by decide)
  have TC : TurnC pr pc w w := Apart.refl _ _
  have hsub := Sub.refl l
  refine calls_at 106 Tryz.func52 rfl rfl (Nat.le_of_ble_eq_true rfl) ?_
  intro a hA; replace hA := hA.norm
  refine wS (wR ?_)
  revert a; (iterate 4 refine wo rfl rfl (by decide) (fun ev e h => by simp [go_sem, h, K.cell] <;> rfl) ?_); intro a hA
  replace hA := hA.keepN [0, 1, 7]
  refine wN (nT (wB (wS (wS (wR ?_)))))
  revert a; (iterate 2 refine wo rfl rfl (by decide) (fun ev e h => by simp [go_sem, h, K.cell] <;> rfl) ?_); intro a hA
  replace hA := hA.keepN [0, 1, 7, 15]
  refine wN (nT ?_)
  refine wp_join (fun a wx => ∃ q : Bool, w = wx ∧ At 106 [(0, .pointer (some ⟨pr, 0, none⟩)), (1, .pointer (some ⟨pc, 0, none⟩)), (7, .string nm), (15, .bool q)] a) ?jfJ ?jrJ
  case jfJ =>
    refine wp_if hA 15 _ rfl (fun gJ0 => ?yJ0) (fun gJ0 => ?nJ0)
    case yJ0 =>
      replace hA := hA.keepN [0, 1, 7, 15]
      refine wp_skip (nT ?_)
      exact ⟨_, rfl, hA⟩
    case nJ0 =>
      refine wS (wR ?_)
      revert a; (iterate 2 refine wo rfl rfl (by decide) (fun ev e h => by simp [go_sem, h, K.cell] <;> rfl) ?_); intro a hA
      replace hA := hA.keepN [0, 1, 7, 15]
      refine wN (nT ?_)
      refine wp_if hA 15 _ rfl (fun gJ1 => ?yJ1) (fun gJ1 => ?nJ1)
      case yJ1 =>
        replace hA := hA.keepN [0, 1, 7, 15]
        refine wp_skip (nT ?_)
        exact ⟨_, rfl, hA⟩
      case nJ1 =>
        refine wS (wR ?_)
        revert a; (iterate 2 refine wo rfl rfl (by decide) (fun ev e h => by simp [go_sem, h, K.cell] <;> rfl) ?_); intro a hA
        replace hA := hA.keepN [0, 1, 7, 15]
        refine wN (nT ?_)
        refine wp_if hA 15 _ rfl (fun gJ2 => ?yJ2) (fun gJ2 => ?nJ2)
        case yJ2 =>
          replace hA := hA.keepN [0, 1, 7, 15]
          refine wp_skip (nT ?_)
          exact ⟨_, rfl, hA⟩
        case nJ2 =>
          refine wS (wR ?_)
          revert a; (iterate 2 refine wo rfl rfl (by decide) (fun ev e h => by simp [go_sem, h, K.cell] <;> rfl) ?_); intro a hA
          replace hA := hA.keepN [0, 1, 7, 15]
          refine wN (nT ?_)
          refine wp_if hA 15 _ rfl (fun gJ3 => ?yJ3) (fun gJ3 => ?nJ3)
          case yJ3 =>
            replace hA := hA.keepN [0, 1, 7, 15]
            refine wp_skip (nT ?_)
            exact ⟨_, rfl, hA⟩
          case nJ3 =>
            refine wS (wR ?_)
            revert a; (iterate 2 refine wo rfl rfl (by decide) (fun ev e h => by simp [go_sem, h, K.cell] <;> rfl) ?_); intro a hA
            replace hA := hA.keepN [0, 1, 7, 15]
            refine wN (nT ?_)
            refine wp_if hA 15 _ rfl (fun gJ4 => ?yJ4) (fun gJ4 => ?nJ4)
            case yJ4 =>
              replace hA := hA.keepN [0, 1, 7, 15]
              refine wp_skip (nT ?_)
              exact ⟨_, rfl, hA⟩
            case nJ4 =>
              refine wS (wR ?_)
              revert a; (iterate 2 refine wo rfl rfl (by decide) (fun ev e h => by simp [go_sem, h, K.cell] <;> rfl) ?_); intro a hA
              replace hA := hA.keepN [0, 1, 7, 15]
              refine wN (nT ?_)
              refine wp_if hA 15 _ rfl (fun gJ5 => ?yJ5) (fun gJ5 => ?nJ5)
              case yJ5 =>
                replace hA := hA.keepN [0, 1, 7, 15]
                refine wp_skip (nT ?_)
                exact ⟨_, rfl, hA⟩
              case nJ5 =>
                refine wR ?_
                revert a; (iterate 2 refine wo rfl rfl (by decide) (fun ev e h => by simp [go_sem, h, K.cell] <;> rfl) ?_); intro a hA
                replace hA := hA.keepN [0, 1, 7, 15]
                refine wN (nT ?_)
                exact ⟨_, rfl, hA⟩
  clear hA
  rintro a wx ⟨qJ, rfl, hA⟩
  refine wp_if hA 15 _ rfl (fun gA => ?yA) (fun gA => ?nA)
  case yA =>
    refine wp_skip (nB ?_)
    exact end_0 hA rfl ⟨rfl, ⟨⟨⟨tag, nm, uid, us, pw, bx, rf, pt, fl, hx, si, hd, dt, oc, st, it, ks⟩, _, _, h, K, rfl, hsub⟩, TC⟩⟩
  case nA =>
    refine wS (wR ?_)
    revert a; (iterate 2 refine wo rfl rfl (by decide) (fun ev e h => by simp [go_sem, h, K.cell] <;> rfl) ?_); intro a hA
    replace hA := hA.keepN [0, 1, 7, 23]
    refine wN (nT ?_)
    refine wp_if hA 23 _ rfl (fun gB => ?yB) (fun gB => ?nB)
    case yB =>
      refine wR ?_
      revert a; (iterate 3 refine wo rfl rfl (by decide) (fun ev e h => by simp [go_sem, h, K.cell] <;> rfl) ?_); intro a hA
      refine wl_call hA rfl rfl (by decide) (fun ev h => exec_call Tryz.func74 (by kernel_rfl) rfl (h.f _) (by first | (simp only [mL, h.get 27 rfl, h.c] <;> rfl) | (simp [mL, h.get 27 rfl, h.c, K.cell] <;> rfl))) (wordP_any pr l bad _ h (by have := hsub.1; omega)) ?_
      rintro e w1 ⟨rfl, h, T1⟩
      refine ⟨_, rfl, fun a hA => ?_⟩
      replace K := Apart.blk T1 K hpc
      replace TC := TC.turn T1
      replace hw := hw.turn hG T1
      replace hsub := (sub_take [1, 2] l bad).trans hsub
      clear T1
      revert a; refine wo rfl rfl (by decide) (fun ev e h => by simp [go_sem, h, K.cell] <;> rfl) ?_; intro a hA
      refine wl_call hA rfl rfl (by decide) (fun ev h => exec_call Tryz.func74 (by kernel_rfl) rfl (h.f _) (by first | (simp only [mL, h.get 29 rfl, h.c] <;> rfl) | (simp [mL, h.get 29 rfl, h.c, K.cell] <;> rfl))) (wordP_any pr (takeL [1, 2] l bad) (!okT [1, 2] l bad) _ h (by have := hsub.1; omega)) ?_
      rintro e w2 ⟨rfl, h, T1⟩
      refine ⟨_, rfl, fun a hA => ?_⟩
      replace K := Apart.blk T1 K hpc
      replace TC := TC.turn T1
      replace hw := hw.turn hG T1
      replace hsub := (sub_take [1, 2] (takeL [1, 2] l bad) (!okT [1, 2] l bad)).trans hsub
      clear T1
      revert a; (iterate 2 refine wo rfl rfl (by decide) (fun ev e h => by simp [go_sem, h, K.cell] <;> rfl) ?_); intro a hA
      have K0 := K
      refine wl_setf ([.string tag, .string nm, .bool uid, .string (St (takeT [1, 2] l bad)), .string pw, .string bx, .string rf, .string pt, .int .i64 fl, .int .i64 hx, .bool si, .bool hd, .int .i64 dt, oc.v, st.v, it.v, ks.v]) _ hA rfl rfl K (j := 3) (by rfl) (fun ev h => by simp [go_sem, h.get 32 rfl, h.get 28 rfl, K.cell, K.cell, K.frozen]; try first | exact ⟨rfl, rfl⟩ | rfl) fun w3 (K : Blk _ _ _ _) hs => ?_
      replace h := rd_only h K0 hs
      replace TC := TC.put hs
      replace hw := hw.keep (hs.below (Below.refl _ _) hG2)
      clear K0 hs
      revert a; (iterate 2 refine wo rfl rfl (by decide) (fun ev e h => by simp [go_sem, h, K.cell] <;> rfl) ?_); intro a hA
      have K0 := K
      refine wl_setf ([.string tag, .string nm, .bool uid, .string (St (takeT [1, 2] l bad)), .string (St (takeT [1, 2] (takeL [1, 2] l bad) (!okT [1, 2] l bad))), .string bx, .string rf, .string pt, .int .i64 fl, .int .i64 hx, .bool si, .bool hd, .int .i64 dt, oc.v, st.v, it.v, ks.v]) _ hA rfl rfl K (j := 4) (by rfl) (fun ev h => by simp [go_sem, h.get 34 rfl, h.get 30 rfl, K.cell, K.cell, K.frozen]; try first | exact ⟨rfl, rfl⟩ | rfl) fun w4 (K : Blk _ _ _ _) hs => ?_
      replace h := rd_only h K0 hs
      replace TC := TC.put hs
      replace hw := hw.keep (hs.below (Below.refl _ _) hG2)
      clear K0 hs
      refine wN (nB ?_)
      exact end_0 hA rfl ⟨rfl, ⟨⟨⟨tag, nm, uid, (St (takeT [1, 2] l bad)), (St (takeT [1, 2] (takeL [1, 2] l bad) (!okT [1, 2] l bad))), bx, rf, pt, fl, hx, si, hd, dt, oc, st, it, ks⟩, _, _, h, K, rfl, hsub⟩, TC⟩⟩
    case nB =>
      refine wS (wS (wR ?_))
      revert a; (iterate 2 refine wo rfl rfl (by decide) (fun ev e h => by simp [go_sem, h, K.cell] <;> rfl) ?_); intro a hA
      replace hA := hA.keepN [0, 1, 7, 35]
      refine wN (nT ?_)
      refine wp_join (fun a wx => ∃ q : Bool, w = wx ∧ At 106 [(0, .pointer (some ⟨pr, 0, none⟩)), (1, .pointer (some ⟨pc, 0, none⟩)), (7, .string nm), (35, .bool q)] a) ?jfK ?jrK
      case jfK =>
        refine wp_if hA 35 _ rfl (fun gK0 => ?yK0) (fun gK0 => ?nK0)
        case yK0 =>
          replace hA := hA.keepN [0, 1, 7, 35]
          refine wp_skip (nT ?_)
          exact ⟨_, rfl, hA⟩
        case nK0 =>
          refine wS (wR ?_)
          revert a; (iterate 2 refine wo rfl rfl (by decide) (fun ev e h => by simp [go_sem, h, K.cell] <;> rfl) ?_); intro a hA
          replace hA := hA.keepN [0, 1, 7, 35]
          refine wN (nT ?_)
          refine wp_if hA 35 _ rfl (fun gK1 => ?yK1) (fun gK1 => ?nK1)
          case yK1 =>
            replace hA := hA.keepN [0, 1, 7, 35]
            refine wp_skip (nT ?_)
            exact ⟨_, rfl, hA⟩
          case nK1 =>
            refine wS (wR ?_)
            revert a; (iterate 2 refine wo rfl rfl (by decide) (fun ev e h => by simp [go_sem, h, K.cell] <;> rfl) ?_); intro a hA
            replace hA := hA.keepN [0, 1, 7, 35]
            refine wN (nT ?_)
            refine wp_if hA 35 _ rfl (fun gK2 => ?yK2) (fun gK2 => ?nK2)
            case yK2 =>
              replace hA := hA.keepN [0, 1, 7, 35]
              refine wp_skip (nT ?_)
              exact ⟨_, rfl, hA⟩
            case nK2 =>
              refine wR ?_
              revert a; (iterate 2 refine wo rfl rfl (by decide) (fun ev e h => by simp [go_sem, h, K.cell] <;> rfl) ?_); intro a hA
              replace hA := hA.keepN [0, 1, 7, 35]
              refine wN (nT ?_)
              exact ⟨_, rfl, hA⟩
      clear hA
      rintro a wx ⟨qK, rfl, hA⟩
      refine wp_if hA 35 _ rfl (fun gC => ?yC) (fun gC => ?nC)
      case yC =>
        refine wR ?_
        revert a; (iterate 2 refine wo rfl rfl (by decide) (fun ev e h => by simp [go_sem, h, K.cell] <;> rfl) ?_); intro a hA
        refine wl_call hA rfl rfl (by decide) (fun ev h => exec_call Tryz.func75 (by kernel_rfl) rfl (h.f _) (by first | (simp only [mL, h.get 41 rfl, h.c] <;> rfl) | (simp [mL, h.get 41 rfl, h.c, K.cell] <;> rfl))) (boxP_any pr l bad _ h hw hG (by have := hsub.1; omega) (hsub.small ht)) ?_
        rintro e w1 ⟨sw1, bw1, rfl, h, T1⟩
        refine ⟨_, rfl, fun a hA => ?_⟩
        replace K := Apart.blk T1 K hpc
        replace TC := TC.turn T1
        replace hw := hw.turn hG T1
        replace hsub := (sub_take [1, 2] l bad).trans hsub
        clear T1
        revert a; (iterate 2 refine wo rfl rfl (by decide) (fun ev e h => by simp [go_sem, h, K.cell] <;> rfl) ?_); intro a hA
        have K0 := K
        refine wl_setf ([.string tag, .string nm, .bool uid, .string us, .string pw, .string sw1, .string rf, .string pt, .int .i64 fl, .int .i64 hx, .bool si, .bool hd, .int .i64 dt, oc.v, st.v, it.v, ks.v]) _ hA rfl rfl K (j := 5) (by rfl) (fun ev h => by simp [go_sem, h.get 44 rfl, h.get 42 rfl, K.cell, K.cell, K.frozen]; try first | exact ⟨rfl, rfl⟩ | rfl) fun w2 (K : Blk _ _ _ _) hs => ?_
        replace h := rd_only h K0 hs
        replace TC := TC.put hs
        replace hw := hw.keep (hs.below (Below.refl _ _) hG2)
        clear K0 hs
        refine wN (nB ?_)
        exact end_0 hA rfl ⟨rfl, ⟨⟨⟨tag, nm, uid, us, pw, sw1, rf, pt, fl, hx, si, hd, dt, oc, st, it, ks⟩, _, _, h, K, rfl, hsub⟩, TC⟩⟩
      case nC =>
        refine wS (wR ?_)
        revert a; (iterate 2 refine wo rfl rfl (by decide) (fun ev e h => by simp [go_sem, h, K.cell] <;> rfl) ?_); intro a hA
        replace hA := hA.keepN [0, 1, 7, 45]
        refine wN (nT ?_)
        refine wp_if hA 45 _ rfl (fun gD => ?yD) (fun gD => ?nD)
        case yD =>
          refine wS (wR ?_)
          revert a; (iterate 3 refine wo rfl rfl (by decide) (fun ev e h => by simp [go_sem, h, K.cell] <;> rfl) ?_); intro a hA
          refine wl_call hA rfl rfl (by decide) (fun ev h => exec_call Tryz.func74 (by kernel_rfl) rfl (h.f _) (by first | (simp only [mL, h.get 49 rfl, h.c] <;> rfl) | (simp [mL, h.get 49 rfl, h.c, K.cell] <;> rfl))) (wordP_any pr l bad _ h (by have := hsub.1; omega)) ?_
          rintro e w1 ⟨rfl, h, T1⟩
          refine ⟨_, rfl, fun a hA => ?_⟩
          replace K := Apart.blk T1 K hpc
          replace TC := TC.turn T1
          replace hw := hw.turn hG T1
          replace hsub := (sub_take [1, 2] l bad).trans hsub
          clear T1
          revert a; refine wo rfl rfl (by decide) (fun ev e h => by simp [go_sem, h, K.cell] <;> rfl) ?_; intro a hA
          refine wl_call hA rfl rfl (by decide) (fun ev h => exec_call Tryz.func74 (by kernel_rfl) rfl (h.f _) (by first | (simp only [mL, h.get 51 rfl, h.c] <;> rfl) | (simp [mL, h.get 51 rfl, h.c, K.cell] <;> rfl))) (wordP_any pr (takeL [1, 2] l bad) (!okT [1, 2] l bad) _ h (by have := hsub.1; omega)) ?_
          rintro e w2 ⟨rfl, h, T1⟩
          refine ⟨_, rfl, fun a hA => ?_⟩
          replace K := Apart.blk T1 K hpc
          replace TC := TC.turn T1
          replace hw := hw.turn hG T1
          replace hsub := (sub_take [1, 2] (takeL [1, 2] l bad) (!okT [1, 2] l bad)).trans hsub
          clear T1
          revert a; (iterate 2 refine wo rfl rfl (by decide) (fun ev e h => by simp [go_sem, h, K.cell] <;> rfl) ?_); intro a hA
          have K0 := K
          refine wl_setf ([.string tag, .string nm, .bool uid, .string us, .string pw, .string bx, .string (St (takeT [1, 2] l bad)), .string pt, .int .i64 fl, .int .i64 hx, .bool si, .bool hd, .int .i64 dt, oc.v, st.v, it.v, ks.v]) _ hA rfl rfl K (j := 6) (by rfl) (fun ev h => by simp [go_sem, h.get 54 rfl, h.get 50 rfl, K.cell, K.cell, K.frozen]; try first | exact ⟨rfl, rfl⟩ | rfl) fun w3 (K : Blk _ _ _ _) hs => ?_
          replace h := rd_only h K0 hs
          replace TC := TC.put hs
          replace hw := hw.keep (hs.below (Below.refl _ _) hG2)
          clear K0 hs
          revert a; (iterate 2 refine wo rfl rfl (by decide) (fun ev e h => by simp [go_sem, h, K.cell] <;> rfl) ?_); intro a hA
          have K0 := K
          refine wl_setf ([.string tag, .string nm, .bool uid, .string us, .string pw, .string bx, .string (St (takeT [1, 2] l bad)), .string (St (takeT [1, 2] (takeL [1, 2] l bad) (!okT [1, 2] l bad))), .int .i64 fl, .int .i64 hx, .bool si, .bool hd, .int .i64 dt, oc.v, st.v, it.v, ks.v]) _ hA rfl rfl K (j := 7) (by rfl) (fun ev h => by simp [go_sem, h.get 56 rfl, h.get 52 rfl, K.cell, K.cell, K.frozen]; try first | exact ⟨rfl, rfl⟩ | rfl) fun w4 (K : Blk _ _ _ _) hs => ?_
          replace h := rd_only h K0 hs
          replace TC := TC.put hs
          replace hw := hw.keep (hs.below (Below.refl _ _) hG2)
          clear K0 hs
          obtain ⟨tx, htx⟩ : ∃ tx, takeT [1, 2] (takeL [1, 2] l bad) (!okT [1, 2] l bad) = tx := ⟨_, rfl⟩
          rw [htx] at K
          obtain ⟨ARw5, cRw5, KRw5, hrw5, hcw5, htkw5⟩ := h.ex
          have KR0w5 := KRw5
          replace hA := hA.keepN [0, 1]
          refine wN (nT (wR ?_))
          revert a; (iterate 6 refine wo rfl rfl (by decide) (fun ev e h => by simp [go_sem, h, KRw5.cell, K.cell] <;> rfl) ?_); (iterate 4 refine wg _ rfl rfl rfl rfl (by decide) (fun hq ev e h => by simp [go_sem, h, ↓gw_t (beq_t hq), KRw5.cell, K.cell] <;> rfl) ?_); intro a hA
          replace hA := hA.keepN [57, 62, 66]
          revert a; (iterate 2 refine wg _ rfl rfl rfl rfl (by decide) (fun hq ev e h => by simp [go_sem, h, ↓gw_t (beq_t hq), KRw5.cell, K.cell] <;> rfl) ?_); refine wko rfl rfl (by decide) rfl rfl rfl ?_; (iterate 2 refine wo rfl rfl (by decide) (fun ev e h => by simp [go_sem, h, KRw5.cell, K.cell] <;> rfl) ?_); intro a hA
          refine wl_setf ([.slice ARw5 ((takeL [1, 2] (takeL [1, 2] l bad) (!okT [1, 2] l bad))).length cRw5, .bool (!okT [1, 2] (takeL [1, 2] l bad) (!okT [1, 2] l bad) || decide ((60 : Int) < (tx.length : Int)))]) _ hA rfl rfl KRw5 (j := 1) (by rfl) (fun ev h => by simp [go_sem, h.get 71 rfl, h.get 69 rfl, KRw5.cell, K.cell, KRw5.cell, KRw5.frozen]; try first | exact ⟨rfl, rfl⟩ | rfl) fun w5 (KRw5 : Blk _ _ _ _) hsw5 => ?_
          have hqw5 := rows_turnP hrw5 htkw5 KR0w5 (Apart.only (Apart.refl (fun i => i = pr) _) hsw5 (.inr rfl))
          clear h
          have h : RdP w5 pr ((takeL [1, 2] (takeL [1, 2] l bad) (!okT [1, 2] l bad))) (!okT [1, 2] (takeL [1, 2] l bad) (!okT [1, 2] l bad) || decide ((60 : Int) < (tx.length : Int))) := ⟨ARw5, cRw5, KRw5, hqw5.1, hcw5, hqw5.2⟩
          replace K := hsw5.blk K hpc
          replace TC := TC.put1 hsw5
          replace hw := hw.keep (hsw5.below (Below.refl _ _) hG)
          refine wN (nB ?_)
          exact end_0 hA rfl ⟨rfl, ⟨⟨⟨tag, nm, uid, us, pw, bx, (St (takeT [1, 2] l bad)), (St tx), fl, hx, si, hd, dt, oc, st, it, ks⟩, _, _, h, K, rfl, hsub⟩, TC⟩⟩
        case nD =>
          refine wS (wR ?_)
          revert a; (iterate 2 refine wo rfl rfl (by decide) (fun ev e h => by simp [go_sem, h, K.cell] <;> rfl) ?_); intro a hA
          replace hA := hA.keepN [0, 1, 7, 72]
          refine wN (nT ?_)
          refine wp_if hA 72 _ rfl (fun gE => ?yE) (fun gE => ?nE)
          case yE =>
            refine wR ?_
            revert a; (iterate 2 refine wo rfl rfl (by decide) (fun ev e h => by simp [go_sem, h, K.cell] <;> rfl) ?_); intro a hA
            refine wl_call hA rfl rfl (by decide) (fun ev h => exec_call Tryz.func76 (by kernel_rfl) rfl (h.f _) (by first | (simp only [mL, h.get 74 rfl, h.get 75 rfl, h.c] <;> rfl) | (simp [mL, h.get 74 rfl, h.get 75 rfl, h.c, K.cell] <;> rfl))) (messageP_any pr pc l bad ⟨tag, nm, uid, us, pw, bx, rf, pt, fl, hx, si, hd, dt, oc, st, it, ks⟩ _ h K hw hG hG2 hl ht) ?_
            rintro e w1 ⟨rfl, ⟨v2, l2, b2, h2, K2, ht2, sub2⟩, TC2⟩
            refine ⟨_, rfl, fun a hA => ?_⟩
            refine wN (nB ?_)
            exact end_0 hA rfl ⟨rfl, ⟨⟨v2, l2, b2, h2, K2, ht2, sub2⟩, TC2⟩⟩
          case nE =>
            refine wS (wR ?_)
            revert a; (iterate 2 refine wo rfl rfl (by decide) (fun ev e h => by simp [go_sem, h, K.cell] <;> rfl) ?_); intro a hA
            replace hA := hA.keepN [0, 1, 77]
            refine wN (nT ?_)
            refine wp_if hA 77 _ rfl (fun gF => ?yF) (fun gF => ?nF)
            case yF =>
              refine wS (wR ?_)
              revert a; (iterate 3 refine wo rfl rfl (by decide) (fun ev e h => by simp [go_sem, h, K.cell] <;> rfl) ?_); intro a hA
              refine wl_new hA rfl rfl (by decide) (fun ev h => by simp [go_sem, h.c, K.cell]; try first | exact ⟨rfl, rfl⟩ | rfl) fun w1a a (Kka : Blk _ _ _ _) hzka hbka hA => ?_
              replace h := h.below hbka
              replace K := K.below hbka K.lt
              replace TC := TC.turn (TurnR.of hbka)
              replace hw := hw.below hbka
              have htsa : (takeT [1] l bad).length ≤ 1048576 := takeT_len (hsub.small ht)
              refine wl_call hA rfl rfl (by decide) (fun ev h => exec_call Tryz.func49 (by kernel_rfl) rfl (h.f _) (by first | (simp only [mL, h.get 81 rfl, h.get 82 rfl, h.c] <;> rfl) | (simp [mL, h.get 81 rfl, h.get 82 rfl, h.c, K.cell] <;> rfl))) (takeP_any pr [1] _ 1 l bad _ h Kka (by decide) (by have := hsub.1; omega)) ?_
              rintro e w1 ⟨rfl, h, T1⟩
              refine ⟨_, rfl, fun a hA => ?_⟩
              replace K := Apart.blk T1 K hpc
              replace TC := TC.turn T1
              replace hw := hw.turn hG T1
              replace hsub := (sub_take [1] l bad).trans hsub
              clear T1
              refine wl_call hA rfl rfl (by decide) (fun ev h => exec_call Tryz.func50 (by kernel_rfl) rfl (h.f _) (by first | (simp only [mL, h.get 83 rfl, h.c] <;> rfl) | (simp [mL, h.get 83 rfl, h.c, K.cell] <;> rfl))) (great_any (takeT [1] l bad) _ (by omega)) ?_
              rintro e w2 ⟨rfl, hb2⟩
              refine ⟨_, rfl, fun a hA => ?_⟩
              replace h := h.below hb2
              replace K := K.below hb2 K.lt
              replace TC := TC.turn (TurnR.of hb2)
              replace hw := hw.below hb2
              revert a; (iterate 2 refine wo rfl rfl (by decide) (fun ev e h => by simp [go_sem, h, K.cell] <;> rfl) ?_); intro a hA
              have K0 := K
              refine wl_setf ([.string tag, .string nm, .bool true, .string us, .string pw, .string bx, .string rf, .string pt, .int .i64 fl, .int .i64 hx, .bool si, .bool hd, .int .i64 dt, oc.v, st.v, it.v, ks.v]) _ hA rfl rfl K (j := 2) (by rfl) (fun ev h => by simp [go_sem, h.c, h.get 86 rfl, K.cell, K.cell, K.frozen]; try first | exact ⟨rfl, rfl⟩ | rfl) fun w3 (K : Blk _ _ _ _) hs => ?_
              replace h := rd_only h K0 hs
              replace TC := TC.put hs
              replace hw := hw.keep (hs.below (Below.refl _ _) hG2)
              clear K0 hs
              revert a; (iterate 2 refine wo rfl rfl (by decide) (fun ev e h => by simp [go_sem, h, K.cell] <;> rfl) ?_); intro a hA
              have K0 := K
              refine wl_setf ([.string tag, .string (St (greatS (takeT [1] l bad))), .bool true, .string us, .string pw, .string bx, .string rf, .string pt, .int .i64 fl, .int .i64 hx, .bool si, .bool hd, .int .i64 dt, oc.v, st.v, it.v, ks.v]) _ hA rfl rfl K (j := 1) (by rfl) (fun ev h => by simp [go_sem, h.get 88 rfl, h.get 84 rfl, K.cell, K.cell, K.frozen]; try first | exact ⟨rfl, rfl⟩ | rfl) fun w4 (K : Blk _ _ _ _) hs => ?_
              replace h := rd_only h K0 hs
              replace TC := TC.put hs
              replace hw := hw.keep (hs.below (Below.refl _ _) hG2)
              clear K0 hs
              replace hA := hA.keepN [0, 1]
              refine wN (nT (wS (wR ?_)))
              revert a; (iterate 5 refine wo rfl rfl (by decide) (fun ev e h => by simp [go_sem, h, K.cell] <;> rfl) ?_); intro a hA
              replace hA := hA.keepN [0, 1, 93]
              refine wN (nT ?_)
              refine wp_if hA 93 _ rfl (fun gG => ?yG) (fun gG => ?nG)
              case yG =>
                refine wR ?_
                revert a; (iterate 2 refine wo rfl rfl (by decide) (fun ev e h => by simp [go_sem, h, K.cell] <;> rfl) ?_); intro a hA
                refine wl_call hA rfl rfl (by decide) (fun ev h => exec_call Tryz.func77 (by kernel_rfl) rfl (h.f _) (by first | (simp only [mL, h.get 95 rfl, h.c] <;> rfl) | (simp [mL, h.get 95 rfl, h.c, K.cell] <;> rfl))) (setP_any pr (takeL [1] l bad) (!okT [1] l bad) _ h hw hG (by have := hsub.1; omega) (hsub.small ht)) ?_
                rintro e w5 ⟨A5, n5, c5, b5, rfl, h, T1⟩
                refine ⟨_, rfl, fun a hA => ?_⟩
                replace K := Apart.blk T1 K hpc
                replace TC := TC.turn T1
                replace hw := hw.turn hG T1
                replace hsub := (sub_take [1] (takeL [1] l bad) (!okT [1] l bad)).trans hsub
                clear T1
                revert a; (iterate 2 refine wo rfl rfl (by decide) (fun ev e h => by simp [go_sem, h, K.cell] <;> rfl) ?_); intro a hA
                have K0 := K
                refine wl_setf ([.string tag, .string (St (greatS (takeT [1] l bad))), .bool true, .string us, .string pw, .string bx, .string rf, .string pt, .int .i64 fl, .int .i64 hx, .bool si, .bool hd, .int .i64 dt, oc.v, .slice A5 n5 c5, it.v, ks.v]) _ hA rfl rfl K (j := 14) (by rfl) (fun ev h => by simp [go_sem, h.get 98 rfl, h.get 96 rfl, K.cell, K.cell, K.frozen]; try first | exact ⟨rfl, rfl⟩ | rfl) fun w6 (K : Blk _ _ _ _) hs => ?_
                replace h := rd_only h K0 hs
                replace TC := TC.put hs
                replace hw := hw.keep (hs.below (Below.refl _ _) hG2)
                clear K0 hs
                refine wN (nB ?_)
                exact end_0 hA rfl ⟨rfl, ⟨⟨⟨tag, (St (greatS (takeT [1] l bad))), true, us, pw, bx, rf, pt, fl, hx, si, hd, dt, oc, ⟨A5, n5, c5⟩, it, ks⟩, _, _, h, K, rfl, hsub⟩, TC⟩⟩
              case nG =>
                refine wS (wR ?_)
                revert a; (iterate 2 refine wo rfl rfl (by decide) (fun ev e h => by simp [go_sem, h, K.cell] <;> rfl) ?_); intro a hA
                refine wl_call hA rfl rfl (by decide) (fun ev h => exec_call Tryz.func78 (by kernel_rfl) rfl (h.f _) (by first | (simp only [mL, h.get 99 rfl, h.get 100 rfl, h.c] <;> rfl) | (simp [mL, h.get 99 rfl, h.get 100 rfl, h.c, K.cell] <;> rfl))) (numberedP_any pr pc (takeL [1] l bad) (!okT [1] l bad) ⟨tag, (St (greatS (takeT [1] l bad))), true, us, pw, bx, rf, pt, fl, hx, si, hd, dt, oc, st, it, ks⟩ _ h K hw hG hG2 (by have := hsub.1; omega) (hsub.small ht)) ?_
                rintro e w7 ⟨⟨qw7, rfl⟩, ⟨v2, l2, b2, h2, K2, ht2, sub2⟩, TC2⟩
                refine ⟨_, rfl, fun a hA => ?_⟩
                clear h K
                have h := h2
                have K := K2
                have TC9 : TurnC pr pc w w7 := Apart.trans TC TC2 (fun _ _ e => e)
                clear TC
                have TC : TurnC pr pc w w7 := TC9
                replace hw := hw.turnC hG hG2 TC2
                replace hsub := sub2.trans hsub
                revert a; refine wo rfl rfl (by decide) (fun ev e h => by simp [go_sem, h, K.cell] <;> rfl) ?_; intro a hA
                replace hA := hA.keepN [0, 102]
                refine wN (nT ?_)
                refine wp_if hA 102 _ rfl (fun gw7 => ?yNw7) (fun gw7 => ?nNw7)
                case yNw7 =>
                  obtain ⟨ARw7b, cRw7b, KRw7b, hrw7b, hcw7b, htkw7b⟩ := h.ex
                  have KR0w7b := KRw7b
                  refine wR ?_
                  revert a; (iterate 3 refine wo rfl rfl (by decide) (fun ev e h => by simp [go_sem, h, KRw7b.cell, K.cell] <;> rfl) ?_); intro a hA
                  refine wl_setf ([.slice ARw7b (l2).length cRw7b, .bool true]) _ hA rfl rfl KRw7b (j := 1) (by rfl) (fun ev h => by simp [go_sem, h.c, h.get 105 rfl, KRw7b.cell, K.cell, KRw7b.cell, KRw7b.frozen]; try first | exact ⟨rfl, rfl⟩ | rfl) fun w7b (KRw7b : Blk _ _ _ _) hsw7b => ?_
                  have hqw7b := rows_turnP hrw7b htkw7b KR0w7b (Apart.only (Apart.refl (fun i => i = pr) _) hsw7b (.inr rfl))
                  clear h
                  have h : RdP w7b pr (l2) true := ⟨ARw7b, cRw7b, KRw7b, hqw7b.1, hcw7b, hqw7b.2⟩
                  replace K := hsw7b.blk K hpc
                  replace TC := TC.put1 hsw7b
                  replace hw := hw.keep (hsw7b.below (Below.refl _ _) hG)
                  refine wN (nB ?_)
                  exact end_0 hA rfl ⟨rfl, ⟨⟨v2, _, _, h, K, ht2, hsub⟩, TC⟩⟩
                case nNw7 =>
                  refine wp_skip (nB ?_)
                  exact end_0 hA rfl ⟨rfl, ⟨⟨v2, _, _, h, K, ht2, hsub⟩, TC⟩⟩
            case nF =>
              refine wS (wR ?_)
              revert a; (iterate 2 refine wo rfl rfl (by decide) (fun ev e h => by simp [go_sem, h, K.cell] <;> rfl) ?_); intro a hA
              refine wl_call hA rfl rfl (by decide) (fun ev h => exec_call Tryz.func78 (by kernel_rfl) rfl (h.f _) (by first | (simp only [mL, h.get 8 rfl, h.get 9 rfl, h.c] <;> rfl) | (simp [mL, h.get 8 rfl, h.get 9 rfl, h.c, K.cell] <;> rfl))) (numberedP_any pr pc l bad ⟨tag, nm, uid, us, pw, bx, rf, pt, fl, hx, si, hd, dt, oc, st, it, ks⟩ _ h K hw hG hG2 (by have := hsub.1; omega) (hsub.small ht)) ?_
              rintro e w8 ⟨⟨qw8, rfl⟩, ⟨v2, l2, b2, h2, K2, ht2, sub2⟩, TC2⟩
              refine ⟨_, rfl, fun a hA => ?_⟩
              clear h K
              have h := h2
              have K := K2
              have TC9 : TurnC pr pc w w8 := Apart.trans TC TC2 (fun _ _ e => e)
              clear TC
              have TC : TurnC pr pc w w8 := TC9
              replace hw := hw.turnC hG hG2 TC2
              replace hsub := sub2.trans hsub
              revert a; refine wo rfl rfl (by decide) (fun ev e h => by simp [go_sem, h, K.cell] <;> rfl) ?_; intro a hA
              replace hA := hA.keepN [0, 11]
              refine wN (nT ?_)
              refine wp_if hA 11 _ rfl (fun gw8 => ?yNw8) (fun gw8 => ?nNw8)
              case yNw8 =>
                obtain ⟨ARw8b, cRw8b, KRw8b, hrw8b, hcw8b, htkw8b⟩ := h.ex
                have KR0w8b := KRw8b
                refine wR ?_
                revert a; (iterate 3 refine wo rfl rfl (by decide) (fun ev e h => by simp [go_sem, h, KRw8b.cell, K.cell] <;> rfl) ?_); intro a hA
                refine wl_setf ([.slice ARw8b (l2).length cRw8b, .bool true]) _ hA rfl rfl KRw8b (j := 1) (by rfl) (fun ev h => by simp [go_sem, h.c, h.get 14 rfl, KRw8b.cell, K.cell, KRw8b.cell, KRw8b.frozen]; try first | exact ⟨rfl, rfl⟩ | rfl) fun w8b (KRw8b : Blk _ _ _ _) hsw8b => ?_
                have hqw8b := rows_turnP hrw8b htkw8b KR0w8b (Apart.only (Apart.refl (fun i => i = pr) _) hsw8b (.inr rfl))
                clear h
                have h : RdP w8b pr (l2) true := ⟨ARw8b, cRw8b, KRw8b, hqw8b.1, hcw8b, hqw8b.2⟩
                replace K := hsw8b.blk K hpc
                replace TC := TC.put1 hsw8b
                replace hw := hw.keep (hsw8b.below (Below.refl _ _) hG)
                refine wN (nB ?_)
                exact end_0 hA rfl ⟨rfl, ⟨⟨v2, _, _, h, K, ht2, hsub⟩, TC⟩⟩
              case nNw8 =>
                refine wp_skip (nB ?_)
                exact end_0 hA rfl ⟨rfl, ⟨⟨v2, _, _, h, K, ht2, hsub⟩, TC⟩⟩
end Go.Proofs.YtjhaccmcjlbllaaGreatDoor
/-
  Walks: lex.plain, lex.quoted, lex.counted.
-/
namespace Go.Proofs.YtjhaccmcjlbllaaGreatDoor
open Go.RowKit
set_option linter.unusedSimpArgs false
set_option linter.unusedVariables false
theorem signs_index (c : UInt8) : decide (Lib.indexByte [40, 41, 123, 34] c < 0) = !(c == 40 || c == 41 || c == 123 || c == 34) := by
  simp only [Lib.indexByte]
  by_cases h1 : c = 40
  · subst h1; rfl
  by_cases h2 : c = 41
  · subst h2; rfl
  by_cases h3 : c = 123
  · subst h3; rfl
  by_cases h4 : c = 34
  · subst h4; rfl
  have e : ∀ d : UInt8, c ≠ d → (d == c) = false := fun d h => by simpa using fun e : d = c => h e.symm
  have e' : ∀ d : UInt8, c ≠ d → (c == d) = false := fun d h => by simpa using h
  simp [e _ h1, e _ h2, e _ h3, e _ h4, h1, h2, h3, h4]
theorem plain_eq (c : UInt8) : (decide ((33 : Int) ≤ ((c.toNat : Nat) : Int)) && decide (((c.toNat : Nat) : Int) ≤ 126) && decide (Lib.indexByte [40, 41, 123, 34] c < 0)) = plainB c := by
  rw [signs_index]
  unfold plainB
  rw [decide_eq_decide.2 (show ((33 : Int) ≤ ((c.toNat : Nat) : Int)) ↔ 33 ≤ c.toNat by omega), decide_eq_decide.2 (show (((c.toNat : Nat) : Int) ≤ 126) ↔ c.toNat ≤ 126 by omega)]
set_option maxRecDepth 100000 in
set_option maxHeartbeats 4000000 in
theorem plain_any (c : UInt8) (w : World) : Calls Tryz.prog 102 #[.int .u8 ((c.toNat : Nat) : Int)] w fun ev w' => ev = .returned (.bool (plainB c)) ∧ Below w.heap.size w w' := by
  have HB := Below.refl w.heap.size w
  refine calls_at 14 Tryz.func102 rfl rfl (Nat.le_of_ble_eq_true rfl) ?_
  intro a hA; replace hA := hA.norm
  refine wS (wR ?_)
  revert a; refine wo rfl rfl (by decide) (fun ev e h => by simp [go_sem, h] <;> rfl) ?_; intro a hA
  replace hA := hA.keepN [0]
  refine wN (nT (wS (wR ?_)))
  revert a; (iterate 3 refine wo rfl rfl (by decide) (fun ev e h => by simp [go_sem, h] <;> rfl) ?_); (iterate 2 refine wg _ rfl rfl rfl rfl (by decide) (fun hq ev e h => by simp [go_sem, h, ↓gw_t (beq_t hq)] <;> rfl) ?_); refine wka rfl rfl (by decide) rfl rfl rfl ?_; refine wo rfl rfl (by decide) (fun ev e h => by simp [go_sem, h] <;> rfl) ?_; refine wg _ rfl rfl rfl rfl (by decide) (fun hq ev e h => by simp [go_sem, h, ↓gw_t (beq_t hq)] <;> rfl) ?_; intro a hA
  refine wl_gcallv _ hA rfl rfl rfl rfl (by decide) (fun hq ev h => exec_call Tryz.func143 (by kernel_rfl) rfl (h.f _) (by first | (simp only [mL, ((h.get 10 rfl).trans (gw_t (beq_t hq))), h.c] <;> rfl) | (simp [mL, ((h.get 10 rfl).trans (gw_t (beq_t hq))), h.c] <;> rfl))) (fun hq => (Tryz.strings_IndexByte ⟨#[40, 41, 123, 34]⟩ ((c.toNat : Nat) : Int) _).mono fun e w' h => ⟨h.1, h.2 ▸ Below.refl _ _⟩) fun a w1 hb1 hA => ?_
  replace HB := HB.trans (hb1.mono HB.size)
  rw [show (((c.toNat : Nat) : Int).toNat.toUInt8) = c by simp] at hA
  revert a; refine wg _ rfl rfl rfl rfl (by decide) (fun hq ev e h => by simp [go_sem, h, ↓gw_t (beq_t hq)] <;> rfl) ?_; refine wka rfl rfl (by decide) rfl rfl rfl ?_; intro a hA
  replace hA := hA.keepN [13]
  revert a; refine wo rfl rfl (by decide) (fun ev e h => by simp [go_sem, h] <;> rfl) ?_; intro a hA
  replace hA := hA.keepN [2]
  refine wN (nT (wp_ret ?_))
  refine ret_1 hA 2 rfl rfl ?_
  exact ⟨ret_bool (plain_eq c), HB⟩
theorem index_crlf : ∀ l : List UInt8, Lib.index l [13, 10] = (match crlf l with | none => -1 | some p => ((p.1.length : Nat) : Int))
  | [] => rfl
  | b :: l => by
    rw [crlf_step]
    unfold Lib.index
    by_cases h : b = 13 ∧ l.head? = some 10
    · obtain ⟨rfl, h2⟩ := h
      rw [if_pos (show (13 : UInt8) = 13 ∧ l.head? = some 10 from ⟨rfl, h2⟩)]
      cases l with
      | nil => cases h2
      | cons y l =>
        injection h2 with h2
        subst h2
        rfl
    · rw [if_neg h]
      have hp : ([13, 10] : List UInt8).isPrefixOf (b :: l) = false := by
        refine Bool.eq_false_iff.2 fun hp => h ?_
        cases l with
        | nil => simp [List.isPrefixOf] at hp
        | cons y l =>
          simp [List.isPrefixOf] at hp
          exact ⟨hp.1.symm, by rw [← hp.2]; rfl⟩
      rw [hp, index_crlf l]
      cases crlf l with
      | none => rfl
      | some p =>
        simp only [Option.map_some, Bool.false_eq_true, if_false, List.length_cons]
        rw [if_neg (by rw [beq_iff_eq]; omega)]
        exact (Int.natCast_add p.1.length 1).symm
theorem cut_crlf (l : List UInt8) : Lib.cut l [13, 10] = (match crlf l with | none => (l, [], false) | some p => (p.1, p.2, true)) := by
  unfold Lib.cut
  rw [index_crlf]
  cases h : crlf l with
  | none => rfl
  | some p =>
    have hl := crlf_some (b := l) (l := p.1) (r := p.2) h
    simp only []
    rw [if_pos (by omega), Int.toNat_natCast]
    congr 1
    · rw [hl, List.append_assoc, List.take_left' rfl]
    · congr 1
      rw [hl, List.drop_left' (by simp)]
theorem last_sign (t : List UInt8) : (Lib.lastIndexByte (St (123 :: t)) 123 != 0) = t.contains 123 := by
  have hg : ∀ j (h : j < t.length), (St (123 :: t)).data[j + 1]! = t[j] := fun j h => by
    show ((123 :: t).toArray)[j + 1]! = t[j]
    have h9 : j + 1 < ((123 :: t).toArray).size := by simp; omega
    rw [getElem!_pos ((123 :: t).toArray) (j + 1) h9]
    simp
  rcases Lib.lastIdx_spec (St (123 :: t)) 123 (St (123 :: t)).size with ⟨h1, h2⟩ | ⟨i, h1, h2, h3, h4⟩
  · exact absurd rfl (h2 0 (by show 0 < (123 :: t).length; simp))
  · have hz : (St (123 :: t)).size = t.length + 1 := rfl
    unfold Lib.lastIndexByte
    rw [h2]
    cases i with
    | zero =>
      symm
      show t.contains 123 = false
      refine Bool.eq_false_iff.2 fun hc => ?_
      obtain ⟨j, hj, e⟩ := List.getElem_of_mem (List.contains_iff_mem.1 hc)
      refine h4 (j + 1) (by omega) (by omega) ?_
      rw [hg j hj, e]
      rfl
    | succ j =>
      have hj : j < t.length := by omega
      have : t.contains 123 = true := by
        rw [List.contains_iff_mem]
        rw [hg j hj] at h3
        have e : t[j] = 123 := UInt8.toNat_inj.1 (by show t[j].toNat = 123; omega)
        rw [← e]
        exact List.getElem_mem hj
      rw [this]
      simp
      omega
theorem crlf_none_nil (l : List UInt8) : (match crlf l with | none => (l, [], false) | some p => (p.1, p.2, true) : List UInt8 × List UInt8 × Bool).2.1.length ≤ l.length ∧ (match crlf l with | none => (l, [], false) | some p => (p.1, p.2, true) : List UInt8 × List UInt8 × Bool).1.length ≤ l.length := by
  cases h : crlf l with
  | none => exact ⟨Nat.zero_le _, Nat.le_refl _⟩
  | some p =>
    have hl := congrArg List.length (crlf_some (b := l) (l := p.1) (r := p.2) h)
    simp only [List.length_append] at hl
    exact ⟨by show p.2.length ≤ _; omega, by show p.1.length ≤ _; omega⟩
theorem counted_cut {r hd rs : List UInt8} {ok : Bool} (h : Lib.cut (123 :: r) [13, 10] = (hd, rs, ok)) :
    countedS (123 :: r) = if (!ok || decide (litV hd < 0) || decide (((rs.length : Nat) : Int) < litV hd) || Lib.lastIndexByte (St hd) 123 != 0) = true then none else some (rs.take (litV hd).toNat, rs.drop (litV hd).toNat) := by
  rw [cut_crlf] at h
  unfold countedS
  cases hc : crlf (123 :: r) with
  | none =>
    rw [hc] at h
    injection h with h1 h2
    injection h2 with h2 h3
    subst h1 h2 h3
    rfl
  | some p =>
    rw [hc] at h
    injection h with h1 h2
    injection h2 with h2 h3
    subst h1 h2 h3
    have hp : ∃ t, p.1 = 123 :: t := by
      rw [crlf_step, if_neg (by rintro ⟨e, _⟩; revert e; decide)] at hc
      cases hr : crlf r with
      | none => rw [hr] at hc; cases hc
      | some q =>
        rw [hr] at hc
        injection hc with hc
        exact ⟨q.1, by rw [← hc]⟩
    obtain ⟨t, ht⟩ := hp
    obtain ⟨a, b⟩ := p
    have ht : a = 123 :: t := ht
    subst ht
    simp only []
    rw [last_sign]
    unfold litV
    cases litP (123 :: t) with
    | none => rfl
    | some n =>
      have e0 : decide (((n : Nat) : Int) < 0) = false := decide_eq_false (by omega)
      by_cases h1 : n ≤ b.length
      · have e1 : decide (((b.length : Nat) : Int) < (n : Int)) = false := decide_eq_false (by omega)
        cases hq : t.contains 123 with
        | true =>
          have hm : 123 ∈ t := List.contains_iff_mem.1 hq
          simp [e0, e1, hm]
        | false =>
          have hm : 123 ∉ t := fun h => by rw [List.contains_iff_mem.2 h] at hq; cases hq
          have h2 : ¬ b.length < n := by omega
          simp [e0, e1, hm, h1, h2]
      · have e1 : decide (((b.length : Nat) : Int) < (n : Int)) = true := decide_eq_true (by omega)
        simp [e0, e1, h1]
/-- two texts, cut, or none -/
def cutR : Option (List UInt8 × List UInt8) → Ending
  | some p => .returned (.tuple #[.string (St p.1), .string (St p.2), .bool true])
  | none => .returned (.tuple #[.string ⟨#[]⟩, .string ⟨#[]⟩, .bool false])
set_option maxRecDepth 100000 in
set_option maxHeartbeats 4000000 in
theorem counted_any (r : List UInt8) (m : Int) (w : World) (hm : w.cell? ⟨0, 0, none⟩ = some (.int .i64 m)) (hl : r.length ≤ 900000) : Calls Tryz.prog 101 #[.string (St (123 :: r))] w fun ev w' => ev = cutR (countedS (123 :: r)) ∧ Below w.heap.size w w' := by
  obtain ⟨hd, rs, ok, hcut⟩ : ∃ hd rs ok, Lib.cut (123 :: r) [13, 10] = (hd, rs, ok) := ⟨_, _, _, rfl⟩
  have hlen := crlf_none_nil (123 :: r)
  rw [← cut_crlf, hcut] at hlen
  have hl1 : rs.length ≤ 900001 := Nat.le_trans hlen.1 (by rw [List.length_cons]; omega)
  have hl2 : hd.length ≤ 900001 := Nat.le_trans hlen.2 (by rw [List.length_cons]; omega)
  rw [counted_cut hcut]
  have HB := Below.refl w.heap.size w
  refine calls_at 41 Tryz.func101 rfl rfl (Nat.le_of_ble_eq_true rfl) ?_
  intro a hA; replace hA := hA.norm
  refine wS (wR ?_)
  revert a; (iterate 3 refine wo rfl rfl (by decide) (fun ev e h => by simp [go_sem, h] <;> rfl) ?_); intro a hA
  replace hA := hA.keepN [0]
  refine wN (nT (wS (wR ?_)))
  revert a; refine wo rfl rfl (by decide) (fun ev e h => by simp [go_sem, h] <;> rfl) ?_; intro a hA
  refine wl_call hA rfl rfl (by decide) (fun ev h => exec_call Tryz.func53 (by kernel_rfl) rfl (h.f _) (by first | (simp only [mL, h.get 10 rfl, h.c] <;> rfl) | (simp [mL, h.get 10 rfl, h.c] <;> rfl))) (Tryz.strings_Cut (St (123 :: r)) (St [13, 10]) m w (by show (123 :: r).length < _; rw [List.length_cons]; omega) hm) ?_
  rintro e w1 ⟨rfl, n1, rfl⟩
  refine ⟨_, rfl, fun a hA => ?_⟩
  rw [show (St (123 :: r)).data.toList = 123 :: r from rfl, show (St [13, 10]).data.toList = [13, 10] from rfl, hcut] at hA
  have hs1 : (⟨(hd, rs, ok).1.toArray⟩ : ByteArray) = St hd := rfl
  replace HB := below_drewN HB n1
  rw [show (⟨(hd, rs, ok).1.toArray⟩ : ByteArray) = St hd from rfl, show (⟨(hd, rs, ok).2.1.toArray⟩ : ByteArray) = St rs from rfl, show (hd, rs, ok).2.2 = ok from rfl] at hA
  obtain ⟨c2, w2, hcv, hrd, hb2⟩ := conv_str hd (w.drewN n1)
  revert a; (iterate 7 refine wo rfl rfl (by decide) (fun ev e h => by simp [go_sem, h] <;> rfl) ?_); intro a hA
  replace hA := hA.keepN [5, 6, 7]
  refine wN (nT (wS (wR ?_)))
  revert a; refine wo rfl rfl (by decide) (fun ev e h => by simp [go_sem, h] <;> rfl) ?_; intro a hA
  refine wl_op hA rfl rfl (by decide) (fun ev h => by simp [go_sem, h.get 15 rfl, hcv]; try first | exact ⟨rfl, rfl⟩ | rfl) fun a hA => ?_
  replace HB := HB.trans (hb2.mono HB.size)
  refine wl_call hA rfl rfl (by decide) (fun ev h => exec_call Tryz.func141 (by kernel_rfl) rfl (h.f _) (by first | (simp only [mL, h.get 16 rfl, h.c] <;> rfl) | (simp [mL, h.get 16 rfl, h.c] <;> rfl))) (literal_any _ hd.length c2 hd rfl (by omega) _ hrd) ?_
  rintro e w3 ⟨rfl, hb3⟩
  refine ⟨_, rfl, fun a hA => ?_⟩
  replace HB := HB.trans (hb3.mono HB.size)
  obtain ⟨V, hV⟩ : ∃ V, litV hd = V := ⟨_, rfl⟩
  rw [hV] at hA ⊢
  have kr : (St rs).size = rs.length := rfl
  revert a; refine wo rfl rfl (by decide) (fun ev e h => by simp [go_sem, h, kr] <;> rfl) ?_; intro a hA
  replace hA := hA.keepN [5, 6, 7, 8]
  refine wN (nT (wS (wS (wR ?_))))
  revert a; (iterate 3 refine wo rfl rfl (by decide) (fun ev e h => by simp [go_sem, h, kr] <;> rfl) ?_); (iterate 2 refine wg _ rfl rfl rfl rfl (by decide) (fun hq ev e h => by simp [go_sem, h, ↓gw_t (beq_t hq), kr] <;> rfl) ?_); refine wko rfl rfl (by decide) rfl rfl rfl ?_; refine wo rfl rfl (by decide) (fun ev e h => by simp [go_sem, h, kr] <;> rfl) ?_; (iterate 3 refine wg _ rfl rfl rfl rfl (by decide) (fun hq ev e h => by simp [go_sem, h, ↓gw_t (beq_t hq), kr] <;> rfl) ?_); intro a hA
  replace hA := hA.keepN [5, 6, 8, 24, 25, 27]
  revert a; refine wg _ rfl rfl rfl rfl (by decide) (fun hq ev e h => by simp [go_sem, h, ↓gw_t (beq_t hq), kr] <;> rfl) ?_; refine wko rfl rfl (by decide) rfl rfl rfl ?_; refine wo rfl rfl (by decide) (fun ev e h => by simp [go_sem, h, kr] <;> rfl) ?_; refine wg _ rfl rfl rfl rfl (by decide) (fun hq ev e h => by simp [go_sem, h, ↓gw_t (beq_t hq), kr] <;> rfl) ?_; intro a hA
  refine wl_gcallv _ hA rfl rfl rfl rfl (by decide) (fun hq ev h => exec_call Tryz.func142 (by kernel_rfl) rfl (h.f _) (by first | (simp only [mL, ((h.get 31 rfl).trans (gw_t (beq_t hq))), h.c] <;> rfl) | (simp [mL, ((h.get 31 rfl).trans (gw_t (beq_t hq))), h.c, kr] <;> rfl))) (fun hq => (Tryz.strings_LastIndexByte (St hd) 123 (by show hd.length < _; omega) _).mono fun e w' h => ⟨h.1, h.2 ▸ Below.refl _ _⟩) fun a w4 hb4 hA => ?_
  replace HB := HB.trans (hb4.mono HB.size)
  obtain ⟨I, hI⟩ : ∃ I, Lib.lastIndexByte (St hd) 123 = I := ⟨_, rfl⟩
  rw [hI] at hA ⊢
  revert a; refine wg _ rfl rfl rfl rfl (by decide) (fun hq ev e h => by simp [go_sem, h, ↓gw_t (beq_t hq), kr] <;> rfl) ?_; refine wko rfl rfl (by decide) rfl rfl rfl ?_; intro a hA
  replace hA := hA.keepN [6, 8, 34]
  refine wN (nT ?_)
  refine wp_if hA 34 _ rfl (fun hq => ?yF) (fun hq => ?nF)
  case yF =>
    refine wS (wR ?_)
    revert a; (iterate 3 refine wo rfl rfl (by decide) (fun ev e h => by simp [go_sem, h, kr] <;> rfl) ?_); intro a hA
    replace hA := hA.keepN [2, 3, 4]
    refine wN (nT (wp_ret (rT ?_)))
    refine ret_3 hA 2 3 4 rfl rfl rfl rfl ?_
    rw [if_pos hq]
    exact ⟨rfl, HB⟩
  case nF =>
    rw [if_neg (by rw [hq]; decide)]
    have hV0 : 0 ≤ V := by simp at hq; omega
    obtain ⟨k, hk⟩ : ∃ k : Nat, V = (k : Nat) := ⟨V.toNat, by omega⟩
    subst hk
    have hkl : k ≤ rs.length := by simp at hq; omega
    rw [Int.toNat_natCast]
    have k1 : (St rs).extract 0 k = St (rs.take k) := extract_take rs k
    have k2 : (St rs).extract k rs.length = St (rs.drop k) := extract_drop rs _ _ rfl
    have k3 : ((k : Nat) : Int) ≤ ((rs.length : Nat) : Int) := by omega
    refine wp_skip (nT (wS ?_))
    refine wp_any_at hA [(.det ?dS0), (.det ?dS1), (.det ?dS2), (.det ?dS3), (.det ?dS4), (.det ?dS5), (.det ?dS6), (.det ?dS7), (.det ?dS8)] [] (fun wy => Below w4.heap.size w4 wy) (TSp [] Grows) (by kernel_rfl) rfl (by kernel_rfl) (by kernel_rfl) rfl ((Below.refl _ _).drew) (stab_sp [] [true, true, true, true, true, true, true, true, true] [true, true, true, true, true, true, true, true, true] [] rfl rfl rfl (by kernel_rfl) ⟨trivial, trivial, trivial, trivial, trivial, trivial, trivial, trivial, trivial, trivial⟩ trivial) (fun _ h => by cases h) (fun _ _ _ _ _ h => by cases h) (fun _ h => by cases h) ⟨?oS0, ?oS1, ?oS2, ?oS3, ?oS4, ?oS5, ?oS6, ?oS7, ?oS8, trivial⟩ (by kernel_rfl) ?fS
    case oS0 => intro ev wo hev hC hs hph; have x0 := se hA hs 6; exact od rfl rfl (by kernel_rfl) hC (TSp.of rfl (Grows.refl _)) (by simp [go_sem, x0] <;> rfl)
    case oS1 => intro ev wo hev hC hs hph; have x0 := se hA hs 8; exact od rfl rfl (by kernel_rfl) hC (TSp.of rfl (Grows.refl _)) (by simp [go_sem, x0] <;> rfl)
    case oS2 => intro ev wo hev hC hs hph; have x0 := sd hs 35 0; have x1 := sd hs 36 1; exact od rfl rfl (by kernel_rfl) hC (TSp.of rfl (Grows.refl _)) (by simp [go_sem, x0, x1, k1, k3, hkl, kr] <;> rfl)
    case oS3 => intro ev wo hev hC hs hph; have x0 := se hA hs 6; exact od rfl rfl (by kernel_rfl) hC (TSp.of rfl (Grows.refl _)) (by simp [go_sem, x0] <;> rfl)
    case oS4 => intro ev wo hev hC hs hph; have x0 := se hA hs 8; exact od rfl rfl (by kernel_rfl) hC (TSp.of rfl (Grows.refl _)) (by simp [go_sem, x0] <;> rfl)
    case oS5 => intro ev wo hev hC hs hph; have x0 := sd hs 38 3; have x1 := sd hs 39 4; exact od rfl rfl (by kernel_rfl) hC (TSp.of rfl (Grows.refl _)) (by simp [go_sem, x0, x1, k2, k3, hkl, kr] <;> rfl)
    case oS6 => intro ev wo hev hC hs hph; have x0 := sd hs 37 2; exact od rfl rfl (by kernel_rfl) hC (TSp.of rfl (Grows.refl _)) (by simp [go_sem, x0] <;> rfl)
    case oS7 => intro ev wo hev hC hs hph; have x0 := sd hs 40 5; exact od rfl rfl (by kernel_rfl) hC (TSp.of rfl (Grows.refl _)) (by simp [go_sem, x0] <;> rfl)
    case oS8 => intro ev wo hev hC hs hph; exact od rfl rfl (by kernel_rfl) hC (TSp.of rfl (Grows.refl _)) (by simp [go_sem, hev.const] <;> rfl)
    intro sg wf hC hph
    intro a hA
    replace hA := hA.keepN [2, 3, 4]
    refine nT (wp_ret ?_)
    refine ret_3 hA 2 3 4 rfl rfl rfl rfl ?_
    exact ⟨rfl, HB.trans (hC.mono HB.size)⟩
end Go.Proofs.YtjhaccmcjlbllaaGreatDoor
/-
  Walk: lex.quoted.
-/
namespace Go.Proofs.YtjhaccmcjlbllaaGreatDoor
open Go.RowKit
set_option linter.unusedSimpArgs false
set_option linter.unusedVariables false
theorem own_grow {B : Nat} {w0 w w' : World} {v : Value} {l : List UInt8} (hb : Below w0.heap.size w0 w) (h : OwnX B w v l) (hB : w0.heap.size ≤ B) (hg : w.grownBy w' v.ownBlock) : Below w0.heap.size w0 w' :=
  hb.grown hg hb.size fun k hk => Nat.le_trans hB (h.lt k hk).1
set_option maxRecDepth 100000 in
set_option maxHeartbeats 4000000 in
theorem quoted_any (x : UInt8) (r : List UInt8) (w : World) (hl : r.length ≤ 900000) : Calls Tryz.prog 100 #[.string (St (x :: r))] w fun ev w' => ev = cutR (quotedS [] r) ∧ Below w.heap.size w w' := by
  obtain ⟨L, hL⟩ : ∃ L, x :: r = L := ⟨_, rfl⟩
  obtain ⟨Q, hQ⟩ : ∃ Q, quotedS [] r = Q := ⟨_, rfl⟩
  have hLl : L.length = r.length + 1 := by rw [← hL]; rfl
  have hQL : Q = quotedS [] (L.drop 1) := by rw [← hL, ← hQ]; rfl
  rw [hL, hQ]
  have hsz : (St L).size = L.length := rfl
  refine calls_at 64 Tryz.func100 rfl rfl (Nat.le_of_ble_eq_true rfl) ?_
  intro a hA; replace hA := hA.norm
  refine wS (wR ?_)
  revert a; (iterate 3 refine wo rfl rfl (by decide) (fun ev e h => by simp [go_sem, h] <;> rfl) ?_); intro a hA
  replace hA := hA.keepN [0]
  refine wN (nT (wS (wR ?_)))
  revert a; refine wo rfl rfl (by decide) (fun ev e h => by simp [go_sem, h] <;> rfl) ?_; intro a hA
  replace hA := hA.keepN [0, 5]
  refine wN (nT (wS (wS (wR ?_))))
  revert a; refine wo rfl rfl (by decide) (fun ev e h => by simp [go_sem, h] <;> rfl) ?_; intro a hA
  replace hA := hA.keepN [0, 5, 6]
  refine wN (nT (wB ?_))
  refine wp_loop_at (fun k a wx => ∃ (p : Nat) (acc : List UInt8) (v : Value), p + k = L.length ∧ 1 ≤ p ∧ acc.length ≤ p ∧ Q = quotedS acc (L.drop p) ∧ OwnX w.heap.size wx v acc ∧ Below w.heap.size w wx ∧ At 64 [(0, .string (St L)), (5, v), (6, .int .i64 (p : Nat))] a) (L.length - 1) ?_ ?_
  · exact ⟨1, [], _, by omega, Nat.le_refl _, Nat.zero_le _, hQL, OwnX.nil _, Below.refl _ _, hA⟩
  clear hA
  rintro k a wx ⟨p, acc, v, hpk, hp1, hacc, hQ2, ho, HB, hA⟩
  refine wS (wS (wR ?_))
  revert a; (iterate 4 refine wo rfl rfl (by decide) (fun ev e h => by simp [go_sem, h, hsz] <;> rfl) ?_); intro a hA
  replace hA := hA.keepN [0, 5, 6, 11]
  refine wN (nT ?_)
  refine wp_if hA 11 _ rfl (fun hq => ?yL) (fun hq => ?nL)
  case nL =>
    have hpl : L.length ≤ p := by simp at hq; omega
    rw [List.drop_of_length_le hpl] at hQ2
    replace hA := hA.keepN []
    refine wp_exit (xT (xT (xB (nT (wS (wR ?_))))))
    revert a; (iterate 3 refine wo rfl rfl (by decide) (fun ev e h => by simp [go_sem, h, hsz] <;> rfl) ?_); intro a hA
    replace hA := hA.keepN [2, 3, 4]
    refine wN (nT (wp_ret ?_))
    refine ret_3 hA 2 3 4 rfl rfl rfl rfl ?_
    exact ⟨by rw [hQ2]; rfl, HB⟩
  case yL =>
    have hpl : p < L.length := by simp at hq; omega
    obtain ⟨c, hc⟩ : ∃ c, L[p]? = some c := ⟨_, List.getElem?_eq_getElem hpl⟩
    have hd1 : L.drop p = c :: L.drop (p + 1) := by
      rw [← (List.getElem?_eq_some_iff.1 hc).2]
      exact List.drop_eq_getElem_cons hpl
    have g1 : ∀ h : p < (St L).size, (St L)[p] = c := fun h => (List.getElem?_eq_some_iff.1 hc).2
    have i1 : IntKind.i64.wrap ((p : Nat) : Int) = ((p : Nat) : Int) := IntWalk.i64_in _ (by omega)
    have i2 : ((p : Nat) : Int) < ((L.length : Nat) : Int) := by omega
    have i3 : IntKind.i64.wrap (((p : Nat) : Int) + 1) = ((p + 1 : Nat) : Int) := by rw [IntWalk.i64_in _ (by omega)]; omega
    rw [hd1, quoted_cons] at hQ2
    refine wp_skip (nT (wS (wB (wS (wR ?_)))))
    revert a; (iterate 4 refine wo rfl rfl (by decide) (fun ev e h => by simp [go_sem, h, hsz, g1, i1, i2, hpl] <;> rfl) ?_); intro a hA
    replace hA := hA.keepN [0, 5, 6, 7]
    refine wN (nT (wB (wS (wR ?_))))
    revert a; (iterate 3 refine wo rfl rfl (by decide) (fun ev e h => by simp [go_sem, h, hsz, g1, i1, i2, hpl] <;> rfl) ?_); intro a hA
    replace hA := hA.keepN [0, 5, 6, 7, 21]
    refine wN (nT ?_)
    refine wp_if hA 21 _ rfl (fun hq2 => ?yE) (fun hq2 => ?nE)
    case yE =>
      have hc34 : c = 34 := by
        simp at hq2
        exact UInt8.toNat_inj.1 (by show c.toNat = 34; omega)
      rw [if_pos hc34] at hQ2
      obtain ⟨A, cp, rfl, hcp⟩ := ho.form
      obtain ⟨q, hq9⟩ : ∃ q, p + 1 = q := ⟨_, rfl⟩
      rw [hq9] at i3 hQ2
      have k2 : (St L).extract q L.length = St (L.drop q) := extract_drop L _ _ rfl
      have k3 : ((q : Nat) : Int) ≤ ((L.length : Nat) : Int) := by omega
      have k4 : q ≤ L.length := by omega
      refine wS ?_
      refine wp_any_at hA [(.det ?dS0), (.det ?dS1), (.det ?dS2), (.det ?dS3), (.det ?dS4), (.det ?dS5), (.det ?dS6), (.det ?dS7), (.det ?dS8)] [] (fun wy => Below wx.heap.size wx wy) (TSp [] Grows) (by kernel_rfl) rfl (by kernel_rfl) (by kernel_rfl) rfl ((Below.refl _ _).drew) (stab_sp [] [true, true, true, true, true, true, true, true, true] [true, true, true, true, true, true, true, true, true] [] rfl rfl rfl (by kernel_rfl) ⟨trivial, trivial, trivial, trivial, trivial, trivial, trivial, trivial, trivial, trivial⟩ trivial) (fun _ h => by cases h) (fun _ _ _ _ _ h => by cases h) (fun _ h => by cases h) ⟨?oS0, ?oS1, ?oS2, ?oS3, ?oS4, ?oS5, ?oS6, ?oS7, ?oS8, trivial⟩ (by kernel_rfl) ?fS
      case oS0 => intro ev wo hev hC hs hph; have x0 := se hA hs 5; exact od rfl rfl (by kernel_rfl) hC (TSp.of rfl (Grows.refl _)) (by simp [go_sem, x0] <;> rfl)
      case oS1 => intro ev wo hev hC hs hph; have x0 := sd hs 24 0; exact od rfl rfl (by kernel_rfl) hC (TSp.of rfl (Grows.refl _)) (by simp [go_sem, x0, conv_reads (c := cp) rfl (ho.reads.below hC)] <;> rfl)
      case oS2 => intro ev wo hev hC hs hph; have x0 := se hA hs 0; exact od rfl rfl (by kernel_rfl) hC (TSp.of rfl (Grows.refl _)) (by simp [go_sem, x0] <;> rfl)
      case oS3 => intro ev wo hev hC hs hph; have x0 := se hA hs 6; exact od rfl rfl (by kernel_rfl) hC (TSp.of rfl (Grows.refl _)) (by simp [go_sem, x0] <;> rfl)
      case oS4 => intro ev wo hev hC hs hph; have x0 := sd hs 27 3; exact od rfl rfl (by kernel_rfl) hC (TSp.of rfl (Grows.refl _)) (by simp [go_sem, x0, hev.const, i3] <;> rfl)
      case oS5 => intro ev wo hev hC hs hph; have x0 := sd hs 26 2; have x1 := sd hs 28 4; exact od rfl rfl (by kernel_rfl) hC (TSp.of rfl (Grows.refl _)) (by simp [go_sem, x0, x1, k2, k3, k4, hsz] <;> rfl)
      case oS6 => intro ev wo hev hC hs hph; have x0 := sd hs 25 1; exact od rfl rfl (by kernel_rfl) hC (TSp.of rfl (Grows.refl _)) (by simp [go_sem, x0] <;> rfl)
      case oS7 => intro ev wo hev hC hs hph; have x0 := sd hs 29 5; exact od rfl rfl (by kernel_rfl) hC (TSp.of rfl (Grows.refl _)) (by simp [go_sem, x0] <;> rfl)
      case oS8 => intro ev wo hev hC hs hph; exact od rfl rfl (by kernel_rfl) hC (TSp.of rfl (Grows.refl _)) (by simp [go_sem, hev.const] <;> rfl)
      intro sg wf hC hph
      intro a hA
      replace hA := hA.keepN [2, 3, 4]
      refine nT (wp_ret (rB (rB (rT (rT (rB (rT ?_)))))))
      refine ret_3 hA 2 3 4 rfl rfl rfl rfl ?_
      exact ⟨by rw [hQ2]; rfl, HB.trans (hC.mono HB.size)⟩
    case nE =>
      have hc34 : c ≠ 34 := fun e => by subst e; simp at hq2
      rw [if_neg hc34] at hQ2
      refine wS (wR ?_)
      revert a; (iterate 3 refine wo rfl rfl (by decide) (fun ev e h => by simp [go_sem, h, hsz, g1, i1, i2, hpl] <;> rfl) ?_); intro a hA
      replace hA := hA.keepN [0, 5, 6, 7, 30]
      refine wN (nT ?_)
      refine wp_if hA 30 _ rfl (fun hq3 => ?yB) (fun hq3 => ?nB)
      case yB =>
        have hc92 : c = 92 := by
          simp at hq3
          exact UInt8.toNat_inj.1 (by show c.toNat = 92; omega)
        rw [if_pos hc92] at hQ2
        obtain ⟨q, hq9⟩ : ∃ q, p + 1 = q := ⟨_, rfl⟩
        rw [hq9] at i3 hQ2
        refine wS (wR ?_)
        revert a; (iterate 3 refine wo rfl rfl (by decide) (fun ev e h => by simp [go_sem, h, i3] <;> rfl) ?_); intro a hA
        replace hA := hA.keepN [0, 5, 6]
        refine wN (nT (wS (wS (wR ?_))))
        rcases Nat.lt_or_ge q L.length with hlt | hge
        · obtain ⟨y, hy⟩ : ∃ y, L[q]? = some y := ⟨_, List.getElem?_eq_getElem hlt⟩
          have hd2 : L.drop q = y :: L.drop (q + 1) := by
            rw [← (List.getElem?_eq_some_iff.1 hy).2]
            exact List.drop_eq_getElem_cons hlt
          have g2 : ∀ h : q < (St L).size, (St L)[q] = y := fun h => (List.getElem?_eq_some_iff.1 hy).2
          have j1 : IntKind.i64.wrap ((q : Nat) : Int) = ((q : Nat) : Int) := IntWalk.i64_in _ (by omega)
          have j2 : ((q : Nat) : Int) < ((L.length : Nat) : Int) := by omega
          have j3 : IntKind.i64.wrap (((q : Nat) : Int) + 1) = ((q + 1 : Nat) : Int) := by rw [IntWalk.i64_in _ (by omega)]; omega
          have j4 : ¬ q = L.length := by omega
          obtain ⟨z, j5⟩ : ∃ z, (((q : Nat) : Int) == ((L.length : Nat) : Int)) = z := ⟨_, rfl⟩
          have hz : z = false := by rw [← j5]; simp; omega
          rw [hd2] at hQ2
          simp only [] at hQ2
          revert a; (iterate 5 refine wo rfl rfl (by decide) (fun ev e h => by simp [go_sem, h, hsz, j1, j2, hlt, g2, j5] <;> rfl) ?_); (iterate 5 refine wg _ rfl rfl rfl rfl (by decide) (fun hq ev e h => by simp [go_sem, h, ↓gw_t (beq_t hq), hsz, j1, j2, hlt, g2, j5] <;> rfl) ?_); intro a hA
          replace hA := hA.keepN [0, 5, 6, 39, 44]
          revert a; (iterate 4 refine wg2 _ _ rfl rfl rfl rfl (by decide) (fun hq hr ev e h => by simp [go_sem, h, ↓gw_t (and_beq hq hr), ↓gw_t hq, hsz, j1, j2, hlt, g2, j5] <;> rfl) ?_); intro a hA
          refine wl_guard _ hA rfl rfl rfl rfl (by decide) (fun hq ev h => by exact pick_and rfl (((h.get 44 rfl).trans (gw_t (beq_t hq)))) (((h.get 48 rfl).trans (gw_a (beq_t hq)))) (h.c _)) fun a hA => ?_
          revert a; (first | refine wko rfl rfl (by decide) rfl rfl rfl ?_ | refine wo rfl rfl (by decide) (fun ev e h => by simp [go_sem, h, gv_or, gv_and, hsz, j1, j2, hlt, g2, j5] <;> rfl) ?_); intro a hA
          replace hA := hA.keepN [0, 5, 6, 50]
          refine wN (nT ?_)
          refine wp_if hA 50 _ rfl (fun hq4 => ?yM) (fun hq4 => ?nM)
          case yM =>
            rw [hz] at hq4
            have hy2 : ¬ (y = 34 ∨ y = 92) := by
              rintro (e | e) <;> subst e <;> simp at hq4
            rw [if_neg hy2] at hQ2
            refine wS (wR ?_)
            revert a; (iterate 3 refine wo rfl rfl (by decide) (fun ev e h => by simp [go_sem, h, hsz, j1, j2, hlt, g2, j5] <;> rfl) ?_); intro a hA
            replace hA := hA.keepN [2, 3, 4]
            refine wN (nT (wp_ret (rT (rB (rB (rT (rT (rB (rT ?_)))))))))
            refine ret_3 hA 2 3 4 rfl rfl rfl rfl ?_
            exact ⟨by rw [hQ2]; rfl, HB⟩
          case nM =>
            rw [hz] at hq4
            have hy2 : y = 34 ∨ y = 92 := by
              simp at hq4
              by_cases e : y = 34
              · exact .inl e
              · have e2 : y.toNat ≠ 34 := fun e2 => e (UInt8.toNat_inj.1 e2)
                exact .inr (UInt8.toNat_inj.1 (by show y.toNat = 92; omega))
            rw [if_pos hy2] at hQ2
            refine wp_skip (nT (wR ?_))
            revert a; (iterate 4 refine wo rfl rfl (by decide) (fun ev e h => by simp [go_sem, h, hsz, j1, j2, hlt, g2, j5] <;> rfl) ?_); intro a hA
            have hBx := HB.size
            refine wl_new hA rfl rfl (by decide) (fun ev h => by simp [go_sem, h.get 54 rfl, hsz, j1, j2, hlt, g2, j5]; try first | exact ⟨rfl, rfl⟩ | rfl) fun w1 a (K1 : Blk _ _ _ _) hz1 hb1 hA => ?_
            replace ho := ho.below hb1
            replace HB := HB.trans (hb1.mono HB.size)
            have ox : OwnX w.heap.size w1 _ [y] := blk_x K1 hBx rfl (by simp)
            obtain ⟨v2, w2, hr2, ho2, hg2, -⟩ := run_appX ho ox.reads (by simp; omega) (by have := HB.size; omega)
            refine wl_op hA rfl rfl (by decide) (fun ev h => exec_append rfl (h.get 51 rfl) (h.get 55 rfl) hr2) fun a hA => ?_
            have HB2 := own_grow HB ho (Nat.le_refl _) hg2
            revert a; refine wo rfl rfl (by decide) (fun ev e h => by simp [go_sem, h, j3] <;> rfl) ?_; intro a hA
            replace hA := hA.keepN [0, 5, 6]
            refine wN (nB (nB (nT (wR ?_))))
            revert a; (iterate 3 refine wo rfl rfl (by decide) (fun ev e h => by simp [go_sem, h, j3] <;> rfl) ?_); intro a hA
            replace hA := hA.keepN [0, 5, 6]
            refine wN (nT ?_)
            exact ⟨k - 2, by omega, q + 1, acc ++ [y], v2, by omega, by omega, by simp; omega, hQ2, ho2, HB2, hA⟩
        · have j4 : q = L.length := by omega
          have j5 : (((q : Nat) : Int) == ((L.length : Nat) : Int)) = true := by simp; omega
          rw [List.drop_of_length_le hge] at hQ2
          simp only [] at hQ2
          refine wl_op hA rfl rfl (by decide) (fun ev h => by simp [go_sem, h.get 6 rfl, hsz, j5]; try first | exact ⟨rfl, rfl⟩ | rfl) fun a hA => ?_
          refine wl_op hA rfl rfl (by decide) (fun ev h => by simp [go_sem, h.get 0 rfl, hsz, j5]; try first | exact ⟨rfl, rfl⟩ | rfl) fun a hA => ?_
          refine wl_op hA rfl rfl (by decide) (fun ev h => by simp [go_sem, h.get 36 rfl, hsz, j5]; try first | exact ⟨rfl, rfl⟩ | rfl) fun a hA => ?_
          refine wl_op hA rfl rfl (by decide) (fun ev h => by simp [go_sem, h.get 35 rfl, h.get 37 rfl, hsz, j5]; try first | exact ⟨rfl, rfl⟩ | rfl) fun a hA => ?_
          refine wl_op hA rfl rfl (by decide) (fun ev h => by simp [go_sem, h.get 38 rfl, hsz, j5]; try first | exact ⟨rfl, rfl⟩ | rfl) fun a hA => ?_
          refine wl_guard _ (v := .bool false) hA rfl rfl rfl rfl (by decide) (fun hq ev h => by first | (cases hq; done) | (cases hr; done)) fun a hA => ?_
          refine wl_guard _ (v := .bool false) hA rfl rfl rfl rfl (by decide) (fun hq ev h => by first | (cases hq; done) | (cases hr; done)) fun a hA => ?_
          refine wl_guard _ (v := .bool false) hA rfl rfl rfl rfl (by decide) (fun hq ev h => by first | (cases hq; done) | (cases hr; done)) fun a hA => ?_
          refine wl_guard _ (v := .bool false) hA rfl rfl rfl rfl (by decide) (fun hq ev h => by first | (cases hq; done) | (cases hr; done)) fun a hA => ?_
          refine wl_guard _ (v := .bool false) hA rfl rfl rfl rfl (by decide) (fun hq ev h => by first | (cases hq; done) | (cases hr; done)) fun a hA => ?_
          replace hA := hA.keepN [0, 5, 6, 39, 44]
          refine wl_guard2 _ _ (v := .bool false) hA rfl rfl rfl rfl (by decide) (fun hq hr ev h => by first | (cases hq; done) | (cases hr; done)) fun a hA => ?_
          refine wl_guard2 _ _ (v := .bool false) hA rfl rfl rfl rfl (by decide) (fun hq hr ev h => by first | (cases hq; done) | (cases hr; done)) fun a hA => ?_
          refine wl_guard2 _ _ (v := .bool false) hA rfl rfl rfl rfl (by decide) (fun hq hr ev h => by first | (cases hq; done) | (cases hr; done)) fun a hA => ?_
          refine wl_guard2 _ _ (v := .bool false) hA rfl rfl rfl rfl (by decide) (fun hq hr ev h => by first | (cases hq; done) | (cases hr; done)) fun a hA => ?_
          refine wl_guard _ (v := .bool false) hA rfl rfl rfl rfl (by decide) (fun hq ev h => by first | (cases hq; done) | (cases hr; done)) fun a hA => ?_
          revert a; (first | refine wko rfl rfl (by decide) rfl rfl rfl ?_ | refine wo rfl rfl (by decide) (fun ev e h => by simp [go_sem, h, gv_or, gv_and, hsz, j5] <;> rfl) ?_); intro a hA
          replace hA := hA.keepN [0, 5, 6, 50]
          refine wN (nT ?_)
          refine wp_if hA 50 _ rfl (fun hq4 => ?yN) (fun hq4 => ?nN)
          case nN => simp at hq4
          case yN =>
            refine wS (wR ?_)
            revert a; (iterate 3 refine wo rfl rfl (by decide) (fun ev e h => by simp [go_sem, h, hsz, j5] <;> rfl) ?_); intro a hA
            replace hA := hA.keepN [2, 3, 4]
            refine wN (nT (wp_ret (rT (rB (rB (rT (rT (rB (rT ?_)))))))))
            refine ret_3 hA 2 3 4 rfl rfl rfl rfl ?_
            exact ⟨by rw [hQ2]; rfl, HB⟩
      case nB =>
        have hc92 : c ≠ 92 := fun e => by subst e; simp at hq3
        rw [if_neg hc92] at hQ2
        refine wS (wR ?_)
        revert a; (iterate 3 refine wo rfl rfl (by decide) (fun ev e h => by simp [go_sem, h, hsz, g1, i1, i2, hpl] <;> rfl) ?_); (iterate 2 refine wg _ rfl rfl rfl rfl (by decide) (fun hq ev e h => by simp [go_sem, h, ↓gw_t (beq_t hq), hsz, g1, i1, i2, hpl] <;> rfl) ?_); (first | refine wko rfl rfl (by decide) rfl rfl rfl ?_ | refine wo rfl rfl (by decide) (fun ev e h => by simp [go_sem, h, gv_or, gv_and, hsz, g1, i1, i2, hpl] <;> rfl) ?_); refine wo rfl rfl (by decide) (fun ev e h => by simp [go_sem, h, hsz, g1, i1, i2, hpl] <;> rfl) ?_; intro a hA
        replace hA := hA.keepN [0, 5, 6, 7, 57]
        refine wN (nT ?_)
        refine wp_if hA 57 _ rfl (fun hq5 => ?yC) (fun hq5 => ?nC)
        case yC =>
          have hcr : c = 13 ∨ c = 10 := by
            simp at hq5
            by_cases e : c = 13
            · exact .inl e
            · have e2 : c.toNat ≠ 13 := fun e2 => e (UInt8.toNat_inj.1 e2)
              exact .inr (UInt8.toNat_inj.1 (by show c.toNat = 10; omega))
          rw [if_pos hcr] at hQ2
          refine wS (wR ?_)
          revert a; (iterate 3 refine wo rfl rfl (by decide) (fun ev e h => by simp [go_sem, h, hsz, g1, i1, i2, hpl] <;> rfl) ?_); intro a hA
          replace hA := hA.keepN [2, 3, 4]
          refine wN (nT (wp_ret (rB (rB (rT (rT (rB (rT ?_))))))))
          refine ret_3 hA 2 3 4 rfl rfl rfl rfl ?_
          exact ⟨by rw [hQ2]; rfl, HB⟩
        case nC =>
          have hcr : ¬ (c = 13 ∨ c = 10) := by
            rintro (e | e) <;> subst e <;> simp at hq5
          rw [if_neg hcr] at hQ2
          refine wR ?_
          revert a; (iterate 2 refine wo rfl rfl (by decide) (fun ev e h => by simp [go_sem, h, hsz, g1, i1, i2, hpl] <;> rfl) ?_); intro a hA
          have hBx := HB.size
          refine wl_new hA rfl rfl (by decide) (fun ev h => by simp [go_sem, h.get 18 rfl, hsz, g1, i1, i2, hpl]; try first | exact ⟨rfl, rfl⟩ | rfl) fun w1 a (K1 : Blk _ _ _ _) hz1 hb1 hA => ?_
          replace ho := ho.below hb1
          replace HB := HB.trans (hb1.mono HB.size)
          have ox : OwnX w.heap.size w1 _ [c] := blk_x K1 hBx rfl (by simp)
          obtain ⟨v2, w2, hr2, ho2, hg2, -⟩ := run_appX ho ox.reads (by simp; omega) (by have := HB.size; omega)
          refine wl_op hA rfl rfl (by decide) (fun ev h => exec_append rfl (h.get 17 rfl) (h.get 19 rfl) hr2) fun a hA => ?_
          have HB2 := own_grow HB ho (Nat.le_refl _) hg2
          revert a; refine wo rfl rfl (by decide) (fun ev e h => by simp [go_sem, h, i3] <;> rfl) ?_; intro a hA
          replace hA := hA.keepN [0, 5, 6]
          refine wN (nB (nB (nT (wR ?_))))
          revert a; (iterate 3 refine wo rfl rfl (by decide) (fun ev e h => by simp [go_sem, h, i3] <;> rfl) ?_); intro a hA
          replace hA := hA.keepN [0, 5, 6]
          refine wN (nT ?_)
          exact ⟨k - 1, by omega, p + 1, acc ++ [c], v2, by omega, by omega, by simp; omega, hQ2, ho2, HB2, hA⟩
end Go.Proofs.YtjhaccmcjlbllaaGreatDoor
/-
  A region that draws its order, whose last operations wait, each, for all that stand ahead: these come in the text's order.
-/
namespace Go.Proofs.YtjhaccmcjlbllaaGreatDoor
open Go Go.RowKit
/-- an operation waits for j, or for one of the tail behind j, or for one that waits for j -/
def waitsB (L : List Oper) (m : Nat) (o : Oper) (i j : Nat) : Bool := onB o j || ((List.range i).any fun k => Nat.ble m k && Nat.blt j k && onB o k) || o.after.any fun e => Region.binds .any e && blk L j L.length e.on
/-- from place k on each operation waits for all ahead -/
def seqFrom (L : List Oper) (m : Nat) : Nat → List Oper → Bool
  | _, [] => true
  | k, o :: r => (List.range k).all (fun j => waitsB L m o k j) && seqFrom L m (k + 1) r
theorem seqFrom_at {L : List Oper} {m : Nat} : ∀ {r : List Oper} {k : Nat}, seqFrom L m k r = true → ∀ i o, r[i]? = some o → ∀ j, j < k + i → onB o j = true ∨ (∃ k', m ≤ k' ∧ j < k' ∧ onB o k' = true) ∨ ∃ e ∈ o.after, Region.binds .any e = true ∧ blk L j L.length e.on = true := by
  intro r
  induction r with
  | nil => intro k _ i o ho; simp at ho
  | cons x r ih =>
    intro k h i o ho j hj
    unfold seqFrom at h
    rw [Bool.and_eq_true] at h
    cases i with
    | zero =>
      have e : x = o := by simpa using ho
      subst e
      have h2 := List.all_eq_true.1 h.1 j (List.mem_range.2 hj)
      unfold waitsB at h2
      rw [Bool.or_eq_true, Bool.or_eq_true] at h2
      rcases h2 with (h2 | h2) | h2
      · exact .inl h2
      · obtain ⟨k', _, hk⟩ := List.any_eq_true.1 h2
        simp only [Bool.and_eq_true] at hk
        exact .inr (.inl ⟨k', Nat.le_of_ble_eq_true hk.1.1, by simpa [Nat.blt_eq] using hk.1.2, hk.2⟩)
      · obtain ⟨e, he, hb⟩ := Array.any_eq_true'.1 h2
        simp only [Bool.and_eq_true] at hb
        exact .inr (.inr ⟨e, he, hb.1, hb.2⟩)
    | succ i => exact ih h.2 i o (by simpa using ho) j (by omega)
/-- each operation waits for those ahead alone -/
def backFrom : Nat → List Oper → Bool
  | _, [] => true
  | k, o :: r => (o.after.all fun e => !Region.binds .any e || decide (e.on < k)) && backFrom (k + 1) r
theorem backFrom_at : ∀ {r : List Oper} {k : Nat}, backFrom k r = true → ∀ i o, r[i]? = some o → ∀ e ∈ o.after, Region.binds .any e = true → e.on < k + i := by
  intro r
  induction r with
  | nil => intro k _ i o ho; simp at ho
  | cons x r ih =>
    intro k h i o ho e he hb
    unfold backFrom at h
    rw [Bool.and_eq_true] at h
    cases i with
    | zero =>
      have e2 : x = o := by simpa using ho
      subst e2
      have := Array.all_eq_true'.1 h.1 e he
      rw [hb] at this
      simpa using this
    | succ i =>
      have := ih h.2 i o (by simpa using ho) e he hb
      omega
section
variable {P : Program} {Q : Exit → Act → World → Prop} {l1 l2 : List Oper}
theorem wpOp_get {ops : Array Oper} {K : Act → World → Prop} {i : Nat} {o : Oper} {a : Act} {w : World} (h : ops[i]? = some o) : wpOp P ops Q i K a w = (if Region.wanted o (yielded ops a.tmps) then o.wp P a w K Q ∨ (o.asks P a w ∧ LetsOut Q) else K (a.put o.dst undef) w) := by
  unfold wpOp; rw [h]
/-- the tail -/
theorem wpAny_tail (hseq : seqFrom (l1 ++ l2) l1.length l1.length l2 = true) (hback : backFrom l1.length l2 = true) (hback1 : backFrom 0 l1 = true) : ∀ (r : List Oper) (k : Nat) (fuel : Nat) (listed : Array Bool) (a : Act) (w : World), l2.drop k = r → k ≤ l2.length → r.length ≤ fuel → listed.size = (l1 ++ l2).length →
    (∀ i, i < l1.length + k → listed.getD i false = true) → (∀ i, l1.length + k ≤ i → listed.getD i false = false) → wpList P (l1 ++ l2).toArray Q r a w → wpAny P .any (l1 ++ l2).toArray Q fuel listed a w := by
  intro r
  induction r with
  | nil =>
    intro k fuel listed a w hr hk hf hs h1 h2 hwp
    have hkl : l2.length ≤ k := List.drop_eq_nil_iff.1 hr
    have hready : Region.ready .any (l1 ++ l2).toArray listed = [] := by
      rw [List.eq_nil_iff_forall_not_mem]
      intro i hi
      obtain ⟨hun, o, ho, _⟩ := mem_ready.1 hi
      rw [List.getElem?_toArray] at ho
      have hlt := (List.getElem?_eq_some_iff.1 ho).1
      rw [List.length_append] at hlt
      have := h1 i (by omega)
      rw [getD_two hun] at this
      cases this
    cases fuel with
    | zero => exact ⟨hready, hwp⟩
    | succ f => exact ⟨fun _ => hwp, fun i hi => by rw [hready] at hi; cases hi⟩
  | cons o r ih =>
    intro k fuel listed a w hr hk hf hs h1 h2 hwp
    cases fuel with
    | zero => simp at hf
    | succ f =>
      have hkl : k < l2.length := by
        rcases Nat.lt_or_ge k l2.length with h | h
        · exact h
        · rw [List.drop_eq_nil_of_le h] at hr; cases hr
      have ho2 : l2[k]? = some o := by
        have := congrArg List.head? hr
        rwa [List.head?_drop] at this
      have hr2 : l2.drop (k + 1) = r := by
        rw [← List.tail_drop, hr]; rfl
      have hget : (l1 ++ l2).toArray[l1.length + k]? = some o := by
        rw [List.getElem?_toArray, List.getElem?_append_right (by omega), Nat.add_sub_cancel_left, ho2]
      have hmem : l1.length + k ∈ Region.ready .any (l1 ++ l2).toArray listed := by
        refine mem_ready.2 ⟨getD_inn (by rw [hs, List.length_append]; omega) (h2 _ (Nat.le_refl _)), o, hget, fun e he hb => h1 _ ?_⟩
        exact backFrom_at hback k o ho2 e he hb
      refine ⟨fun hn => ?_, fun i hi => ?_⟩
      · rw [hn] at hmem; cases hmem
      · obtain ⟨hun, oi, hoi, hall⟩ := mem_ready.1 hi
        have hgi : l1.length + k ≤ i := by
          rcases Nat.lt_or_ge i (l1.length + k) with h | h
          · have := h1 i h
            rw [getD_two hun] at this
            cases this
          · exact h
        have hik : i = l1.length + k := by
          rcases Nat.eq_or_lt_of_le hgi with h | h
          · exact h.symm
          · exfalso
            rw [List.getElem?_toArray, List.getElem?_append_right (by omega)] at hoi
            rcases seqFrom_at hseq (i - l1.length) oi hoi (l1.length + k) (by omega) with hon | ⟨k', _, hk', hon⟩ | ⟨e, he, hb, hbl⟩
            · obtain ⟨e, he, hb, heq⟩ := onB_spec hon
              have := hall e he hb
              rw [heq, h2 _ (Nat.le_refl _)] at this
              cases this
            · obtain ⟨e, he, hb, heq⟩ := onB_spec hon
              have := hall e he hb
              rw [heq, h2 _ (by omega)] at this
              cases this
            · have hcl : ∀ j oj, (l1 ++ l2)[j]? = some oj → listed.getD j false = true → ∀ e ∈ oj.after, Region.binds .any e = true → listed.getD e.on false = true := fun j oj hj hlj e he hb => by
                have hjk : j < l1.length + k := by
                  rcases Nat.lt_or_ge j (l1.length + k) with h | h
                  · exact h
                  · rw [h2 j h] at hlj; cases hlj
                refine h1 _ ?_
                rcases Nat.lt_or_ge j l1.length with h | h
                · rw [List.getElem?_append_left h] at hj
                  have := backFrom_at hback1 j oj hj e he hb
                  omega
                · rw [List.getElem?_append_right h] at hj
                  have := backFrom_at hback (j - l1.length) oj hj e he hb
                  omega
              have := blk_listed hcl (l1.length + k) _ e.on hbl (hall e he hb)
              rw [h2 _ (Nat.le_refl _)] at this
              cases this
        subst hik
        rw [hget] at hoi
        injection hoi with hoi
        subst hoi
        rw [wpOp_get hget]
        have hset : ∀ i, i < l1.length + (k + 1) → (listed.setIfInBounds (l1.length + k) true).getD i false = true := fun i hi => by
          by_cases e : l1.length + k = i
          · subst e
            have : l1.length + k < listed.size := by rw [hs, List.length_append]; omega
            simp [this]
          · rw [getD_set_ne false e]; exact h1 i (by omega)
        have hset2 : ∀ i, l1.length + (k + 1) ≤ i → (listed.setIfInBounds (l1.length + k) true).getD i false = false := fun i hi => by
          rw [getD_set_ne false (by omega)]; exact h2 i (by omega)
        unfold wpList at hwp
        have next : ∀ a w, wpList P (l1 ++ l2).toArray Q r a w → wpAny P .any (l1 ++ l2).toArray Q f (listed.setIfInBounds (l1.length + k) true) a w := fun a w h =>
          ih (k + 1) f _ a w hr2 (by omega) (by simp at hf; omega) (by simpa using hs) hset hset2 h
        by_cases hw : Region.wanted o (yielded (l1 ++ l2).toArray a.tmps) = true
        · rw [if_pos hw] at hwp ⊢
          exact hwp.imp (Oper.wp_mono next) id
        · rw [if_neg hw] at hwp ⊢
          exact next _ _ hwp
theorem then_wp {next : Act → World → Prop} {o : Oper} {a : Act} {w : World} {K : Act → World → Prop} (h : o.wp P a w K (Exit.then next Q)) : o.wp P a w K Q := by
  unfold Oper.wp at *
  generalize (execOp a.eval o).run P w = r at *
  cases r with
  | ok n w' => cases n <;> exact h
  | halt x w' => cases x <;> exact h
theorem then_lets {next : Act → World → Prop} (h : LetsOut (Exit.then next Q)) : LetsOut Q := h
/-- the part ahead -/
theorem wpAny_split (hseq : seqFrom (l1 ++ l2) l1.length l1.length l2 = true) (hback : backFrom l1.length l2 = true) (hback1 : backFrom 0 l1 = true) (hg : (l1.all fun o => match o.guard with | some (g, _) => decide (g < l1.length) | none => true) = true) :
    ∀ (fuel1 fuel : Nat) (listed1 listed : Array Bool) (a : Act) (w : World), fuel1 + l2.length ≤ fuel → listed1.size = l1.length → listed.size = (l1 ++ l2).length → (∀ i, i < l1.length → listed.getD i false = listed1.getD i false) → (∀ i, l1.length ≤ i → listed.getD i false = false) → (∀ j oj, l1[j]? = some oj → listed1.getD j false = true → ∀ e ∈ oj.after, Region.binds .any e = true → listed1.getD e.on false = true) →
      wpAny P .any l1.toArray (Exit.then (wpList P (l1 ++ l2).toArray Q l2) Q) fuel1 listed1 a w → wpAny P .any (l1 ++ l2).toArray Q fuel listed a w := by
  have allOf : ∀ (listed1 : Array Bool), listed1.size = l1.length → Region.ready .any l1.toArray listed1 = [] → ∀ j, j < l1.length → listed1.getD j false = true := by
    intro listed1 hs hr j
    induction j using Nat.strongRecOn with
    | _ j jh =>
      intro hj
      cases hl : listed1.getD j false with
      | true => rfl
      | false =>
        exfalso
        have hnr : j ∉ Region.ready .any l1.toArray listed1 := by rw [hr]; simp
        refine hnr (mem_ready.2 ⟨getD_inn (by rw [hs]; exact hj) hl, l1[j], by rw [List.getElem?_toArray, List.getElem?_eq_getElem hj], fun e he hb => ?_⟩)
        have hlt := backFrom_at hback1 j l1[j] (List.getElem?_eq_getElem hj) e he hb
        exact jh e.on (by omega) (by omega)
  have fin : ∀ (fuel : Nat) (listed1 listed : Array Bool) (a : Act) (w : World), l2.length ≤ fuel → listed1.size = l1.length → listed.size = (l1 ++ l2).length → (∀ i, i < l1.length → listed.getD i false = listed1.getD i false) → (∀ i, l1.length ≤ i → listed.getD i false = false) →
      Region.ready .any l1.toArray listed1 = [] → wpList P (l1 ++ l2).toArray Q l2 a w → wpAny P .any (l1 ++ l2).toArray Q fuel listed a w := fun fuel listed1 listed a w hf h1 h2 h3 h4 hr hwp =>
    wpAny_tail hseq hback hback1 l2 0 fuel listed a w rfl (Nat.zero_le _) hf h2 (fun i hi => by rw [h3 i hi]; exact allOf listed1 h1 hr i hi) h4 hwp
  intro fuel1
  induction fuel1 with
  | zero =>
    intro fuel listed1 listed a w hf h1 h2 h3 h4 _ hwp
    exact fin fuel listed1 listed a w (by omega) h1 h2 h3 h4 hwp.1 hwp.2
  | succ fuel1 ih =>
    intro fuel listed1 listed a w hf h1 h2 h3 h4 hcl hwp
    by_cases hr : Region.ready .any l1.toArray listed1 = []
    · exact fin fuel listed1 listed a w (by omega) h1 h2 h3 h4 hr (hwp.1 hr)
    · obtain ⟨fuel, rfl⟩ : ∃ f, fuel = f + 1 := ⟨fuel - 1, by omega⟩
      have hto : ∀ i, i ∈ Region.ready .any l1.toArray listed1 → i ∈ Region.ready .any (l1 ++ l2).toArray listed := fun i hi => by
        obtain ⟨hun, o, ho, hall⟩ := mem_ready.1 hi
        rw [List.getElem?_toArray] at ho
        have hlt := (List.getElem?_eq_some_iff.1 ho).1
        refine mem_ready.2 ⟨getD_inn (by rw [h2, List.length_append]; omega) (by rw [h3 i hlt]; exact getD_two hun), o, by rw [List.getElem?_toArray, List.getElem?_append_left hlt]; exact ho, fun e he hb => ?_⟩
        have hlt2 := backFrom_at hback1 i o ho e he hb
        rw [h3 _ (by omega)]
        exact hall e he hb
      refine ⟨fun hn => ?_, fun i hi => ?_⟩
      · obtain ⟨i, hi⟩ := List.exists_mem_of_ne_nil _ hr
        have := hto i hi
        rw [hn] at this
        cases this
      · obtain ⟨hun, o, ho, hall⟩ := mem_ready.1 hi
        have hget := ho
        rw [List.getElem?_toArray] at ho
        have hlt : i < l1.length := by
          rcases Nat.lt_or_ge i l1.length with h | h
          · exact h
          · exfalso
            rw [List.getElem?_append_right h] at ho
            obtain ⟨j, hj⟩ := List.exists_mem_of_ne_nil _ hr
            obtain ⟨hun2, oj, hoj, _⟩ := mem_ready.1 hj
            rw [List.getElem?_toArray] at hoj
            have hjl := (List.getElem?_eq_some_iff.1 hoj).1
            rcases seqFrom_at hseq (i - l1.length) o ho j (by omega) with hon | ⟨k', hk', _, hon⟩ | ⟨e, he, hb, hbl⟩
            · obtain ⟨e, he, hb, heq⟩ := onB_spec hon
              have := hall e he hb
              rw [heq, h3 j hjl, getD_two hun2] at this
              cases this
            · obtain ⟨e, he, hb, heq⟩ := onB_spec hon
              have := hall e he hb
              rw [heq, h4 _ hk'] at this
              cases this
            · have hcl2 : ∀ j oj, (l1 ++ l2)[j]? = some oj → listed.getD j false = true → ∀ e ∈ oj.after, Region.binds .any e = true → listed.getD e.on false = true := fun j oj hj hlj e he hb => by
                rcases Nat.lt_or_ge j l1.length with h | h
                · rw [List.getElem?_append_left h] at hj
                  have hlt := backFrom_at hback1 j oj hj e he hb
                  rw [h3 _ (by omega)]
                  exact hcl j oj hj (by rw [← h3 j h]; exact hlj) e he hb
                · rw [h4 j h] at hlj; cases hlj
              have := blk_listed hcl2 j _ e.on hbl (hall e he hb)
              rw [h3 j hjl, getD_two hun2] at this
              cases this
        rw [List.getElem?_append_left hlt] at ho
        have hi1 : i ∈ Region.ready .any l1.toArray listed1 := by
          refine mem_ready.2 ⟨getD_inn (by rw [h1]; exact hlt) (by rw [← h3 i hlt]; exact getD_two hun), o, by rw [List.getElem?_toArray]; exact ho, fun e he hb => ?_⟩
          have hlt2 := backFrom_at hback1 i o ho e he hb
          rw [← h3 _ (by omega)]
          exact hall e he hb
        have hst := hwp.2 i hi1
        have hget1 : l1.toArray[i]? = some o := by rw [List.getElem?_toArray]; exact ho
        rw [wpOp_get hget1] at hst
        rw [wpOp_get hget]
        have next : ∀ a w, wpAny P .any l1.toArray (Exit.then (wpList P (l1 ++ l2).toArray Q l2) Q) fuel1 (listed1.setIfInBounds i true) a w → wpAny P .any (l1 ++ l2).toArray Q fuel (listed.setIfInBounds i true) a w := fun a w h => by
          refine ih fuel _ _ a w (by omega) (by simpa using h1) (by simpa using h2) (fun j hj => ?_) (fun j hj => ?_) ?_ h
          · by_cases e : i = j
            · subst e
              have q1 : i < listed.size := by rw [h2, List.length_append]; omega
              have q2 : i < listed1.size := by omega
              simp [q1, q2]
            · rw [getD_set_ne false e, getD_set_ne false e]; exact h3 j hj
          · rw [getD_set_ne false (by omega)]; exact h4 j hj
          · intro j oj hj hlj e he hb
            by_cases hij : i = j
            · subst hij
              have : oj = o := Option.some.inj (hj.symm.trans ho)
              subst this
              have hlt2 := backFrom_at hback1 i oj ho e he hb
              have h5 := hall e he hb
              rw [h3 _ (by omega)] at h5
              exact getD_set_true h5
            · rw [getD_set_ne false hij] at hlj
              exact getD_set_true (hcl j oj hj hlj e he hb)
        have hwt : Region.wanted o (yielded (l1 ++ l2).toArray a.tmps) = Region.wanted o (yielded l1.toArray a.tmps) := by
          rw [wanted_eq, wanted_eq]
          unfold wantedBy
          have hgo := List.all_eq_true.1 hg o (List.mem_of_getElem? ho)
          cases hgd : o.guard with
          | none => rfl
          | some gb =>
            obtain ⟨g, b⟩ := gb
            rw [hgd] at hgo
            simp only [decide_eq_true_eq] at hgo
            simp only [List.getElem?_append_left hgo]
        rw [hwt]
        by_cases hw : Region.wanted o (yielded l1.toArray a.tmps) = true
        · rw [if_pos hw] at hst ⊢
          exact hst.imp (fun h => Oper.wp_mono next (then_wp h)) fun h => ⟨h.1, then_lets h.2⟩
        · rw [if_neg hw] at hst ⊢
          exact next _ _ hst
theorem wp_region_split {id : Nat} {d : Bool} {l : List Oper} {a : Act} {w : World} (m : Nat) (h : (Code.region id (l.take m ++ l.drop m).toArray d).wp P Q a w) : (Code.region id l.toArray d).wp P Q a w := by
  rwa [List.take_append_drop] at h
theorem wp_any_split_at {id : Nat} {d : Bool} {a : Act} {w : World} {n : Nat} {Γ : Env} (hA : At n Γ a) (F : List Fact) (Ph : List Phase) (C : World → Prop) (T : Nat → World → World → Prop) (hm : P.follows .mixedOrders = true) (hdr : d = true) (hB : checkB l1 n = true) (hdB : dstsB l1 n = true) (hFl : F.length = l1.length)
    (hseq : seqFrom (l1 ++ l2) l1.length l1.length l2 = true) (hback : backFrom l1.length l2 = true) (hback1 : backFrom 0 l1 = true) (hg : (l1.all fun o => match o.guard with | some (g, _) => decide (g < l1.length) | none => true) = true) (hC : C { w with drawn := w.drawn + 1 })
    (hstab : ∀ i j x w w', needB l1 F i j = true → i ≠ j → C w → (F.getD j (.det undef)).says x w → T i w w' → (F.getD j (.det undef)).says x w')
    (hph0 : ∀ ph ∈ Ph, ph.start = none → ph.p (sig a.eval) { w with drawn := w.drawn + 1 })
    (hph : ∀ i (ph : Phase) σ w w', ph ∈ Ph → ph.start ≠ some i → ph.upto ≠ some i → liveB l1 i ph.start ph.upto = true → C w → ph.p σ w → T i w w' → ph.p σ w')
    (hpl : ∀ ph ∈ Ph, ∀ a, ph.start = some a → a < l1.length)
    (hob : ObAll P l1 F Ph C T a.tmps 0 l1)
    (hlk : lkB l1 (Ph.map fun ph => (ph.start, ph.looks)) = true)
    (hfin : ∀ σ w', C w' → (∀ ph ∈ Ph, ph.upto = none → ph.p σ w') → FinE σ (fun Γ => ∀ a', At n Γ a' → wpList P (l1 ++ l2).toArray Q l2 a' w') w' (l1.zip F) Γ) : (Code.region id (l1 ++ l2).toArray d).wp P Q a w := by
  subst hdr
  have h1 := wpAny_facts (P := P) (l := l1) (Q := Exit.then (wpList P (l1 ++ l2).toArray Q l2) Q) (a := a) (w := w) n F Ph C T hA.size hB hFl hC hstab hph0 hph hpl (ob_all hob) hlk fun σ w' hC' hp' => by
    refine fin_env (Q := Exit.then (wpList P (l1 ++ l2).toArray Q l2) Q) hA.defers _ _ Γ (fun p hp t ht => ?_) hA (hfin σ w' hC' hp')
    have hpl := (List.of_mem_zip (a := p.1) (b := p.2) hp).1
    unfold dstsB at hdB
    have := List.all_eq_true.1 hdB p.1 hpl
    rw [ht] at this
    simpa using this
  refine wp_region_any hm (wpAny_split hseq hback hback1 hg _ _ _ _ a _ ?_ ?_ ?_ (fun i hi => ?_) (fun i hi => ?_) (fun j oj _ hl => ?_) h1)
  · simp
  · simp
  · simp
  · rw [Array.getD_eq_getD_getElem?, Array.getD_eq_getD_getElem?, Array.getElem?_replicate, Array.getElem?_replicate]
    split <;> split <;> rfl
  · rw [Array.getD_eq_getD_getElem?, Array.getElem?_replicate]
    split <;> rfl
  · exfalso
    rw [Array.getD_eq_getD_getElem?, Array.getElem?_replicate] at hl
    split at hl <;> cases hl
end
end Go.Proofs.YtjhaccmcjlbllaaGreatDoor
/-
  Walks: lex.one, lex.apart.
-/
namespace Go.Proofs.YtjhaccmcjlbllaaGreatDoor
open Go.RowKit
set_option linter.unusedSimpArgs false
set_option linter.unusedVariables false
theorem set2 {w : World} {g : Nat} {T : TypeId} {x y : Value} (a b : Value) (K : Blk w g T #[x, y]) : Blk (setAll w g 0 [a, b]) g T #[a, b] ∧ Only g w (setAll w g 0 [a, b]) :=
  ⟨by
    have := blk_setAll [a, b] 0 w [x, y] K (by simp)
    simpa using this, Only.setAll _ _ _⟩
/-- what a token is -/
def oneR (l : List UInt8) (k : Int) (s rest : ByteArray) (b : Bool) : Prop := match oneS l with
  | some p => k = (p.1.k : Nat) ∧ s = St p.1.t ∧ rest = St p.2 ∧ b = true
  | none => b = false
theorem takeW {p : UInt8 → Bool} {l : List UInt8} {n : Nat} (h : ∀ x ∈ l.take n, p x = true) (h2 : ∀ x, l[n]? = some x → p x = false) : l.takeWhile p = l.take n ∧ l.dropWhile p = l.drop n := by
  have := takeWhile_app (p := p) (a := l.take n) (b := l.drop n) h (fun x hx => h2 x (by rw [← hx, List.head?_drop]))
  rw [List.take_append_drop] at this
  exact this
def cutF (o : Option (List UInt8 × List UInt8)) (t q : ByteArray) (b : Bool) : Prop := match o with
  | some p => t = St p.1 ∧ q = St p.2 ∧ b = true
  | none => b = false
theorem cutR_form (o : Option (List UInt8 × List UInt8)) : ∃ t q b, cutR o = .returned (.tuple #[.string t, .string q, .bool b]) ∧ cutF o t q b := by
  cases o with
  | none => exact ⟨_, _, _, rfl, rfl⟩
  | some p => exact ⟨_, _, _, rfl, rfl, rfl, rfl⟩
theorem one_cut {l : List UInt8} {o : Option (List UInt8 × List UInt8)} (h : oneS l = o.map fun p => (⟨2, p.1⟩, p.2)) {t q : ByteArray} {b : Bool} (hf : cutF o t q b) : oneR l 2 t q b := by
  unfold oneR
  rw [h]
  cases o with
  | none => exact hf
  | some p => exact ⟨rfl, hf.1, hf.2.1, hf.2.2⟩
theorem one_atom {c : UInt8} {r : List UInt8} (h1 : c ≠ 40) (h2 : c ≠ 41) (h3 : c ≠ 34) (h4 : c ≠ 123) {n : Nat} (h : ∀ x ∈ (c :: r).take n, plainB x = true) (h5 : ∀ x, (c :: r)[n]? = some x → plainB x = false) : oneR (c :: r) 1 (St ((c :: r).take n)) (St ((c :: r).drop n)) (decide (0 < n)) := by
  obtain ⟨e1, e2⟩ := takeW h h5
  unfold oneR
  rw [one_cons, if_neg h1, if_neg h2, if_neg h3, if_neg h4]
  cases n with
  | zero =>
    have := h5 c rfl
    rw [this]
    simp
  | succ n =>
    have := h c (by simp)
    rw [this, if_pos rfl, e1, e2]
    exact ⟨rfl, rfl, rfl, by simp⟩
set_option maxRecDepth 100000 in
set_option maxHeartbeats 4000000 in
theorem one_any (c : UInt8) (r : List UInt8) (m : Int) (w : World) (hm : w.cell? ⟨0, 0, none⟩ = some (.int .i64 m)) (hl : r.length ≤ 900000) : Calls Tryz.prog 71 #[.string (St (c :: r))] w fun ev w' => ∃ k s rest b, ev = .returned (.tuple #[.agg #[.int .i64 k, .string s], .string rest, .bool b]) ∧ oneR (c :: r) k s rest b ∧ Below w.heap.size w w' := by
  obtain ⟨L, hL⟩ : ∃ L, c :: r = L := ⟨_, rfl⟩
  have hLl : L.length = r.length + 1 := by rw [← hL]; rfl
  have hsz : (St L).size = L.length := rfl
  have g1 : ∀ h : 0 < (St L).size, (St L)[0] = c := fun h => by subst hL; rfl
  have i1 : 0 < L.length := by omega
  have k2 : (St L).extract 1 L.length = St r := by rw [← hL]; exact extract_drop (c :: r) 1 _ rfl
  have k3 : (1 : Int) ≤ ((L.length : Nat) : Int) := by omega
  have k4 : 1 ≤ L.length := by omega
  have hm0 : 0 < w.heap.size := block_lt_of_cell hm
  rw [hL]
  have HB := Below.refl w.heap.size w
  refine calls_at 74 Tryz.func71 rfl rfl (Nat.le_of_ble_eq_true rfl) ?_
  intro a hA; replace hA := hA.norm
  refine wS (wR ?_)
  refine wl_new hA rfl rfl (by decide) (fun ev h => by simp [go_sem]; try first | exact ⟨rfl, rfl⟩ | rfl) fun w0 a (K : Blk _ _ _ _) hz0 hb0 hA => ?_
  replace HB := HB.trans (hb0.mono HB.size)
  revert a; (iterate 2 refine wo rfl rfl (by decide) (fun ev e h => by simp [go_sem, h, hsz, g1, i1] <;> rfl) ?_); intro a hA
  replace hA := hA.keepN [0, 2]
  refine wN (nT (wS (wS (wR ?_))))
  revert a; (iterate 3 refine wo rfl rfl (by decide) (fun ev e h => by simp [go_sem, h, hsz, g1, i1] <;> rfl) ?_); intro a hA
  replace hA := hA.keepN [0, 2, 5]
  refine wN (nT (wB (wS (wR ?_))))
  revert a; (iterate 3 refine wo rfl rfl (by decide) (fun ev e h => by simp [go_sem, h, hsz, g1, i1] <;> rfl) ?_); intro a hA
  replace hA := hA.keepN [0, 2, 5, 15]
  refine wN (nT ?_)
  refine wp_if hA 15 _ rfl (fun hq => ?yA) (fun hq => ?nA)
  case yA =>
    have hc : c = 40 := by
      simp at hq
      exact UInt8.toNat_inj.1 (by show c.toNat = 40; omega)
    have hR : oneR L 3 ⟨#[]⟩ (St r) true := by
      rw [← hL, hc]
      exact ⟨rfl, rfl, rfl, rfl⟩
    refine wS ?_
    refine wp_region_split 4 ?_
    simp only [List.take_succ_cons, List.take_zero, List.drop_succ_cons, List.drop_zero]
    refine wp_any_split_at hA [(.det ?dS00), (.det ?dS01), (.det ?dS02), (.det undef)] [⟨(some 3), none, [], fun _ => (fun wy => Blk wy w.heap.size 60 #[.int .i64 3, .string ⟨#[]⟩]), fun _ _ _ _ h => h⟩] (fun wy => Apart (fun i => i = w.heap.size) w0 wy ∧ ∃ x y, Blk wy w.heap.size 60 #[x, y]) (TSp [(3, (fun wy wz => Only w.heap.size wy wz))] Grows) (by kernel_rfl) rfl (by kernel_rfl) (by kernel_rfl) rfl (by kernel_rfl) (by kernel_rfl) (by kernel_rfl) (by kernel_rfl) (⟨⟨rfl, rfl, rfl, Nat.le_refl _, fun _ _ _ => rfl⟩, _, _, K⟩) (stab_sp [(3, (fun wy wz => Only w.heap.size wy wz))] [true, true, true, true] [true, true, true, true] [] rfl rfl rfl (by kernel_rfl) ⟨trivial, trivial, trivial, trivial, trivial⟩ trivial) (List.forall_mem_cons.2 ⟨(fun hn => by cases hn), (fun _ h => by cases h)⟩) (phase_sp [(3, (fun wy wz => Only w.heap.size wy wz))] [((some 3), none)] [] rfl (by kernel_rfl) (List.forall_mem_cons.2 ⟨fun _ => fun _ _ _ hp hb => hp.below hb hp.lt, (fun _ h => by cases h)⟩) trivial) (List.forall_mem_cons.2 ⟨(fun a h => by first | (exact (no_1 h).elim) | (injection h with h; subst h; exact Nat.le_of_ble_eq_true rfl)), (fun _ h => by cases h)⟩) ⟨?oS00, ?oS01, ?oS02, ?oS03, trivial⟩ (by kernel_rfl) ?fS0
    case oS00 => intro ev wo hev hC hs hph; exact od rfl rfl (by kernel_rfl) hC (TSp.of rfl (Grows.refl _)) (by simp [go_sem, hev.const] <;> rfl)
    case oS01 => intro ev wo hev hC hs hph; have x0 := se hA hs 0; exact od rfl rfl (by kernel_rfl) hC (TSp.of rfl (Grows.refl _)) (by simp [go_sem, x0] <;> rfl)
    case oS02 => intro ev wo hev hC hs hph; have x0 := sd hs 19 1; exact od rfl rfl (by kernel_rfl) hC (TSp.of rfl (Grows.refl _)) (by simp [go_sem, x0, hev.const, k2, k3, k4, hsz] <;> rfl)
    case oS03 =>
      intro ev wo hev hC hs hph
      have e2 := se hA hs 2
      have e18 := sd hs 18 0
      obtain ⟨x, y, Kx⟩ := hC.2
      obtain ⟨hK2, hs9⟩ := set2 (.int .i64 3) (.string ⟨#[]⟩) Kx
      exact ob_yes (wanted_none rfl) (does_skip (w' := setAll wo w.heap.size 0 [.int .i64 3, .string ⟨#[]⟩]) (by simp [go_sem, e2, e18, Kx.cell, Kx.frozen, setAll]) ⟨⟨hC.1.only hs9 (.inr rfl), _, _, hK2⟩, TSp.sp rfl hs9, rfl, (List.forall_mem_cons.2 ⟨fun _ => hK2, (fun _ h => by cases h)⟩)⟩)
    intro sg wf hC hph
    intro a hA
    replace hA := hA.keepN [2, 20]
    replace K := (hph _ List.mem_cons_self rfl)
    replace HB := HB.trans ((hC.1.toBelow (fun i hi => by omega) (by omega)).mono (Nat.le_refl _))
    revert a; (iterate 2 refine wo rfl rfl (by decide) (fun ev e h => by simp [go_sem, h, K.cell] <;> rfl) ?_); intro a hA
    replace hA := hA.keepN [2, 3, 4]
    refine wN (nT (wp_ret (rB (rT ?_))))
    refine bodyPost_ret (by simp [results, Tryz.results71, go_sem, hA.env 2 _ rfl, hA.env 3 _ rfl, hA.env 4 _ rfl, K.cell]; try first | exact ⟨rfl, rfl⟩ | rfl) hA.defers ?_
    exact ⟨_, _, _, _, rfl, hR, HB⟩
  case nA =>
    have n40 : c ≠ 40 := fun e => by subst e; simp at hq
    refine wS (wR ?_)
    revert a; (iterate 3 refine wo rfl rfl (by decide) (fun ev e h => by simp [go_sem, h, hsz, g1, i1] <;> rfl) ?_); intro a hA
    replace hA := hA.keepN [0, 2, 5, 21]
    refine wN (nT ?_)
    refine wp_if hA 21 _ rfl (fun hq2 => ?yB) (fun hq2 => ?nB)
    case yB =>
      have hc : c = 41 := by
        simp at hq2
        exact UInt8.toNat_inj.1 (by show c.toNat = 41; omega)
      have hR : oneR L 4 ⟨#[]⟩ (St r) true := by
        rw [← hL, hc]
        exact ⟨rfl, rfl, rfl, rfl⟩
      refine wS ?_
      refine wp_region_split 4 ?_
      simp only [List.take_succ_cons, List.take_zero, List.drop_succ_cons, List.drop_zero]
      refine wp_any_split_at hA [(.det ?dS0), (.det ?dS1), (.det ?dS2), (.det undef)] [⟨(some 3), none, [], fun _ => (fun wy => Blk wy w.heap.size 60 #[.int .i64 4, .string ⟨#[]⟩]), fun _ _ _ _ h => h⟩] (fun wy => Apart (fun i => i = w.heap.size) w0 wy ∧ ∃ x y, Blk wy w.heap.size 60 #[x, y]) (TSp [(3, (fun wy wz => Only w.heap.size wy wz))] Grows) (by kernel_rfl) rfl (by kernel_rfl) (by kernel_rfl) rfl (by kernel_rfl) (by kernel_rfl) (by kernel_rfl) (by kernel_rfl) (⟨⟨rfl, rfl, rfl, Nat.le_refl _, fun _ _ _ => rfl⟩, _, _, K⟩) (stab_sp [(3, (fun wy wz => Only w.heap.size wy wz))] [true, true, true, true] [true, true, true, true] [] rfl rfl rfl (by kernel_rfl) ⟨trivial, trivial, trivial, trivial, trivial⟩ trivial) (List.forall_mem_cons.2 ⟨(fun hn => by cases hn), (fun _ h => by cases h)⟩) (phase_sp [(3, (fun wy wz => Only w.heap.size wy wz))] [((some 3), none)] [] rfl (by kernel_rfl) (List.forall_mem_cons.2 ⟨fun _ => fun _ _ _ hp hb => hp.below hb hp.lt, (fun _ h => by cases h)⟩) trivial) (List.forall_mem_cons.2 ⟨(fun a h => by first | (exact (no_1 h).elim) | (injection h with h; subst h; exact Nat.le_of_ble_eq_true rfl)), (fun _ h => by cases h)⟩) ⟨?oS0, ?oS1, ?oS2, ?oS3, trivial⟩ (by kernel_rfl) ?fS
      case oS0 => intro ev wo hev hC hs hph; exact od rfl rfl (by kernel_rfl) hC (TSp.of rfl (Grows.refl _)) (by simp [go_sem, hev.const] <;> rfl)
      case oS1 => intro ev wo hev hC hs hph; have x0 := se hA hs 0; exact od rfl rfl (by kernel_rfl) hC (TSp.of rfl (Grows.refl _)) (by simp [go_sem, x0] <;> rfl)
      case oS2 => intro ev wo hev hC hs hph; have x0 := sd hs 25 1; exact od rfl rfl (by kernel_rfl) hC (TSp.of rfl (Grows.refl _)) (by simp [go_sem, x0, hev.const, k2, k3, k4, hsz] <;> rfl)
      case oS3 =>
        intro ev wo hev hC hs hph
        have e2 := se hA hs 2
        have e24 := sd hs 24 0
        obtain ⟨x, y, Kx⟩ := hC.2
        obtain ⟨hK2, hs9⟩ := set2 (.int .i64 4) (.string ⟨#[]⟩) Kx
        exact ob_yes (wanted_none rfl) (does_skip (w' := setAll wo w.heap.size 0 [.int .i64 4, .string ⟨#[]⟩]) (by simp [go_sem, e2, e24, Kx.cell, Kx.frozen, setAll]) ⟨⟨hC.1.only hs9 (.inr rfl), _, _, hK2⟩, TSp.sp rfl hs9, rfl, (List.forall_mem_cons.2 ⟨fun _ => hK2, (fun _ h => by cases h)⟩)⟩)
      intro sg wf hC hph
      intro a hA
      replace hA := hA.keepN [2, 26]
      replace K := (hph _ List.mem_cons_self rfl)
      replace HB := HB.trans ((hC.1.toBelow (fun i hi => by omega) (by omega)).mono (Nat.le_refl _))
      revert a; (iterate 2 refine wo rfl rfl (by decide) (fun ev e h => by simp [go_sem, h, K.cell] <;> rfl) ?_); intro a hA
      replace hA := hA.keepN [2, 3, 4]
      refine wN (nT (wp_ret (rB (rT ?_))))
      refine bodyPost_ret (by simp [results, Tryz.results71, go_sem, hA.env 2 _ rfl, hA.env 3 _ rfl, hA.env 4 _ rfl, K.cell]; try first | exact ⟨rfl, rfl⟩ | rfl) hA.defers ?_
      exact ⟨_, _, _, _, rfl, hR, HB⟩
    case nB =>
      have n41 : c ≠ 41 := fun e => by subst e; simp at hq2
      refine wS (wR ?_)
      revert a; (iterate 3 refine wo rfl rfl (by decide) (fun ev e h => by simp [go_sem, h, hsz, g1, i1] <;> rfl) ?_); intro a hA
      replace hA := hA.keepN [0, 2, 5, 27]
      refine wN (nT ?_)
      refine wp_if hA 27 _ rfl (fun hq3 => ?yC) (fun hq3 => ?nC)
      case yC =>
        have hc : c = 34 := by
          simp at hq3
          exact UInt8.toNat_inj.1 (by show c.toNat = 34; omega)
        have hQ := quoted_any c r w0 hl
        obtain ⟨t9, q9, b9, hcut, hform⟩ := cutR_form (quotedS [] r)
        rw [hL, hcut] at hQ
        have hR : oneR L 2 t9 q9 b9 := one_cut (by rw [← hL, hc]; rfl) hform
        refine wS (wR ?_)
        revert a; refine wo rfl rfl (by decide) (fun ev e h => by simp [go_sem, h, hsz, g1, i1] <;> rfl) ?_; intro a hA
        refine wl_call hA rfl rfl (by decide) (fun ev h => exec_call Tryz.func100 (by kernel_rfl) rfl (h.f _) (by first | (simp only [mL, h.get 31 rfl, h.c] <;> rfl) | (simp [mL, h.get 31 rfl, h.c, hsz, g1, i1] <;> rfl))) (hQ) ?_
        rintro e w1 ⟨rfl, hb1⟩
        refine ⟨_, rfl, fun a hA => ?_⟩
        replace K := K.below hb1 K.lt
        replace HB := HB.trans (hb1.mono HB.size)
        revert a; (iterate 7 refine wo rfl rfl (by decide) (fun ev e h => by simp [go_sem, h, hsz, g1, i1] <;> rfl) ?_); intro a hA
        replace hA := hA.keepN [2, 6, 7, 8]
        refine wN (nT (wS (wR ?_)))
        revert a; (iterate 4 refine wo rfl rfl (by decide) (fun ev e h => by simp [go_sem, h, hsz, g1, i1] <;> rfl) ?_); intro a hA
        refine wl_set [.int .i64 2, .string t9] hA rfl rfl K (by rfl) (fun ev h => by simp [go_sem, h.get 2 rfl, h.get 37 rfl, hsz, g1, i1, setAll, K.cell, K.frozen]) fun w2 (K : Blk _ _ _ _) hs2 => ?_
        revert a; (iterate 2 refine wo rfl rfl (by decide) (fun ev e h => by simp [go_sem, h, K.cell] <;> rfl) ?_); intro a hA
        replace hA := hA.keepN [2, 3, 4]
        refine wN (nT (wp_ret (rB (rT ?_))))
        refine bodyPost_ret (by simp [results, Tryz.results71, go_sem, hA.env 2 _ rfl, hA.env 3 _ rfl, hA.env 4 _ rfl, K.cell]; try first | exact ⟨rfl, rfl⟩ | rfl) hA.defers ?_
        exact ⟨_, _, _, _, rfl, hR, hs2.below HB (Nat.le_refl _)⟩
      case nC =>
        have n34 : c ≠ 34 := fun e => by subst e; simp at hq3
        refine wS (wR ?_)
        revert a; (iterate 3 refine wo rfl rfl (by decide) (fun ev e h => by simp [go_sem, h, hsz, g1, i1] <;> rfl) ?_); intro a hA
        replace hA := hA.keepN [0, 2, 40]
        refine wN (nT ?_)
        refine wp_if hA 40 _ rfl (fun hq4 => ?yD) (fun hq4 => ?nD)
        case yD =>
          have hc : c = 123 := by
            simp at hq4
            exact UInt8.toNat_inj.1 (by show c.toNat = 123; omega)
          have hQ := counted_any r m w0 ((HB.cell hm0).trans hm) hl
          obtain ⟨t9, q9, b9, hcut, hform⟩ := cutR_form (countedS (123 :: r))
          have hLc : 123 :: r = L := by rw [← hc]; exact hL
          rw [hcut, hLc] at hQ
          have hR : oneR L 2 t9 q9 b9 := one_cut (by rw [← hL, hc]; rfl) hform
          refine wS (wR ?_)
          revert a; refine wo rfl rfl (by decide) (fun ev e h => by simp [go_sem, h, hsz, g1, i1] <;> rfl) ?_; intro a hA
          refine wl_call hA rfl rfl (by decide) (fun ev h => exec_call Tryz.func101 (by kernel_rfl) rfl (h.f _) (by first | (simp only [mL, h.get 44 rfl, h.c] <;> rfl) | (simp [mL, h.get 44 rfl, h.c, hsz, g1, i1] <;> rfl))) (hQ) ?_
          rintro e w1 ⟨rfl, hb1⟩
          refine ⟨_, rfl, fun a hA => ?_⟩
          replace K := K.below hb1 K.lt
          replace HB := HB.trans (hb1.mono HB.size)
          revert a; (iterate 7 refine wo rfl rfl (by decide) (fun ev e h => by simp [go_sem, h, hsz, g1, i1] <;> rfl) ?_); intro a hA
          replace hA := hA.keepN [2, 9, 10, 11]
          refine wN (nT (wS (wR ?_)))
          revert a; (iterate 4 refine wo rfl rfl (by decide) (fun ev e h => by simp [go_sem, h, hsz, g1, i1] <;> rfl) ?_); intro a hA
          refine wl_set [.int .i64 2, .string t9] hA rfl rfl K (by rfl) (fun ev h => by simp [go_sem, h.get 2 rfl, h.get 50 rfl, hsz, g1, i1, setAll, K.cell, K.frozen]) fun w2 (K : Blk _ _ _ _) hs2 => ?_
          revert a; (iterate 2 refine wo rfl rfl (by decide) (fun ev e h => by simp [go_sem, h, K.cell] <;> rfl) ?_); intro a hA
          replace hA := hA.keepN [2, 3, 4]
          refine wN (nT (wp_ret (rB (rT ?_))))
          refine bodyPost_ret (by simp [results, Tryz.results71, go_sem, hA.env 2 _ rfl, hA.env 3 _ rfl, hA.env 4 _ rfl, K.cell]; try first | exact ⟨rfl, rfl⟩ | rfl) hA.defers ?_
          exact ⟨_, _, _, _, rfl, hR, hs2.below HB (Nat.le_refl _)⟩
        case nD =>
          have n123 : c ≠ 123 := fun e => by subst e; simp at hq4
          refine wp_skip (nB (nT (wS (wR ?_))))
          revert a; refine wo rfl rfl (by decide) (fun ev e h => by simp [go_sem, h, hsz, g1, i1] <;> rfl) ?_; intro a hA
          replace hA := hA.keepN [0, 2, 12]
          refine wN (nT (wS (wB ?_)))
          refine wp_loop_at (fun f a wx => ∃ (p : Nat), p + f = L.length ∧ (∀ x ∈ L.take p, plainB x = true) ∧ Blk wx w.heap.size 60 #[.int .i64 0, .string ⟨#[]⟩] ∧ Below w.heap.size w wx ∧ At 74 [(0, .string (St L)), (2, .pointer (some ⟨w.heap.size, 0, none⟩)), (12, .int .i64 (p : Nat))] a) (L.length) ?_ ?_
          · exact ⟨0, by omega, fun x hx => (by cases hx), K, HB, hA⟩
          clear hA K HB
          rintro f a wx ⟨p, hpf, hpl, K, HB, hA⟩
          rcases Nat.lt_or_ge p L.length with hlt | hge
          · obtain ⟨y, hy⟩ : ∃ y, L[p]? = some y := ⟨_, List.getElem?_eq_getElem hlt⟩
            have g2 : ∀ h : p < (St L).size, (St L)[p] = y := fun h => (List.getElem?_eq_some_iff.1 hy).2
            have j1 : IntKind.i64.wrap ((p : Nat) : Int) = ((p : Nat) : Int) := IntWalk.i64_in _ (by omega)
            have j2 : ((p : Nat) : Int) < ((L.length : Nat) : Int) := by omega
            have j3 : IntKind.i64.wrap (((p : Nat) : Int) + 1) = ((p + 1 : Nat) : Int) := by rw [IntWalk.i64_in _ (by omega)]; omega
            obtain ⟨z, hz⟩ : ∃ z, decide (((p : Nat) : Int) < ((L.length : Nat) : Int)) = z := ⟨_, rfl⟩
            have hzt : z = true := by rw [← hz]; simpa using hlt
            refine wS (wS (wR ?_))
            revert a; (iterate 5 refine wo rfl rfl (by decide) (fun ev e h => by simp [go_sem, h, hsz, g2, j1, hlt] <;> rfl) ?_); (iterate 3 refine wg _ rfl rfl rfl rfl (by decide) (fun hq ev e h => by simp [go_sem, h, ↓gw_t (beq_t hq), hsz, g2, j1, hlt] <;> rfl) ?_); intro a hA
            refine wl_gcallv _ hA rfl rfl rfl rfl (by decide) (fun hq ev h => exec_call Tryz.func102 (by kernel_rfl) rfl (h.f _) (by first | (simp only [mL, ((h.get 60 rfl).trans (gw_t (beq_t hq))), h.c] <;> rfl) | (simp [mL, ((h.get 60 rfl).trans (gw_t (beq_t hq))), h.c, hsz, g2, j1, hlt] <;> rfl))) (fun hq => plain_any y _) fun a w1 hb1 hA => ?_
            replace K := K.below hb1 K.lt
            replace HB := HB.trans (hb1.mono HB.size)
            revert a; (first | refine wka rfl rfl (by decide) rfl rfl rfl ?_ | refine wo rfl rfl (by decide) (fun ev e h => by simp [go_sem, h, gv_or, gv_and, hsz, g2, j1, hlt] <;> rfl) ?_); intro a hA
            replace hA := hA.keepN [0, 2, 12, 62]
            refine wN (nT ?_)
            refine wp_if hA 62 _ rfl (fun hq5 => ?yM) (fun hq5 => ?nM)
            case yM =>
              refine wp_skip (nT (wB (wR ?_)))
              revert a; (iterate 3 refine wo rfl rfl (by decide) (fun ev e h => by simp [go_sem, h, j3] <;> rfl) ?_); intro a hA
              replace hA := hA.keepN [0, 2, 12]
              refine wN (nB (nT ?_))
              have hpy : plainB y = true := by simpa using hq5
              refine ⟨f - 1, by omega, p + 1, by omega, fun x hx => ?_, K, HB, hA⟩
              rw [List.take_add_one, hy] at hx
              rcases List.mem_append.1 hx with h | h
              · exact hpl x h
              · rw [List.mem_singleton.1 h]; exact hpy
            case nM =>
              have hpy : plainB y = false := by simpa using hq5
              have hend : ∀ x, L[p]? = some x → plainB x = false := fun x hx => by
                rw [hy] at hx
                injection hx with hx
                rw [← hx]; exact hpy
              have hR := one_atom (r := r) n40 n41 n34 n123 (n := p) (by rw [hL]; exact hpl) (by rw [hL]; exact hend)
              rw [hL] at hR
              replace hA := hA.keepN [0, 2, 12]
              refine wp_exit (xT (xT (xB (nT (wS ?_)))))
              have k5 : (St L).extract 0 p = St (L.take p) := extract_take L p
              have k6 : (St L).extract p L.length = St (L.drop p) := extract_drop L _ _ rfl
              have k7 : ((p : Nat) : Int) ≤ ((L.length : Nat) : Int) := by omega
              have k8 : p ≤ L.length := by omega
              refine wp_region_split 11 ?_
              simp only [List.take_succ_cons, List.take_zero, List.drop_succ_cons, List.drop_zero]
              refine wp_any_split_at hA [(.det ?dV10), (.det ?dV11), (.det ?dV12), (.det ?dV13), (.det ?dV14), (.det ?dV15), (.det ?dV16), (.det ?dV17), (.det ?dV18), (.det undef), (.det ?dV110)] [⟨(some 9), none, [], fun _ => (fun wy => Blk wy w.heap.size 60 #[.int .i64 1, .string (St (L.take p))]), fun _ _ _ _ h => h⟩] (fun wy => Apart (fun i => i = w.heap.size) w1 wy ∧ ∃ x y, Blk wy w.heap.size 60 #[x, y]) (TSp [(9, (fun wy wz => Only w.heap.size wy wz))] Grows) (by kernel_rfl) rfl (by kernel_rfl) (by kernel_rfl) rfl (by kernel_rfl) (by kernel_rfl) (by kernel_rfl) (by kernel_rfl) (⟨⟨rfl, rfl, rfl, Nat.le_refl _, fun _ _ _ => rfl⟩, _, _, K⟩) (stab_sp [(9, (fun wy wz => Only w.heap.size wy wz))] [true, true, true, true, true, true, true, true, true, true, true] [true, true, true, true, true, true, true, true, true, true, true] [] rfl rfl rfl (by kernel_rfl) ⟨trivial, trivial, trivial, trivial, trivial, trivial, trivial, trivial, trivial, trivial, trivial, trivial⟩ trivial) (List.forall_mem_cons.2 ⟨(fun hn => by cases hn), (fun _ h => by cases h)⟩) (phase_sp [(9, (fun wy wz => Only w.heap.size wy wz))] [((some 9), none)] [] rfl (by kernel_rfl) (List.forall_mem_cons.2 ⟨fun _ => fun _ _ _ hp hb => hp.below hb hp.lt, (fun _ h => by cases h)⟩) trivial) (List.forall_mem_cons.2 ⟨(fun a h => by first | (exact (no_1 h).elim) | (injection h with h; subst h; exact Nat.le_of_ble_eq_true rfl)), (fun _ h => by cases h)⟩) ⟨?oV10, ?oV11, ?oV12, ?oV13, ?oV14, ?oV15, ?oV16, ?oV17, ?oV18, ?oV19, ?oV110, trivial⟩ (by kernel_rfl) ?fV1
              case oV10 => intro ev wo hev hC hs hph; have x0 := se hA hs 0; exact od rfl rfl (by kernel_rfl) hC (TSp.of rfl (Grows.refl _)) (by simp [go_sem, x0] <;> rfl)
              case oV11 => intro ev wo hev hC hs hph; have x0 := se hA hs 12; exact od rfl rfl (by kernel_rfl) hC (TSp.of rfl (Grows.refl _)) (by simp [go_sem, x0] <;> rfl)
              case oV12 => intro ev wo hev hC hs hph; have x0 := sd hs 65 0; have x1 := sd hs 66 1; exact od rfl rfl (by kernel_rfl) hC (TSp.of rfl (Grows.refl _)) (by simp [go_sem, x0, x1, k5, k7, k8, hsz] <;> rfl)
              case oV13 => intro ev wo hev hC hs hph; have x0 := sd hs 67 2; exact od rfl rfl (by kernel_rfl) hC (TSp.of rfl (Grows.refl _)) (by simp [go_sem, x0, hev.const] <;> rfl)
              case oV14 => intro ev wo hev hC hs hph; have x0 := se hA hs 0; exact od rfl rfl (by kernel_rfl) hC (TSp.of rfl (Grows.refl _)) (by simp [go_sem, x0] <;> rfl)
              case oV15 => intro ev wo hev hC hs hph; have x0 := se hA hs 12; exact od rfl rfl (by kernel_rfl) hC (TSp.of rfl (Grows.refl _)) (by simp [go_sem, x0] <;> rfl)
              case oV16 => intro ev wo hev hC hs hph; have x0 := sd hs 69 4; have x1 := sd hs 70 5; exact od rfl rfl (by kernel_rfl) hC (TSp.of rfl (Grows.refl _)) (by simp [go_sem, x0, x1, k6, k7, k8, hsz] <;> rfl)
              case oV17 => intro ev wo hev hC hs hph; have x0 := se hA hs 12; exact od rfl rfl (by kernel_rfl) hC (TSp.of rfl (Grows.refl _)) (by simp [go_sem, x0] <;> rfl)
              case oV18 => intro ev wo hev hC hs hph; have x0 := sd hs 72 7; exact od rfl rfl (by kernel_rfl) hC (TSp.of rfl (Grows.refl _)) (by simp [go_sem, x0, hev.const] <;> rfl)
              case oV19 =>
                intro ev wo hev hC hs hph
                have e2 := se hA hs 2
                have e68 := sd hs 68 3
                obtain ⟨x, y, Kx⟩ := hC.2
                obtain ⟨hK2, hs9⟩ := set2 (.int .i64 1) (.string (St (L.take p))) Kx
                exact ob_yes (wanted_none rfl) (does_skip (w' := setAll wo w.heap.size 0 [.int .i64 1, .string (St (L.take p))]) (by simp [go_sem, e2, e68, Kx.cell, Kx.frozen, setAll]) ⟨⟨hC.1.only hs9 (.inr rfl), _, _, hK2⟩, TSp.sp rfl hs9, rfl, (List.forall_mem_cons.2 ⟨fun _ => hK2, (fun _ h => by cases h)⟩)⟩)
              case oV110 => intro ev wo hev hC hs hph; have x0 := sd hs 71 6; exact od rfl rfl (by kernel_rfl) hC (TSp.of rfl (Grows.refl _)) (by simp [go_sem, x0] <;> rfl)
              intro sg wf hC hph
              intro a hA
              replace hA := hA.keepN [2, 3, 73]
              replace K := (hph _ List.mem_cons_self rfl)
              replace HB := HB.trans ((hC.1.toBelow (fun i hi => by omega) HB.size).mono (Nat.le_refl _))
              revert a; refine wo rfl rfl (by decide) (fun ev e h => by simp [go_sem, h, K.cell] <;> rfl) ?_; intro a hA
              replace hA := hA.keepN [2, 3, 4]
              refine wN (nT (wp_ret ?_))
              refine bodyPost_ret (by simp [results, Tryz.results71, go_sem, hA.env 2 _ rfl, hA.env 3 _ rfl, hA.env 4 _ rfl, K.cell]; try first | exact ⟨rfl, rfl⟩ | rfl) hA.defers ?_
              exact ⟨_, _, _, _, rfl, hR, HB⟩
          · have hend : ∀ x, L[p]? = some x → plainB x = false := fun x hx => by
              rw [List.getElem?_eq_none hge] at hx
              cases hx
            have j2 : ¬ p < L.length := by omega
            have j3 : ¬ ((p : Nat) : Int) < ((L.length : Nat) : Int) := by omega
            refine wS (wS (wR ?_))
            refine wl_op hA rfl rfl (by decide) (fun ev h => by simp [go_sem, h.get 12 rfl, hsz, j2, j3]; try first | exact ⟨rfl, rfl⟩ | rfl) fun a hA => ?_
            refine wl_op hA rfl rfl (by decide) (fun ev h => by simp [go_sem, h.get 0 rfl, hsz, j2, j3]; try first | exact ⟨rfl, rfl⟩ | rfl) fun a hA => ?_
            refine wl_op hA rfl rfl (by decide) (fun ev h => by simp [go_sem, h.get 54 rfl, hsz, j2, j3]; try first | exact ⟨rfl, rfl⟩ | rfl) fun a hA => ?_
            refine wl_op hA rfl rfl (by decide) (fun ev h => by simp [go_sem, h.get 53 rfl, h.get 55 rfl, hsz, j2, j3]; try first | exact ⟨rfl, rfl⟩ | rfl) fun a hA => ?_
            refine wl_op hA rfl rfl (by decide) (fun ev h => by simp [go_sem, h.get 56 rfl, hsz, j2, j3]; try first | exact ⟨rfl, rfl⟩ | rfl) fun a hA => ?_
            refine wl_guard _ (v := .bool false) hA rfl rfl rfl rfl (by decide) (fun hq ev h => by first | (cases hq; done) | (cases hr; done)) fun a hA => ?_
            refine wl_guard _ (v := .bool false) hA rfl rfl rfl rfl (by decide) (fun hq ev h => by first | (cases hq; done) | (cases hr; done)) fun a hA => ?_
            refine wl_guard _ (v := .bool false) hA rfl rfl rfl rfl (by decide) (fun hq ev h => by first | (cases hq; done) | (cases hr; done)) fun a hA => ?_
            refine wl_gcallv _ hA rfl rfl rfl rfl (by decide) (fun hq ev h => exec_call Tryz.func102 (by kernel_rfl) rfl (h.f _) (by first | (simp only [mL, ((h.get 60 rfl).trans (gw_t (beq_t hq))), h.c] <;> rfl) | (simp [mL, ((h.get 60 rfl).trans (gw_t (beq_t hq))), h.c, hsz, j2, j3] <;> rfl))) (fun hq => (show Calls Tryz.prog _ _ _ (fun e w' => e = .returned (.bool false) ∧ Below wx.heap.size wx w') from by cases hq)) fun a w1 hb1 hA => ?_
            replace K := K.below hb1 K.lt
            replace HB := HB.trans (hb1.mono HB.size)
            revert a; (first | refine wka rfl rfl (by decide) rfl rfl rfl ?_ | refine wo rfl rfl (by decide) (fun ev e h => by simp [go_sem, h, gv_or, gv_and, hsz, j2, j3] <;> rfl) ?_); intro a hA
            replace hA := hA.keepN [0, 2, 12, 62]
            refine wN (nT ?_)
            refine wp_if hA 62 _ rfl (fun hq5 => ?yM2) (fun hq5 => ?nM2)
            case yM2 => simp at hq5
            case nM2 =>
              have hR := one_atom (r := r) n40 n41 n34 n123 (n := p) (by rw [hL]; exact hpl) (by rw [hL]; exact hend)
              rw [hL] at hR
              replace hA := hA.keepN [0, 2, 12]
              refine wp_exit (xT (xT (xB (nT (wS ?_)))))
              have k5 : (St L).extract 0 p = St (L.take p) := extract_take L p
              have k6 : (St L).extract p L.length = St (L.drop p) := extract_drop L _ _ rfl
              have k7 : ((p : Nat) : Int) ≤ ((L.length : Nat) : Int) := by omega
              have k8 : p ≤ L.length := by omega
              refine wp_region_split 11 ?_
              simp only [List.take_succ_cons, List.take_zero, List.drop_succ_cons, List.drop_zero]
              refine wp_any_split_at hA [(.det ?dV20), (.det ?dV21), (.det ?dV22), (.det ?dV23), (.det ?dV24), (.det ?dV25), (.det ?dV26), (.det ?dV27), (.det ?dV28), (.det undef), (.det ?dV210)] [⟨(some 9), none, [], fun _ => (fun wy => Blk wy w.heap.size 60 #[.int .i64 1, .string (St (L.take p))]), fun _ _ _ _ h => h⟩] (fun wy => Apart (fun i => i = w.heap.size) w1 wy ∧ ∃ x y, Blk wy w.heap.size 60 #[x, y]) (TSp [(9, (fun wy wz => Only w.heap.size wy wz))] Grows) (by kernel_rfl) rfl (by kernel_rfl) (by kernel_rfl) rfl (by kernel_rfl) (by kernel_rfl) (by kernel_rfl) (by kernel_rfl) (⟨⟨rfl, rfl, rfl, Nat.le_refl _, fun _ _ _ => rfl⟩, _, _, K⟩) (stab_sp [(9, (fun wy wz => Only w.heap.size wy wz))] [true, true, true, true, true, true, true, true, true, true, true] [true, true, true, true, true, true, true, true, true, true, true] [] rfl rfl rfl (by kernel_rfl) ⟨trivial, trivial, trivial, trivial, trivial, trivial, trivial, trivial, trivial, trivial, trivial, trivial⟩ trivial) (List.forall_mem_cons.2 ⟨(fun hn => by cases hn), (fun _ h => by cases h)⟩) (phase_sp [(9, (fun wy wz => Only w.heap.size wy wz))] [((some 9), none)] [] rfl (by kernel_rfl) (List.forall_mem_cons.2 ⟨fun _ => fun _ _ _ hp hb => hp.below hb hp.lt, (fun _ h => by cases h)⟩) trivial) (List.forall_mem_cons.2 ⟨(fun a h => by first | (exact (no_1 h).elim) | (injection h with h; subst h; exact Nat.le_of_ble_eq_true rfl)), (fun _ h => by cases h)⟩) ⟨?oV20, ?oV21, ?oV22, ?oV23, ?oV24, ?oV25, ?oV26, ?oV27, ?oV28, ?oV29, ?oV210, trivial⟩ (by kernel_rfl) ?fV2
              case oV20 => intro ev wo hev hC hs hph; have x0 := se hA hs 0; exact od rfl rfl (by kernel_rfl) hC (TSp.of rfl (Grows.refl _)) (by simp [go_sem, x0] <;> rfl)
              case oV21 => intro ev wo hev hC hs hph; have x0 := se hA hs 12; exact od rfl rfl (by kernel_rfl) hC (TSp.of rfl (Grows.refl _)) (by simp [go_sem, x0] <;> rfl)
              case oV22 => intro ev wo hev hC hs hph; have x0 := sd hs 65 0; have x1 := sd hs 66 1; exact od rfl rfl (by kernel_rfl) hC (TSp.of rfl (Grows.refl _)) (by simp [go_sem, x0, x1, k5, k7, k8, hsz] <;> rfl)
              case oV23 => intro ev wo hev hC hs hph; have x0 := sd hs 67 2; exact od rfl rfl (by kernel_rfl) hC (TSp.of rfl (Grows.refl _)) (by simp [go_sem, x0, hev.const] <;> rfl)
              case oV24 => intro ev wo hev hC hs hph; have x0 := se hA hs 0; exact od rfl rfl (by kernel_rfl) hC (TSp.of rfl (Grows.refl _)) (by simp [go_sem, x0] <;> rfl)
              case oV25 => intro ev wo hev hC hs hph; have x0 := se hA hs 12; exact od rfl rfl (by kernel_rfl) hC (TSp.of rfl (Grows.refl _)) (by simp [go_sem, x0] <;> rfl)
              case oV26 => intro ev wo hev hC hs hph; have x0 := sd hs 69 4; have x1 := sd hs 70 5; exact od rfl rfl (by kernel_rfl) hC (TSp.of rfl (Grows.refl _)) (by simp [go_sem, x0, x1, k6, k7, k8, hsz] <;> rfl)
              case oV27 => intro ev wo hev hC hs hph; have x0 := se hA hs 12; exact od rfl rfl (by kernel_rfl) hC (TSp.of rfl (Grows.refl _)) (by simp [go_sem, x0] <;> rfl)
              case oV28 => intro ev wo hev hC hs hph; have x0 := sd hs 72 7; exact od rfl rfl (by kernel_rfl) hC (TSp.of rfl (Grows.refl _)) (by simp [go_sem, x0, hev.const] <;> rfl)
              case oV29 =>
                intro ev wo hev hC hs hph
                have e2 := se hA hs 2
                have e68 := sd hs 68 3
                obtain ⟨x, y, Kx⟩ := hC.2
                obtain ⟨hK2, hs9⟩ := set2 (.int .i64 1) (.string (St (L.take p))) Kx
                exact ob_yes (wanted_none rfl) (does_skip (w' := setAll wo w.heap.size 0 [.int .i64 1, .string (St (L.take p))]) (by simp [go_sem, e2, e68, Kx.cell, Kx.frozen, setAll]) ⟨⟨hC.1.only hs9 (.inr rfl), _, _, hK2⟩, TSp.sp rfl hs9, rfl, (List.forall_mem_cons.2 ⟨fun _ => hK2, (fun _ h => by cases h)⟩)⟩)
              case oV210 => intro ev wo hev hC hs hph; have x0 := sd hs 71 6; exact od rfl rfl (by kernel_rfl) hC (TSp.of rfl (Grows.refl _)) (by simp [go_sem, x0] <;> rfl)
              intro sg wf hC hph
              intro a hA
              replace hA := hA.keepN [2, 3, 73]
              replace K := (hph _ List.mem_cons_self rfl)
              replace HB := HB.trans ((hC.1.toBelow (fun i hi => by omega) HB.size).mono (Nat.le_refl _))
              revert a; refine wo rfl rfl (by decide) (fun ev e h => by simp [go_sem, h, K.cell] <;> rfl) ?_; intro a hA
              replace hA := hA.keepN [2, 3, 4]
              refine wN (nT (wp_ret ?_))
              refine bodyPost_ret (by simp [results, Tryz.results71, go_sem, hA.env 2 _ rfl, hA.env 3 _ rfl, hA.env 4 _ rfl, K.cell]; try first | exact ⟨rfl, rfl⟩ | rfl) hA.defers ?_
              exact ⟨_, _, _, _, rfl, hR, HB⟩
end Go.Proofs.YtjhaccmcjlbllaaGreatDoor
/-
  Walk: lex.apart.
-/
namespace Go.Proofs.YtjhaccmcjlbllaaGreatDoor
open Go.RowKit
set_option linter.unusedSimpArgs false
set_option linter.unusedVariables false
def apartR (l : List UInt8) (k : Nat) (s : ByteArray) (b : Bool) : Prop := match apartS l k with
  | some r => s = St r ∧ b = true
  | none => b = false
theorem ne_u8 {d : UInt8} {n : Nat} (hn : n < 256) : (((d.toNat : Nat) : Int) != (n : Int)) = !(d == UInt8.ofNat n) := by
  rw [← u8_eq d n hn]
  rfl
theorem apart_blank (d : UInt8) (r : List UInt8) (k : Nat) : apartR (32 :: d :: r) k (St (d :: r)) ((((d.toNat : Nat) : Int) != 32) && (((d.toNat : Nat) : Int) != 41) && (((k : Nat) : Int) != 3)) := by
  rw [show (((d.toNat : Nat) : Int) != 32) = !(d == 32) from ne_u8 (n := 32) (by decide), show (((d.toNat : Nat) : Int) != 41) = !(d == 41) from ne_u8 (n := 41) (by decide)]
  unfold apartR apartS
  simp only [if_true]
  by_cases h : d ≠ 32 ∧ d ≠ 41 ∧ k ≠ 3
  · rw [if_pos h]
    obtain ⟨h1, h2, h3⟩ := h
    refine ⟨rfl, ?_⟩
    simp [h1, h2]
    omega
  · rw [if_neg h]
    simp only []
    by_cases h1 : d = 32
    · simp [h1]
    by_cases h2 : d = 41
    · simp [h2]
    have h3 : k = 3 := by
      rcases Nat.lt_or_ge k 3 with h4 | h4
      · exact absurd ⟨h1, h2, by omega⟩ h
      · rcases Nat.lt_or_ge 3 k with h5 | h5
        · exact absurd ⟨h1, h2, by omega⟩ h
        · omega
    simp [h3]
theorem apart_none (d : UInt8) (r : List UInt8) (k : Nat) (hd : d ≠ 32) : apartR (d :: r) k (St (d :: r)) ((((d.toNat : Nat) : Int) == 41) || (((k : Nat) : Int) == 3)) := by
  rw [show (((d.toNat : Nat) : Int) == 41) = (d == 41) from u8_eq d 41 (by decide)]
  have e : apartS (d :: r) k = if d = 41 ∨ k = 3 then some (d :: r) else none := by
    unfold apartS
    simp only []
    rw [if_neg hd]
  unfold apartR
  rw [e]
  by_cases h : d = 41 ∨ k = 3
  · rw [if_pos h]
    refine ⟨rfl, ?_⟩
    rcases h with h | h
    · simp [h]
    · simp [h]
  · rw [if_neg h]
    have h1 : d ≠ 41 := fun e => h (.inl e)
    have h2 : k ≠ 3 := fun e => h (.inr e)
    simp [h1]
    omega
set_option maxRecDepth 100000 in
set_option maxHeartbeats 4000000 in
theorem apart_any (l : List UInt8) (k : Nat) (t : ByteArray) (w : World) (hl : l.length ≤ 1000000) : Calls Tryz.prog 72 #[.string (St l), .agg #[.int .i64 (k : Nat), .string t]] w fun ev w' => ∃ s b, ev = .returned (.tuple #[.string s, .bool b]) ∧ apartR l k s b ∧ Below w.heap.size w w' := by
  have HB := Below.refl w.heap.size w
  obtain ⟨r, hr⟩ : ∃ r, Lib.trimPrefix l [32] = r := ⟨_, rfl⟩
  obtain ⟨q, hq0⟩ : ∃ q, Lib.hasPrefix l [32] = q := ⟨_, rfl⟩
  have hrl : r.length ≤ l.length := by
    rw [← hr]
    unfold Lib.trimPrefix
    split
    · rw [List.length_drop]; omega
    · exact Nat.le_refl _
  refine calls_at 41 Tryz.func72 rfl rfl (Nat.le_of_ble_eq_true rfl) ?_
  intro a hA; replace hA := hA.norm
  refine wS (wR ?_)
  refine wl_new hA rfl rfl (by decide) (fun ev h => by simp [go_sem, h.get 1 rfl]; try first | exact ⟨rfl, rfl⟩ | rfl) fun w0 a (K : Blk _ _ _ _) hz0 hb0 hA => ?_
  replace HB := HB.trans (hb0.mono HB.size)
  revert a; (iterate 2 refine wo rfl rfl (by decide) (fun ev e h => by simp [go_sem, h] <;> rfl) ?_); intro a hA
  replace hA := hA.keepN [0, 3]
  refine wN (nT (wS (wR ?_)))
  revert a; refine wo rfl rfl (by decide) (fun ev e h => by simp [go_sem, h] <;> rfl) ?_; intro a hA
  refine wl_call hA rfl rfl (by decide) (fun ev h => exec_call Tryz.func103 (by kernel_rfl) rfl (h.f _) (by first | (simp only [mL, h.get 9 rfl, h.c] <;> rfl) | (simp [mL, h.get 9 rfl, h.c] <;> rfl))) (Tryz.strings_CutPrefix (St l) (St [32]) w0) ?_
  rintro e w1 ⟨rfl, rfl⟩
  refine ⟨_, rfl, fun a hA => ?_⟩
  rw [show (⟨(Lib.trimPrefix (St l).data.toList (St [32]).data.toList).toArray⟩ : ByteArray) = St r by rw [← hr], show Lib.hasPrefix (St l).data.toList (St [32]).data.toList = q from hq0] at hA
  cases r with
  | nil =>
    revert a; (iterate 5 refine wo rfl rfl (by decide) (fun ev e h => by simp [go_sem, h] <;> rfl) ?_); intro a hA
    replace hA := hA.keepN [3, 6, 7]
    refine wN (nT (wS (wS (wR ?_))))
    revert a; (iterate 2 refine wo rfl rfl (by decide) (fun ev e h => by simp [go_sem, h] <;> rfl) ?_); intro a hA
    replace hA := hA.keepN [3, 6, 7, 14]
    refine wN (nT ?_)
    refine wp_if hA 14 _ rfl (fun hq => ?yA) (fun hq => ?nA)
    case nA => simp at hq
    case yA =>
      refine wS (wR ?_)
      revert a; (iterate 4 refine wo rfl rfl (by decide) (fun ev e h => by simp [go_sem, h] <;> rfl) ?_); intro a hA
      replace hA := hA.keepN [4, 5]
      refine wN (nT (wp_ret (rT ?_)))
      refine ret_2 hA 4 5 rfl rfl rfl ?_
      refine ⟨_, _, rfl, ?_, HB⟩
      unfold apartR
      cases l with
      | nil =>
        subst hq0
        exact ⟨rfl, rfl⟩
      | cons c r2 =>
        unfold Lib.trimPrefix at hr
        cases q with
        | false => rw [hq0, if_neg (by decide)] at hr; cases hr
        | true =>
          rw [hq0, if_pos rfl] at hr
          have h32 : c = 32 := by
            unfold Lib.hasPrefix at hq0
            simp [List.isPrefixOf] at hq0
            exact hq0.symm
          have hr2 : r2 = [] := hr
          subst h32 hr2
          rfl
  | cons d r2 =>
    have hne : (St (d :: r2) == (⟨#[]⟩ : ByteArray)) = false := by
      show ((d :: r2).toArray == #[]) = false
      refine beq_eq_false_iff_ne.2 fun e => ?_
      have := congrArg Array.size e
      simp at this
    have hsz : (St (d :: r2)).size = r2.length + 1 := rfl
    have g1 : ∀ h : 0 < (St (d :: r2)).size, (St (d :: r2))[0] = d := fun h => rfl
    have i1 : (0 : Int) < ((r2.length : Nat) : Int) + 1 := by omega
    have i2 : 0 < r2.length + 1 := by omega
    revert a; (iterate 5 refine wo rfl rfl (by decide) (fun ev e h => by simp [go_sem, h, hne] <;> rfl) ?_); intro a hA
    replace hA := hA.keepN [3, 6, 7]
    refine wN (nT (wS (wS (wR ?_))))
    revert a; (iterate 2 refine wo rfl rfl (by decide) (fun ev e h => by simp [go_sem, h, hne] <;> rfl) ?_); intro a hA
    replace hA := hA.keepN [3, 6, 7, 14]
    refine wN (nT ?_)
    refine wp_if hA 14 _ rfl (fun hq => ?yA) (fun hq => ?nA)
    case yA => simp at hq
    case nA =>
      refine wp_skip (nT (wS (wS (wR ?_))))
      revert a; refine wo rfl rfl (by decide) (fun ev e h => by simp [go_sem, h, hne] <;> rfl) ?_; intro a hA
      replace hA := hA.keepN [3, 6, 17]
      refine wN (nT ?_)
      refine wp_if hA 17 _ rfl (fun hq2 => ?yB) (fun hq2 => ?nB)
      case yB =>
        have hl2 : l = 32 :: d :: r2 := by
          unfold Lib.trimPrefix at hr
          rw [hq0, hq2, if_pos rfl] at hr
          cases l with
          | nil => cases hr
          | cons c r3 =>
            have h32 : c = 32 := by
              rw [hq2] at hq0
              unfold Lib.hasPrefix at hq0
              simp [List.isPrefixOf] at hq0
              exact hq0.symm
            have : r3 = d :: r2 := hr
            rw [h32, this]
        have pS := fun (wo : World) (hC : (fun wy => Below w1.heap.size w1 wy) wo) => have Kx := K.below hC K.lt; (Kx.cell)
        refine wS ?_
        refine wp_any_at hA [(.det ?dS0), (.det ?dS1), (.det ?dS2), (.det ?dS3), (.det ?dS4), (.det ?dS5), (.det ?dS6), (.det ?dS7), (.det ?dS8), (.det ?dS9), (.det ?dS10), (.det ?dS11), (.det ?dS12), (.det ?dS13), (.det ?dS14), (.det ?dS15)] [] (fun wy => Below w1.heap.size w1 wy) (TSp [] Grows) (by kernel_rfl) rfl (by kernel_rfl) (by kernel_rfl) rfl ((Below.refl _ _).drew) (stab_sp [] [true, true, true, true, true, true, true, true, true, true, true, true, true, true, true, true] [true, true, true, true, true, true, true, true, true, true, true, true, true, true, true, true] [] rfl rfl rfl (by kernel_rfl) ⟨trivial, trivial, trivial, trivial, trivial, trivial, trivial, trivial, trivial, trivial, trivial, trivial, trivial, trivial, trivial, trivial, trivial⟩ trivial) (fun _ h => by cases h) (fun _ _ _ _ _ h => by cases h) (fun _ h => by cases h) ⟨?oS0, ?oS1, ?oS2, ?oS3, ?oS4, ?oS5, ?oS6, ?oS7, ?oS8, ?oS9, ?oS10, ?oS11, ?oS12, ?oS13, ?oS14, ?oS15, trivial⟩ (by kernel_rfl) ?fS
        case oS0 => intro ev wo hev hC hs hph; have x0 := se hA hs 6; exact od rfl rfl (by kernel_rfl) hC (TSp.of rfl (Grows.refl _)) (by simp [go_sem, x0] <;> rfl)
        case oS1 => intro ev wo hev hC hs hph; have x0 := se hA hs 6; exact od rfl rfl (by kernel_rfl) hC (TSp.of rfl (Grows.refl _)) (by simp [go_sem, x0] <;> rfl)
        case oS2 => intro ev wo hev hC hs hph; have x0 := sd hs 19 1; exact od rfl rfl (by kernel_rfl) hC (TSp.of rfl (Grows.refl _)) (by simp [go_sem, x0, hev.const, hsz, g1, i1, i2] <;> rfl)
        case oS3 => intro ev wo hev hC hs hph; have x0 := sd hs 20 2; exact od rfl rfl (by kernel_rfl) hC (TSp.of rfl (Grows.refl _)) (by simp [go_sem, x0, hev.const] <;> rfl)
        case oS4 => intro ev wo hev hC hs hph; have x0 := sd hs 21 3; exact od rfl rfl (by kernel_rfl) hC (TSp.of rfl (Grows.refl _)) (by simp [go_sem, x0] <;> rfl)
        case oS5 => intro ev wo hev hC hs hph; have x0 := se hA hs 6; have y := sd hs 22 4; exact ob_gv _ rfl rfl y rfl (by kernel_rfl) hC (TSp.of rfl (Grows.refl _)) (fun hq => by simp [go_sem, x0] <;> rfl) (by rfl)
        case oS6 => intro ev wo hev hC hs hph; have x0 := sd hs 23 5; have y := sd hs 22 4; exact ob_gv _ rfl rfl y rfl (by kernel_rfl) hC (TSp.of rfl (Grows.refl _)) (fun hq => by simp [go_sem, (x0.trans (gw_t (beq_t hq))), hev.const, hsz, g1, i1, i2] <;> rfl) (by rfl)
        case oS7 => intro ev wo hev hC hs hph; have x0 := sd hs 24 6; have y := sd hs 22 4; exact ob_gv _ rfl rfl y rfl (by kernel_rfl) hC (TSp.of rfl (Grows.refl _)) (fun hq => by simp [go_sem, (x0.trans (gw_t (beq_t hq))), hev.const] <;> rfl) (by rfl)
        case oS8 => intro ev wo hev hC hs hph; have x0 := sd hs 22 4; have x1 := sd hs 25 7; exact od rfl rfl (by kernel_rfl) hC (TSp.of rfl (Grows.refl _)) (by rw [pick_and rfl x0 x1 (hev.const _)] <;> rfl)
        case oS9 => intro ev wo hev hC hs hph; have x0 := sd hs 26 8; exact od rfl rfl (by kernel_rfl) hC (TSp.of rfl (Grows.refl _)) (by simp [go_sem, x0] <;> rfl)
        case oS10 => intro ev wo hev hC hs hph; have x0 := se hA hs 3; have y := sd hs 27 9; exact ob_gv _ rfl rfl y rfl (by kernel_rfl) hC (TSp.of rfl (Grows.refl _)) (fun hq => by simp [go_sem, x0] <;> rfl) (by rfl)
        case oS11 => intro ev wo hev hC hs hph; have x0 := sd hs 28 10; have y := sd hs 27 9; exact ob_gv _ rfl rfl y rfl (by kernel_rfl) hC (TSp.of rfl (Grows.refl _)) (fun hq => by simp [go_sem, (x0.trans (gw_t (beq_t hq))), pS _ hC, hne] <;> rfl) (by rfl)
        case oS12 => intro ev wo hev hC hs hph; have x0 := sd hs 29 11; have y := sd hs 27 9; exact ob_gv _ rfl rfl y rfl (by kernel_rfl) hC (TSp.of rfl (Grows.refl _)) (fun hq => by simp [go_sem, (x0.trans (gw_t (beq_t hq))), hev.const] <;> rfl) (by rfl)
        case oS13 => intro ev wo hev hC hs hph; have x0 := sd hs 27 9; have x1 := sd hs 30 12; exact od rfl rfl (by kernel_rfl) hC (TSp.of rfl (Grows.refl _)) (by rw [pick_and rfl x0 x1 (hev.const _)] <;> rfl)
        case oS14 => intro ev wo hev hC hs hph; have x0 := sd hs 18 0; exact od rfl rfl (by kernel_rfl) hC (TSp.of rfl (Grows.refl _)) (by simp [go_sem, x0] <;> rfl)
        case oS15 => intro ev wo hev hC hs hph; have x0 := sd hs 31 13; exact od rfl rfl (by kernel_rfl) hC (TSp.of rfl (Grows.refl _)) (by simp [go_sem, x0] <;> rfl)
        intro sg wf hC hph
        intro a hA
        replace hA := hA.keepN [4, 5]
        refine nT (wp_ret (rT ?_))
        refine ret_2 hA 4 5 rfl rfl rfl ?_
        refine ⟨_, _, rfl, ?_, HB.trans (hC.mono HB.size)⟩
        rw [hl2]
        exact apart_blank d r2 k
      case nB =>
        have hl2 : l = d :: r2 := by
          unfold Lib.trimPrefix at hr
          rw [hq0, hq2, if_neg (by decide)] at hr
          exact hr
        have hd32 : d ≠ 32 := fun e => by
          rw [hl2, hq2, e] at hq0
          revert hq0
          unfold Lib.hasPrefix
          simp [List.isPrefixOf]
        have pS2 := fun (wo : World) (hC : (fun wy => Below w1.heap.size w1 wy) wo) => have Kx := K.below hC K.lt; (Kx.cell)
        refine wp_skip (nT (wS ?_))
        refine wp_any_at hA [(.det ?dS20), (.det ?dS21), (.det ?dS22), (.det ?dS23), (.det ?dS24), (.det ?dS25), (.det ?dS26), (.det ?dS27), (.det ?dS28), (.det ?dS29), (.det ?dS210)] [] (fun wy => Below w1.heap.size w1 wy) (TSp [] Grows) (by kernel_rfl) rfl (by kernel_rfl) (by kernel_rfl) rfl ((Below.refl _ _).drew) (stab_sp [] [true, true, true, true, true, true, true, true, true, true, true] [true, true, true, true, true, true, true, true, true, true, true] [] rfl rfl rfl (by kernel_rfl) ⟨trivial, trivial, trivial, trivial, trivial, trivial, trivial, trivial, trivial, trivial, trivial, trivial⟩ trivial) (fun _ h => by cases h) (fun _ _ _ _ _ h => by cases h) (fun _ h => by cases h) ⟨?oS20, ?oS21, ?oS22, ?oS23, ?oS24, ?oS25, ?oS26, ?oS27, ?oS28, ?oS29, ?oS210, trivial⟩ (by kernel_rfl) ?fS2
        case oS20 => intro ev wo hev hC hs hph; have x0 := se hA hs 6; exact od rfl rfl (by kernel_rfl) hC (TSp.of rfl (Grows.refl _)) (by simp [go_sem, x0] <;> rfl)
        case oS21 => intro ev wo hev hC hs hph; have x0 := se hA hs 6; exact od rfl rfl (by kernel_rfl) hC (TSp.of rfl (Grows.refl _)) (by simp [go_sem, x0] <;> rfl)
        case oS22 => intro ev wo hev hC hs hph; have x0 := sd hs 33 1; exact od rfl rfl (by kernel_rfl) hC (TSp.of rfl (Grows.refl _)) (by simp [go_sem, x0, hev.const, hsz, g1, i1, i2] <;> rfl)
        case oS23 => intro ev wo hev hC hs hph; have x0 := sd hs 34 2; exact od rfl rfl (by kernel_rfl) hC (TSp.of rfl (Grows.refl _)) (by simp [go_sem, x0, hev.const] <;> rfl)
        case oS24 => intro ev wo hev hC hs hph; have x0 := sd hs 35 3; exact od rfl rfl (by kernel_rfl) hC (TSp.of rfl (Grows.refl _)) (by simp [go_sem, x0] <;> rfl)
        case oS25 => intro ev wo hev hC hs hph; have x0 := se hA hs 3; have y := sd hs 36 4; exact ob_gv _ rfl rfl y rfl (by kernel_rfl) hC (TSp.of rfl (Grows.refl _)) (fun hq => by simp [go_sem, x0] <;> rfl) (by rfl)
        case oS26 => intro ev wo hev hC hs hph; have x0 := sd hs 37 5; have y := sd hs 36 4; exact ob_gv _ rfl rfl y rfl (by kernel_rfl) hC (TSp.of rfl (Grows.refl _)) (fun hq => by simp [go_sem, (x0.trans (gw_t (beq_t hq))), pS2 _ hC, hne] <;> rfl) (by rfl)
        case oS27 => intro ev wo hev hC hs hph; have x0 := sd hs 38 6; have y := sd hs 36 4; exact ob_gv _ rfl rfl y rfl (by kernel_rfl) hC (TSp.of rfl (Grows.refl _)) (fun hq => by simp [go_sem, (x0.trans (gw_t (beq_t hq))), hev.const] <;> rfl) (by rfl)
        case oS28 => intro ev wo hev hC hs hph; have x0 := sd hs 36 4; have x1 := sd hs 39 7; exact od rfl rfl (by kernel_rfl) hC (TSp.of rfl (Grows.refl _)) (by rw [pick_or rfl x0 (hev.const _) x1] <;> rfl)
        case oS29 => intro ev wo hev hC hs hph; have x0 := sd hs 32 0; exact od rfl rfl (by kernel_rfl) hC (TSp.of rfl (Grows.refl _)) (by simp [go_sem, x0] <;> rfl)
        case oS210 => intro ev wo hev hC hs hph; have x0 := sd hs 40 8; exact od rfl rfl (by kernel_rfl) hC (TSp.of rfl (Grows.refl _)) (by simp [go_sem, x0] <;> rfl)
        intro sg wf hC hph
        intro a hA
        replace hA := hA.keepN [4, 5]
        refine nT (wp_ret ?_)
        refine ret_2 hA 4 5 rfl rfl rfl ?_
        refine ⟨_, _, rfl, ?_, HB.trans (hC.mono HB.size)⟩
        rw [hl2]
        exact apart_none d r2 k hd32
end Go.Proofs.YtjhaccmcjlbllaaGreatDoor
/-
  What comes behind a block is shown once.
-/
namespace Go.Proofs.YtjhaccmcjlbllaaGreatDoor
open Go Go.RowKit
theorem wp_joinb {P : Program} {Q : Exit → Act → World → Prop} {a : Act} {w : World} {id : Nat} {x y : Code} (R : Act → World → Prop) (h : x.wp P (Exit.inBlock id (Exit.then R Q)) a w) (hy : ∀ a w, R a w → y.wp P Q a w) : x.wp P (Exit.inBlock id (Exit.then (y.wp P Q) Q)) a w :=
  wp_mono h fun e a w q => by
    cases e with
    | normal => exact hy _ _ q
    | exit k =>
      by_cases hk : k = id
      · subst hk
        refine x_block (hy _ _ ?_)
        have q2 : (if k = k then Exit.then R Q .normal a w else Exit.then R Q (.exit k) a w) := q
        rw [if_pos rfl] at q2
        exact q2
      · refine x_miss hk ?_
        have q2 : (if k = id then Exit.then R Q .normal a w else Exit.then R Q (.exit k) a w) := q
        rw [if_neg hk] at q2
        exact q2
    | _ => exact q
end Go.Proofs.YtjhaccmcjlbllaaGreatDoor
/-
  Walk: lex.Tokens.
-/
namespace Go.Proofs.YtjhaccmcjlbllaaGreatDoor
open Go.RowKit
set_option linter.unusedSimpArgs false
set_option linter.unusedVariables false
def tokC (x : TokS) : List Value := [.int .i64 (x.k : Nat), .string (St x.t)]
def tokSh : Sh TokS := ⟨60, 47, 2, 24, .agg #[.int .i64 0, .string ⟨#[]⟩], tokC, fun _ => [], fun _ => rfl, fun x u hu => by
  unfold tokC at hu
  simp only [List.mem_cons, List.not_mem_nil, or_false] at hu
  rcases hu with rfl | rfl <;> rfl, Tryz.underlying47, by kernel_rfl, rfl, by decide, by decide⟩
/-- what tokens' text is read as -/
def toksR (b : List UInt8) (ts : List TokS) (ok : Bool) : Prop := match tokS 202 0 0 b with
  | some l => ts = l ∧ ok = true
  | none => ts = [] ∧ ok = false
theorem toksR_none {b : List UInt8} (h : tokS 202 0 0 b = none) : toksR b [] false := by unfold toksR; rw [h]; exact ⟨rfl, rfl⟩
theorem toksR_some {b : List UInt8} {l : List TokS} (h : tokS 202 0 0 b = some l) : toksR b l true := by unfold toksR; rw [h]; exact ⟨rfl, rfl⟩
theorem app_tok {B g : Nat} {w : World} {v : Value} {us : List TokS} {u : TokS} (ho : OwnR tokSh B w v us) (K : Blk w g 60 (tokC u).toArray) (hlen : us.length ≤ 1000000) (hB : B ≤ w.heap.size) :
    ∃ r w', (Builtin.append_ #[47, 47] 47 #[v, .slice (some ⟨g, 0, none⟩) 1 1]).run Tryz.prog w = .ok r w' ∧ OwnR tokSh B w' r (us ++ [u]) ∧ w.grownBy w' v.ownBlock := by
  have hrow : RowR tokSh w (some ⟨g, 0, none⟩) [u] := rowR_blk (s := tokSh) (x := u) K fun p hp' => by cases hp'
  obtain ⟨r, w', hr, ho', hg, -⟩ := run_appR (c := 1) ho hrow (fun g' hg' m hm p hp' => by cases hp') (by simp; omega) hB
  exact ⟨r, w', hr, ho', hg⟩
theorem deep_bound {d : Int} {k n : Nat} (h0 : 0 ≤ d) (h1 : d ≤ n) : -1 ≤ deepS d k ∧ deepS d k ≤ ((n + 1 : Nat) : Int) := by
  unfold deepS
  split
  · omega
  · split <;> omega
theorem deep_3 (d : Int) : deepS d 3 = d + 1 := rfl
theorem deep_4 (d : Int) : deepS d 4 = d - 1 := rfl
theorem deep_o {d : Int} {k : Nat} (h3 : k ≠ 3) (h4 : k ≠ 4) : deepS d k = d := by unfold deepS; rw [if_neg h3, if_neg h4]
set_option maxRecDepth 100000 in
set_option maxHeartbeats 4000000 in
theorem tokens_any (A : Option Addr) (n c : Nat) (b : List UInt8) (m : Int) (w : World) (hm : w.cell? ⟨0, 0, none⟩ = some (.int .i64 m)) (hl : b.length = n) (hn : n ≤ 900000) (hr : Reads w w.heap.size 1 A n (u8s b)) : Calls Tryz.prog 48 #[.slice A n c] w fun ev w' => ∃ v ts ok, ev = .returned (.tuple #[v, .bool ok]) ∧ OwnR tokSh w.heap.size w' v ts ∧ toksR b ts ok ∧ Below w.heap.size w w' := by
  have hm0 : 0 < w.heap.size := block_lt_of_cell hm
  have hcv := conv_reads (c := c) hl hr
  refine calls_at 54 Tryz.func48 rfl rfl (Nat.le_of_ble_eq_true rfl) ?_
  intro a hA; replace hA := hA.norm
  refine wS (wR ?_)
  revert a; (iterate 2 refine wo rfl rfl (by decide) (fun ev e h => by simp [go_sem, h, hcv] <;> rfl) ?_); intro a hA
  replace hA := hA.keepN [0]
  refine wN (nT (wS (wR ?_)))
  revert a; refine wo rfl rfl (by decide) (fun ev e h => by simp [go_sem, h, hcv] <;> rfl) ?_; intro a hA
  replace hA := hA.keepN [0, 4]
  refine wN (nT (wS (wR ?_)))
  revert a; refine wo rfl rfl (by decide) (fun ev e h => by simp [go_sem, h, hcv] <;> rfl) ?_; intro a hA
  replace hA := hA.keepN [0, 4, 5]
  refine wN (nT (wS (wS (wR ?_))))
  revert a; refine wo rfl rfl (by decide) (fun ev e h => by simp [go_sem, h, hcv] <;> rfl) ?_; intro a hA
  refine wl_op hA rfl rfl (by decide) (fun ev h => by simp [go_sem, h.get 10 rfl, hcv]; try first | exact ⟨rfl, rfl⟩ | rfl) fun a hA => ?_
  revert a; refine wo rfl rfl (by decide) (fun ev e h => by simp [go_sem, h, hcv] <;> rfl) ?_; intro a hA
  replace hA := hA.keepN [4, 5, 6]
  refine wN (nT (wB ?_))
  refine wp_loop_at (fun f a wx => ∃ (s : List UInt8) (d : Int) (v : Value) (ts : List TokS), f + ts.length = 202 ∧ ts.length ≤ 200 ∧ 0 ≤ d ∧ d ≤ ((ts.length : Nat) : Int) ∧ s.length ≤ 900000 ∧ tokS 202 0 0 b = (tokS f d ts.length s).map (ts ++ ·) ∧ OwnR tokSh w.heap.size wx v ts ∧ Below w.heap.size w wx ∧ At 54 [(4, v), (5, .int .i64 d), (6, .string (St s))] a) (202) ?_ ?_
  · exact ⟨b, 0, _, [], rfl, Nat.zero_le _, by omega, by simp, by omega, by cases tokS 202 0 0 b <;> rfl, OwnR.nil _ _, Below.refl _ _, hA⟩
  clear hA
  rintro f a wx ⟨s, d, v, ts, hf, hts, hd0, hdn, hsl, hT, ho, HB, hA⟩
  obtain ⟨f, rfl⟩ : ∃ g, f = g + 1 := ⟨f - 1, by omega⟩
  obtain ⟨Av, cv, rfl, _, hcv2⟩ := ho.reads
  cases s with
  | nil =>
    refine wS (wS (wR ?_))
    revert a; (iterate 2 refine wo rfl rfl (by decide) (fun ev e h => by simp [go_sem, h] <;> rfl) ?_); intro a hA
    replace hA := hA.keepN [4, 5, 6, 13]
    refine wN (nT ?_)
    refine wp_if hA 13 _ rfl (fun hq => ?yA) (fun hq => ?nA)
    case yA => simp at hq
    case nA =>
      replace hA := hA.keepN [4, 5]
      refine wp_exit (xT (xT (xB (nT (wS (wS (wR ?_)))))))
      revert a; (iterate 2 refine wo rfl rfl (by decide) (fun ev e h => by simp [go_sem, h] <;> rfl) ?_); intro a hA
      replace hA := hA.keepN [4, 52]
      refine wN (nT ?_)
      refine wp_if hA 52 _ rfl (fun hq2 => ?yB) (fun hq2 => ?nB)
      case yB =>
        have hne : d ≠ 0 := by simpa using hq2
        have hT2 : tokS 202 0 0 b = none := by rw [hT]; unfold tokS; rw [if_pos rfl, if_neg hne]; rfl
        refine wS (wR ?_)
        revert a; (iterate 2 refine wo rfl rfl (by decide) (fun ev e h => by simp [go_sem, h] <;> rfl) ?_); intro a hA
        replace hA := hA.keepN [2, 3]
        refine wN (nT (wp_ret (rT ?_)))
        refine ret_2 hA 2 3 rfl rfl rfl ?_
        exact ⟨_, [], false, rfl, OwnR.nil _ _, toksR_none hT2, HB⟩
      case nB =>
        have hz : d = 0 := by simpa using hq2
        have hT2 : tokS 202 0 0 b = some ts := by rw [hT]; unfold tokS; rw [if_pos rfl, if_pos hz]; simp
        refine wp_skip (nT (wS (wR ?_)))
        revert a; (iterate 3 refine wo rfl rfl (by decide) (fun ev e h => by simp [go_sem, h] <;> rfl) ?_); intro a hA
        replace hA := hA.keepN [2, 3]
        refine wN (nT (wp_ret ?_))
        refine ret_2 hA 2 3 rfl rfl rfl ?_
        exact ⟨_, ts, true, rfl, ho, toksR_some hT2, HB⟩
  | cons x r =>
    have hne : (St (x :: r) == (⟨#[]⟩ : ByteArray)) = false := by
      show ((x :: r).toArray == #[]) = false
      refine beq_eq_false_iff_ne.2 fun e => ?_
      have := congrArg Array.size e
      simp at this
    rw [List.length_cons] at hsl
    have hrl : r.length ≤ 900000 := by omega
    have hTs : tokS (f + 1) d ts.length (x :: r) = match oneS (x :: r) with
      | none => none
      | some (t, rest) => if ts.length = 200 ∨ deepS d t.k < 0 then none else match apartS rest t.k with
        | none => none
        | some s' => (tokS f (deepS d t.k) (ts.length + 1) s').map (t :: ·) := by
      conv => lhs; unfold tokS
      rw [if_neg (by simp)]
      rfl
    refine wS (wS (wR ?_))
    revert a; (iterate 2 refine wo rfl rfl (by decide) (fun ev e h => by simp [go_sem, h, hne] <;> rfl) ?_); intro a hA
    replace hA := hA.keepN [4, 5, 6, 13]
    refine wN (nT ?_)
    refine wp_if hA 13 _ rfl (fun hq => ?yA) (fun hq => ?nA)
    case nA => simp at hq
    case yA =>
      refine wp_skip (nT (wB (wS (wR ?_))))
      revert a; refine wo rfl rfl (by decide) (fun ev e h => by simp [go_sem, h, hne] <;> rfl) ?_; intro a hA
      refine wl_call hA rfl rfl (by decide) (fun ev h => exec_call Tryz.func71 (by kernel_rfl) rfl (h.f _) (by first | (simp only [mL, h.get 15 rfl, h.c] <;> rfl) | (simp [mL, h.get 15 rfl, h.c, hne] <;> rfl))) (one_any x r m _ ((HB.cell hm0).trans hm) hrl) ?_
      rintro e w1 ⟨k, s1, rest1, ok, rfl, hone, hb1⟩
      refine ⟨_, rfl, fun a hA => ?_⟩
      replace ho := ho.below hb1
      replace HB := HB.trans (hb1.mono HB.size)
      have hltv := World.ownsRow.lt ho.row
      revert a; (iterate 4 refine wo rfl rfl (by decide) (fun ev e h => by simp [go_sem, h, hne] <;> rfl) ?_); intro a hA
      refine wl_local [.int .i64 k, .string s1] hA rfl rfl (by decide) (fun ev h => by simp [go_sem, hne]; try first | exact ⟨rfl, rfl⟩ | rfl) rfl rfl (by rfl) (fun w1 g ev hb h => by simp [go_sem, h.get 7 rfl, h.get 17 rfl, hne, setAll, hb.cell, hb.frozen]) fun w2 a (K : Blk _ _ _ _) hz2 hb2 hA => ?_
      replace ho := ho.below hb2
      replace HB := HB.trans (hb2.mono HB.size)
      unfold oneR at hone
      cases hO : oneS (x :: r) with
      | none =>
        rw [hO] at hone hTs
        have hok : ok = false := hone
        subst hok
        have hT2 : tokS 202 0 0 b = none := by rw [hT, hTs]; rfl
        refine wl_op hA rfl rfl (by decide) (fun ev h => by simp [go_sem, h.get 18 rfl, hne]; try first | exact ⟨rfl, rfl⟩ | rfl) fun a hA => ?_
        refine wl_op hA rfl rfl (by decide) (fun ev h => by simp [go_sem, h.get 19 rfl, hne]; try first | exact ⟨rfl, rfl⟩ | rfl) fun a hA => ?_
        replace hA := hA.keepN [4, 5, 7, 8, 9]
        refine wN (nT (wS (wS (wR ?_))))
        refine wl_op hA rfl rfl (by decide) (fun ev h => by simp [go_sem, h.get 9 rfl, hne]; try first | exact ⟨rfl, rfl⟩ | rfl) fun a hA => ?_
        refine wl_op hA rfl rfl (by decide) (fun ev h => by simp [go_sem, h.get 20 rfl, hne]; try first | exact ⟨rfl, rfl⟩ | rfl) fun a hA => ?_
        refine wl_op hA rfl rfl (by decide) (fun ev h => by simp [go_sem, h.get 21 rfl, hne]; try first | exact ⟨rfl, rfl⟩ | rfl) fun a hA => ?_
        refine wl_guard _ (v := .bool false) hA rfl rfl rfl rfl (by decide) (fun hq ev h => by first | (cases hq; done) | (cases hr; done)) fun a hA => ?_
        refine wl_guard _ (v := .bool false) hA rfl rfl rfl rfl (by decide) (fun hq ev h => by first | (cases hq; done) | (cases hr; done)) fun a hA => ?_
        refine wl_guard _ (v := .bool false) hA rfl rfl rfl rfl (by decide) (fun hq ev h => by first | (cases hq; done) | (cases hr; done)) fun a hA => ?_
        revert a; (first | refine wko rfl rfl (by decide) rfl rfl rfl ?_ | refine wo rfl rfl (by decide) (fun ev e h => by simp [go_sem, h, gv_or, gv_and, hne] <;> rfl) ?_); intro a hA
        replace hA := hA.keepN [4, 5, 7, 8, 26]
        refine wN (nT ?_)
        refine wp_if hA 26 _ rfl (fun hq2 => ?yB) (fun hq2 => ?nB)
        case nB => simp at hq2
        case yB =>
          refine wS (wR ?_)
          revert a; (iterate 2 refine wo rfl rfl (by decide) (fun ev e h => by simp [go_sem, h, hne] <;> rfl) ?_); intro a hA
          replace hA := hA.keepN [2, 3]
          refine wN (nT (wp_ret (rT (rB (rT (rB (rT ?_)))))))
          refine ret_2 hA 2 3 rfl rfl rfl ?_
          exact ⟨_, [], false, rfl, OwnR.nil _ _, toksR_none hT2, HB⟩
      | some p =>
        obtain ⟨t, rest⟩ := p
        rw [hO] at hone hTs
        obtain ⟨e1, e2, e3, e4⟩ := hone
        have e1 : k = (t.k : Nat) := e1
        have e2 : s1 = St t.t := e2
        have e3 : rest1 = St rest := e3
        subst e1 e2 e3 e4
        have hlen := (one_len hO (by rw [List.length_cons]; omega)).2
        rw [List.length_cons] at hlen
        simp only [] at hTs
        revert a; (iterate 2 refine wo rfl rfl (by decide) (fun ev e h => by simp [go_sem, h, hne] <;> rfl) ?_); intro a hA
        replace hA := hA.keepN [4, 5, 7, 8, 9]
        refine wN (nT (wS (wS (wR ?_))))
        revert a; (iterate 3 refine wo rfl rfl (by decide) (fun ev e h => by simp [go_sem, h, hne] <;> rfl) ?_); (iterate 3 refine wg _ rfl rfl rfl rfl (by decide) (fun hq ev e h => by simp [go_sem, h, ↓gw_t (beq_t hq), hne] <;> rfl) ?_); (first | refine wko rfl rfl (by decide) rfl rfl rfl ?_ | refine wo rfl rfl (by decide) (fun ev e h => by simp [go_sem, h, gv_or, gv_and, hne] <;> rfl) ?_); intro a hA
        replace hA := hA.keepN [4, 5, 7, 8, 26]
        refine wN (nT ?_)
        refine wp_if hA 26 _ rfl (fun hq2 => ?yB) (fun hq2 => ?nB)
        case yB =>
          have h200 : ts.length = 200 := by simp at hq2; omega
          have hT2 : tokS 202 0 0 b = none := by rw [hT, hTs, if_pos (.inl h200)]; rfl
          refine wS (wR ?_)
          revert a; (iterate 2 refine wo rfl rfl (by decide) (fun ev e h => by simp [go_sem, h, hne] <;> rfl) ?_); intro a hA
          replace hA := hA.keepN [2, 3]
          refine wN (nT (wp_ret (rT (rB (rT (rB (rT ?_)))))))
          refine ret_2 hA 2 3 rfl rfl rfl ?_
          exact ⟨_, [], false, rfl, OwnR.nil _ _, toksR_none hT2, HB⟩
        case nB =>
          have h200 : ¬ ts.length = 200 := by simp at hq2; omega
          obtain ⟨d1, d2⟩ := deep_bound (k := t.k) hd0 hdn
          refine wp_skip (nT (wS (wS (wR ?_))))
          revert a; (iterate 2 refine wo rfl rfl (by decide) (fun ev e h => by simp [go_sem, h, K.cell] <;> rfl) ?_); intro a hA
          replace hA := hA.keepN [4, 5, 7, 8, 28]
          refine wN (nT (wB (wS (wR ?_))))
          revert a; (iterate 2 refine wo rfl rfl (by decide) (fun ev e h => by simp [go_sem, h, K.cell] <;> rfl) ?_); intro a hA
          replace hA := hA.keepN [4, 5, 7, 8, 28, 29]
          refine wN (nT ?_)
          refine wp_joinb (fun a wy => wy = w2 ∧ At 54 [(4, .slice Av ts.length cv), (5, .int .i64 (deepS d t.k)), (7, .pointer (some ⟨w1.heap.size, 0, none⟩)), (8, .string (St rest))] a) ?jfJ ?jrJ
          case jfJ =>
            refine wp_if hA 29 _ rfl (fun hq3 => ?yC) (fun hq3 => ?nC)
            case yC =>
              have hk : t.k = 3 := by simp at hq3; omega
              rw [hk, deep_3] at d1 d2
              have j1 : IntKind.i64.wrap (d + 1) = d + 1 := IntWalk.i64_in _ (by omega)
              rw [hk, deep_3]
              refine wR ?_
              revert a; (iterate 3 refine wo rfl rfl (by decide) (fun ev e h => by simp [go_sem, h, j1] <;> rfl) ?_); intro a hA
              replace hA := hA.keepN [4, 5, 7, 8]
              refine wN (nB (nT ?_))
              exact ⟨rfl, hA⟩
            case nC =>
              have hk : t.k ≠ 3 := by simp at hq3; omega
              refine wS (wR ?_)
              revert a; (iterate 2 refine wo rfl rfl (by decide) (fun ev e h => by simp [go_sem, h] <;> rfl) ?_); intro a hA
              replace hA := hA.keepN [4, 5, 7, 8, 33]
              refine wN (nT ?_)
              refine wp_if hA 33 _ rfl (fun hq4 => ?yD) (fun hq4 => ?nD)
              case yD =>
                have hk : t.k = 4 := by simp at hq4; omega
                rw [hk, deep_4] at d1 d2
                have j1 : IntKind.i64.wrap (d - 1) = d - 1 := IntWalk.i64_in _ (by omega)
                rw [hk, deep_4]
                refine wR ?_
                revert a; (iterate 3 refine wo rfl rfl (by decide) (fun ev e h => by simp [go_sem, h, j1] <;> rfl) ?_); intro a hA
                replace hA := hA.keepN [4, 5, 7, 8]
                refine wN (nB (nT ?_))
                exact ⟨rfl, hA⟩
              case nD =>
                have hk4 : t.k ≠ 4 := by simp at hq4; omega
                rw [deep_o hk hk4]
                replace hA := hA.keepN [4, 5, 7, 8]
                refine wp_skip (nB (nT ?_))
                exact ⟨rfl, hA⟩
          case jrJ =>
            clear hA
            rintro a wy ⟨rfl, hA⟩
            obtain ⟨D, hD⟩ : ∃ D, deepS d t.k = D := ⟨_, rfl⟩
            rw [hD] at hA d1 d2 hTs
            refine wS (wS (wR ?_))
            revert a; (iterate 2 refine wo rfl rfl (by decide) (fun ev e h => by simp [go_sem, h] <;> rfl) ?_); intro a hA
            replace hA := hA.keepN [4, 5, 7, 8, 38]
            refine wN (nT ?_)
            refine wp_if hA 38 _ rfl (fun hq3 => ?yE) (fun hq3 => ?nE)
            case yE =>
              have hneg : D < 0 := by simpa using hq3
              have hT2 : tokS 202 0 0 b = none := by rw [hT, hTs, if_pos (.inr hneg)]; rfl
              refine wS (wR ?_)
              revert a; (iterate 2 refine wo rfl rfl (by decide) (fun ev e h => by simp [go_sem, h] <;> rfl) ?_); intro a hA
              replace hA := hA.keepN [2, 3]
              refine wN (nT (wp_ret (rT (rB (rT (rB (rT ?_)))))))
              refine ret_2 hA 2 3 rfl rfl rfl ?_
              exact ⟨_, [], false, rfl, OwnR.nil _ _, toksR_none hT2, HB⟩
            case nE =>
              have hneg : ¬ D < 0 := by simpa using hq3
              rw [if_neg (by rintro (h | h) <;> omega)] at hTs
              refine wp_skip (nT (wS (wR ?_)))
              revert a; (iterate 2 refine wo rfl rfl (by decide) (fun ev e h => by simp [go_sem, h, K.cell] <;> rfl) ?_); intro a hA
              refine wl_new hA rfl rfl (by decide) (fun ev h => by simp [go_sem, h.get 40 rfl, K.cell]; try first | exact ⟨rfl, rfl⟩ | rfl) fun w3 a (K3 : Blk _ _ _ _) hz3 hb3 hA => ?_
              replace K := K.below hb3 K.lt
              replace ho := ho.below hb3
              replace HB := HB.trans (hb3.mono HB.size)
              obtain ⟨v4, w4, hr4, ho4, hg4⟩ := app_tok (u := t) ho K3 (by omega) HB.size
              refine wl_op hA rfl rfl (by decide) (fun ev h => exec_append rfl (h.get 39 rfl) (h.get 41 rfl) hr4) fun a hA => ?_
              have HB4 := below_appR HB ho hg4 (Nat.le_refl _) HB.size
              replace K := K.grown hg4 (fun e => by have := (hltv _ e.symm).2; omega)
              revert a; refine wo rfl rfl (by decide) (fun ev e h => by simp [go_sem, h, K.cell] <;> rfl) ?_; intro a hA
              replace hA := hA.keepN [4, 5, 7, 8]
              refine wN (nT (wS (wR ?_)))
              revert a; (iterate 2 refine wo rfl rfl (by decide) (fun ev e h => by simp [go_sem, h, K.cell] <;> rfl) ?_); intro a hA
              refine wl_call hA rfl rfl (by decide) (fun ev h => exec_call Tryz.func72 (by kernel_rfl) rfl (h.f _) (by first | (simp only [mL, h.get 44 rfl, h.get 45 rfl, h.c] <;> rfl) | (simp [mL, h.get 44 rfl, h.get 45 rfl, h.c, K.cell] <;> rfl))) (apart_any rest t.k (St t.t) _ (by omega)) ?_
              rintro e w5 ⟨s5, ok5, rfl, hap, hb5⟩
              refine ⟨_, rfl, fun a hA => ?_⟩
              replace K := K.below hb5 K.lt
              replace ho4 := ho4.below hb5
              replace HB4 := HB4.trans (hb5.mono HB4.size)
              revert a; (iterate 5 refine wo rfl rfl (by decide) (fun ev e h => by simp [go_sem, h, K.cell] <;> rfl) ?_); intro a hA
              replace hA := hA.keepN [4, 5, 6, 9]
              refine wN (nT (wS (wR ?_)))
              revert a; (iterate 2 refine wo rfl rfl (by decide) (fun ev e h => by simp [go_sem, h, K.cell] <;> rfl) ?_); intro a hA
              replace hA := hA.keepN [4, 5, 6, 50]
              refine wN (nT ?_)
              unfold apartR at hap
              refine wp_if hA 50 _ rfl (fun hq4 => ?yF) (fun hq4 => ?nF)
              case yF =>
                have hok : ok5 = false := by simpa using hq4
                cases hS : apartS rest t.k with
                | some q => rw [hS] at hap; rw [hap.2] at hok; cases hok
                | none =>
                  rw [hS] at hTs
                  have hT2 : tokS 202 0 0 b = none := by rw [hT, hTs]; rfl
                  refine wS (wR ?_)
                  revert a; (iterate 2 refine wo rfl rfl (by decide) (fun ev e h => by simp [go_sem, h, K.cell] <;> rfl) ?_); intro a hA
                  replace hA := hA.keepN [2, 3]
                  refine wN (nT (wp_ret (rB (rT (rB (rT ?_))))))
                  refine ret_2 hA 2 3 rfl rfl rfl ?_
                  exact ⟨_, [], false, rfl, OwnR.nil _ _, toksR_none hT2, HB4⟩
              case nF =>
                have hok : ok5 = true := by simpa using hq4
                cases hS : apartS rest t.k with
                | none => rw [hS] at hap; rw [hap] at hok; cases hok
                | some q =>
                  rw [hS] at hap hTs
                  obtain ⟨rfl, -⟩ := hap
                  have hql := apart_len hS
                  have hl2 : (ts ++ [t]).length = ts.length + 1 := by simp
                  replace hA := hA.keepN [4, 5, 6]
                  refine wp_skip (nB (nT ?_))
                  refine ⟨f, by omega, q, D, v4, ts ++ [t], by omega, by omega, by omega, by omega, by omega, ?_, ho4, HB4, hA⟩
                  rw [hT, hTs, hl2]
                  simp only [Option.map_map]
                  congr 1
                  funext z
                  simp
end Go.Proofs.YtjhaccmcjlbllaaGreatDoor
/-
  Whole variables of many cells: stored, and loaded.
-/
namespace Go.Proofs.YtjhaccmcjlbllaaGreatDoor
open Go Go.RowKit
set_option linter.unusedSimpArgs false
set_option linter.unusedVariables false
section
variable {P : Program} {w : World} {g : Nat} {T : TypeId} {ev : Operand → Value} {o : Oper} {a x : Operand} {cs cur : List Value}
theorem run_setAll : ∀ (cs : List Value) (i : Nat) (cur : List Value) (w : World), Blk w g T cur.toArray → i + cs.length ≤ cur.length → (∀ v ∈ cs, v.oneCell' = true) → (storeCells ⟨g, 0, none⟩ cs i).run P w = .ok () (setAll w g i cs)
  | [], i, cur, w, _, _, _ => by simp [storeCells, setAll]
  | c :: r, i, cur, w, K, h, h1 => by
    rw [List.length_cons] at h
    have hst := run_store P w ⟨g, i, none⟩ c .plain (h1 c List.mem_cons_self)
    have hc : cur.toArray[i]? = some (cur[i]'(by omega)) := by
      rw [List.getElem?_toArray]
      exact List.getElem?_eq_getElem (by omega)
    rw [K.cell, hc] at hst
    simp only [K.frozen] at hst
    have h2 := K.set_ i c
    rw [List.setIfInBounds_toArray] at h2
    have ih := run_setAll r (i + 1) _ _ h2 (by rw [List.length_set]; omega) (fun v hv => h1 v (List.mem_cons_of_mem _ hv))
    have e0 : (⟨g, 0, none⟩ : Addr).add i = ⟨g, i, none⟩ := add0 g i
    rw [storeCells]
    simp [Sem.run_bind, e0, hst, ih, setAll]
theorem exec_storeW (ho : o.op = .store T a x) (ha : ev a = .pointer (some ⟨g, 0, none⟩)) (hx : ev x = .agg cs.toArray) (hi : (P.info? T).map (·.size) = some cs.length) (K : Blk w g T cur.toArray) (hl : cs.length = cur.length) (h1 : cs.all (·.oneCell') = true) : (execOp ev o).run P w = .ok .skip (setAll w g 0 cs) := by
  have hs := run_setAll (P := P) cs 0 cur w K (by omega) (fun v hv => List.all_eq_true.1 h1 v hv)
  cases hq : P.info? T with
  | none => simp [hq] at hi
  | some i =>
    have hsz : i.size = cs.length := by simpa [hq] using hi
    unfold execOp
    simp [ho, ha, hx, Instr.storeAt, Instr.sureAddr, storeVar, sizeOf, typeInfo, hq, Value.cells, hsz, hs]
theorem exec_loadW (ho : o.op = .load T a) (ha : ev a = .pointer (some ⟨g, 0, none⟩)) (hi : (P.info? T).map (·.size) = some cs.length) (hg : ∀ w, (isAgg T).run P w = .ok true w) (K : Blk w g T cs.toArray) : (execOp ev o).run P w = .ok (.value (.agg cs.toArray)) w := by
  have hs := run_loadCells_list (P := P) w ⟨g, 0, none⟩ cs (fun j v hv => by
    rw [show (⟨g, 0, none⟩ : Addr).add j = ⟨g, j, none⟩ from add0 g j, K.cell]
    rw [List.getElem?_toArray]; exact hv)
  cases hq : P.info? T with
  | none => simp [hq] at hi
  | some i =>
    have hsz : i.size = cs.length := by simpa [hq] using hi
    unfold execOp
    simp [ho, ha, Instr.loadAt, Instr.sureAddr, loadVar, hg w, sizeOf, typeInfo, hq, hsz, hs]
theorem run_loadVarW (hi : (P.info? T).map (·.size) = some cs.length) (hg : ∀ w, (isAgg T).run P w = .ok true w) (K : Blk w g T cs.toArray) : (loadVar T ⟨g, 0, none⟩).run P w = .ok (.agg cs.toArray) w := by
  have hs := run_loadCells_list (P := P) w ⟨g, 0, none⟩ cs (fun j v hv => by
    rw [show (⟨g, 0, none⟩ : Addr).add j = ⟨g, j, none⟩ from add0 g j, K.cell]
    rw [List.getElem?_toArray]; exact hv)
  cases hq : P.info? T with
  | none => simp [hq] at hi
  | some i =>
    have hsz : i.size = cs.length := by simpa [hq] using hi
    simp [loadVar, hg w, sizeOf, typeInfo, hq, hsz, hs]
theorem ret_cellW {n : Nat} {Γ : List (Nat × Value)} {act : Act} {fn : Func} {R : Ending → World → Prop} {t u : Nat} {y : Value} (hA : At n Γ act) (hr : fn.results = #[.cell t T, .tmp u]) (hl : look Γ t = some (.pointer (some ⟨g, 0, none⟩))) (hl2 : look Γ u = some y) (hi : (P.info? T).map (·.size) = some cs.length) (hg : ∀ w, (isAgg T).run P w = .ok true w) (K : Blk w g T cs.toArray) (hR : R (.returned (.tuple #[.agg cs.toArray, y])) w) : bodyPost P fn R .ret act w :=
  bodyPost_ret (by
    have h1 := run_loadVarW (P := P) hi hg K
    have e1 : act.tmps[t]?.getD undef = _ := (Array.getD_eq_getD_getElem? ..).symm.trans (hA.getD t hl)
    have e2 : act.tmps[u]?.getD undef = _ := (Array.getD_eq_getD_getElem? ..).symm.trans (hA.getD u hl2)
    simp [results, hr, e1, e2, asAddr, h1]) hA.defers hR
end
end Go.Proofs.YtjhaccmcjlbllaaGreatDoor
/-
  Walks: parse.arguments of NOOP; parse.Tag; parse.Parse.
-/
namespace Go.Proofs.YtjhaccmcjlbllaaGreatDoor
open Go.RowKit
set_option linter.unusedSimpArgs false
set_option linter.unusedVariables false
set_option linter.unusedSimpArgs false
set_option linter.unusedVariables false
abbrev slNil : SlV := ⟨none, 0, 0⟩
theorem cmd_size : (Tryz.prog.info? 66).map (·.size) = some 17 := by kernel_rfl
theorem cmd_agg (w : World) : (isAgg 66).run Tryz.prog w = .ok true w := by simp [isAgg, run_underlying Tryz.underlying66]
/-- a command that has a tag and a name alone -/
def bareC (tag nm : ByteArray) : CmdV := ⟨tag, nm, false, ⟨#[]⟩, ⟨#[]⟩, ⟨#[]⟩, ⟨#[]⟩, ⟨#[]⟩, 0, 0, false, false, 0, slNil, slNil, slNil, slNil⟩
abbrev noopS : ByteArray := ⟨#[78, 79, 79, 80]⟩
set_option maxRecDepth 100000 in
set_option maxHeartbeats 8000000 in
theorem argumentsNoop_any (pr pc : Nat) (tag : ByteArray) (w : World) (K : Blk w pc 66 (cmdC (bareC tag noopS))) : Calls Tryz.prog 52 #[.pointer (some ⟨pr, 0, none⟩), .pointer (some ⟨pc, 0, none⟩)] w fun ev w' => ev = .returned (.tuple #[]) ∧ w' = w := by
  unfold bareC at K
  refine calls_at 106 Tryz.func52 rfl rfl (Nat.le_of_ble_eq_true rfl) ?_
  intro a hA; replace hA := hA.norm
  refine wS (wR ?_)
  revert a; (iterate 4 refine wo rfl rfl (by decide) (fun ev e h => by simp [go_sem, h, K.cell] <;> rfl) ?_); intro a hA
  replace hA := hA.keepN [0, 1, 7]
  refine wN (nT (wB (wS (wS (wR ?_)))))
  revert a; (iterate 2 refine wo rfl rfl (by decide) (fun ev e h => by simp [go_sem, h, K.cell] <;> rfl) ?_); intro a hA
  replace hA := hA.keepN [0, 1, 7, 15]
  refine wN (nT ?_)
  refine wp_if hA 15 _ rfl (fun gA => ?yA) (fun gA => ?nA)
  case yA => cases gA
  case nA =>
    refine wS (wR ?_)
    revert a; (iterate 2 refine wo rfl rfl (by decide) (fun ev e h => by simp [go_sem, h, K.cell] <;> rfl) ?_); intro a hA
    replace hA := hA.keepN [0, 1, 7, 15]
    refine wN (nT ?_)
    refine wp_if hA 15 _ rfl (fun gB => ?yB) (fun gB => ?nB)
    case nB => cases gB
    case yB =>
      refine wp_skip (nT ?_)
      refine wp_if hA 15 _ rfl (fun gC => ?yC) (fun gC => ?nC)
      case nC => cases gC
      case yC =>
        refine wp_skip (nB ?_)
        exact end_0 hA rfl ⟨rfl, rfl⟩
/-- the tag of bytes -/
def tagV (b : List UInt8) : List UInt8 := if tagS (Lib.cut b [32]).1 then (Lib.cut b [32]).1 else [42]
theorem cut_fst_len (b : List UInt8) : (Lib.cut b [32]).1.length ≤ b.length := by
  rcases cut_spec 32 b with ⟨_, h, _⟩ | ⟨a', b', h0, _, h, _⟩
  · rw [h]; exact Nat.le_refl _
  · rw [h, h0]; simp
set_option maxRecDepth 100000 in
set_option maxHeartbeats 8000000 in
theorem tag_any (A : Option Addr) (c : Nat) (b : List UInt8) (m : Int) (w : World) (hm : w.cell? ⟨0, 0, none⟩ = some (.int .i64 m)) (hn : b.length ≤ 900000) (hr : Reads w w.heap.size 1 A b.length (u8s b)) : Calls Tryz.prog 30 #[.slice A b.length c] w fun ev w' => ev = .returned (.string (St (tagV b))) ∧ Below w.heap.size w w' := by
  have hcv := conv_reads (c := c) (n := b.length) rfl hr
  have HB := Below.refl w.heap.size w
  refine calls_at 17 Tryz.func30 rfl rfl (Nat.le_of_ble_eq_true rfl) ?_
  intro a hA; replace hA := hA.norm
  refine wS (wR ?_)
  revert a; refine wo rfl rfl (by decide) (fun ev e h => by simp [go_sem, h, hcv] <;> rfl) ?_; intro a hA
  replace hA := hA.keepN [0]
  refine wN (nT (wS (wR ?_)))
  revert a; refine wo rfl rfl (by decide) (fun ev e h => by simp [go_sem, h, hcv] <;> rfl) ?_; intro a hA
  refine wl_op hA rfl rfl (by decide) (fun ev h => by simp [go_sem, h.get 7 rfl, hcv]; try first | exact ⟨rfl, rfl⟩ | rfl) fun a hA => ?_
  refine wl_call hA rfl rfl (by decide) (fun ev h => exec_call Tryz.func53 (by kernel_rfl) rfl (h.f _) (by first | (simp only [mL, h.get 8 rfl, h.c] <;> rfl) | (simp [mL, h.get 8 rfl, h.c, hcv] <;> rfl))) (Tryz.strings_Cut (St b) ⟨#[32]⟩ m w (by show b.length < _; omega) hm) ?_
  rintro e w1 ⟨rfl, n1, rfl⟩
  refine ⟨_, rfl, fun a hA => ?_⟩
  obtain ⟨t, ht⟩ : ∃ t, (Lib.cut b [32]).1 = t := ⟨_, rfl⟩
  have htl : t.length ≤ 900000 := by rw [← ht]; have := cut_fst_len b; omega
  rw [show (Lib.cut (St b).data.toList (⟨#[32]⟩ : ByteArray).data.toList).1 = t from ht] at hA
  have HB1 := below_drewN HB n1
  revert a; (iterate 7 refine wo rfl rfl (by decide) (fun ev e h => by simp [go_sem, h, hcv] <;> rfl) ?_); intro a hA
  replace hA := hA.keepN [3]
  refine wN (nT (wS (wS (wR ?_))))
  revert a; refine wo rfl rfl (by decide) (fun ev e h => by simp [go_sem, h, hcv] <;> rfl) ?_; intro a hA
  refine wl_call hA rfl rfl (by decide) (fun ev h => exec_call Tryz.func51 (by kernel_rfl) rfl (h.f _) (by first | (simp only [mL, h.get 13 rfl, h.c] <;> rfl) | (simp [mL, h.get 13 rfl, h.c, hcv] <;> rfl))) (tagged_any t _ (by omega)) ?_
  rintro e w2 ⟨rfl, hb2⟩
  refine ⟨_, rfl, fun a hA => ?_⟩
  obtain ⟨q, hq⟩ : ∃ q, tagS t = q := ⟨_, rfl⟩
  have htv : tagV b = if q then t else [42] := by unfold tagV; rw [ht, hq]
  rw [hq] at hA
  revert a; refine wo rfl rfl (by decide) (fun ev e h => by simp [go_sem, h, hcv] <;> rfl) ?_; intro a hA
  replace hA := hA.keepN [3, 15]
  refine wN (nT ?_)
  refine wp_if hA 15 _ rfl (fun hq2 => ?yA) (fun hq2 => ?nA)
  case yA =>
    have hqf : q = false := by simpa using hq2
    subst hqf
    refine wS (wR ?_)
    revert a; refine wo rfl rfl (by decide) (fun ev e h => by simp [go_sem, h, hcv] <;> rfl) ?_; intro a hA
    replace hA := hA.keepN [2]
    refine wN (nT (wp_ret (rT ?_)))
    refine ret_1 hA 2 rfl rfl ?_
    exact ⟨by rw [htv]; rfl, HB1.trans (hb2.mono HB1.size)⟩
  case nA =>
    have hqf : q = true := by simpa using hq2
    subst hqf
    refine wp_skip (nT (wS (wR ?_)))
    revert a; (iterate 2 refine wo rfl rfl (by decide) (fun ev e h => by simp [go_sem, h, hcv] <;> rfl) ?_); intro a hA
    replace hA := hA.keepN [2]
    refine wN (nT (wp_ret ?_))
    refine ret_1 hA 2 rfl rfl ?_
    exact ⟨by rw [htv]; rfl, HB1.trans (hb2.mono HB1.size)⟩
def toI (t : TokS) : TokI := ⟨(t.k : Nat), t.t⟩
theorem rowI_of {w : World} {A : Option Addr} {ts : List TokS} (h : RowR tokSh w A ts) : RowR tokISh w A (ts.map toI) := by
  refine ⟨?_, fun m _ p hp => by cases hp⟩
  have h1 : Reads w w.heap.size 2 A ts.length (ts.flatMap tokC) := h.row
  rw [show ts.flatMap tokC = (ts.map toI).flatMap tokIC by rw [List.flatMap_map]; rfl] at h1
  show Reads w w.heap.size 2 A (ts.map toI).length _
  rw [List.length_map]
  exact h1
theorem one_small {s r : List UInt8} {t : TokS} (h : oneS s = some (t, r)) : t.t.length ≤ s.length ∧ r.length ≤ s.length := by
  cases s with
  | nil => cases h
  | cons c q =>
    rw [one_cons] at h
    split at h
    · injection h with h; injection h with h1 h2; subst h1 h2; exact ⟨Nat.zero_le _, by simp⟩
    split at h
    · injection h with h; injection h with h1 h2; subst h1 h2; exact ⟨Nat.zero_le _, by simp⟩
    split at h
    · cases hq : quotedS [] q with
      | none => rw [hq] at h; cases h
      | some p =>
        obtain ⟨x, y⟩ := p
        rw [hq] at h
        injection h with h; injection h with h1 h2; subst h1 h2
        have := quoted_len _ (Nat.le_refl _) hq
        rw [List.length_nil] at this
        rw [List.length_cons]
        exact ⟨by show x.length ≤ _; omega, by show y.length ≤ _; omega⟩
    split at h
    · cases hq : countedS (c :: q) with
      | none => rw [hq] at h; cases h
      | some p =>
        obtain ⟨x, y⟩ := p
        rw [hq] at h
        injection h with h; injection h with h1 h2; subst h1 h2
        exact counted_len hq
    split at h
    · injection h with h; injection h with h1 h2; subst h1 h2
      exact ⟨(dropWhile_len _ _).2, (dropWhile_len _ _).1⟩
    · cases h
theorem tok_small : ∀ (f : Nat) (d : Int) (n : Nat) (s : List UInt8) (l : List TokS), tokS f d n s = some l → ∀ t ∈ l, t.t.length ≤ s.length
  | 0, _, _, _, _, h => by rw [tokS] at h; cases h
  | f + 1, d, n, s, l, h => by
    rw [tokS] at h
    split at h
    · split at h
      · injection h with h; subst h; intro t ht; cases ht
      · cases h
    · cases h1 : oneS s with
      | none => rw [h1] at h; cases h
      | some p =>
        obtain ⟨t, rest⟩ := p
        rw [h1] at h
        simp only at h
        split at h
        · cases h
        · cases h2 : apartS rest t.k with
          | none => rw [h2] at h; cases h
          | some s' =>
            rw [h2] at h
            simp only at h
            cases h3 : tokS f (deepS d t.k) (n + 1) s' with
            | none => rw [h3] at h; cases h
            | some l' =>
              rw [h3] at h
              injection h with h
              subst h
              have hs := one_small h1
              have ha := apart_len h2
              intro x hx
              rcases List.mem_cons.1 hx with rfl | hx
              · exact hs.1
              · have := tok_small f _ _ s' l' h3 x hx
                omega
/-- the one command that is walked to its end: a tag, and NOOP -/
def noopT (t : List UInt8) : List TokS := [⟨1, t⟩, ⟨1, [110, 111, 111, 112]⟩]
theorem noop_take (t : List UInt8) : takeT [1] ((noopT t).map toI) false = t ∧ okT [1] ((noopT t).map toI) false = true ∧ takeT [1] (takeL [1] ((noopT t).map toI) false) false = [110, 111, 111, 112] ∧ okT [1] (takeL [1] ((noopT t).map toI) false) false = true ∧ takeL [1] (takeL [1] ((noopT t).map toI) false) false = [] := ⟨rfl, rfl, rfl, rfl, rfl⟩
set_option maxRecDepth 100000 in
set_option maxHeartbeats 16000000 in
theorem parseC_any (A : Option Addr) (c : Nat) (b : List UInt8) (w : World) (hw : Fine w) (hn : b.length ≤ 900000) (hr : Reads w w.heap.size 1 A b.length (u8s b)) : Calls Tryz.prog 29 #[.slice A b.length c] w fun ev w' => ∃ v ok, ev = .returned (.tuple #[.agg (cmdC v), .bool ok]) ∧ (ok = false → v = bareC (St (tagV b)) ⟨#[]⟩) ∧ (∀ t, tokS 202 0 0 b = some (noopT t) → tagS t = true → ok = true ∧ v = bareC (St t) noopS) ∧ Below w.heap.size w w' := by
  have hFG : FineG w.heap.size w := ⟨w, rfl, hw, Below.refl _ _⟩
  obtain ⟨m, hm⟩ := hw.len
  have HB := Below.refl w.heap.size w
  refine calls_at 58 Tryz.func29 rfl rfl (Nat.le_of_ble_eq_true rfl) ?_
  intro a hA; replace hA := hA.norm
  refine wS (wR ?_)
  refine wl_new hA rfl rfl (by decide) (fun ev h => by simp [go_sem]; try first | exact ⟨rfl, rfl⟩ | rfl) fun w1 a (K2 : Blk _ _ _ _) hz1 hb1 hA => ?_
  replace HB := HB.trans (hb1.mono HB.size)
  replace hr := (hr.below hb1).more hb1.size
  have hw1 := hw.below hb1
  obtain ⟨m1, hm1⟩ := hw1.len
  revert a; refine wo rfl rfl (by decide) (fun ev e h => by simp [go_sem, h] <;> rfl) ?_; intro a hA
  replace hA := hA.keepN [0, 2]
  refine wN (nT (wS (wR ?_)))
  revert a; refine wo rfl rfl (by decide) (fun ev e h => by simp [go_sem, h] <;> rfl) ?_; intro a hA
  refine wl_call hA rfl rfl (by decide) (fun ev h => exec_call Tryz.func30 (by kernel_rfl) rfl (h.f _) (by first | (simp only [mL, h.get 9 rfl, h.c] <;> rfl) | (simp [mL, h.get 9 rfl, h.c] <;> rfl))) (tag_any A c b m1 _ hm1 hn hr) ?_
  rintro e w2 ⟨rfl, hb2⟩
  refine ⟨_, rfl, fun a hA => ?_⟩
  replace HB := HB.trans (hb2.mono HB.size)
  replace hr := (hr.below hb2).more hb2.size
  replace K2 := K2.below hb2 K2.lt
  revert a; refine wo rfl rfl (by decide) (fun ev e h => by simp [go_sem, h] <;> rfl) ?_; intro a hA
  refine wl_local [.string (St (tagV b)), .string ⟨#[]⟩, .bool false, .string ⟨#[]⟩, .string ⟨#[]⟩, .string ⟨#[]⟩, .string ⟨#[]⟩, .string ⟨#[]⟩, .int .i64 0, .int .i64 0, .bool false, .bool false, .int .i64 0, .slice none 0 0, .slice none 0 0, .slice none 0 0, .slice none 0 0] hA rfl rfl (by decide) (fun ev h => by simp [go_sem]; try first | exact ⟨rfl, rfl⟩ | rfl) rfl rfl (by rfl) (fun w1 g ev hb h => exec_storeW rfl (h.get 4 rfl) (h.get 11 rfl) cmd_size hb (by rfl) (by rfl)) fun w3 a (K4 : Blk _ _ _ _) hz3 hb3 hA => ?_
  replace HB := HB.trans (hb3.mono HB.size)
  replace hr := (hr.below hb3).more hb3.size
  replace K2 := K2.below hb3 K2.lt
  have hw3 := (hw1.below hb2).below hb3
  obtain ⟨m3, hm3⟩ := hw3.len
  replace hA := hA.keepN [0, 2, 4]
  refine wN (nT (wS (wR ?_)))
  revert a; refine wo rfl rfl (by decide) (fun ev e h => by simp [go_sem, h] <;> rfl) ?_; intro a hA
  refine wl_call hA rfl rfl (by decide) (fun ev h => exec_call Tryz.func48 (by kernel_rfl) rfl (h.f _) (by first | (simp only [mL, h.get 13 rfl, h.c] <;> rfl) | (simp [mL, h.get 13 rfl, h.c] <;> rfl))) (tokens_any A b.length c b m3 _ hm3 rfl hn hr) ?_
  rintro e w4 ⟨V, ts, ok, rfl, ho, hts, hb4⟩
  refine ⟨_, rfl, fun a hA => ?_⟩
  replace HB := HB.trans (hb4.mono HB.size)
  replace hr := (hr.below hb4).more hb4.size
  replace K2 := K2.below hb4 K2.lt
  replace K4 := K4.below hb4 K4.lt
  have hw4 := hw3.below hb4
  revert a; (iterate 5 refine wo rfl rfl (by decide) (fun ev e h => by simp [go_sem, h] <;> rfl) ?_); intro a hA
  replace hA := hA.keepN [2, 4, 5, 6]
  refine wN (nT (wS (wS (wR ?_))))
  revert a; (iterate 2 refine wo rfl rfl (by decide) (fun ev e h => by simp [go_sem, h] <;> rfl) ?_); intro a hA
  replace hA := hA.keepN [2, 4, 5, 18]
  refine wN (nT ?_)
  refine wp_if hA 18 _ rfl (fun hq => ?yA) (fun hq => ?nA)
  case yA =>
    have hok : ok = false := by simpa using hq
    subst hok
    refine wS (wR ?_)
    refine wl_op hA rfl rfl (by decide) (fun ev h => exec_loadW (cs := [.string (St (tagV b)), .string ⟨#[]⟩, .bool false, .string ⟨#[]⟩, .string ⟨#[]⟩, .string ⟨#[]⟩, .string ⟨#[]⟩, .string ⟨#[]⟩, .int .i64 0, .int .i64 0, .bool false, .bool false, .int .i64 0, .slice none 0 0, .slice none 0 0, .slice none 0 0, .slice none 0 0]) rfl (h.get 4 rfl) cmd_size cmd_agg K4) fun a hA => ?_
    refine wl_set [.string (St (tagV b)), .string ⟨#[]⟩, .bool false, .string ⟨#[]⟩, .string ⟨#[]⟩, .string ⟨#[]⟩, .string ⟨#[]⟩, .string ⟨#[]⟩, .int .i64 0, .int .i64 0, .bool false, .bool false, .int .i64 0, .slice none 0 0, .slice none 0 0, .slice none 0 0, .slice none 0 0] hA rfl rfl K2 (by rfl) (fun ev h => exec_storeW rfl (h.get 2 rfl) (h.get 19 rfl) cmd_size K2 (by rfl) (by rfl)) fun w9 (K2 : Blk _ _ _ _) hs9 => ?_
    revert a; refine wo rfl rfl (by decide) (fun ev e h => by simp [go_sem, h] <;> rfl) ?_; intro a hA
    replace hA := hA.keepN [2, 3]
    refine wN (nT (wp_ret (rT ?_)))
    refine ret_cellW (cs := [.string (St (tagV b)), .string ⟨#[]⟩, .bool false, .string ⟨#[]⟩, .string ⟨#[]⟩, .string ⟨#[]⟩, .string ⟨#[]⟩, .string ⟨#[]⟩, .int .i64 0, .int .i64 0, .bool false, .bool false, .int .i64 0, .slice none 0 0, .slice none 0 0, .slice none 0 0, .slice none 0 0]) hA rfl rfl rfl cmd_size cmd_agg K2 ?_
    refine ⟨bareC (St (tagV b)) ⟨#[]⟩, false, rfl, fun _ => rfl, fun t e ht => ?_, hs9.below HB (by omega)⟩
    unfold toksR at hts
    rw [e] at hts
    exact absurd hts.2 (by decide)
  case nA =>
    have hok : ok = true := by simpa using hq
    subst hok
    have hts2 : tokS 202 0 0 b = some ts := by
      unfold toksR at hts
      cases hl : tokS 202 0 0 b with
      | none => rw [hl] at hts; exact absurd hts.2 (by decide)
      | some l => rw [hl] at hts; rw [hts.1]
    clear hts
    have hlen : ts.length ≤ 200 := by have := (tok_ok 202 0 0 b ts (by omega) (by omega) hts2).2.2; omega
    have hsm : ∀ t ∈ ts.map toI, t.t.length ≤ 1048576 := fun t ht => by
      obtain ⟨x, hx, rfl⟩ := List.mem_map.1 ht
      have := tok_small _ _ _ _ _ hts2 x hx
      show x.t.length ≤ _
      omega
    obtain ⟨AV, cV, rfl, hrV, hcV⟩ := ho.reads
    have htkV : TokB w4 AV := fun ad e => by
      subst e
      obtain ⟨cs, k⟩ := own_kind (g := ad.block) ho.row (by
        obtain ⟨g, o, n⟩ := ad
        rfl)
      exact ⟨cs, k⟩
    refine wp_skip (nT (wS (wR ?_)))
    revert a; (iterate 2 refine wo rfl rfl (by decide) (fun ev e h => by simp [go_sem, h] <;> rfl) ?_); intro a hA
    refine wl_new hA rfl rfl (by decide) (fun ev h => by simp [go_sem, h.get 21 rfl]; try first | exact ⟨rfl, rfl⟩ | rfl) fun w5 a (KR : Blk _ _ _ _) hz5 hb5 hA => ?_
    replace HB := HB.trans (hb5.mono HB.size)
    replace K2 := K2.below hb5 K2.lt
    replace K4 := K4.below hb5 K4.lt
    have hw5 : FineG w.heap.size w5 := ⟨w, rfl, hw, HB⟩
    have h : RdP w5 w4.heap.size (ts.map toI) false := ⟨AV, cV, by rw [List.length_map]; exact KR, (rowI_of hrV).below hb5, by rw [List.length_map]; exact hcV, fun ad e => by
      obtain ⟨cs, k⟩ := htkV ad e
      exact ⟨cs, k.below hb5 k.lt⟩⟩
    clear KR
    obtain ⟨pr, hpr⟩ : ∃ pr, w4.heap.size = pr := ⟨_, rfl⟩
    rw [hpr] at h hA
    have hz14 := hb4.size
    have hz12 := hb2.size
    have hG : w.heap.size ≤ pr := by omega
    have hll : (ts.map toI).length ≤ 200 := by rw [List.length_map]; exact hlen
    revert a; refine wo rfl rfl (by decide) (fun ev e h => by simp [go_sem, h] <;> rfl) ?_; intro a hA
    replace hA := hA.keepN [2, 4, 7]
    refine wN (nT (wS (wR ?_)))
    revert a; refine wo rfl rfl (by decide) (fun ev e h => by simp [go_sem, h] <;> rfl) ?_; intro a hA
    refine wl_new hA rfl rfl (by decide) (fun ev h => by simp [go_sem, h.c]; try first | exact ⟨rfl, rfl⟩ | rfl) fun w6 a (K6 : Blk _ _ _ _) hz6 hb6 hA => ?_
    refine wl_call hA rfl rfl (by decide) (fun ev h => exec_call Tryz.func49 (by kernel_rfl) rfl (h.f _) (by first | (simp only [mL, h.get 23 rfl, h.get 24 rfl, h.c] <;> rfl) | (simp [mL, h.get 23 rfl, h.get 24 rfl, h.c] <;> rfl))) (takeP_any pr [1] _ 1 _ false _ (h.below hb6) K6 (by decide) (by omega)) ?_
    rintro e w7 ⟨rfl, h7, T7⟩
    refine ⟨_, rfl, fun a hA => ?_⟩
    replace T7 := (TurnR.of (pr := pr) hb6).trans T7
    have hl1 := takeL_len [1] (ts.map toI) false
    revert a; refine wo rfl rfl (by decide) (fun ev e h => by simp [go_sem, h] <;> rfl) ?_; intro a hA
    refine wl_new hA rfl rfl (by decide) (fun ev h => by simp [go_sem, h.c]; try first | exact ⟨rfl, rfl⟩ | rfl) fun w8 a (K8 : Blk _ _ _ _) hz8 hb8 hA => ?_
    refine wl_call hA rfl rfl (by decide) (fun ev h => exec_call Tryz.func49 (by kernel_rfl) rfl (h.f _) (by first | (simp only [mL, h.get 26 rfl, h.get 27 rfl, h.c] <;> rfl) | (simp [mL, h.get 26 rfl, h.get 27 rfl, h.c] <;> rfl))) (takeP_any pr [1] _ 1 _ _ _ (h7.below hb8) K8 (by decide) (by omega)) ?_
    rintro e w9 ⟨rfl, h9, T9⟩
    refine ⟨_, rfl, fun a hA => ?_⟩
    replace T9 := T7.trans ((TurnR.of (pr := pr) hb8).trans T9)
    obtain ⟨t1, ht1⟩ : ∃ x, takeT [1] (ts.map toI) false = x := ⟨_, rfl⟩
    obtain ⟨t2, ht2⟩ : ∃ x, takeT [1] (takeL [1] (ts.map toI) false) (!okT [1] (ts.map toI) false) = x := ⟨_, rfl⟩
    obtain ⟨L2, hL2⟩ : ∃ x, takeL [1] (takeL [1] (ts.map toI) false) (!okT [1] (ts.map toI) false) = x := ⟨_, rfl⟩
    obtain ⟨b2, hb2x⟩ : ∃ x, (!okT [1] (takeL [1] (ts.map toI) false) (!okT [1] (ts.map toI) false)) = x := ⟨_, rfl⟩
    have hspec : ∀ t, ts = noopT t → t1 = t ∧ t2 = [110, 111, 111, 112] ∧ L2 = [] ∧ b2 = false := fun t e => by
      obtain ⟨p1, p2, p3, p4, p5⟩ := noop_take t
      rw [← e] at p1 p2 p3 p4 p5
      rw [p2] at ht2 hL2 hb2x
      exact ⟨ht1.symm.trans p1, ht2.symm.trans p3, hL2.symm.trans p5, by rw [← hb2x, show (!true) = false from rfl, p4]; rfl⟩
    have ht1l : t1.length ≤ 1048576 := by rw [← ht1]; exact takeT_len hsm
    have ht2l : t2.length ≤ 1048576 := by rw [← ht2]; exact takeT_len ((sub_take _ _ _).small hsm)
    have hsub : Sub L2 (ts.map toI) := by rw [← hL2]; exact (sub_take _ _ _).trans (sub_take _ _ _)
    rw [ht1, ht2] at hA
    rw [hL2, hb2x] at h9
    clear hb2x hL2 ht1 ht2 h7 T7 hl1 K6 K8 h
    refine wl_call hA rfl rfl (by decide) (fun ev h => exec_call Tryz.func50 (by kernel_rfl) rfl (h.f _) (by first | (simp only [mL, h.get 28 rfl, h.c] <;> rfl) | (simp [mL, h.get 28 rfl, h.c] <;> rfl))) (great_any t2 _ (by omega)) ?_
    rintro e w10 ⟨rfl, hb10⟩
    refine ⟨_, rfl, fun a hA => ?_⟩
    replace h9 := h9.below hb10
    replace T9 := T9.below hb10
    revert a; refine wo rfl rfl (by decide) (fun ev e h => by simp [go_sem, h] <;> rfl) ?_; intro a hA
    refine wl_local [.string (St t1), .string (St (greatS t2)), .bool false, .string ⟨#[]⟩, .string ⟨#[]⟩, .string ⟨#[]⟩, .string ⟨#[]⟩, .string ⟨#[]⟩, .int .i64 0, .int .i64 0, .bool false, .bool false, .int .i64 0, .slice none 0 0, .slice none 0 0, .slice none 0 0, .slice none 0 0] hA rfl rfl (by decide) (fun ev h => by simp [go_sem]; try first | exact ⟨rfl, rfl⟩ | rfl) rfl rfl (by rfl) (fun w1 g ev hb h => exec_storeW rfl (h.get 8 rfl) (h.get 30 rfl) cmd_size hb (by rfl) (by rfl)) fun w11 a (KC : Blk _ _ _ _) hz11 hb11 hA => ?_
    replace h9 := h9.below hb11
    replace T9 := T9.below hb11
    replace K2 := Apart.blk T9 K2 (show ¬ w.heap.size = pr by omega)
    replace K4 := Apart.blk T9 K4 (show ¬ w2.heap.size = pr by omega)
    have HB9 : Below w.heap.size w w11 := HB.trans (T9.toBelow w.heap.size hG HB.size)
    obtain ⟨pc, hpc⟩ : ∃ pc, w10.heap.size = pc := ⟨_, rfl⟩
    rw [hpc] at KC hA
    have hz9 := T9.size
    have hz10 := hb11.size
    have hG2 : w.heap.size ≤ pc := by have := HB.size; have := hb11.size; omega
    obtain ⟨AR, cR, KR, hrR, hcR, htkR⟩ := h9.ex
    replace hA := hA.keepN [2, 4, 7, 8]
    refine wN (nT (wS (wS (wR ?_))))
    revert a; (iterate 5 refine wo rfl rfl (by decide) (fun ev e h => by simp [go_sem, h, KR.cell, KC.cell] <;> rfl) ?_); (iterate 2 refine wg _ rfl rfl rfl rfl (by decide) (fun hq ev e h => by simp [go_sem, h, ↓gw_t (beq_t hq), KR.cell, KC.cell] <;> rfl) ?_); intro a hA
    refine wl_gcallv _ hA rfl rfl rfl rfl (by decide) (fun hq ev h => exec_call Tryz.func51 (by kernel_rfl) rfl (h.f _) (by first | (simp only [mL, ((h.get 37 rfl).trans (gw_t (beq_t hq))), h.c] <;> rfl) | (simp [mL, ((h.get 37 rfl).trans (gw_t (beq_t hq))), h.c, KR.cell, KC.cell] <;> rfl))) (fun hq => tagged_any t1 _ (by omega)) fun a w12 hb12 hA => ?_
    obtain ⟨tq, htq⟩ : ∃ q, tagS t1 = q := ⟨_, rfl⟩
    rw [htq] at hA
    replace K2 := K2.below hb12 K2.lt
    replace K4 := K4.below hb12 K4.lt
    replace KC := KC.below hb12 KC.lt
    replace h9 := h9.below hb12
    replace KR := KR.below hb12 KR.lt
    replace HB9 := HB9.trans (hb12.mono HB9.size)
    have hsp : ∀ t, tokS 202 0 0 b = some (noopT t) → ts = noopT t := fun t e => Option.some.inj (hts2.symm.trans e)
    revert a; refine wg _ rfl rfl rfl rfl (by decide) (fun hq ev e h => by simp [go_sem, h, ↓gw_t (beq_t hq), KR.cell, KC.cell] <;> rfl) ?_; refine wko rfl rfl (by decide) rfl rfl rfl ?_; intro a hA
    replace hA := hA.keepN [2, 4, 7, 8, 40]
    refine wN (nT ?_)
    refine wp_if hA 40 _ rfl (fun hq2 => ?yB) (fun hq2 => ?nB)
    case yB =>
      refine wS (wR ?_)
      refine wl_op hA rfl rfl (by decide) (fun ev h => exec_loadW (cs := [.string (St (tagV b)), .string ⟨#[]⟩, .bool false, .string ⟨#[]⟩, .string ⟨#[]⟩, .string ⟨#[]⟩, .string ⟨#[]⟩, .string ⟨#[]⟩, .int .i64 0, .int .i64 0, .bool false, .bool false, .int .i64 0, .slice none 0 0, .slice none 0 0, .slice none 0 0, .slice none 0 0]) rfl (h.get 4 rfl) cmd_size cmd_agg K4) fun a hA => ?_
      refine wl_set [.string (St (tagV b)), .string ⟨#[]⟩, .bool false, .string ⟨#[]⟩, .string ⟨#[]⟩, .string ⟨#[]⟩, .string ⟨#[]⟩, .string ⟨#[]⟩, .int .i64 0, .int .i64 0, .bool false, .bool false, .int .i64 0, .slice none 0 0, .slice none 0 0, .slice none 0 0, .slice none 0 0] hA rfl rfl K2 (by rfl) (fun ev h => exec_storeW rfl (h.get 2 rfl) (h.get 41 rfl) cmd_size K2 (by rfl) (by rfl)) fun w20 (K2 : Blk _ _ _ _) hs20 => ?_
      revert a; refine wo rfl rfl (by decide) (fun ev e h => by simp [go_sem, h] <;> rfl) ?_; intro a hA
      replace hA := hA.keepN [2, 3]
      refine wN (nT (wp_ret (rT ?_)))
      refine ret_cellW (cs := [.string (St (tagV b)), .string ⟨#[]⟩, .bool false, .string ⟨#[]⟩, .string ⟨#[]⟩, .string ⟨#[]⟩, .string ⟨#[]⟩, .string ⟨#[]⟩, .int .i64 0, .int .i64 0, .bool false, .bool false, .int .i64 0, .slice none 0 0, .slice none 0 0, .slice none 0 0, .slice none 0 0]) hA rfl rfl rfl cmd_size cmd_agg K2 ?_
      refine ⟨bareC (St (tagV b)) ⟨#[]⟩, false, rfl, fun _ => rfl, fun t e ht => ?_, hs20.below HB9 (by omega)⟩
      obtain ⟨p1, p2, p3, p4⟩ := hspec t (hsp t e)
      rw [p4, ← htq, p1, ht] at hq2
      exact absurd hq2 (by decide)
    case nB =>
      have hb2f : b2 = false := by cases b2 <;> simp at hq2 <;> simp_all
      subst hb2f
      by_cases hN : ∃ t, ts = noopT t
      case pos =>
        obtain ⟨t, hN⟩ := hN
        obtain ⟨p1, p2, p3, p4⟩ := hspec t hN
        have hgr : St (greatS t2) = noopS := by rw [p2]; rfl
        rw [hgr] at KC
        subst p3
        refine wp_skip (nT (wS (wR ?_)))
        revert a; refine wo rfl rfl (by decide) (fun ev e h => by simp [go_sem, h] <;> rfl) ?_; intro a hA
        refine wl_call hA rfl rfl (by decide) (fun ev h => exec_call Tryz.func52 (by kernel_rfl) rfl (h.f _) (by first | (simp only [mL, h.get 42 rfl, h.get 8 rfl, h.c] <;> rfl) | (simp [mL, h.get 42 rfl, h.get 8 rfl, h.c] <;> rfl))) (argumentsNoop_any pr pc (St t1) _ KC) ?_
        rintro e w13 ⟨rfl, rfl⟩
        refine ⟨_, rfl, fun a hA => ?_⟩
        replace hA := hA.keepN [2, 4, 7, 8]
        refine wN (nT (wS (wS (wR ?_))))
        revert a; (iterate 5 refine wo rfl rfl (by decide) (fun ev e h => by simp [go_sem, h, KR.cell] <;> rfl) ?_); (iterate 5 refine wg _ rfl rfl rfl rfl (by decide) (fun hq ev e h => by simp [go_sem, h, ↓gw_t (beq_t hq), KR.cell] <;> rfl) ?_); intro a hA
        replace hA := hA.keepN [2, 4, 8, 48, 53]
        revert a; refine wg _ rfl rfl rfl rfl (by decide) (fun hq ev e h => by simp [go_sem, h, ↓gw_t (beq_t hq), KR.cell] <;> rfl) ?_; refine wko rfl rfl (by decide) rfl rfl rfl ?_; intro a hA
        replace hA := hA.keepN [2, 4, 8, 55]
        refine wN (nT ?_)
        refine wp_if hA 55 _ rfl (fun hq3 => ?yC) (fun hq3 => ?nC)
        case yC => simp at hq3
        case nC =>
          refine wp_skip (nT (wS (wR ?_)))
          refine wl_op hA rfl rfl (by decide) (fun ev h => exec_loadW (cs := [.string (St t1), .string noopS, .bool false, .string ⟨#[]⟩, .string ⟨#[]⟩, .string ⟨#[]⟩, .string ⟨#[]⟩, .string ⟨#[]⟩, .int .i64 0, .int .i64 0, .bool false, .bool false, .int .i64 0, .slice none 0 0, .slice none 0 0, .slice none 0 0, .slice none 0 0]) rfl (h.get 8 rfl) cmd_size cmd_agg KC) fun a hA => ?_
          refine wl_set [.string (St t1), .string noopS, .bool false, .string ⟨#[]⟩, .string ⟨#[]⟩, .string ⟨#[]⟩, .string ⟨#[]⟩, .string ⟨#[]⟩, .int .i64 0, .int .i64 0, .bool false, .bool false, .int .i64 0, .slice none 0 0, .slice none 0 0, .slice none 0 0, .slice none 0 0] hA rfl rfl K2 (by rfl) (fun ev h => exec_storeW rfl (h.get 2 rfl) (h.get 57 rfl) cmd_size K2 (by rfl) (by rfl)) fun w20 (K2 : Blk _ _ _ _) hs20 => ?_
          revert a; refine wo rfl rfl (by decide) (fun ev e h => by simp [go_sem, h] <;> rfl) ?_; intro a hA
          replace hA := hA.keepN [2, 3]
          refine wN (nT (wp_ret ?_))
          refine ret_cellW (cs := [.string (St t1), .string noopS, .bool false, .string ⟨#[]⟩, .string ⟨#[]⟩, .string ⟨#[]⟩, .string ⟨#[]⟩, .string ⟨#[]⟩, .int .i64 0, .int .i64 0, .bool false, .bool false, .int .i64 0, .slice none 0 0, .slice none 0 0, .slice none 0 0, .slice none 0 0]) hA rfl rfl rfl cmd_size cmd_agg K2 ?_
          refine ⟨bareC (St t1) noopS, true, rfl, fun e => absurd e (by decide), fun t' e ht => ⟨rfl, ?_⟩, hs20.below HB9 (by omega)⟩
          obtain ⟨q1, -⟩ := hspec t' (hsp t' e)
          rw [q1]
      case neg =>
        have hw12 : FineG w.heap.size _ := ⟨w, rfl, hw, HB9⟩
        have hz12' := HB9.size
        refine wp_skip (nT (wS (wR ?_)))
        revert a; refine wo rfl rfl (by decide) (fun ev e h => by simp [go_sem, h] <;> rfl) ?_; intro a hA
        refine wl_call hA rfl rfl (by decide) (fun ev h => exec_call Tryz.func52 (by kernel_rfl) rfl (h.f _) (by first | (simp only [mL, h.get 42 rfl, h.get 8 rfl, h.c] <;> rfl) | (simp [mL, h.get 42 rfl, h.get 8 rfl, h.c] <;> rfl))) (argumentsP_any pr pc L2 false (bareC (St t1) (St (greatS t2))) _ h9 KC hw12 hG hG2 (by have := hsub.1; omega) (hsub.small hsm)) ?_
        rintro e w13 ⟨rfl, ⟨v2, l9, b9, h10, K10, -, hsub10⟩, TC⟩
        refine ⟨_, rfl, fun a hA => ?_⟩
        replace K2 := Apart.blk TC K2 (by omega)
        replace K4 := Apart.blk TC K4 (by omega)
        have HB13 := HB9.trans (Apart.toBelow TC (fun i e => by rcases e with e | e <;> omega) HB9.size)
        obtain ⟨AR2, cR2, KR2, -, -, -⟩ := h10.ex
        replace hA := hA.keepN [2, 4, 7, 8]
        refine wN (nT (wS (wS (wR ?_))))
        revert a; (iterate 5 refine wo rfl rfl (by decide) (fun ev e h => by simp [go_sem, h, KR2.cell] <;> rfl) ?_); (iterate 5 refine wg _ rfl rfl rfl rfl (by decide) (fun hq ev e h => by simp [go_sem, h, ↓gw_t (beq_t hq), KR2.cell] <;> rfl) ?_); intro a hA
        replace hA := hA.keepN [2, 4, 8, 48, 53]
        revert a; refine wg _ rfl rfl rfl rfl (by decide) (fun hq ev e h => by simp [go_sem, h, ↓gw_t (beq_t hq), KR2.cell] <;> rfl) ?_; refine wko rfl rfl (by decide) rfl rfl rfl ?_; intro a hA
        replace hA := hA.keepN [2, 4, 8, 55]
        refine wN (nT ?_)
        refine wp_if hA 55 _ rfl (fun hq3 => ?yD) (fun hq3 => ?nD)
        case yD =>
          refine wS (wR ?_)
          refine wl_op hA rfl rfl (by decide) (fun ev h => exec_loadW (cs := [.string (St (tagV b)), .string ⟨#[]⟩, .bool false, .string ⟨#[]⟩, .string ⟨#[]⟩, .string ⟨#[]⟩, .string ⟨#[]⟩, .string ⟨#[]⟩, .int .i64 0, .int .i64 0, .bool false, .bool false, .int .i64 0, .slice none 0 0, .slice none 0 0, .slice none 0 0, .slice none 0 0]) rfl (h.get 4 rfl) cmd_size cmd_agg K4) fun a hA => ?_
          refine wl_set [.string (St (tagV b)), .string ⟨#[]⟩, .bool false, .string ⟨#[]⟩, .string ⟨#[]⟩, .string ⟨#[]⟩, .string ⟨#[]⟩, .string ⟨#[]⟩, .int .i64 0, .int .i64 0, .bool false, .bool false, .int .i64 0, .slice none 0 0, .slice none 0 0, .slice none 0 0, .slice none 0 0] hA rfl rfl K2 (by rfl) (fun ev h => exec_storeW rfl (h.get 2 rfl) (h.get 56 rfl) cmd_size K2 (by rfl) (by rfl)) fun w20 (K2 : Blk _ _ _ _) hs20 => ?_
          revert a; refine wo rfl rfl (by decide) (fun ev e h => by simp [go_sem, h] <;> rfl) ?_; intro a hA
          replace hA := hA.keepN [2, 3]
          refine wN (nT (wp_ret (rT ?_)))
          refine ret_cellW (cs := [.string (St (tagV b)), .string ⟨#[]⟩, .bool false, .string ⟨#[]⟩, .string ⟨#[]⟩, .string ⟨#[]⟩, .string ⟨#[]⟩, .string ⟨#[]⟩, .int .i64 0, .int .i64 0, .bool false, .bool false, .int .i64 0, .slice none 0 0, .slice none 0 0, .slice none 0 0, .slice none 0 0]) hA rfl rfl rfl cmd_size cmd_agg K2 ?_
          refine ⟨bareC (St (tagV b)) ⟨#[]⟩, false, rfl, fun _ => rfl, fun t e ht => ?_, hs20.below HB13 (by omega)⟩
          exact absurd ⟨t, hsp t e⟩ hN
        case nD =>
          refine wp_skip (nT (wS (wR ?_)))
          refine wl_op hA rfl rfl (by decide) (fun ev h => exec_loadW (cs := [.string v2.tag, .string v2.nm, .bool v2.uid, .string v2.us, .string v2.pw, .string v2.bx, .string v2.rf, .string v2.pt, .int .i64 v2.fl, .int .i64 v2.hx, .bool v2.si, .bool v2.hd, .int .i64 v2.dt, v2.oc.v, v2.st.v, v2.it.v, v2.ks.v]) rfl (h.get 8 rfl) cmd_size cmd_agg K10) fun a hA => ?_
          refine wl_set [.string v2.tag, .string v2.nm, .bool v2.uid, .string v2.us, .string v2.pw, .string v2.bx, .string v2.rf, .string v2.pt, .int .i64 v2.fl, .int .i64 v2.hx, .bool v2.si, .bool v2.hd, .int .i64 v2.dt, v2.oc.v, v2.st.v, v2.it.v, v2.ks.v] hA rfl rfl K2 (by rfl) (fun ev h => exec_storeW rfl (h.get 2 rfl) (h.get 57 rfl) cmd_size K2 (by rfl) (by rfl)) fun w20 (K2 : Blk _ _ _ _) hs20 => ?_
          revert a; refine wo rfl rfl (by decide) (fun ev e h => by simp [go_sem, h] <;> rfl) ?_; intro a hA
          replace hA := hA.keepN [2, 3]
          refine wN (nT (wp_ret ?_))
          refine ret_cellW (cs := [.string v2.tag, .string v2.nm, .bool v2.uid, .string v2.us, .string v2.pw, .string v2.bx, .string v2.rf, .string v2.pt, .int .i64 v2.fl, .int .i64 v2.hx, .bool v2.si, .bool v2.hd, .int .i64 v2.dt, v2.oc.v, v2.st.v, v2.it.v, v2.ks.v]) hA rfl rfl rfl cmd_size cmd_agg K2 ?_
          exact ⟨v2, true, rfl, fun e => absurd e (by decide), fun t e ht => absurd ⟨t, hsp t e⟩ hN, hs20.below HB13 (by omega)⟩
end Go.Proofs.YtjhaccmcjlbllaaGreatDoor
/-
  A row of bytes turned to its own type.
-/
namespace Go.Proofs.YtjhaccmcjlbllaaGreatDoor
open Go.RowKit
set_option linter.unusedSimpArgs false
set_option linter.unusedVariables false
/-- a row of bytes turned to its own type: its block is marked -/
theorem conv_self {w : World} {g : Nat} {l : List UInt8} (K : Blk w g 5 (u8s l).toArray) (n c : Nat) : ∃ w', (convert 23 23 (.slice (some ⟨g, 0, none⟩) n c)).run Tryz.prog w = .ok (.slice (some ⟨g, 0, none⟩) n c) w' ∧ w.grownBy w' (some g) ∧ Reads w' w'.heap.size 1 (some ⟨g, 0, none⟩) l.length (u8s l) := by
  have hsh : w.shape? g = some (5, (u8s l).toArray.size) := by unfold World.shape?; rw [show w.heap[g]? = _ from K]
  obtain ⟨f, hf, hfv⟩ : ∃ f : Obj → Obj, w.freeze ⟨g, (u8s l).toArray.size, none⟩ 1 = { w with heap := w.heap.modify g f } ∧ f (.cells (u8s l).toArray 5 (0, 0)) = .cells (u8s l).toArray 5 ((u8s l).toArray.size, (u8s l).toArray.size + 1) := by
    unfold World.freeze
    rw [if_neg (by decide)]
    exact ⟨_, rfl, rfl⟩
  have hg : (w.freeze ⟨g, (u8s l).toArray.size, none⟩ 1).heap[g]? = some (.cells (u8s l).toArray 5 ((u8s l).toArray.size, (u8s l).toArray.size + 1)) := by
    rw [hf]
    simp only [Array.getElem?_modify, if_pos]
    rw [show w.heap[g]? = _ from K]
    exact congrArg some hfv
  refine ⟨w.freeze ⟨g, (u8s l).toArray.size, none⟩ 1, ?_, ?_, ?_⟩
  · simp [convert, run_underlying Tryz.underlying23, run_underlying Tryz.underlying5, markStringish, hsh]
  · rw [hf]
    refine ⟨rfl, rfl, rfl, by simp, fun i hi hn => ?_⟩
    simp only [Array.getElem?_modify]
    rw [if_neg fun e => hn (by rw [e])]
  · refine ⟨by rw [u8s_length]; omega, fun _ => ⟨_, rfl, ?_, fun j u hu => ?_⟩⟩
    · rw [hf]; simp only [Array.size_modify]; exact K.lt
    · rw [add0]
      unfold World.cell?
      simp only []
      rw [hg]
      simpa using hu
end Go.Proofs.YtjhaccmcjlbllaaGreatDoor
