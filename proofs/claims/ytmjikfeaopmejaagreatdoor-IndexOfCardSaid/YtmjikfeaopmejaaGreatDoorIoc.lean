/-
  Walks: a note is taken into a log ((*log.Log).take).
-/
import Derived.Test.YtmjikfeaopmejaaGreatDoorIob
import Derived.Laws.BitsAllLaws
import Derived.IntWalk
namespace Go.Proofs.YtmjikfeaopmejaaGreatDoor
open Go.RowKit
set_option linter.unusedSimpArgs false
set_option linter.unusedVariables false
def liveL (x : LiveV) : Nat × Nat × Int × Int × List UInt8 × Nat := (x.ep, x.m.uid, x.m.date, x.m.flags, x.m.b, x.at_)
def noteL (n : NoteB) : Nat × Nat × Int × Int × List UInt8 × Nat := (n.ep, n.u, n.d, n.f, n.o, n.at_)
theorem behind_any (u : Nat) (hu : u < 4294967296) (w : World) : Calls Tryz.prog 55 #[.int .u32 (u : Nat)] w fun ev w' => ev = .returned (.int .u32 (behindN u : Nat)) ∧ w' = w := by
  refine calls_at 8 Tryz.func55 rfl rfl (Nat.le_of_ble_eq_true rfl) ?_
  intro a hA; replace hA := hA.norm
  refine wS (wR ?_)
  revert a; refine wo rfl rfl (by decide) (fun ev e h => by simp [go_sem, h] <;> rfl) ?_; intro a hA
  replace hA := hA.keepN [0]
  refine wN (nT (wS (wS (wR ?_))))
  revert a; (iterate 2 refine wo rfl rfl (by decide) (fun ev e h => by simp [go_sem, h] <;> rfl) ?_); intro a hA
  replace hA := hA.keepN [0, 4]
  refine wN (nT ?_)
  refine wp_if hA 4 _ rfl (fun hq => ?yA) (fun hq => ?nA)
  case yA =>
    have hq : u = 4294967295 := by simp at hq; omega
    refine wS (wR ?_)
    revert a; (iterate 2 refine wo rfl rfl (by decide) (fun ev e h => by simp [go_sem, h] <;> rfl) ?_); intro a hA
    replace hA := hA.keepN [2]
    refine wN (nT (wp_ret (rT ?_)))
    refine ret_1 hA 2 rfl rfl ?_
    exact ⟨by unfold behindN; rw [if_pos hq, hq], rfl⟩
  case nA =>
    have hq : ¬ u = 4294967295 := by simp at hq; omega
    have hw : IntKind.u32.wrap ((u : Int) + 1) = (u : Int) + 1 := IntWalk.u32_in _ (by omega)
    refine wp_skip (nT (wS (wR ?_)))
    revert a; (iterate 3 refine wo rfl rfl (by decide) (fun ev e h => by simp [go_sem, h, hw] <;> rfl) ?_); intro a hA
    replace hA := hA.keepN [2]
    refine wN (nT (wp_ret ?_))
    refine ret_1 hA 2 rfl rfl ?_
    exact ⟨by unfold behindN; rw [if_neg hq]; rfl, rfl⟩
set_option maxRecDepth 100000 in
set_option maxHeartbeats 2000000 in
theorem take_any (pl B : Nat) (k : Int) (e : Nat) (nm : ByteArray) (m : MsgV) (at_ : Nat) (s : LogS) (z : Int) (cl : Bool) (v : Value) (L : List LiveV) (w : World)
    (hk : k = 1 ∨ k = 2 ∨ k = 3) (hpl : pl < B) (hBw : B ≤ w.heap.size) (KL : Blk w pl 42 #[.string s.nm, .int .u32 (s.ep : Nat), .int .u32 (s.nx : Nat), v, .int .i64 z, .bool cl]) (ho : OwnR liveSh B w v L) (hL : L.length ≤ 16000000)
    (hlv : L.map liveL = s.live.map noteL) (hm : ReadsP w (m.a, m.b)) (hoff : ∀ g, v.ownBlock = some g → OffP g (m.a, m.b)) (hu : m.uid < 4294967296) (n : NoteB) (hn : n = ⟨k, e, nm, m.uid, m.date, m.flags, m.b, at_⟩) :
    Calls Tryz.prog 51 #[.pointer (some ⟨pl, 0, none⟩), .agg #[.int .i64 k, .int .u32 (e : Nat), .string nm, .int .u32 (m.uid : Nat), .int .i64 m.date, .int .i64 m.flags, .slice m.a m.b.length m.c], .int .i64 (at_ : Nat)] w
      fun ev w' => ev = .returned (.tuple #[]) ∧ ∃ v' L', Blk w' pl 42 #[.string (takeN s n).nm, .int .u32 ((takeN s n).ep : Nat), .int .u32 ((takeN s n).nx : Nat), v', .int .i64 z, .bool cl] ∧ OwnR liveSh B w' v' L' ∧ L'.map liveL = (takeN s n).live.map noteL ∧ Below pl w w' := by
  obtain ⟨A0, c0, hv, _⟩ := ho.reads
  subst hv
  refine calls_at 83 Tryz.func51 rfl rfl (Nat.le_of_ble_eq_true rfl) ?_
  intro a hA; replace hA := hA.norm
  refine wS (wR ?_)
  refine wl_new hA rfl rfl (by decide) (fun ev h => by simp [go_sem, h.get 1 rfl]; try first | exact ⟨rfl, rfl⟩ | rfl) fun w1 a (Kn : Blk _ _ _ _) hz1 hb1 hA => ?_
  replace KL := KL.below hb1 KL.lt
  replace ho := ho.below hb1
  have hpw : pl < w.heap.size := by omega
  have HB : Below pl w w1 := hb1.mono (by omega)
  have hm1 := hm.below hb1
  obtain ⟨pn, hpn⟩ : ∃ x, w.heap.size = x := ⟨_, rfl⟩
  rw [hpn] at Kn hA
  have hplB : pl < pn := by omega
  have hBn : B ≤ pn := by omega
  have hz : pn < w1.heap.size := Kn.lt
  replace hA := hA.keepN [0, 2, 4]
  have pA := fun (wo : World) (hC : (fun wy => Below w1.heap.size w1 wy) wo) => have Kx := KL.below hC KL.lt; have Ky := Kn.below hC Kn.lt; And.intro (Kx.cell) (Ky.cell)
  refine wN (nT (wS (wS ?_)))
  refine wp_any_at hA [(.det ?dA0), (.det ?dA1), (.det ?dA2), (.det ?dA3), (.det ?dA4), (.det ?dA5), (.det ?dA6)] [] (fun wy => Below w1.heap.size w1 wy) (TSp [] Grows) (by kernel_rfl) rfl (by kernel_rfl) (by kernel_rfl) rfl ((Below.refl _ _).drew) (stab_sp [] [true, true, true, true, true, true, true] [true, true, true, true, true, true, true] [] rfl rfl rfl (by kernel_rfl) ⟨trivial, trivial, trivial, trivial, trivial, trivial, trivial, trivial⟩ trivial) (fun _ h => by cases h) (fun _ _ _ _ _ h => by cases h) (fun _ h => by cases h) ⟨?oA0, ?oA1, ?oA2, ?oA3, ?oA4, ?oA5, ?oA6, trivial⟩ (by kernel_rfl) ?fA
  case oA0 => intro ev wo hev hC hs hph; have x0 := se hA hs 4; exact od rfl rfl (by kernel_rfl) hC (TSp.of rfl (Grows.refl _)) (by simp [go_sem, x0] <;> rfl)
  case oA1 => intro ev wo hev hC hs hph; have x0 := sd hs 6 0; exact od rfl rfl (by kernel_rfl) hC (TSp.of rfl (Grows.refl _)) (by simp [go_sem, x0, pA _ hC] <;> rfl)
  case oA2 => intro ev wo hev hC hs hph; have x0 := se hA hs 0; exact od rfl rfl (by kernel_rfl) hC (TSp.of rfl (Grows.refl _)) (by simp [go_sem, x0] <;> rfl)
  case oA3 => intro ev wo hev hC hs hph; have x0 := sd hs 8 2; exact od rfl rfl (by kernel_rfl) hC (TSp.of rfl (Grows.refl _)) (by simp [go_sem, x0] <;> rfl)
  case oA4 => intro ev wo hev hC hs hph; have x0 := sd hs 9 3; exact od rfl rfl (by kernel_rfl) hC (TSp.of rfl (Grows.refl _)) (by simp [go_sem, x0] <;> rfl)
  case oA5 => intro ev wo hev hC hs hph; have x0 := sd hs 10 4; exact od rfl rfl (by kernel_rfl) hC (TSp.of rfl (Grows.refl _)) (by simp [go_sem, x0, pA _ hC] <;> rfl)
  case oA6 => intro ev wo hev hC hs hph; have x0 := sd hs 7 1; have x1 := sd hs 11 5; exact od rfl rfl (by kernel_rfl) hC (TSp.of rfl (Grows.refl _)) (by simp [go_sem, x0, x1] <;> rfl)
  intro sg wf hC hph
  intro a hA
  replace hA := hA.keepN [0, 2, 4, 12]
  refine nT ?_
  replace KL := KL.below hC KL.lt
  replace Kn := Kn.below hC Kn.lt
  replace ho := ho.below hC
  replace hm1 := hm1.below hC
  replace HB := HB.trans (hC.mono (by omega))
  clear hC hb1 hz1
  have hne : n.ep = e := by rw [hn]
  have hnk : n.k = k := by rw [hn]
  have hnu : n.u = m.uid := by rw [hn]
  have hnm : n.nm = nm := by rw [hn]
  refine wp_join (fun a wx => At 83 [(0, .pointer (some ⟨pl, 0, none⟩)), (2, .int .i64 (at_ : Nat)), (4, .pointer (some ⟨pn, 0, none⟩))] a ∧ Blk wx pl 42 #[.string s.nm, .int .u32 (epN s n : Nat), .int .u32 ((if s.ep < n.ep then 1 else s.nx : Nat) : Int), .slice A0 L.length c0, .int .i64 z, .bool cl] ∧ Blk wx pn 30 (noteC k e nm m) ∧ OwnR liveSh B wx (.slice A0 L.length c0) L ∧ ReadsP wx (m.a, m.b) ∧ Below pl w wx) ?jfJ ?jrJ
  case jfJ =>
    refine wp_if hA 12 _ rfl (fun hq => ?yA1) (fun hq => ?nA1)
    case nA1 =>
      have hq : ¬ s.ep < e := by simpa using hq
      replace hA := hA.keepN [0, 2, 4]
      refine wp_skip (nT ?_)
      refine ⟨hA, ?_, Kn, ho, hm1, HB⟩
      unfold epN
      rw [hne, if_neg hq, if_neg hq]
      exact KL
    case yA1 =>
      have hq : s.ep < e := by simpa using hq
      refine wR ?_
      revert a; (iterate 6 refine wo rfl rfl (by decide) (fun ev e h => by simp [go_sem, h, Kn.cell] <;> rfl) ?_); intro a hA
      have KL0 := KL
      refine wl_setf ([.string s.nm, .int .u32 (e : Nat), .int .u32 (s.nx : Nat), .slice A0 L.length c0, .int .i64 z, .bool cl]) _ hA rfl rfl KL (j := 1) (by rfl) (fun ev h => by simp [go_sem, h.get 18 rfl, h.get 16 rfl, Kn.cell, KL.cell, KL.frozen]; try first | exact ⟨rfl, rfl⟩ | rfl) fun w2 (KL : Blk _ _ _ _) hs2 => ?_
      revert a; (iterate 2 refine wo rfl rfl (by decide) (fun ev e h => by simp [go_sem, h, Kn.cell] <;> rfl) ?_); intro a hA
      refine wl_setf ([.string s.nm, .int .u32 (e : Nat), .int .u32 1, .slice A0 L.length c0, .int .i64 z, .bool cl]) _ hA rfl rfl KL (j := 2) (by rfl) (fun ev h => by simp [go_sem, h.c, h.get 20 rfl, Kn.cell, KL.cell, KL.frozen]; try first | exact ⟨rfl, rfl⟩ | rfl) fun w3 (KL : Blk _ _ _ _) hs3 => ?_
      have hs := hs2.trans hs3
      replace hA := hA.keepN [0, 2, 4]
      refine wN (nT ?_)
      refine ⟨hA, ?_, hs.blk Kn (by omega), ho.onlyK hs KL0 (by decide) rfl, reads_only hm1 hs KL0 rfl, hs.below HB (Nat.le_refl _)⟩
      unfold epN
      rw [hne, if_pos hq, if_pos hq]
      exact KL
  clear KL Kn ho hm1 HB
  rintro a wx ⟨hA, KL, Kn, ho, hm1, HB⟩
  obtain ⟨E, hE⟩ : ∃ E, epN s n = E := ⟨_, rfl⟩
  obtain ⟨X, hX⟩ : ∃ X, (if s.ep < n.ep then 1 else s.nx) = X := ⟨_, rfl⟩
  rw [hE, hX] at KL
  unfold noteC at Kn
  have pB := fun (wo : World) (hC : (fun wy => Below wx.heap.size wx wy) wo) => have Kx := KL.below hC KL.lt; have Ky := Kn.below hC Kn.lt; And.intro (Kx.cell) (Ky.cell)
  refine wS (wS ?_)
  refine wp_any_at hA [(.det ?dB0), (.det ?dB1), (.det ?dB2), (.det ?dB3), (.det ?dB4), (.det ?dB5), (.det ?dB6), (.det ?dB7), (.det ?dB8), (.det ?dB9), (.det ?dB10), (.det ?dB11)] [] (fun wy => Below wx.heap.size wx wy) (TSp [] Grows) (by kernel_rfl) rfl (by kernel_rfl) (by kernel_rfl) rfl ((Below.refl _ _).drew) (stab_sp [] [true, true, true, true, true, true, true, true, true, true, true, true] [true, true, true, true, true, true, true, true, true, true, true, true] [] rfl rfl rfl (by kernel_rfl) ⟨trivial, trivial, trivial, trivial, trivial, trivial, trivial, trivial, trivial, trivial, trivial, trivial, trivial⟩ trivial) (fun _ h => by cases h) (fun _ _ _ _ _ h => by cases h) (fun _ h => by cases h) ⟨?oB0, ?oB1, ?oB2, ?oB3, ?oB4, ?oB5, ?oB6, ?oB7, ?oB8, ?oB9, ?oB10, ?oB11, trivial⟩ (by kernel_rfl) ?fB
  case oB0 => intro ev wo hev hC hs hph; have x0 := se hA hs 4; exact od rfl rfl (by kernel_rfl) hC (TSp.of rfl (Grows.refl _)) (by simp [go_sem, x0] <;> rfl)
  case oB1 => intro ev wo hev hC hs hph; have x0 := sd hs 21 0; exact od rfl rfl (by kernel_rfl) hC (TSp.of rfl (Grows.refl _)) (by simp [go_sem, x0, pB _ hC] <;> rfl)
  case oB2 => intro ev wo hev hC hs hph; have x0 := se hA hs 0; exact od rfl rfl (by kernel_rfl) hC (TSp.of rfl (Grows.refl _)) (by simp [go_sem, x0] <;> rfl)
  case oB3 => intro ev wo hev hC hs hph; have x0 := sd hs 23 2; exact od rfl rfl (by kernel_rfl) hC (TSp.of rfl (Grows.refl _)) (by simp [go_sem, x0] <;> rfl)
  case oB4 => intro ev wo hev hC hs hph; have x0 := sd hs 24 3; exact od rfl rfl (by kernel_rfl) hC (TSp.of rfl (Grows.refl _)) (by simp [go_sem, x0] <;> rfl)
  case oB5 => intro ev wo hev hC hs hph; have x0 := sd hs 25 4; exact od rfl rfl (by kernel_rfl) hC (TSp.of rfl (Grows.refl _)) (by simp [go_sem, x0, pB _ hC] <;> rfl)
  case oB6 => intro ev wo hev hC hs hph; have x0 := sd hs 22 1; have x1 := sd hs 26 5; exact od rfl rfl (by kernel_rfl) hC (TSp.of rfl (Grows.refl _)) (by simp [go_sem, x0, x1] <;> rfl)
  case oB7 => intro ev wo hev hC hs hph; have x0 := sd hs 27 6; exact od rfl rfl (by kernel_rfl) hC (TSp.of rfl (Grows.refl _)) (by simp [go_sem, x0] <;> rfl)
  case oB8 => intro ev wo hev hC hs hph; have x0 := se hA hs 4; have y := sd hs 28 7; exact ob_gv _ rfl rfl y rfl (by kernel_rfl) hC (TSp.of rfl (Grows.refl _)) (fun hq => by simp [go_sem, x0] <;> rfl) (by rfl)
  case oB9 => intro ev wo hev hC hs hph; have x0 := sd hs 29 8; have y := sd hs 28 7; exact ob_gv _ rfl rfl y rfl (by kernel_rfl) hC (TSp.of rfl (Grows.refl _)) (fun hq => by simp [go_sem, (x0.trans (gw_t (beq_t hq))), pB _ hC] <;> rfl) (by rfl)
  case oB10 => intro ev wo hev hC hs hph; have x0 := sd hs 30 9; have y := sd hs 28 7; exact ob_gv _ rfl rfl y rfl (by kernel_rfl) hC (TSp.of rfl (Grows.refl _)) (fun hq => by simp [go_sem, (x0.trans (gw_t (beq_t hq))), hev.const] <;> rfl) (by rfl)
  case oB11 => intro ev wo hev hC hs hph; have x0 := sd hs 28 7; have x1 := sd hs 31 10; exact od rfl rfl (by kernel_rfl) hC (TSp.of rfl (Grows.refl _)) (by rw [pick_and rfl x0 x1 (hev.const _)] <;> rfl)
  intro sg wf hC hph
  intro a hA
  replace hA := hA.keepN [0, 2, 4, 32]
  refine nT ?_
  replace KL := KL.below hC KL.lt
  replace Kn := Kn.below hC Kn.lt
  replace ho := ho.below hC
  replace hm1 := hm1.below hC
  replace HB := HB.trans (hC.mono (by have := KL.lt; have := HB.size; omega))
  clear hC
  have hnxe : nxN s n = if (E == e && !(k == 1)) = true then max X (behindN m.uid) else X := by
    unfold nxN
    rw [hE, hX, hne, hnk, hnu]
  refine wp_join (fun a wx => At 83 [(0, .pointer (some ⟨pl, 0, none⟩)), (2, .int .i64 (at_ : Nat)), (4, .pointer (some ⟨pn, 0, none⟩))] a ∧ Blk wx pl 42 #[.string s.nm, .int .u32 (E : Nat), .int .u32 (nxN s n : Nat), .slice A0 L.length c0, .int .i64 z, .bool cl] ∧ Blk wx pn 30 (noteC k e nm m) ∧ OwnR liveSh B wx (.slice A0 L.length c0) L ∧ ReadsP wx (m.a, m.b) ∧ Below pl w wx) ?jfJ2 ?jrJ2
  case jfJ2 =>
    refine wp_if hA 32 _ rfl (fun hq => ?yB1) (fun hq => ?nB1)
    case nB1 =>
      have hqn : ¬ (E == e && !(k == 1)) = true := by
        rw [nat_eq] at hq
        rw [show (E == e) = (e == E) by rw [Bool.eq_iff_iff, beq_iff_eq, beq_iff_eq]; exact eq_comm]
        show ¬ (e == E && k != 1) = true
        rw [hq]
        decide
      rw [if_neg hqn] at hnxe
      replace hA := hA.keepN [0, 2, 4]
      refine wp_skip (nT ?_)
      refine ⟨hA, ?_, Kn, ho, hm1, HB⟩
      rw [hnxe]
      exact KL
    case yB1 =>
      have hqy : (E == e && !(k == 1)) = true := by
        rw [nat_eq] at hq
        rw [show (E == e) = (e == E) by rw [Bool.eq_iff_iff, beq_iff_eq, beq_iff_eq]; exact eq_comm]
        exact hq
      rw [if_pos hqy] at hnxe
      have pC4 := fun (wo : World) (hC : (fun wy => Below wf.heap.size wf wy) wo) => have Kx := KL.below hC KL.lt; have Ky := Kn.below hC Kn.lt; And.intro (Kx.cell) (Ky.cell)
      refine wp_region_split 10 ?_
      simp only [List.take_succ_cons, List.take_zero, List.drop_succ_cons, List.drop_zero]
      refine wp_any_split_at hA [(.det ?dC40), (.det ?dC41), (.det ?dC42), (.det ?dC43), (.det ?dC44), (.det ?dC45), (.det ?dC46), (.det ?dC47), (.det ?dC48), (.det ?dC49)] [] (fun wy => Below wf.heap.size wf wy) (TSp [] Grows) (by kernel_rfl) rfl (by kernel_rfl) (by kernel_rfl) rfl (by kernel_rfl) (by kernel_rfl) (by kernel_rfl) (by kernel_rfl) ((Below.refl _ _).drew) (stab_sp [] [true, true, true, true, true, true, true, true, true, true] [true, true, true, true, true, true, true, true, true, true] [] rfl rfl rfl (by kernel_rfl) ⟨trivial, trivial, trivial, trivial, trivial, trivial, trivial, trivial, trivial, trivial, trivial⟩ trivial) (fun _ h => by cases h) (fun _ _ _ _ _ h => by cases h) (fun _ h => by cases h) ⟨?oC40, ?oC41, ?oC42, ?oC43, ?oC44, ?oC45, ?oC46, ?oC47, ?oC48, ?oC49, trivial⟩ (by kernel_rfl) ?fC4
      case oC40 => intro ev wo hev hC hs hph; have x0 := se hA hs 0; exact od rfl rfl (by kernel_rfl) hC (TSp.of rfl (Grows.refl _)) (by simp [go_sem, x0] <;> rfl)
      case oC41 => intro ev wo hev hC hs hph; have x0 := se hA hs 0; exact od rfl rfl (by kernel_rfl) hC (TSp.of rfl (Grows.refl _)) (by simp [go_sem, x0] <;> rfl)
      case oC42 => intro ev wo hev hC hs hph; have x0 := sd hs 34 1; exact od rfl rfl (by kernel_rfl) hC (TSp.of rfl (Grows.refl _)) (by simp [go_sem, x0] <;> rfl)
      case oC43 => intro ev wo hev hC hs hph; have x0 := sd hs 35 2; exact od rfl rfl (by kernel_rfl) hC (TSp.of rfl (Grows.refl _)) (by simp [go_sem, x0] <;> rfl)
      case oC44 => intro ev wo hev hC hs hph; have x0 := sd hs 36 3; exact od rfl rfl (by kernel_rfl) hC (TSp.of rfl (Grows.refl _)) (by simp [go_sem, x0, pC4 _ hC] <;> rfl)
      case oC45 => intro ev wo hev hC hs hph; have x0 := se hA hs 4; exact od rfl rfl (by kernel_rfl) hC (TSp.of rfl (Grows.refl _)) (by simp [go_sem, x0] <;> rfl)
      case oC46 => intro ev wo hev hC hs hph; have x0 := sd hs 38 5; exact od rfl rfl (by kernel_rfl) hC (TSp.of rfl (Grows.refl _)) (by simp [go_sem, x0] <;> rfl)
      case oC47 => intro ev wo hev hC hs hph; have x0 := sd hs 39 6; exact od rfl rfl (by kernel_rfl) hC (TSp.of rfl (Grows.refl _)) (by simp [go_sem, x0, pC4 _ hC] <;> rfl)
      case oC48 =>
        intro ev wo hev hC hs hph
        have e40 := sd hs 40 7
        have Kx := KL.below hC KL.lt
        have Ky := Kn.below hC Kn.lt
        exact ob_dcall (wanted_none rfl) rfl (by kernel_rfl) ((behind_any m.uid hu wo).mono fun e' w' h => ⟨h.1, h.2 ▸ Below.refl _ _⟩) (exec_call Tryz.func55 (by kernel_rfl) rfl (hev.func _) (by first | (simp only [mL, e40, hev.const] <;> rfl) | (simp [mL, e40, hev.const] <;> rfl))) (by rfl) (fun w3 hb3 => ⟨hC.trans (hb3.mono hC.size), TSp.of rfl hb3⟩)
      case oC49 => intro ev wo hev hC hs hph; have x0 := sd hs 37 4; have x1 := sd hs 41 8; exact od rfl rfl (by kernel_rfl) hC (TSp.of rfl (Grows.refl _)) (by simp [go_sem, x0, x1] <;> rfl)
      intro sg wf hC hph
      intro a hA
      replace hA := hA.keepN [0, 2, 4, 33, 42]
      replace KL := KL.below hC KL.lt
      replace Kn := Kn.below hC Kn.lt
      replace ho := ho.below hC
      replace hm1 := hm1.below hC
      replace HB := HB.trans (hC.mono (by have := KL.lt; have := HB.size; omega))
      clear hC
      have KL0 := KL
      revert a; (iterate 2 refine wo rfl rfl (by decide) (fun ev e h => by simp [go_sem, h] <;> rfl) ?_); intro a hA
      refine wl_setf ([.string s.nm, .int .u32 (E : Nat), .int .u32 (max (X : Int) (behindN m.uid : Int)), .slice A0 L.length c0, .int .i64 z, .bool cl]) _ hA rfl rfl KL (j := 2) (by rfl) (fun ev h => by simp [go_sem, h.get 44 rfl, h.get 42 rfl, KL.cell, KL.frozen]; try first | exact ⟨rfl, rfl⟩ | rfl) fun w5 (KL : Blk _ _ _ _) hs5 => ?_
      replace hA := hA.keepN [0, 2, 4]
      refine wN (nT ?_)
      refine ⟨hA, ?_, hs5.blk Kn (by omega), ho.onlyK hs5 KL0 (by decide) rfl, reads_only hm1 hs5 KL0 rfl, hs5.below HB (Nat.le_refl _)⟩
      rw [hnxe, show ((max X (behindN m.uid) : Nat) : Int) = max (X : Int) (behindN m.uid : Int) by omega]
      exact KL
  clear KL Kn ho hm1 HB
  rintro a wx ⟨hA, KL, Kn, ho, hm1, HB⟩
  obtain ⟨N, hN⟩ : ∃ N, nxN s n = N := ⟨_, rfl⟩
  rw [hN] at KL
  unfold noteC at Kn
  refine wS (wS (wR ?_))
  revert a; (iterate 3 refine wo rfl rfl (by decide) (fun ev e h => by simp [go_sem, h, KL.cell, Kn.cell] <;> rfl) ?_); intro a hA
  replace hA := hA.keepN [0, 2, 4, 47]
  refine wN (nT ?_)
  refine wp_join (fun a wx => At 83 [(0, .pointer (some ⟨pl, 0, none⟩)), (2, .int .i64 (at_ : Nat)), (4, .pointer (some ⟨pn, 0, none⟩))] a ∧ Blk wx pl 42 #[.string (takeN s n).nm, .int .u32 (E : Nat), .int .u32 (N : Nat), .slice A0 L.length c0, .int .i64 z, .bool cl] ∧ Blk wx pn 30 (noteC k e nm m) ∧ OwnR liveSh B wx (.slice A0 L.length c0) L ∧ ReadsP wx (m.a, m.b) ∧ Below pl w wx) ?jfJ3 ?jrJ3
  case jfJ3 =>
    have htn : (takeN s n).nm = bif k == 3 then s.nm else nm := by
      unfold takeN
      rw [hnk, hnm]
    refine wp_if hA 47 _ rfl (fun hq => ?yC1) (fun hq => ?nC1)
    case nC1 =>
      have hq : (k == 3) = true := by simpa using hq
      replace hA := hA.keepN [0, 2, 4]
      refine wp_skip (nT ?_)
      refine ⟨hA, ?_, Kn, ho, hm1, HB⟩
      rw [htn, hq]
      exact KL
    case yC1 =>
      have hq : (k == 3) = false := by simpa using hq
      have KL0 := KL
      refine wR ?_
      revert a; (iterate 5 refine wo rfl rfl (by decide) (fun ev e h => by simp [go_sem, h, Kn.cell] <;> rfl) ?_); intro a hA
      refine wl_setf ([.string nm, .int .u32 (E : Nat), .int .u32 (N : Nat), .slice A0 L.length c0, .int .i64 z, .bool cl]) _ hA rfl rfl KL (j := 0) (by rfl) (fun ev h => by simp [go_sem, h.get 52 rfl, h.get 50 rfl, Kn.cell, KL.cell, KL.frozen]; try first | exact ⟨rfl, rfl⟩ | rfl) fun w6 (KL : Blk _ _ _ _) hs6 => ?_
      replace hA := hA.keepN [0, 2, 4]
      refine wN (nT ?_)
      refine ⟨hA, ?_, hs6.blk Kn (by omega), ho.onlyK hs6 KL0 (by decide) rfl, reads_only hm1 hs6 KL0 rfl, hs6.below HB (Nat.le_refl _)⟩
      rw [htn, hq]
      exact KL
  clear KL Kn ho hm1 HB
  rintro a wx ⟨hA, KL, Kn, ho, hm1, HB⟩
  have hlvt : (takeN s n).live = liveN s.live n := rfl
  have hept : (takeN s n).ep = E := hE
  have hnxt : (takeN s n).nx = N := hN
  rw [hept, hnxt, hlvt]
  unfold noteC at Kn
  refine wS (wR ?_)
  revert a; (iterate 2 refine wo rfl rfl (by decide) (fun ev e h => by simp [go_sem, h, KL.cell, Kn.cell] <;> rfl) ?_); intro a hA
  replace hA := hA.keepN [0, 2, 4, 54]
  refine wN (nT (wB (wS (wR ?_))))
  revert a; (iterate 2 refine wo rfl rfl (by decide) (fun ev e h => by simp [go_sem, h, KL.cell, Kn.cell] <;> rfl) ?_); intro a hA
  replace hA := hA.keepN [0, 2, 4, 54, 55]
  refine wN (nT ?_)
  have hBx : B ≤ wx.heap.size := by have := Kn.lt; omega
  have hln : noteL n = (e, m.uid, m.date, m.flags, m.b, at_) := by rw [hn]; rfl
  refine wp_if hA 55 _ rfl (fun hq => ?yD) (fun hq => ?nD)
  case yD =>
    have hq : (k == 2) = true := hq
    have hnew : liveN s.live n = s.live ++ [n] := by
      unfold liveN
      rw [hnk, hq]
      rfl
    obtain ⟨x, hx⟩ : ∃ x, x = (⟨m, e, at_⟩ : LiveV) := ⟨_, rfl⟩
    have hxL : (L ++ [x]).map liveL = (liveN s.live n).map noteL := by
      rw [hnew, List.map_append, List.map_append, hlv, List.map_cons, List.map_cons, hln, hx]
      rfl
    have hoffx : ∀ g, (Value.slice A0 L.length c0).ownBlock = some g → ∀ y ∈ [x], ∀ p ∈ liveSh.parts y, OffP g p := fun g hg y hy p hp => by
      rw [List.mem_singleton.1 hy, hx] at hp
      rw [List.mem_singleton.1 hp]
      exact hoff g hg
    have pF := fun (wo : World) (hC : (fun wy => (fun wy => Below B wx wy) wy ∧ Blk wy (pn) (30) (#[.int .i64 k, .int .u32 (e : Nat), .string nm, .int .u32 (m.uid : Nat), .int .i64 m.date, .int .i64 m.flags, .slice m.a m.b.length m.c])) wo) => have Kx := KL.below hC.1 hpl; And.intro (Kx.cell) (hC.2.cell)
    refine wp_region_split 13 ?_
    simp only [List.take_succ_cons, List.take_zero, List.drop_succ_cons, List.drop_zero]
    refine wp_any_split_at hA [(.det ?dF0), (.det ?dF1), (.det ?dF2), (.det ?dF3), (.det ?dF4), (.det ?dF5), (.det ?dF6), (.det ?dF7), (.det ?dF8), (.det ?dF9), (.det ?dF10), (.used (fun val wy => ∃ g, val = .slice (some ⟨g, 0, none⟩) 1 1 ∧ RowR liveSh wy (some ⟨g, 0, none⟩) [x])), (.held (fun val wy => OwnR liveSh B wy val (L ++ [x])))] [⟨none, (some 12), [], fun _ => (fun wy => OwnR liveSh B wy (.slice A0 L.length c0) L ∧ ReadsP wy (m.a, m.b)), fun _ _ _ _ h => h⟩] (fun wy => (fun wy => Below B wx wy) wy ∧ Blk wy (pn) (30) (#[.int .i64 k, .int .u32 (e : Nat), .string nm, .int .u32 (m.uid : Nat), .int .i64 m.date, .int .i64 m.flags, .slice m.a m.b.length m.c])) (TSp [(12, fun _ _ => True)] Grows) (by kernel_rfl) rfl (by kernel_rfl) (by kernel_rfl) rfl (by kernel_rfl) (by kernel_rfl) (by kernel_rfl) (by kernel_rfl) (⟨(Below.refl _ _).drew, (Kn).drew⟩) (stab_sp [(12, fun _ _ => True)] [true, true, true, true, true, true, true, true, true, true, true, false, false] [true, true, true, true, true, true, true, true, true, true, true, false, true] [] rfl rfl rfl (by kernel_rfl) ⟨trivial, trivial, trivial, trivial, trivial, trivial, trivial, trivial, trivial, trivial, trivial, (fun _ _ _ _ hp hb => by obtain ⟨g, h1, h2⟩ := hp; exact ⟨g, h1, h2.below hb⟩), (fun _ _ _ _ hp hb => hp.below hb), trivial⟩ trivial) (List.forall_mem_cons.2 ⟨(fun hn => ⟨ho.below (Below.refl _ _).drew, hm1.below (Below.refl _ _).drew⟩), (fun _ h => by cases h)⟩) (phase_sp [(12, fun _ _ => True)] [(none, (some 12))] [] rfl (by kernel_rfl) (List.forall_mem_cons.2 ⟨fun _ => fun _ _ _ hp hb => ⟨hp.1.below hb, hp.2.below hb⟩, (fun _ h => by cases h)⟩) trivial) (List.forall_mem_cons.2 ⟨(fun a h => by first | (exact (no_1 h).elim) | (injection h with h; subst h; exact Nat.le_of_ble_eq_true rfl)), (fun _ h => by cases h)⟩) ⟨?oF0, ?oF1, ?oF2, ?oF3, ?oF4, ?oF5, ?oF6, ?oF7, ?oF8, ?oF9, ?oF10, ?oF11, ?oF12, trivial⟩ (by kernel_rfl) ?fF
    case oF0 => intro ev wo hev hC hs hph; have x0 := se hA hs 0; exact od rfl rfl (by kernel_rfl) hC (TSp.of rfl (Grows.refl _)) (by simp [go_sem, x0] <;> rfl)
    case oF1 => intro ev wo hev hC hs hph; have x0 := se hA hs 0; exact od rfl rfl (by kernel_rfl) hC (TSp.of rfl (Grows.refl _)) (by simp [go_sem, x0] <;> rfl)
    case oF2 => intro ev wo hev hC hs hph; have x0 := sd hs 58 1; exact od rfl rfl (by kernel_rfl) hC (TSp.of rfl (Grows.refl _)) (by simp [go_sem, x0] <;> rfl)
    case oF3 => intro ev wo hev hC hs hph; have x0 := sd hs 59 2; exact od rfl rfl (by kernel_rfl) hC (TSp.of rfl (Grows.refl _)) (by simp [go_sem, x0] <;> rfl)
    case oF4 => intro ev wo hev hC hs hph; have x0 := sd hs 60 3; exact od rfl rfl (by kernel_rfl) hC (TSp.of rfl (Grows.refl _)) (by simp [go_sem, x0, pF _ hC, KL.cell, Kn.cell] <;> rfl)
    case oF5 => intro ev wo hev hC hs hph; have x0 := se hA hs 4; exact od rfl rfl (by kernel_rfl) hC (TSp.of rfl (Grows.refl _)) (by simp [go_sem, x0] <;> rfl)
    case oF6 => intro ev wo hev hC hs hph; have x0 := sd hs 62 5; exact od rfl rfl (by kernel_rfl) hC (TSp.of rfl (Grows.refl _)) (by simp [go_sem, x0, pF _ hC, KL.cell, Kn.cell] <;> rfl)
    case oF7 => intro ev wo hev hC hs hph; have x0 := se hA hs 4; exact od rfl rfl (by kernel_rfl) hC (TSp.of rfl (Grows.refl _)) (by simp [go_sem, x0] <;> rfl)
    case oF8 => intro ev wo hev hC hs hph; have x0 := sd hs 64 7; exact od rfl rfl (by kernel_rfl) hC (TSp.of rfl (Grows.refl _)) (by simp [go_sem, x0, pF _ hC, KL.cell, Kn.cell] <;> rfl)
    case oF9 => intro ev wo hev hC hs hph; have x0 := se hA hs 2; exact od rfl rfl (by kernel_rfl) hC (TSp.of rfl (Grows.refl _)) (by simp [go_sem, x0] <;> rfl)
    case oF10 => intro ev wo hev hC hs hph; have x0 := sd hs 63 6; have x1 := sd hs 65 8; have x2 := sd hs 66 9; exact od rfl rfl (by kernel_rfl) hC (TSp.of rfl (Grows.refl _)) (by simp [go_sem, x0, x1, x2] <;> rfl)
    case oF11 =>
      intro ev wo hev hC hs hph
      have e67 := sd hs 67 10
      have Kx := KL.below hC.1 hpl
      obtain ⟨hp1, hp2⟩ := (hph _ List.mem_cons_self (by kernel_rfl))
      have hbn := (Below.refl wo.heap.size wo).alloc (Nat.le_refl _) (.cells (liveC x).toArray 104)
      have hBo : B ≤ wo.heap.size := Nat.le_trans hBx hC.1.size
      exact ob_yes (wanted_none rfl) (does_value (v := .slice (some ⟨wo.heap.size, 0, none⟩) 1 1) (w' := wo.alloc (.cells (liveC x).toArray 104)) (by simp [go_sem, e67, hx, liveC]) ⟨⟨hC.1.trans (hbn.mono hBo), hC.2.below hbn hC.2.lt⟩, TSp.of rfl hbn, ⟨_, rfl, rowR_blk (s := liveSh) (x := x) (Blk.new wo _ _) (fun p hp => by
        rw [hx] at hp
        rw [List.mem_singleton.1 hp]
        exact hp2.below hbn)⟩, no_start (by kernel_rfl)⟩)
    case oF12 =>
      intro ev wo hev hC hs hph
      have e61 := sd hs 61 4
      have u68 := su hs 68 11
      have Kx := KL.below hC.1 hpl
      obtain ⟨hp1, hp2⟩ := (hph _ List.mem_cons_self (by kernel_rfl))
      obtain ⟨g, h1, h2⟩ := u68
      have hBo : B ≤ wo.heap.size := Nat.le_trans hBx hC.1.size
      obtain ⟨r, w3, hr, ho3, hgr, _⟩ := run_appR (c := 1) hp1 h2 hoffx (by simp; omega) hBo
      exact ob_yes (wanted_none rfl) (does_value (exec_append rfl e61 h1 hr) ⟨⟨below_appR hC.1 hp1 hgr (Nat.le_refl _) hBo, hC.2.grown hgr (fun e => own_ne hp1.row hC.2 (by decide) _ e.symm rfl)⟩, TSp.sp rfl trivial, ho3, no_start (by kernel_rfl)⟩)
    intro sg wf hC hph
    intro x68 hx68
    intro x69 hx69 h69
    intro a hA
    replace hA := hA.keepN [57, 69]
    replace KL := KL.below hC.1 hpl
    have HB := HB.trans (hC.1.mono (Nat.le_of_lt hpl))
    have KL0 := KL
    obtain ⟨A9, c9, e9, _⟩ := h69.reads
    subst e9
    clear hx69
    revert a; (iterate 2 refine wo rfl rfl (by decide) (fun ev e h => by simp [go_sem, h, KL.cell, Kn.cell] <;> rfl) ?_); intro a hA
    refine wl_setf ([.string (takeN s n).nm, .int .u32 (E : Nat), .int .u32 (N : Nat), .slice A9 (L ++ [x]).length c9, .int .i64 z, .bool cl]) _ hA rfl rfl KL (j := 3) (by rfl) (fun ev h => by simp [go_sem, h.get 71 rfl, h.get 69 rfl, KL.cell, Kn.cell, KL.cell, KL.frozen]; try first | exact ⟨rfl, rfl⟩ | rfl) fun w7 (KL : Blk _ _ _ _) hs7 => ?_
    refine wN (nB ?_)
    exact end_0 hA rfl ⟨rfl, _, _, KL, h69.onlyK hs7 KL0 (by decide) rfl, hxL, hs7.below HB (Nat.le_refl _)⟩
  case nD =>
    have hq : (k == 2) = false := hq
    refine wS (wR ?_)
    revert a; (iterate 2 refine wo rfl rfl (by decide) (fun ev e h => by simp [go_sem, h, KL.cell, Kn.cell] <;> rfl) ?_); intro a hA
    replace hA := hA.keepN [0, 4, 72]
    refine wN (nT ?_)
    refine wp_if hA 72 _ rfl (fun hq2 => ?yG) (fun hq2 => ?nG)
    case nG =>
      have hq2 : (k == 3) = false := hq2
      have hsame : liveN s.live n = s.live := by
        unfold liveN
        rw [hnk, hq, hq2]
        rfl
      rw [hsame]
      refine wp_skip (nB ?_)
      exact end_0 hA rfl ⟨rfl, _, _, KL, ho, hlv, HB⟩
    case yG =>
      have hq2 : (k == 3) = true := hq2
      have hgone : liveN s.live n = s.live.filter (fun x => !goneB n x) := by
        unfold liveN
        rw [hnk, hq, hq2]
        rfl
      have hleft : (leftV e m.uid L).map liveL = (liveN s.live n).map noteL := by
        rw [hgone]
        unfold leftV
        have e1 : L.filter (fun x => !goesL e m.uid x) = L.filter ((fun q => !(q.1 == e && q.2.1 == m.uid)) ∘ liveL) := rfl
        have e2 : s.live.filter (fun x => !goneB n x) = s.live.filter ((fun q : Nat × Nat × Int × Int × List UInt8 × Nat => !(q.1 == e && q.2.1 == m.uid)) ∘ noteL) := by
          congr 1
          funext y
          show (!goneB n y) = !(y.ep == e && y.u == m.uid)
          unfold goneB
          rw [hne, hnu]
        rw [e1, e2, ← List.filter_map, ← List.filter_map, hlv]
      refine wR ?_
      revert a; (iterate 6 refine wo rfl rfl (by decide) (fun ev e h => by simp [go_sem, h, KL.cell] <;> rfl) ?_); intro a hA
      refine wl_call hA rfl rfl (by decide) (fun ev h => exec_call Tryz.func70 (by kernel_rfl) rfl (h.f _) (by first | (simp only [mL, h.get 78 rfl, h.get 79 rfl, h.c] <;> rfl) | (simp [mL, h.get 78 rfl, h.get 79 rfl, h.c, KL.cell] <;> rfl))) (deleteL_any pn B k e nm m A0 c0 L.length L _ Kn hBx (by omega) rfl ho) ?_
      rintro e w8 ⟨v8, rfl, ho8, hap⟩
      refine ⟨_, rfl, fun a hA => ?_⟩
      have KL8 := hap.blk KL (fun h => by have := World.ownsRow.lt ho.row _ h; omega)
      have HB8 : Below pl w w8 := HB.trans (hap.toBelow (fun i h => by have := World.ownsRow.lt ho.row _ h; omega) (by omega))
      have KL0 := KL8
      obtain ⟨A9, c9, e9, _⟩ := ho8.reads
      subst e9
      revert a; (iterate 2 refine wo rfl rfl (by decide) (fun ev e h => by simp [go_sem, h, KL.cell] <;> rfl) ?_); intro a hA
      refine wl_setf ([.string (takeN s n).nm, .int .u32 (E : Nat), .int .u32 (N : Nat), .slice A9 (leftV e m.uid L).length c9, .int .i64 z, .bool cl]) _ hA rfl rfl KL8 (j := 3) (by rfl) (fun ev h => by simp [go_sem, h.get 82 rfl, h.get 80 rfl, KL.cell, KL8.cell, KL8.frozen]; try first | exact ⟨rfl, rfl⟩ | rfl) fun w9 (KL8 : Blk _ _ _ _) hs9 => ?_
      refine wN (nB ?_)
      exact end_0 hA rfl ⟨rfl, _, _, KL8, ho8.onlyK hs9 KL0 (by decide) rfl, hleft, hs9.below HB8 (Nat.le_refl _)⟩
end Go.Proofs.YtmjikfeaopmejaaGreatDoor
/-
  Walk: is a log clean ((*log.Log).clean)?
-/
namespace Go.Proofs.YtmjikfeaopmejaaGreatDoor
open Go.RowKit
set_option linter.unusedSimpArgs false
set_option linter.unusedVariables false
/-- the same, of epochs and UIDs alone -/
def riseP (E : Nat) : Nat → List (Nat × Nat) → Bool
  | _, [] => true
  | last, q :: r => q.1 == E && decide (last < q.2) && !(q.2 == 4294967295) && riseP E q.2 r
theorem riseP_N (E : Nat) : ∀ (last : Nat) (l : List NoteB), riseN E last l = riseP E last (l.map fun n => (n.ep, n.u))
  | _, [] => rfl
  | last, n :: r => by
    rw [List.map_cons]
    unfold riseN riseP
    rw [riseP_N E n.u r]
def euV (x : LiveV) : Nat × Nat := (x.ep, x.m.uid)
theorem euV_of {L : List LiveV} {l : List NoteB} (h : L.map liveL = l.map noteL) : L.map euV = l.map fun n => (n.ep, n.u) := by
  have := congrArg (List.map fun q : Nat × Nat × Int × Int × List UInt8 × Nat => (q.1, q.2.1)) h
  rw [List.map_map, List.map_map] at this
  exact this
def lastV (L : List LiveV) (j : Nat) : Nat := if j = 0 then 0 else ((L[j - 1]?).map (·.m.uid)).getD 0
set_option maxRecDepth 100000 in
set_option maxHeartbeats 2000000 in
theorem clean_any (pl : Nat) (s : LogS) (z : Int) (cl : Bool) (A : Option Addr) (n c : Nat) (L : List LiveV) (w : World) (KL : Blk w pl 42 #[.string s.nm, .int .u32 (s.ep : Nat), .int .u32 (s.nx : Nat), .slice A n c, .int .i64 z, .bool cl])
    (hr : RowR liveSh w A L) (hl : L.length = n) (hn : n ≤ 16000000) (hlv : L.map liveL = s.live.map noteL) (h1 : ∀ x ∈ L, 1 ≤ x.m.uid) :
    Calls Tryz.prog 52 #[.pointer (some ⟨pl, 0, none⟩)] w fun ev w' => ev = .returned (.bool (cleanS s)) ∧ Below w.heap.size w w' := by
  have hcs : cleanS s = riseP s.ep 0 (L.map euV) := by
    unfold cleanS
    rw [riseP_N, euV_of hlv]
  rw [hcs]
  have HB := Below.refl w.heap.size w
  refine calls_at 49 Tryz.func52 rfl rfl (Nat.le_of_ble_eq_true rfl) ?_
  intro a hA; replace hA := hA.norm
  refine wS (wR ?_)
  revert a; refine wo rfl rfl (by decide) (fun ev e h => by simp [go_sem, h, KL.cell] <;> rfl) ?_; intro a hA
  replace hA := hA.keepN [0]
  refine wN (nT (wS (wS (wR ?_))))
  revert a; (iterate 6 refine wo rfl rfl (by decide) (fun ev e h => by simp [go_sem, h, KL.cell] <;> rfl) ?_); intro a hA
  replace hA := hA.keepN [0, 8, 9, 10]
  refine wN (nT (wB ?_))
  refine wp_loop_at (fun kk a wx => ∃ (j : Nat), j + kk = n ∧ At 49 [(0, .pointer (some ⟨pl, 0, none⟩)), (8, .slice A n c), (9, .int .i64 (n : Nat)), (10, .int .i64 (j : Nat))] a ∧ riseP s.ep 0 (L.map euV) = riseP s.ep (lastV L j) ((L.drop j).map euV) ∧ Below w.heap.size w wx) (n) ?_ ?_
  · exact ⟨0, by omega, hA, rfl, HB⟩
  clear HB
  rintro kk a wx ⟨j, hjk, hA, hri, HB⟩
  refine wS (wR ?_)
  revert a; refine wo rfl rfl (by decide) (fun ev e h => by simp [go_sem, h] <;> rfl) ?_; intro a hA
  replace hA := hA.keepN [0, 8, 9, 10, 11]
  refine wN (nT (wS ?_))
  refine wp_if hA 11 _ rfl (fun hq => ?yI) (fun hq => ?nI)
  case nI =>
    have hjn : j = n := by simp at hq; omega
    rw [hjn, ← hl, List.drop_length] at hri
    replace hA := hA.keepN []
    refine wp_exit (xT (xT (xB (nT (wS (wR ?_))))))
    revert a; refine wo rfl rfl (by decide) (fun ev e h => by simp [go_sem, h] <;> rfl) ?_; intro a hA
    replace hA := hA.keepN [2]
    refine wN (nT (wp_ret ?_))
    refine ret_1 hA 2 rfl rfl ?_
    exact ⟨by rw [hri]; rfl, HB⟩
  case yI =>
    have hlt : j < n := by simp at hq; omega
    obtain ⟨x, hx⟩ : ∃ x, L[j]? = some x := ⟨_, List.getElem?_eq_getElem (by omega)⟩
    have hdr : L.drop j = x :: L.drop (j + 1) := by
      rw [List.drop_eq_getElem_cons (by omega)]
      congr 1
      exact (List.getElem?_eq_some_iff.1 hx).2
    have hlu : lastV L (j + 1) = x.m.uid := by
      unfold lastV
      rw [if_neg (by omega), Nat.add_sub_cancel, hx]
      rfl
    rw [hdr, List.map_cons] at hri
    obtain ⟨ad, rfl, hadl, kz, kk'⟩ := hr.cell hx
    have z0 := (HB.cell (by rw [block_of_add]; exact hadl)).trans (kz _ rfl)
    have z1 := (HB.cell (p := ⟨(ad.add (j * 6)).block, (ad.add (j * 6)).off + 1, none⟩) (by show (ad.add _).block < _; rw [block_of_add]; exact hadl)).trans (kk' 1 _ (by decide) rfl)
    have z2 := (HB.cell (p := ⟨(ad.add (j * 6)).block, (ad.add (j * 6)).off + 2, none⟩) (by show (ad.add _).block < _; rw [block_of_add]; exact hadl)).trans (kk' 2 _ (by decide) rfl)
    have z3 := (HB.cell (p := ⟨(ad.add (j * 6)).block, (ad.add (j * 6)).off + 3, none⟩) (by show (ad.add _).block < _; rw [block_of_add]; exact hadl)).trans (kk' 3 _ (by decide) rfl)
    have z4 := (HB.cell (p := ⟨(ad.add (j * 6)).block, (ad.add (j * 6)).off + 4, none⟩) (by show (ad.add _).block < _; rw [block_of_add]; exact hadl)).trans (kk' 4 _ (by decide) rfl)
    have z5 := (HB.cell (p := ⟨(ad.add (j * 6)).block, (ad.add (j * 6)).off + 5, none⟩) (by show (ad.add _).block < _; rw [block_of_add]; exact hadl)).trans (kk' 5 _ (by decide) rfl)
    have z0 : wx.cell? (ad.add (j * 6)) = some (.int .u32 (x.m.uid : Nat)) := z0
    have jj0 : (0 : Int) ≤ (j : Int) := by omega
    have jj1 : (j : Int) < (n : Int) := by omega
    have hwj : IntKind.i64.wrap ((j : Int) + 1) = (j : Int) + 1 := IntWalk.i64_in _ (by omega)
    have hwm : IntKind.i64.wrap ((j : Int) - 1) = (j : Int) - 1 := IntWalk.i64_in _ (by omega)
    refine wp_skip (nT (wS (wB (wS (wR ?_)))))
    revert a; (iterate 3 refine wo rfl rfl (by decide) (fun ev e h => by simp [go_sem, h, z0, z1, z2, z3, z4, z5, jj0, jj1, hwj] <;> rfl) ?_); intro a hA
    refine wl_new hA rfl rfl (by decide) (fun ev h => by simp [go_sem, z0, z1, z2, z3, z4, z5, jj0, jj1, hwj]; try first | exact ⟨rfl, rfl⟩ | rfl) fun w4 a (K : Blk _ _ _ _) hz4 hb4 hA => ?_
    revert a; refine wo rfl rfl (by decide) (fun ev e h => by simp [go_sem, h, z0, z1, z2, z3, z4, z5, jj0, jj1, hwj] <;> rfl) ?_; intro a hA
    refine wl_set [.int .u32 (x.m.uid : Nat), .int .i64 x.m.date, .int .i64 x.m.flags, .slice x.m.a x.m.b.length x.m.c, .int .u32 (x.ep : Nat), .int .i64 (x.at_ : Nat)] hA rfl rfl K (by rfl) (fun ev h => by simp [go_sem, h.get 4 rfl, h.get 14 rfl, z0, z1, z2, z3, z4, z5, jj0, jj1, hwj, setAll, K.cell, K.frozen]) fun w5 (K : Blk _ _ _ _) hs5 => ?_
    have hb5 := hs5.below hb4 (Nat.le_refl _)
    replace HB := HB.trans (hb5.mono HB.size)
    clear z0 z1 z2 z3 z4 z5 hb5 hb4 hs5
    have KL5 := KL.below HB KL.lt
    replace hA := hA.keepN [0, 3, 4, 8, 9, 10]
    refine wN (nT (wS ?_))
    have hmx := List.mem_of_getElem? hx
    have hx1 := h1 x hmx
    have kp : decide (0 < j) = true → w5.cell? (ad.add ((j - 1) * 6)) = some (.int .u32 (lastV L j : Nat)) := fun h => by
      have hj : 0 < j := by simpa using h
      obtain ⟨y, hy⟩ : ∃ y, L[j - 1]? = some y := ⟨_, List.getElem?_eq_getElem (by omega)⟩
      obtain ⟨ad', e', _, ky, _⟩ := hr.cell hy
      injection e' with e'
      subst e'
      have hlv : lastV L j = y.m.uid := by
        unfold lastV
        rw [if_neg (by omega), hy]
        rfl
      rw [hlv]
      exact (HB.cell (by rw [block_of_add]; exact hadl)).trans (ky _ rfl)
    have jm : decide (0 < j) = true → (1 : Int) ≤ (j : Int) := fun h => by simp at h; omega
    have jn : (j : Int) - 1 < (n : Int) := by omega
    have jt : ((j : Int) - 1).toNat = j - 1 := by omega
    have pC := fun (wo : World) (hC : (fun wy => Below w5.heap.size w5 wy) wo) => have Kx := KL5.below hC KL5.lt; have Ky := K.below hC K.lt; have Kp := fun h => (hC.cell (p := ad.add ((j - 1) * 6)) (by rw [block_of_add]; exact Nat.lt_of_lt_of_le hadl HB.size)).trans (kp h); And.intro (Kx.cell) (Ky.cell)
    refine wp_any_at hA ((.det ?dC0) :: (.det ?dC1) :: (.det ?dC2) :: (.det ?dC3) :: (.det ?dC4) :: (.det ?dC5) :: (.det ?dC6) :: (.det ?dC7) :: (.det ?dC8) :: (.det ?dC9) :: (.det ?dC10) :: (.det ?dC11) :: (.det ?dC12) :: (.det ?dC13) :: (.det ?dC14) :: (.det ?dC15) :: (.det ?dC16) :: (.det ?dC17) :: (.det ?dC18) :: (.det ?dC19) :: (.det ?dC20) :: (.det ?dC21) :: (.det ?dC22) :: (.det ?dC23) :: (.det ?dC24) :: (.det ?dC25) :: (.det ?dC26) :: (.det ?dC27) :: (.det ?dC28) :: (.det ?dC29) :: (.det ?dC30) :: (.det ?dC31) :: (.det ?dC32) :: []) [] (fun wy => Below w5.heap.size w5 wy) (TSp [] Grows) (by kernel_rfl) rfl (by kernel_rfl) (by kernel_rfl) rfl ((Below.refl _ _).drew) (stab_sp [] (true :: true :: true :: true :: true :: true :: true :: true :: true :: true :: true :: true :: true :: true :: true :: true :: true :: true :: true :: true :: true :: true :: true :: true :: true :: true :: true :: true :: true :: true :: true :: true :: true :: []) (true :: true :: true :: true :: true :: true :: true :: true :: true :: true :: true :: true :: true :: true :: true :: true :: true :: true :: true :: true :: true :: true :: true :: true :: true :: true :: true :: true :: true :: true :: true :: true :: true :: []) [] rfl rfl rfl (by kernel_rfl) ⟨trivial, trivial, trivial, trivial, trivial, trivial, trivial, trivial, trivial, trivial, trivial, trivial, trivial, trivial, trivial, trivial, trivial, trivial, trivial, trivial, trivial, trivial, trivial, trivial, trivial, trivial, trivial, trivial, trivial, trivial, trivial, trivial, trivial, trivial⟩ trivial) (fun _ h => by cases h) (fun _ _ _ _ _ h => by cases h) (fun _ h => by cases h) ⟨?oC0, ?oC1, ?oC2, ?oC3, ?oC4, ?oC5, ?oC6, ?oC7, ?oC8, ?oC9, ?oC10, ?oC11, ?oC12, ?oC13, ?oC14, ?oC15, ?oC16, ?oC17, ?oC18, ?oC19, ?oC20, ?oC21, ?oC22, ?oC23, ?oC24, ?oC25, ?oC26, ?oC27, ?oC28, ?oC29, ?oC30, ?oC31, ?oC32, trivial⟩ (by kernel_rfl) ?fC
    case oC0 => intro ev wo hev hC hs hph; have x0 := se hA hs 4; exact od rfl rfl (by kernel_rfl) hC (TSp.of rfl (Grows.refl _)) (by simp [go_sem, x0, hwm, jn, jt] <;> rfl)
    case oC1 => intro ev wo hev hC hs hph; have x0 := sd hs 15 0; exact od rfl rfl (by kernel_rfl) hC (TSp.of rfl (Grows.refl _)) (by simp [go_sem, x0, pC _ hC, hwm, jn, jt] <;> rfl)
    case oC2 => intro ev wo hev hC hs hph; have x0 := se hA hs 0; exact od rfl rfl (by kernel_rfl) hC (TSp.of rfl (Grows.refl _)) (by simp [go_sem, x0, hwm, jn, jt] <;> rfl)
    case oC3 => intro ev wo hev hC hs hph; have x0 := sd hs 17 2; exact od rfl rfl (by kernel_rfl) hC (TSp.of rfl (Grows.refl _)) (by simp [go_sem, x0, hwm, jn, jt] <;> rfl)
    case oC4 => intro ev wo hev hC hs hph; have x0 := sd hs 18 3; exact od rfl rfl (by kernel_rfl) hC (TSp.of rfl (Grows.refl _)) (by simp [go_sem, x0, hwm, jn, jt] <;> rfl)
    case oC5 => intro ev wo hev hC hs hph; have x0 := sd hs 19 4; exact od rfl rfl (by kernel_rfl) hC (TSp.of rfl (Grows.refl _)) (by simp [go_sem, x0, pC _ hC, hwm, jn, jt] <;> rfl)
    case oC6 => intro ev wo hev hC hs hph; have x0 := sd hs 16 1; have x1 := sd hs 20 5; exact od rfl rfl (by kernel_rfl) hC (TSp.of rfl (Grows.refl _)) (by simp [go_sem, x0, x1, hwm, jn, jt] <;> rfl)
    case oC7 => intro ev wo hev hC hs hph; have x0 := sd hs 21 6; exact od rfl rfl (by kernel_rfl) hC (TSp.of rfl (Grows.refl _)) (by simp [go_sem, x0, hwm, jn, jt] <;> rfl)
    case oC8 => intro ev wo hev hC hs hph; have x0 := se hA hs 4; have y := sd hs 22 7; exact ob_gv _ rfl rfl y rfl (by kernel_rfl) hC (TSp.of rfl (Grows.refl _)) (fun hq => by simp [go_sem, x0, hwm, jn, jt] <;> rfl) (by rfl)
    case oC9 => intro ev wo hev hC hs hph; have x0 := sd hs 23 8; have y := sd hs 22 7; exact ob_gv _ rfl rfl y rfl (by kernel_rfl) hC (TSp.of rfl (Grows.refl _)) (fun hq => by simp [go_sem, (x0.trans (gw_t (beq_t hq))), hwm, jn, jt] <;> rfl) (by rfl)
    case oC10 => intro ev wo hev hC hs hph; have x0 := sd hs 24 9; have y := sd hs 22 7; exact ob_gv _ rfl rfl y rfl (by kernel_rfl) hC (TSp.of rfl (Grows.refl _)) (fun hq => by simp [go_sem, (x0.trans (gw_t (beq_t hq))), pC _ hC, hwm, jn, jt] <;> rfl) (by rfl)
    case oC11 => intro ev wo hev hC hs hph; have x0 := sd hs 25 10; have y := sd hs 22 7; exact ob_gv _ rfl rfl y rfl (by kernel_rfl) hC (TSp.of rfl (Grows.refl _)) (fun hq => by simp [go_sem, (x0.trans (gw_t (beq_t hq))), hev.const, hwm, jn, jt] <;> rfl) (by rfl)
    case oC12 => intro ev wo hev hC hs hph; have x0 := sd hs 22 7; have x1 := sd hs 26 11; exact od rfl rfl (by kernel_rfl) hC (TSp.of rfl (Grows.refl _)) (by rw [pick_or rfl x0 (hev.const _) x1] <;> rfl)
    case oC13 => intro ev wo hev hC hs hph; have x0 := sd hs 27 12; exact od rfl rfl (by kernel_rfl) hC (TSp.of rfl (Grows.refl _)) (by simp [go_sem, x0, hwm, jn, jt] <;> rfl)
    case oC14 => intro ev wo hev hC hs hph; have x0 := se hA hs 3; have y := sd hs 28 13; exact ob_gv _ rfl rfl y rfl (by kernel_rfl) hC (TSp.of rfl (Grows.refl _)) (fun hq => by simp [go_sem, x0, hwm, jn, jt] <;> rfl) (by rfl)
    case oC15 => intro ev wo hev hC hs hph; have x0 := sd hs 29 14; have y := sd hs 28 13; exact ob_gv _ rfl rfl y rfl (by kernel_rfl) hC (TSp.of rfl (Grows.refl _)) (fun hq => by simp [go_sem, (x0.trans (gw_t (beq_t hq))), hev.const, hwm, jn, jt] <;> rfl) (by rfl)
    case oC16 => intro ev wo hev hC hs hph; have x0 := sd hs 30 15; have y := sd hs 28 13; exact ob_gv _ rfl rfl y rfl (by kernel_rfl) hC (TSp.of rfl (Grows.refl _)) (fun hq => by simp [go_sem, (x0.trans (gw_t (beq_t hq))), hwm, jn, jt] <;> rfl) (by rfl)
    case oC17 => intro ev wo hev hC hs hph; have x0 := se hA hs 0; have y := sd hs 31 16; exact ob_gw _ _ rfl rfl y rfl (by kernel_rfl) hC (TSp.of rfl (Grows.refl _)) (fun hq hr => by simp [go_sem, x0, hwm, jn, jt] <;> rfl) (by rfl)
    case oC18 => intro ev wo hev hC hs hph; have x0 := sd hs 32 17; have y := sd hs 31 16; exact ob_gw _ _ rfl rfl y rfl (by kernel_rfl) hC (TSp.of rfl (Grows.refl _)) (fun hq hr => by simp [go_sem, (x0.trans (gw_t (and_beq hq hr))), hwm, jn, jt] <;> rfl) (by rfl)
    case oC19 => intro ev wo hev hC hs hph; have x0 := sd hs 33 18; have y := sd hs 31 16; exact ob_gw _ _ rfl rfl y rfl (by kernel_rfl) hC (TSp.of rfl (Grows.refl _)) (fun hq hr => by simp [go_sem, (x0.trans (gw_t (and_beq hq hr))), hwm, jn, jt] <;> rfl) (by rfl)
    case oC20 => intro ev wo hev hC hs hph; have x0 := sd hs 34 19; have y := sd hs 31 16; exact ob_gw _ _ rfl rfl y rfl (by kernel_rfl) hC (TSp.of rfl (Grows.refl _)) (fun hq hr => by simp [go_sem, (x0.trans (gw_t (and_beq hq hr))), pC _ hC, hwm, jn, jt] <;> rfl) (by rfl)
    case oC21 => intro ev wo hev hC hs hph; have x0 := se hA hs 3; have y := sd hs 31 16; exact ob_gw _ _ rfl rfl y rfl (by kernel_rfl) hC (TSp.of rfl (Grows.refl _)) (fun hq hr => by simp [go_sem, x0, hwm, jn, jt] <;> rfl) (by rfl)
    case oC22 => intro ev wo hev hC hs hph; have x0 := sd hs 36 21; have y := sd hs 31 16; exact ob_gw _ _ rfl rfl y rfl (by kernel_rfl) hC (TSp.of rfl (Grows.refl _)) (fun hq hr => by simp [go_sem, (x0.trans (gw_t (and_beq hq hr))), hev.const, hwm, jn, jt] <;> rfl) (by rfl)
    case oC23 =>
      intro ev wo hev hC hs hph
      have e35 := sd hs 35 20
      have e37 := sd hs 37 22
      have e31 := sd hs 31 16
      have Kx := KL5.below hC KL5.lt
      have Ky := K.below hC K.lt
      have Kp := fun h => (hC.cell (p := ad.add ((j - 1) * 6)) (by rw [block_of_add]; exact Nat.lt_of_lt_of_le hadl HB.size)).trans (kp h)
      exact ob_gw _ _ rfl rfl e31 rfl (by kernel_rfl) hC (TSp.of rfl (Grows.refl _)) (fun hq hr => by simp [go_sem, (e35.trans (gw_t (and_beq hq hr))), (e37.trans (gw_t (and_beq hq hr))), e31, jm hr, hwm, jn, jt]; try first | exact ⟨rfl, rfl⟩ | rfl) (by rfl)
    case oC24 => intro ev wo hev hC hs hph; have x0 := sd hs 38 23; have y := sd hs 31 16; exact ob_gw _ _ rfl rfl y rfl (by kernel_rfl) hC (TSp.of rfl (Grows.refl _)) (fun hq hr => by simp [go_sem, (x0.trans (gw_t (and_beq hq hr))), hwm, jn, jt] <;> rfl) (by rfl)
    case oC25 => intro ev wo hev hC hs hph; have x0 := sd hs 39 24; have y := sd hs 31 16; exact ob_gw _ _ rfl rfl y rfl (by kernel_rfl) hC (TSp.of rfl (Grows.refl _)) (fun hq hr => by simp [go_sem, (x0.trans (gw_t (and_beq hq hr))), hwm, jn, jt] <;> rfl) (by rfl)
    case oC26 =>
      intro ev wo hev hC hs hph
      have e40 := sd hs 40 25
      have e31 := sd hs 31 16
      have Kx := KL5.below hC KL5.lt
      have Ky := K.below hC K.lt
      have Kp := fun h => (hC.cell (p := ad.add ((j - 1) * 6)) (by rw [block_of_add]; exact Nat.lt_of_lt_of_le hadl HB.size)).trans (kp h)
      exact ob_gw _ _ rfl rfl e31 rfl (by kernel_rfl) hC (TSp.of rfl (Grows.refl _)) (fun hq hr => by simp [go_sem, (e40.trans (gw_t (and_beq hq hr))), e31, Kx.cell, Ky.cell, Kp hr, hwm, jn, jt]; try first | exact ⟨rfl, rfl⟩ | rfl) (by rfl)
    case oC27 => intro ev wo hev hC hs hph; have x0 := se hA hs 4; have y := sd hs 31 16; exact ob_gw _ _ rfl rfl y rfl (by kernel_rfl) hC (TSp.of rfl (Grows.refl _)) (fun hq hr => by simp [go_sem, x0, hwm, jn, jt] <;> rfl) (by rfl)
    case oC28 => intro ev wo hev hC hs hph; have x0 := sd hs 42 27; have y := sd hs 31 16; exact ob_gw _ _ rfl rfl y rfl (by kernel_rfl) hC (TSp.of rfl (Grows.refl _)) (fun hq hr => by simp [go_sem, (x0.trans (gw_t (and_beq hq hr))), hwm, jn, jt] <;> rfl) (by rfl)
    case oC29 => intro ev wo hev hC hs hph; have x0 := sd hs 43 28; have y := sd hs 31 16; exact ob_gw _ _ rfl rfl y rfl (by kernel_rfl) hC (TSp.of rfl (Grows.refl _)) (fun hq hr => by simp [go_sem, (x0.trans (gw_t (and_beq hq hr))), pC _ hC, hwm, jn, jt] <;> rfl) (by rfl)
    case oC30 => intro ev wo hev hC hs hph; have x0 := sd hs 41 26; have x1 := sd hs 44 29; have y := sd hs 31 16; exact ob_gw _ _ rfl rfl y rfl (by kernel_rfl) hC (TSp.of rfl (Grows.refl _)) (fun hq hr => by simp [go_sem, (x0.trans (gw_t (and_beq hq hr))), (x1.trans (gw_t (and_beq hq hr))), hwm, jn, jt] <;> rfl) (by rfl)
    case oC31 => intro ev wo hev hC hs hph; have x0 := sd hs 31 16; have x1 := sd hs 45 30; have y := sd hs 28 13; exact ob_gv _ rfl rfl y rfl (by kernel_rfl) hC (TSp.of rfl (Grows.refl _)) (fun hq => by rw [pick_and rfl (x0.trans (gw_t (beq_t hq))) (x1.trans (gw_a (beq_t hq))) (hev.const _)] <;> rfl) (by rfl)
    case oC32 => intro ev wo hev hC hs hph; have x0 := sd hs 28 13; have x1 := sd hs 46 31; exact od rfl rfl (by kernel_rfl) hC (TSp.of rfl (Grows.refl _)) (by rw [pick_or rfl x0 (hev.const _) x1] <;> rfl)
    intro sg wf hC hph
    intro a hA
    replace hA := hA.keepN [0, 8, 9, 10, 47]
    refine nT ?_
    clear kp jm jn jt hwm
    replace HB := HB.trans (hC.mono HB.size)
    have hq0 : (x.ep == s.ep && decide (lastV L j < x.m.uid) && !(x.m.uid == 4294967295)) = !((x.ep : Int) != (s.ep : Int) || (x.m.uid : Int) == 4294967295 || decide (0 < j) && decide (x.m.uid ≤ lastV L j)) := by
      have e1 : ((x.ep : Int) != (s.ep : Int)) = !(x.ep == s.ep) := by unfold bne; rw [nat_eq]
      have e2 : ((x.m.uid : Int) == 4294967295) = (x.m.uid == 4294967295) := nat_eq _ 4294967295
      have e3 : (decide (0 < j) && decide (x.m.uid ≤ lastV L j)) = !decide (lastV L j < x.m.uid) := by
        rcases Nat.eq_zero_or_pos j with h | h
        · subst h
          have h0 : lastV L 0 = 0 := rfl
          rw [h0, decide_eq_true (show 0 < x.m.uid by omega)]
          rfl
        · rw [decide_eq_true h, Bool.true_and, Bool.eq_iff_iff]
          simp
      rw [e1, e2, e3]
      cases x.ep == s.ep <;> cases x.m.uid == 4294967295 <;> cases decide (lastV L j < x.m.uid) <;> rfl
    have hri2 : riseP s.ep 0 (L.map euV) = ((x.ep == s.ep && decide (lastV L j < x.m.uid) && !(x.m.uid == 4294967295)) && riseP s.ep x.m.uid ((L.drop (j + 1)).map euV)) := by rw [hri]; rfl
    refine wp_if hA 47 _ rfl (fun hq3 => ?yR) (fun hq3 => ?nR)
    case yR =>
      rw [hq0, hq3] at hri2
      refine wS (wR ?_)
      revert a; refine wo rfl rfl (by decide) (fun ev e h => by simp [go_sem, h] <;> rfl) ?_; intro a hA
      replace hA := hA.keepN [2]
      refine wN (nT (wp_ret (rB (rT (rT (rB (rT ?_)))))))
      refine ret_1 hA 2 rfl rfl ?_
      exact ⟨by rw [hri2]; rfl, HB⟩
    case nR =>
      rw [hq0, hq3] at hri2
      refine wp_skip (nB (nT (wR ?_)))
      revert a; (iterate 2 refine wo rfl rfl (by decide) (fun ev e h => by simp [go_sem, h, hwj] <;> rfl) ?_); intro a hA
      replace hA := hA.keepN [0, 8, 9, 10]
      refine wN (nT ?_)
      rw [show ((j : Int) + 1) = ((j + 1 : Nat) : Int) by omega] at hA
      exact ⟨kk - 1, by omega, j + 1, by omega, hA, by rw [hlu, hri2]; rfl, HB⟩
end Go.Proofs.YtmjikfeaopmejaaGreatDoor
/-
  Words of 32 and of 64 bits, as a walk writes them.
-/
namespace Go.Proofs.YtmjikfeaopmejaaGreatDoor
open Go.RowKit
def ad (a b : Nat) : Nat := (a + b) % 4294967296
def xo (a b : Nat) : Nat := a ^^^ b
def an (a b : Nat) : Nat := a &&& b
def orr (a b : Nat) : Nat := a ||| b
def no32 (a : Nat) : Nat := 4294967295 - a
def sr (a n : Nat) : Nat := a >>> n
def ad64 (a b : Nat) : Nat := (a + b) % 18446744073709551616
theorem ad_lt (a b : Nat) : ad a b < 4294967296 := Nat.mod_lt _ (by decide)
theorem xo_lt {a b : Nat} (ha : a < 4294967296) (hb : b < 4294967296) : xo a b < 4294967296 := Nat.xor_lt_two_pow (n := 32) ha hb
theorem an_lt {a b : Nat} (ha : a < 4294967296) : an a b < 4294967296 := Nat.lt_of_le_of_lt Nat.and_le_left ha
theorem orr_lt {a b : Nat} (ha : a < 4294967296) (hb : b < 4294967296) : orr a b < 4294967296 := Nat.or_lt_two_pow (n := 32) ha hb
theorem no32_lt (a : Nat) : no32 a < 4294967296 := by unfold no32; omega
theorem sr_lt {a n : Nat} (ha : a < 4294967296) : sr a n < 4294967296 := by
  unfold sr
  rw [Nat.shiftRight_eq_div_pow]
  exact Nat.lt_of_le_of_lt (Nat.div_le_self _ _) ha
theorem w_ad (a b : Nat) : IntKind.u32.wrap ((a : Int) + (b : Int)) = ((ad a b : Nat) : Int) := by
  rw [IntKind.wrap_u32']; unfold ad; omega
theorem w_xo {a b : Nat} (ha : a < 4294967296) (hb : b < 4294967296) : bits .xor .u32 (a : Int) (b : Int) = ((xo a b : Nat) : Int) := u32_xor_nat a b ha hb
theorem w_an {a b : Nat} (ha : a < 4294967296) (hb : b < 4294967296) : bits .and .u32 (a : Int) (b : Int) = ((an a b : Nat) : Int) := u32_and_nat a b ha hb
theorem w_or {a b : Nat} (ha : a < 4294967296) (hb : b < 4294967296) : bits .or .u32 (a : Int) (b : Int) = ((orr a b : Nat) : Int) := u32_or_nat a b ha hb
theorem w_no {a : Nat} (ha : a < 4294967296) : IntKind.u32.wrap (4294967295 - (a : Int)) = ((no32 a : Nat) : Int) := by
  rw [IntKind.wrap_u32']; unfold no32; omega
theorem l64 {a : Nat} (h : a < 4294967296) : a < 18446744073709551616 := by omega
theorem v_ad (a b : Nat) : IntKind.u64.wrap ((a : Int) + (b : Int)) = ((ad64 a b : Nat) : Int) := by
  rw [IntKind.wrap_u64]; unfold ad64; omega
theorem ad64_lt (a b : Nat) : ad64 a b < 18446744073709551616 := Nat.mod_lt _ (by decide)
theorem v_xo {a b : Nat} (ha : a < 4294967296) (hb : b < 4294967296) : bits .xor .u64 (a : Int) (b : Int) = ((xo a b : Nat) : Int) := u64_xor_nat a b (l64 ha) (l64 hb)
theorem v_an {a b : Nat} (ha : a < 18446744073709551616) (hb : b < 4294967296) : bits .and .u64 (a : Int) (b : Int) = ((an a b : Nat) : Int) := u64_and_nat a b ha (l64 hb)
theorem v_or {a b : Nat} (ha : a < 4294967296) (hb : b < 4294967296) : bits .or .u64 (a : Int) (b : Int) = ((orr a b : Nat) : Int) := u64_or_nat a b (l64 ha) (l64 hb)
end Go.Proofs.YtmjikfeaopmejaaGreatDoor
/-
  Walks by facts on slots: a whole array, or struct, is loaded, stored, answered, whatever its cells.
-/
namespace Go.Proofs.YtmjikfeaopmejaaGreatDoor
open Go Go.RowKit
def isRowD (d : TypeDesc) : Bool := match d with | .struct _ | .array _ _ => true | _ => false
section
variable {P : Program} {Q : Exit → Act → World → Prop} {a : Act} {w w' : World} {n : Nat} {Γ : Env} {l rest : List Oper} {o : Oper} {t : Nat} {v : Value} {ev : Operand → Value} {g k : Nat} {T T' : TypeId} {cs : List Value} {d : TypeDesc}
theorem blk_load (K : Blk w g T cs.toArray) (hu : P.underlying T' = some d) (hd : isRowD d = true) (hi : (P.info? T').map (·.size) = some k) (hk : cs.length = k) : (loadVar T' ⟨g, 0, none⟩).run P w = .ok (.agg cs.toArray) w :=
  run_loadVar_row w g T T' cs.toArray (0, 0) d K hu (by cases d <;> first | rfl | (cases hd)) (by rw [hi, List.size_toArray, hk])
theorem exec_loadA {x : Operand} (K : Blk w g T cs.toArray) (hu : P.underlying T' = some d) (hd : isRowD d = true) (hi : (P.info? T').map (·.size) = some k) (hk : cs.length = k) (ho : o.op = .load T' x) (hx : ev x = .pointer (some ⟨g, 0, none⟩)) : (execOp ev o).run P w = .ok (.value (.agg cs.toArray)) w := by
  have h := blk_load K hu hd hi hk
  unfold execOp
  simp only [ho]
  simp [Instr.loadAt, Instr.sureAddr, hx, h, Result.andThen]
theorem Only.setRow {cs : Array Value} : Only g w (w.setRow g cs) := ⟨rfl, rfl, rfl, by unfold World.setRow; simp, fun i hi => by
  unfold World.setRow
  simp only [Array.getElem?_modify]
  rw [if_neg (fun e => hi e.symm)]⟩
/-- a whole variable is set -/
theorem wl_setw {x y : Operand} {z : List Value} (cs : List Value) (hA : At n Γ a) (hg : o.guard = none) (hd : o.dst = none) (K : Blk w g T z.toArray) (hz : z.length = k) (hk : cs.length = k) (hi : (P.info? T').map (·.size) = some k) (h1 : cs.all (·.oneCell') = true) (ho : o.op = .store T' x y)
    (hx : ∀ ev, EvIn Γ ev → ev x = .pointer (some ⟨g, 0, none⟩) ∧ ev y = .agg cs.toArray)
    (hk' : ∀ w1, Blk w1 g T cs.toArray → Only g w w1 → wpList P l.toArray Q rest a w1) : wpList P l.toArray Q (o :: rest) a w := by
  refine wl_skip hA hg hd (fun ev h => ?_) (hk' (w.setRow g cs.toArray) (setRow_heap w g _ _ T _ K) Only.setRow)
  obtain ⟨hx1, hx2⟩ := hx ev h
  have hs := run_storeVar_row (P := P) w g T T' z.toArray cs.toArray K (by rw [hi, List.size_toArray, hk]) (by simp; omega) (by simpa using h1)
  unfold execOp
  simp only [ho]
  simp [Instr.storeAt, Instr.sureAddr, hx1, hx2, hs, Result.andThen]
theorem results_cell {fn : Func} {t : Nat} {arr : Array Value} (hr : fn.results = #[.cell t T']) (ht : arr.getD t undef = .pointer (some ⟨g, 0, none⟩)) (K : Blk w g T cs.toArray) (hu : P.underlying T' = some d) (hd : isRowD d = true) (hi : (P.info? T').map (·.size) = some k) (hk : cs.length = k) : (results fn arr).run P w = .ok (.agg cs.toArray) w := by
  have h := blk_load K hu hd hi hk
  simp only [Array.getD_eq_getD_getElem?] at ht
  simp [results, hr, ht, asAddr, h]
theorem ret_cell {fn : Func} {R : Ending → World → Prop} (hA : At n Γ a) (t : Nat) (hr : fn.results = #[.cell t T']) (hl : look Γ t = some (.pointer (some ⟨g, 0, none⟩))) (K : Blk w g T cs.toArray) (hu : P.underlying T' = some d) (hd : isRowD d = true) (hi : (P.info? T').map (·.size) = some k) (hk : cs.length = k) (hR : R (.returned (.agg cs.toArray)) w) : bodyPost P fn R .ret a w :=
  ⟨hA.defers, _, results_cell hr (hA.getD t hl) K hu hd hi hk, hR⟩
def constOf : Operand → Value
  | .const v => v
  | _ => undef
def isConst : Operand → Bool
  | .const _ => true
  | _ => false
/-- an array of constants -/
theorem exec_buildC {Γ : Env} {parts : Array (Nat × Operand)} {v : Value} (hev : EvIn Γ ev) (ho : o.op = .build T parts) (hc : parts.all (fun p => isConst p.2) = true) (hr : (Instr.build T (parts.map fun p => (p.1, constOf p.2))).run P w = .ok v w) : (execOp ev o).run P w = .ok (.value v) w := by
  have e : (parts.map fun p => (p.1, ev p.2)) = parts.map fun p => (p.1, constOf p.2) := by
    apply Array.map_congr_left
    intro p hp
    have h1 := (Array.all_eq_true_iff_forall_mem.1 hc) p hp
    obtain ⟨i, x⟩ := p
    cases x with
    | const u => exact congrArg _ (hev.c u)
    | _ => cases h1
  unfold execOp
  simp only [ho]
  have e2 : (parts.map fun (x : Nat × Operand) => match x with | (i, p) => (i, ev p)) = parts.map fun p => (p.1, constOf p.2) := e
  simp [e2, hr]
end
end Go.Proofs.YtmjikfeaopmejaaGreatDoor
/-
  Walk: a block's words (sum.schedule), the numbers that the steps add (sum.steps).
-/
namespace Go.Proofs.YtmjikfeaopmejaaGreatDoor
open Go.RowKit
set_option linter.unusedSimpArgs false
set_option linter.unusedVariables false
def u32v (x : Nat) : Value := .int .u32 (x : Nat)
theorem bits_31 {n : Nat} (h1 : 1 ≤ n) (h2 : n ≤ 31) : bits .and .u64 (IntKind.u64.wrap (-(n : Int))) 31 = ((32 - n : Nat) : Int) := by
  have hb : ∀ m : Fin 32, 1 ≤ m.1 → bits .and .u64 (IntKind.u64.wrap (-(m.1 : Int))) 31 = ((32 - m.1 : Nat) : Int) := by decide +kernel
  exact hb ⟨n, by omega⟩ h1
theorem shl_u32 (x n : Nat) (h : n ≤ 32) : IntKind.u32.wrap ((x : Int) * 2 ^ n) = ((x <<< n % 4294967296 : Nat) : Int) := by
  rw [IntKind.wrap_u32', Nat.shiftLeft_eq, Int.natCast_emod, Int.natCast_mul, Int.natCast_pow]; rfl
theorem shr_u32 (x n : Nat) : (x : Int) / 2 ^ n = ((x >>> n : Nat) : Int) := by
  rw [Nat.shiftRight_eq_div_pow, Int.natCast_ediv, Int.natCast_pow]; rfl
theorem rot_any (x n : Nat) (m : Int) (hm : m = -(n : Int)) (hx : x < 4294967296) (h1 : 1 ≤ n) (h2 : n ≤ 31) (w : World) :
    Calls Tryz.prog 96 #[.int .u32 (x : Nat), .int .i64 m] w fun ev w' => ev = .returned (.int .u32 (rotr x n : Nat)) ∧ w' = w := by
  obtain ⟨q, hq⟩ : ∃ q, 32 - n = q := ⟨_, rfl⟩
  have hb := bits_31 h1 h2
  rw [hq, ← hm] at hb
  have hw : IntKind.u64.wrap (32 - (q : Int)) = (n : Int) := by rw [IntWalk.u64_in _ (by omega)]; omega
  have s1 : Op.shift .shl .u32 (x : Int) .u64 (q : Int) = pure (.int .u32 ((x <<< q % 4294967296 : Nat) : Int)) := by
    rw [shift_shl_any _ _ _ _ (by omega), show min (q : Int).toNat IntKind.u32.bits = q by show min (q : Int).toNat 32 = q; omega, shl_u32 _ _ (by omega)]
  have s2 : Op.shift .shr .u32 (x : Int) .u64 (n : Int) = pure (.int .u32 ((x >>> n : Nat) : Int)) := by
    rw [shift_shr_any _ _ _ _ (by omega), show min (n : Int).toNat IntKind.u32.bits = n by show min (n : Int).toNat 32 = n; omega, shr_u32]
  have s4 := shr_u32 x n
  obtain ⟨y, hy⟩ : ∃ y, x <<< q % 4294967296 = y := ⟨_, rfl⟩
  obtain ⟨z, hz⟩ : ∃ z, x >>> n = z := ⟨_, rfl⟩
  have ly : y < 4294967296 := by rw [← hy]; exact Nat.mod_lt _ (by decide)
  have lz : z < 4294967296 := by rw [← hz, Nat.shiftRight_eq_div_pow]; exact Nat.lt_of_le_of_lt (Nat.div_le_self _ _) hx
  have hr := rotr_u32 (n := n) hx
  rw [hq, hy, hz] at hr
  rw [hy] at s1
  rw [hz] at s2 s4
  have s3 := u32_or_nat y z ly lz
  rw [hr] at s3
  clear hy hz hr hq hm
  refine calls_at 17 Tryz.func96 rfl rfl (Nat.le_of_ble_eq_true rfl) ?_
  intro a hA; replace hA := hA.norm
  refine wS (wR ?_)
  revert a; refine wo rfl rfl (by decide) (fun ev e h => by simp [go_sem, h, hb, hw, s1, s2, s3, s4] <;> rfl) ?_; intro a hA
  replace hA := hA.keepN [0, 1]
  refine wN (nT (wS (wR ?_)))
  revert a; refine wo rfl rfl (by decide) (fun ev e h => by simp [go_sem, h, hb, hw, s1, s2, s3, s4] <;> rfl) ?_; intro a hA
  refine wl_op hA rfl rfl (by decide) (fun ev h => by simp [go_sem, h.get 6 rfl, hb, hw, s1, s2, s3, s4]; try first | exact ⟨rfl, rfl⟩ | rfl) fun a hA => ?_
  revert a; (iterate 2 refine wo rfl rfl (by decide) (fun ev e h => by simp [go_sem, h, hb, hw, s1, s2, s3, s4] <;> rfl) ?_); intro a hA
  replace hA := hA.keepN [0, 5]
  refine wN (nT (wS (wR ?_)))
  revert a; (iterate 9 refine wo rfl rfl (by decide) (fun ev e h => by simp [go_sem, h, hb, hw, s1, s2, s3, s4] <;> rfl) ?_); intro a hA
  replace hA := hA.keepN [4]
  refine wN (nT (wp_ret ?_))
  refine ret_1 hA 4 rfl rfl ?_
  exact ⟨rfl, rfl⟩
/-- words, and noughts behind them -/
def shaCells (l : List Nat) : List Value := (l ++ List.replicate (64 - l.length) 0).map u32v
theorem shaCells_len {l : List Nat} (h : l.length ≤ 64) : (shaCells l).length = 64 := by unfold shaCells; simp; omega
theorem shaCells_set {l : List Nat} (h : l.length < 64) (x : Nat) : (shaCells l).set l.length (u32v x) = shaCells (l ++ [x]) := by
  unfold shaCells
  have e : List.replicate (64 - l.length) 0 = 0 :: List.replicate (64 - (l ++ [x]).length) 0 := by
    rw [List.length_append, show 64 - l.length = (64 - (l.length + [x].length)) + 1 by simp; omega, List.replicate_succ]
  rw [e, List.map_append, List.map_cons, List.set_append_right _ _ (by simp), List.length_map, Nat.sub_self, List.set_cons_zero, List.append_assoc, List.map_append]
  simp
theorem shaCells_at {l : List Nat} {j : Nat} (h : j < l.length) : (shaCells l)[j]? = some (u32v (l.getD j 0)) := by
  unfold shaCells
  rw [List.getElem?_map, List.getElem?_append_left h, List.getD_eq_getElem?_getD, List.getElem?_eq_getElem h]
  rfl
theorem shaCells_one (l : List Nat) : (shaCells l).all (·.oneCell') = true := by
  unfold shaCells
  rw [List.all_map, List.all_eq_true]
  intro x _
  rfl
theorem shaCells_zero {l : List Nat} {j : Nat} (h : l.length ≤ j) (h2 : j < 64) : (shaCells l)[j]? = some (.int .u32 0) := by
  unfold shaCells
  rw [List.getElem?_map, List.getElem?_append_right h, List.getElem?_replicate, if_pos (by omega)]
  rfl
def shaNext4 (a b c d : Nat) : Nat := (a + smallS b + c + smallT d) % 4294967296
theorem shaCells_full {l : List Nat} (h : l.length = 64) : shaCells l = l.map u32v := by unfold shaCells; rw [h]; simp
theorem u8_ats {w : World} {B n : Nat} {A : Option Addr} {l : List UInt8} (h : Reads w B 1 A n (u8s l)) (hl : l.length = n) (hn : 0 < n) : ∃ ad, A = some ad ∧ ad.block < B ∧ ∀ j, j < n → w.cell? (ad.add j) = some (.int .u8 (((l.getD j 0).toNat : Nat) : Int)) := by
  obtain ⟨ad, e, hb, hc⟩ := h.2 hn
  exact ⟨ad, e, hb, fun j hj => hc j _ (by rw [u8s_get, List.getD_eq_getElem?_getD, List.getElem?_eq_getElem (by omega)]; rfl)⟩
theorem word_or (a b c d : UInt8) : (a.toNat * 16777216 ||| b.toNat * 65536) ||| c.toNat * 256 ||| d.toNat = beVal [a, b, c, d] := by
  have h1 : a.toNat * 16777216 ||| b.toNat * 65536 = a.toNat * 16777216 + b.toNat * 65536 := by
    rw [show a.toNat * 16777216 = (a.toNat) * 2 ^ 24 by omega, ← Nat.shiftLeft_eq, ← Nat.shiftLeft_add_eq_or_of_lt (by have := b.toNat_lt; omega)]
  have h2 : (a.toNat * 16777216 + b.toNat * 65536) ||| c.toNat * 256 = a.toNat * 16777216 + b.toNat * 65536 + c.toNat * 256 := by
    rw [show a.toNat * 16777216 + b.toNat * 65536 = (a.toNat * 256 + b.toNat) * 2 ^ 16 by omega, ← Nat.shiftLeft_eq, ← Nat.shiftLeft_add_eq_or_of_lt (by have := c.toNat_lt; omega)]
  have h3 : (a.toNat * 16777216 + b.toNat * 65536 + c.toNat * 256) ||| d.toNat = a.toNat * 16777216 + b.toNat * 65536 + c.toNat * 256 + d.toNat := by
    rw [show a.toNat * 16777216 + b.toNat * 65536 + c.toNat * 256 = (a.toNat * 65536 + b.toNat * 256 + c.toNat) * 2 ^ 8 by omega, ← Nat.shiftLeft_eq, ← Nat.shiftLeft_add_eq_or_of_lt (by have := d.toNat_lt; omega)]
  rw [h1, h2, h3]
  unfold beVal
  simp
  omega
theorem shaW_lt (b : List UInt8) : ∀ n, ∀ x ∈ shaW b n, x < 4294967296
  | 0, x, h => by cases h
  | n + 1, x, h => by
    unfold shaW at h
    rcases List.mem_append.1 h with h | h
    · exact shaW_lt b n x h
    · rw [List.mem_singleton.1 h]
      split
      · have h1 := beVal_lt ((b.drop (4 * n)).take 4)
        have h2 : ((b.drop (4 * n)).take 4).length ≤ 4 := by rw [List.length_take]; omega
        exact Nat.lt_of_lt_of_le h1 (Nat.le_trans (Nat.pow_le_pow_right (by omega) h2) (by decide))
      · exact Nat.mod_lt _ (by decide)
theorem shaW_getD_lt (b : List UInt8) (n j : Nat) : (shaW b n).getD j 0 < 4294967296 := by
  rw [List.getD_eq_getElem?_getD]
  cases h : (shaW b n)[j]? with
  | none => decide
  | some x => exact shaW_lt b n x (List.mem_of_getElem? h)
theorem word_at {b : List UInt8} {i : Nat} (h : 4 * i + 3 < b.length) : shaWord b i = beVal [b.getD (4 * i) 0, b.getD (4 * i + 1) 0, b.getD (4 * i + 2) 0, b.getD (4 * i + 3) 0] := by
  unfold shaWord
  congr 1
  simp only [List.getD_eq_getElem?_getD]
  rw [List.getElem?_eq_getElem (show 4 * i < b.length by omega), List.getElem?_eq_getElem (show 4 * i + 1 < b.length by omega), List.getElem?_eq_getElem (show 4 * i + 2 < b.length by omega), List.getElem?_eq_getElem h]
  rw [List.drop_eq_getElem_cons (show 4 * i < b.length by omega), List.take_succ_cons, List.drop_eq_getElem_cons (show 4 * i + 1 < b.length by omega), List.take_succ_cons, List.drop_eq_getElem_cons (show 4 * i + 1 + 1 < b.length by omega), List.take_succ_cons, List.drop_eq_getElem_cons (show 4 * i + 1 + 1 + 1 < b.length by omega), List.take_succ_cons, List.take_zero]
  rfl
set_option maxRecDepth 100000 in
set_option maxHeartbeats 1000000 in
theorem schedule_any (A : Option Addr) (c : Nat) (b : List UInt8) (hl : b.length = 64) (w : World) (hr : Reads w w.heap.size 1 A 64 (u8s b)) :
    Calls Tryz.prog 94 #[.slice A 64 c] w fun ev w' => ev = .returned (.agg ((shaW b 64).map u32v).toArray) ∧ Below w.heap.size w w' := by
  refine calls_at 93 Tryz.func94 rfl rfl (Nat.le_of_ble_eq_true rfl) ?_
  intro a hA; replace hA := hA.norm
  refine wS (wR ?_)
  refine wl_new hA rfl rfl (by decide) (fun ev h => by simp [go_sem]; try first | exact ⟨rfl, rfl⟩ | rfl) fun w1 a (K2 : Blk _ _ _ _) hz1 hb1 hA => ?_
  obtain ⟨g2, hg2⟩ : ∃ g, w.heap.size = g := ⟨_, rfl⟩
  rw [hg2] at K2 hA
  replace K2 : Blk w1 g2 151 (shaCells []).toArray := K2
  have HB : Below w.heap.size w w1 := hb1
  replace hA := hA.keepN [0, 2]
  refine wN (nT (wS (wR ?_)))
  refine wl_new hA rfl rfl (by decide) (fun ev h => by simp [go_sem]; try first | exact ⟨rfl, rfl⟩ | rfl) fun w2 a (K3 : Blk _ _ _ _) hz2 hb2 hA => ?_
  replace HB := HB.trans (hb2.mono HB.size)
  replace K2 := K2.below hb2 K2.lt
  obtain ⟨g3, hg3⟩ : ∃ g, w1.heap.size = g := ⟨_, rfl⟩
  rw [hg3] at K3 hA
  replace K3 : Blk w2 g3 151 (shaCells (shaW b 0)).toArray := K3
  have h23 : g2 ≠ g3 := by omega
  have h3 : w.heap.size ≤ g3 := by omega
  replace hA := hA.keepN [0, 2, 3]
  refine wN (nT (wS (wS (wR ?_))))
  revert a; refine wo rfl rfl (by decide) (fun ev e h => by simp [go_sem, h] <;> rfl) ?_; intro a hA
  replace hA := hA.keepN [0, 2, 3, 10]
  refine wN (nT (wB ?_))
  refine wp_loop_at (fun k a wx => ∃ (i : Nat), i + k = 16 ∧ At 93 [(0, .slice A 64 c), (2, .pointer (some ⟨g2, 0, none⟩)), (3, .pointer (some ⟨g3, 0, none⟩)), (10, .int .i64 (i : Nat))] a ∧ Blk wx g2 151 (shaCells []).toArray ∧ Blk wx g3 151 (shaCells (shaW b i)).toArray ∧ Below w.heap.size w wx) (16) ?_ ?_
  · exact ⟨0, by omega, hA, K2, K3, HB⟩
  clear K2 K3 HB
  rintro k a wx ⟨i, hik, hA, K2, K3, HB⟩
  refine wS (wR ?_)
  revert a; refine wo rfl rfl (by decide) (fun ev e h => by simp [go_sem, h] <;> rfl) ?_; intro a hA
  replace hA := hA.keepN [0, 2, 3, 10, 11]
  refine wN (nT (wS ?_))
  refine wp_if hA 11 _ rfl (fun hq => ?yL) (fun hq => ?nL)
  case yL =>
    have hi : i < 16 := by simp at hq; omega
    refine wp_skip (nT (wS (wB (wS (wR ?_)))))
    revert a; (iterate 2 refine wo rfl rfl (by decide) (fun ev e h => by simp [go_sem, h] <;> rfl) ?_); intro a hA
    replace hA := hA.keepN [0, 2, 3, 4, 10]
    refine wN (nT ?_)
    obtain ⟨ad, rfl, had, hc⟩ := u8_ats ((hr.below HB).more HB.size) hl (by omega)
    obtain ⟨j0, hj0⟩ : ∃ j, 4 * i = j := ⟨_, rfl⟩
    obtain ⟨j1, hj1⟩ : ∃ j, 4 * i + 1 = j := ⟨_, rfl⟩
    obtain ⟨j2, hj2⟩ : ∃ j, 4 * i + 2 = j := ⟨_, rfl⟩
    obtain ⟨j3, hj3⟩ : ∃ j, 4 * i + 3 = j := ⟨_, rfl⟩
    have w0 : IntKind.i64.wrap (4 * (i : Int)) = (j0 : Int) := by rw [IntWalk.i64_in _ (by omega)]; omega
    have w1 : IntKind.i64.wrap ((j0 : Int) + 1) = (j1 : Int) := by rw [IntWalk.i64_in _ (by omega)]; omega
    have w2 : IntKind.i64.wrap ((j0 : Int) + 2) = (j2 : Int) := by rw [IntWalk.i64_in _ (by omega)]; omega
    have w3 : IntKind.i64.wrap ((j0 : Int) + 3) = (j3 : Int) := by rw [IntWalk.i64_in _ (by omega)]; omega
    have hwd : (b.getD j0 0).toNat * 16777216 ||| (b.getD j1 0).toNat * 65536 ||| (b.getD j2 0).toNat * 256 ||| (b.getD j3 0).toNat = shaWord b i := by rw [word_or, word_at (by omega), hj3, hj2, hj1, hj0]
    have c0 := hc j0 (by omega)
    have c1 := hc j1 (by omega)
    have c2 := hc j2 (by omega)
    have c3 := hc j3 (by omega)
    have l0 := (b.getD j0 0).toNat_lt
    have l1 := (b.getD j1 0).toNat_lt
    have l2 := (b.getD j2 0).toNat_lt
    have l3 := (b.getD j3 0).toNat_lt
    generalize (b.getD j0 0).toNat = x0 at *
    generalize (b.getD j1 0).toNat = x1 at *
    generalize (b.getD j2 0).toNat = x2 at *
    generalize (b.getD j3 0).toNat = x3 at *
    obtain ⟨V, hV⟩ : ∃ V, shaWord b i = V := ⟨_, rfl⟩
    rw [hV] at hwd
    have u0 : ∀ x : Nat, x < 256 → IntKind.u32.wrap (x : Int) = (x : Int) := fun x h => IntWalk.u32_in _ (by omega)
    have s24 : IntKind.u32.wrap ((x0 : Int) * 16777216) = ((x0 * 16777216 : Nat) : Int) := by rw [IntWalk.u32_in _ (by omega)]; omega
    have s16 : IntKind.u32.wrap ((x1 : Int) * 65536) = ((x1 * 65536 : Nat) : Int) := by rw [IntWalk.u32_in _ (by omega)]; omega
    have s8 : IntKind.u32.wrap ((x2 : Int) * 256) = ((x2 * 256 : Nat) : Int) := by rw [IntWalk.u32_in _ (by omega)]; omega
    obtain ⟨y0, hy0⟩ : ∃ y, x0 * 16777216 = y := ⟨_, rfl⟩
    obtain ⟨y1, hy1⟩ : ∃ y, x1 * 65536 = y := ⟨_, rfl⟩
    obtain ⟨y2, hy2⟩ : ∃ y, x2 * 256 = y := ⟨_, rfl⟩
    rw [hy0] at s24
    rw [hy1] at s16
    rw [hy2] at s8
    have o1 := u32_or_nat y0 y1 (by omega) (by omega)
    have lo1 : y0 ||| y1 < 4294967296 := Nat.or_lt_two_pow (n := 32) (by omega) (by omega)
    have o2 := u32_or_nat (y0 ||| y1) y2 lo1 (by omega)
    have lo2 : y0 ||| y1 ||| y2 < 4294967296 := Nat.or_lt_two_pow (n := 32) lo1 (by omega)
    have o3 := u32_or_nat (y0 ||| y1 ||| y2) x3 lo2 (by omega)
    rw [hy0, hy1, hy2] at hwd
    rw [hwd] at o3
    have jj : ∀ j : Nat, (0 : Int) ≤ (j : Int) := fun j => by omega
    have k0 : (j0 : Int) < 64 := by omega
    have k1 : (j1 : Int) < 64 := by omega
    have k2 : (j2 : Int) < 64 := by omega
    have k3 : (j3 : Int) < 64 := by omega
    have pD := fun (wo : World) (hC : (fun wy => Below wx.heap.size wx wy) wo) => have q0 := (hC.cell (p := ad.add j0) (by rw [block_of_add]; exact had)).trans c0; have q1 := (hC.cell (p := ad.add j1) (by rw [block_of_add]; exact had)).trans c1; have q2 := (hC.cell (p := ad.add j2) (by rw [block_of_add]; exact had)).trans c2; have q3 := (hC.cell (p := ad.add j3) (by rw [block_of_add]; exact had)).trans c3; And.intro (q0) (And.intro (q1) (And.intro (q2) (q3)))
    refine wp_region_split 34 ?_
    simp only [List.take_succ_cons, List.take_zero, List.drop_succ_cons, List.drop_zero]
    refine wp_any_split_at hA ((.det ?dD0) :: (.det ?dD1) :: (.det ?dD2) :: (.det ?dD3) :: (.det ?dD4) :: (.det ?dD5) :: (.det ?dD6) :: (.det ?dD7) :: (.det ?dD8) :: (.det ?dD9) :: (.det ?dD10) :: (.det ?dD11) :: (.det ?dD12) :: (.det ?dD13) :: (.det ?dD14) :: (.det ?dD15) :: (.det ?dD16) :: (.det ?dD17) :: (.det ?dD18) :: (.det ?dD19) :: (.det ?dD20) :: (.det ?dD21) :: (.det ?dD22) :: (.det ?dD23) :: (.det ?dD24) :: (.det ?dD25) :: (.det ?dD26) :: (.det ?dD27) :: (.det ?dD28) :: (.det ?dD29) :: (.det ?dD30) :: (.det ?dD31) :: (.det ?dD32) :: (.det ?dD33) :: []) [] (fun wy => Below wx.heap.size wx wy) (TSp [] Grows) (by kernel_rfl) rfl (by kernel_rfl) (by kernel_rfl) rfl (by kernel_rfl) (by kernel_rfl) (by kernel_rfl) (by kernel_rfl) ((Below.refl _ _).drew) (stab_sp [] (true :: true :: true :: true :: true :: true :: true :: true :: true :: true :: true :: true :: true :: true :: true :: true :: true :: true :: true :: true :: true :: true :: true :: true :: true :: true :: true :: true :: true :: true :: true :: true :: true :: true :: []) (true :: true :: true :: true :: true :: true :: true :: true :: true :: true :: true :: true :: true :: true :: true :: true :: true :: true :: true :: true :: true :: true :: true :: true :: true :: true :: true :: true :: true :: true :: true :: true :: true :: true :: []) [] rfl rfl rfl (by kernel_rfl) ⟨trivial, trivial, trivial, trivial, trivial, trivial, trivial, trivial, trivial, trivial, trivial, trivial, trivial, trivial, trivial, trivial, trivial, trivial, trivial, trivial, trivial, trivial, trivial, trivial, trivial, trivial, trivial, trivial, trivial, trivial, trivial, trivial, trivial, trivial, trivial⟩ trivial) (fun _ h => by cases h) (fun _ _ _ _ _ h => by cases h) (fun _ h => by cases h) ⟨?oD0, ?oD1, ?oD2, ?oD3, ?oD4, ?oD5, ?oD6, ?oD7, ?oD8, ?oD9, ?oD10, ?oD11, ?oD12, ?oD13, ?oD14, ?oD15, ?oD16, ?oD17, ?oD18, ?oD19, ?oD20, ?oD21, ?oD22, ?oD23, ?oD24, ?oD25, ?oD26, ?oD27, ?oD28, ?oD29, ?oD30, ?oD31, ?oD32, ?oD33, trivial⟩ (by kernel_rfl) ?fD
    case oD0 => intro ev wo hev hC hs hph; have x0 := se hA hs 4; exact od rfl rfl (by kernel_rfl) hC (TSp.of rfl (Grows.refl _)) (by simp [go_sem, x0, w0, w1, w2, w3, jj, k0, k1, k2, k3, u0 _ l0, u0 _ l1, u0 _ l2, u0 _ l3, s24, s16, s8, o1, o2, o3] <;> rfl)
    case oD1 => intro ev wo hev hC hs hph; have x0 := se hA hs 0; exact od rfl rfl (by kernel_rfl) hC (TSp.of rfl (Grows.refl _)) (by simp [go_sem, x0, w0, w1, w2, w3, jj, k0, k1, k2, k3, u0 _ l0, u0 _ l1, u0 _ l2, u0 _ l3, s24, s16, s8, o1, o2, o3] <;> rfl)
    case oD2 => intro ev wo hev hC hs hph; have x0 := se hA hs 4; exact od rfl rfl (by kernel_rfl) hC (TSp.of rfl (Grows.refl _)) (by simp [go_sem, x0, w0, w1, w2, w3, jj, k0, k1, k2, k3, u0 _ l0, u0 _ l1, u0 _ l2, u0 _ l3, s24, s16, s8, o1, o2, o3] <;> rfl)
    case oD3 => intro ev wo hev hC hs hph; have x0 := sd hs 15 2; exact od rfl rfl (by kernel_rfl) hC (TSp.of rfl (Grows.refl _)) (by simp [go_sem, x0, hev.const, w0, w1, w2, w3, jj, k0, k1, k2, k3, u0 _ l0, u0 _ l1, u0 _ l2, u0 _ l3, s24, s16, s8, o1, o2, o3] <;> rfl)
    case oD4 => intro ev wo hev hC hs hph; have x0 := sd hs 14 1; have x1 := sd hs 16 3; exact od rfl rfl (by kernel_rfl) hC (TSp.of rfl (Grows.refl _)) (by simp [go_sem, x0, x1, w0, w1, w2, w3, jj, k0, k1, k2, k3, u0 _ l0, u0 _ l1, u0 _ l2, u0 _ l3, s24, s16, s8, o1, o2, o3] <;> rfl)
    case oD5 => intro ev wo hev hC hs hph; have x0 := sd hs 17 4; exact od rfl rfl (by kernel_rfl) hC (TSp.of rfl (Grows.refl _)) (by simp [go_sem, x0, pD _ hC, w0, w1, w2, w3, jj, k0, k1, k2, k3, u0 _ l0, u0 _ l1, u0 _ l2, u0 _ l3, s24, s16, s8, o1, o2, o3] <;> rfl)
    case oD6 => intro ev wo hev hC hs hph; have x0 := sd hs 18 5; exact od rfl rfl (by kernel_rfl) hC (TSp.of rfl (Grows.refl _)) (by simp [go_sem, x0, w0, w1, w2, w3, jj, k0, k1, k2, k3, u0 _ l0, u0 _ l1, u0 _ l2, u0 _ l3, s24, s16, s8, o1, o2, o3] <;> rfl)
    case oD7 => intro ev wo hev hC hs hph; have x0 := sd hs 19 6; exact od rfl rfl (by kernel_rfl) hC (TSp.of rfl (Grows.refl _)) (by simp [go_sem, x0, hev.const, w0, w1, w2, w3, jj, k0, k1, k2, k3, u0 _ l0, u0 _ l1, u0 _ l2, u0 _ l3, s24, s16, s8, o1, o2, o3] <;> rfl)
    case oD8 => intro ev wo hev hC hs hph; have x0 := se hA hs 0; exact od rfl rfl (by kernel_rfl) hC (TSp.of rfl (Grows.refl _)) (by simp [go_sem, x0, w0, w1, w2, w3, jj, k0, k1, k2, k3, u0 _ l0, u0 _ l1, u0 _ l2, u0 _ l3, s24, s16, s8, o1, o2, o3] <;> rfl)
    case oD9 => intro ev wo hev hC hs hph; have x0 := se hA hs 4; exact od rfl rfl (by kernel_rfl) hC (TSp.of rfl (Grows.refl _)) (by simp [go_sem, x0, w0, w1, w2, w3, jj, k0, k1, k2, k3, u0 _ l0, u0 _ l1, u0 _ l2, u0 _ l3, s24, s16, s8, o1, o2, o3] <;> rfl)
    case oD10 => intro ev wo hev hC hs hph; have x0 := sd hs 22 9; exact od rfl rfl (by kernel_rfl) hC (TSp.of rfl (Grows.refl _)) (by simp [go_sem, x0, hev.const, w0, w1, w2, w3, jj, k0, k1, k2, k3, u0 _ l0, u0 _ l1, u0 _ l2, u0 _ l3, s24, s16, s8, o1, o2, o3] <;> rfl)
    case oD11 => intro ev wo hev hC hs hph; have x0 := sd hs 23 10; exact od rfl rfl (by kernel_rfl) hC (TSp.of rfl (Grows.refl _)) (by simp [go_sem, x0, hev.const, w0, w1, w2, w3, jj, k0, k1, k2, k3, u0 _ l0, u0 _ l1, u0 _ l2, u0 _ l3, s24, s16, s8, o1, o2, o3] <;> rfl)
    case oD12 => intro ev wo hev hC hs hph; have x0 := sd hs 21 8; have x1 := sd hs 24 11; exact od rfl rfl (by kernel_rfl) hC (TSp.of rfl (Grows.refl _)) (by simp [go_sem, x0, x1, w0, w1, w2, w3, jj, k0, k1, k2, k3, u0 _ l0, u0 _ l1, u0 _ l2, u0 _ l3, s24, s16, s8, o1, o2, o3] <;> rfl)
    case oD13 => intro ev wo hev hC hs hph; have x0 := sd hs 25 12; exact od rfl rfl (by kernel_rfl) hC (TSp.of rfl (Grows.refl _)) (by simp [go_sem, x0, pD _ hC, w0, w1, w2, w3, jj, k0, k1, k2, k3, u0 _ l0, u0 _ l1, u0 _ l2, u0 _ l3, s24, s16, s8, o1, o2, o3] <;> rfl)
    case oD14 => intro ev wo hev hC hs hph; have x0 := sd hs 26 13; exact od rfl rfl (by kernel_rfl) hC (TSp.of rfl (Grows.refl _)) (by simp [go_sem, x0, w0, w1, w2, w3, jj, k0, k1, k2, k3, u0 _ l0, u0 _ l1, u0 _ l2, u0 _ l3, s24, s16, s8, o1, o2, o3] <;> rfl)
    case oD15 => intro ev wo hev hC hs hph; have x0 := sd hs 27 14; exact od rfl rfl (by kernel_rfl) hC (TSp.of rfl (Grows.refl _)) (by simp [go_sem, x0, hev.const, w0, w1, w2, w3, jj, k0, k1, k2, k3, u0 _ l0, u0 _ l1, u0 _ l2, u0 _ l3, s24, s16, s8, o1, o2, o3] <;> rfl)
    case oD16 => intro ev wo hev hC hs hph; have x0 := sd hs 20 7; have x1 := sd hs 28 15; exact od rfl rfl (by kernel_rfl) hC (TSp.of rfl (Grows.refl _)) (by simp [go_sem, x0, x1, w0, w1, w2, w3, jj, k0, k1, k2, k3, u0 _ l0, u0 _ l1, u0 _ l2, u0 _ l3, s24, s16, s8, o1, o2, o3] <;> rfl)
    case oD17 => intro ev wo hev hC hs hph; have x0 := se hA hs 0; exact od rfl rfl (by kernel_rfl) hC (TSp.of rfl (Grows.refl _)) (by simp [go_sem, x0, w0, w1, w2, w3, jj, k0, k1, k2, k3, u0 _ l0, u0 _ l1, u0 _ l2, u0 _ l3, s24, s16, s8, o1, o2, o3] <;> rfl)
    case oD18 => intro ev wo hev hC hs hph; have x0 := se hA hs 4; exact od rfl rfl (by kernel_rfl) hC (TSp.of rfl (Grows.refl _)) (by simp [go_sem, x0, w0, w1, w2, w3, jj, k0, k1, k2, k3, u0 _ l0, u0 _ l1, u0 _ l2, u0 _ l3, s24, s16, s8, o1, o2, o3] <;> rfl)
    case oD19 => intro ev wo hev hC hs hph; have x0 := sd hs 31 18; exact od rfl rfl (by kernel_rfl) hC (TSp.of rfl (Grows.refl _)) (by simp [go_sem, x0, hev.const, w0, w1, w2, w3, jj, k0, k1, k2, k3, u0 _ l0, u0 _ l1, u0 _ l2, u0 _ l3, s24, s16, s8, o1, o2, o3] <;> rfl)
    case oD20 => intro ev wo hev hC hs hph; have x0 := sd hs 32 19; exact od rfl rfl (by kernel_rfl) hC (TSp.of rfl (Grows.refl _)) (by simp [go_sem, x0, hev.const, w0, w1, w2, w3, jj, k0, k1, k2, k3, u0 _ l0, u0 _ l1, u0 _ l2, u0 _ l3, s24, s16, s8, o1, o2, o3] <;> rfl)
    case oD21 => intro ev wo hev hC hs hph; have x0 := sd hs 30 17; have x1 := sd hs 33 20; exact od rfl rfl (by kernel_rfl) hC (TSp.of rfl (Grows.refl _)) (by simp [go_sem, x0, x1, w0, w1, w2, w3, jj, k0, k1, k2, k3, u0 _ l0, u0 _ l1, u0 _ l2, u0 _ l3, s24, s16, s8, o1, o2, o3] <;> rfl)
    case oD22 => intro ev wo hev hC hs hph; have x0 := sd hs 34 21; exact od rfl rfl (by kernel_rfl) hC (TSp.of rfl (Grows.refl _)) (by simp [go_sem, x0, pD _ hC, w0, w1, w2, w3, jj, k0, k1, k2, k3, u0 _ l0, u0 _ l1, u0 _ l2, u0 _ l3, s24, s16, s8, o1, o2, o3] <;> rfl)
    case oD23 => intro ev wo hev hC hs hph; have x0 := sd hs 35 22; exact od rfl rfl (by kernel_rfl) hC (TSp.of rfl (Grows.refl _)) (by simp [go_sem, x0, w0, w1, w2, w3, jj, k0, k1, k2, k3, u0 _ l0, u0 _ l1, u0 _ l2, u0 _ l3, s24, s16, s8, o1, o2, o3] <;> rfl)
    case oD24 => intro ev wo hev hC hs hph; have x0 := sd hs 36 23; exact od rfl rfl (by kernel_rfl) hC (TSp.of rfl (Grows.refl _)) (by simp [go_sem, x0, hev.const, w0, w1, w2, w3, jj, k0, k1, k2, k3, u0 _ l0, u0 _ l1, u0 _ l2, u0 _ l3, s24, s16, s8, o1, o2, o3] <;> rfl)
    case oD25 => intro ev wo hev hC hs hph; have x0 := sd hs 29 16; have x1 := sd hs 37 24; exact od rfl rfl (by kernel_rfl) hC (TSp.of rfl (Grows.refl _)) (by simp [go_sem, x0, x1, w0, w1, w2, w3, jj, k0, k1, k2, k3, u0 _ l0, u0 _ l1, u0 _ l2, u0 _ l3, s24, s16, s8, o1, o2, o3] <;> rfl)
    case oD26 => intro ev wo hev hC hs hph; have x0 := se hA hs 0; exact od rfl rfl (by kernel_rfl) hC (TSp.of rfl (Grows.refl _)) (by simp [go_sem, x0, w0, w1, w2, w3, jj, k0, k1, k2, k3, u0 _ l0, u0 _ l1, u0 _ l2, u0 _ l3, s24, s16, s8, o1, o2, o3] <;> rfl)
    case oD27 => intro ev wo hev hC hs hph; have x0 := se hA hs 4; exact od rfl rfl (by kernel_rfl) hC (TSp.of rfl (Grows.refl _)) (by simp [go_sem, x0, w0, w1, w2, w3, jj, k0, k1, k2, k3, u0 _ l0, u0 _ l1, u0 _ l2, u0 _ l3, s24, s16, s8, o1, o2, o3] <;> rfl)
    case oD28 => intro ev wo hev hC hs hph; have x0 := sd hs 40 27; exact od rfl rfl (by kernel_rfl) hC (TSp.of rfl (Grows.refl _)) (by simp [go_sem, x0, hev.const, w0, w1, w2, w3, jj, k0, k1, k2, k3, u0 _ l0, u0 _ l1, u0 _ l2, u0 _ l3, s24, s16, s8, o1, o2, o3] <;> rfl)
    case oD29 => intro ev wo hev hC hs hph; have x0 := sd hs 41 28; exact od rfl rfl (by kernel_rfl) hC (TSp.of rfl (Grows.refl _)) (by simp [go_sem, x0, hev.const, w0, w1, w2, w3, jj, k0, k1, k2, k3, u0 _ l0, u0 _ l1, u0 _ l2, u0 _ l3, s24, s16, s8, o1, o2, o3] <;> rfl)
    case oD30 => intro ev wo hev hC hs hph; have x0 := sd hs 39 26; have x1 := sd hs 42 29; exact od rfl rfl (by kernel_rfl) hC (TSp.of rfl (Grows.refl _)) (by simp [go_sem, x0, x1, w0, w1, w2, w3, jj, k0, k1, k2, k3, u0 _ l0, u0 _ l1, u0 _ l2, u0 _ l3, s24, s16, s8, o1, o2, o3] <;> rfl)
    case oD31 => intro ev wo hev hC hs hph; have x0 := sd hs 43 30; exact od rfl rfl (by kernel_rfl) hC (TSp.of rfl (Grows.refl _)) (by simp [go_sem, x0, pD _ hC, w0, w1, w2, w3, jj, k0, k1, k2, k3, u0 _ l0, u0 _ l1, u0 _ l2, u0 _ l3, s24, s16, s8, o1, o2, o3] <;> rfl)
    case oD32 => intro ev wo hev hC hs hph; have x0 := sd hs 44 31; exact od rfl rfl (by kernel_rfl) hC (TSp.of rfl (Grows.refl _)) (by simp [go_sem, x0, w0, w1, w2, w3, jj, k0, k1, k2, k3, u0 _ l0, u0 _ l1, u0 _ l2, u0 _ l3, s24, s16, s8, o1, o2, o3] <;> rfl)
    case oD33 => intro ev wo hev hC hs hph; have x0 := sd hs 38 25; have x1 := sd hs 45 32; exact od rfl rfl (by kernel_rfl) hC (TSp.of rfl (Grows.refl _)) (by simp [go_sem, x0, x1, w0, w1, w2, w3, jj, k0, k1, k2, k3, u0 _ l0, u0 _ l1, u0 _ l2, u0 _ l3, s24, s16, s8, o1, o2, o3] <;> rfl)
    intro sg wf hC hph
    intro a hA
    replace hA := hA.keepN [0, 2, 3, 10, 13, 46]
    have K2f := K2.below hC K2.lt
    have K3f := K3.below hC K3.lt
    have HBf := HB.trans (hC.mono HB.size)
    have hlen : (shaW b i).length = i := shaW_length b i
    have hci := shaCells_zero (l := shaW b i) (j := i) (by omega) (by omega)
    have ki : (i : Int) < 64 := by omega
    revert a; refine wo rfl rfl (by decide) (fun ev e h => by simp [go_sem, h, jj, ki, add0, hci] <;> rfl) ?_; intro a hA
    refine wl_setf ((shaCells (shaW b i)).set i (.int .u32 (V : Nat))) _ hA rfl rfl K3f (j := i) (by rfl) (fun ev h => by simp [go_sem, h.get 47 rfl, h.get 46 rfl, jj, ki, add0, hci, K3f.cell, K3f.frozen]; try first | exact ⟨rfl, rfl⟩ | rfl) fun w5 (K3f : Blk _ _ _ _) hs => ?_
    have hwi : IntKind.i64.wrap ((i : Int) + 1) = ((i + 1 : Nat) : Int) := by rw [IntWalk.i64_in _ (by omega)]; omega
    replace hA := hA.keepN [0, 2, 3, 10]
    refine wN (nB (nT (wR ?_)))
    revert a; (iterate 2 refine wo rfl rfl (by decide) (fun ev e h => by simp [go_sem, h, hwi] <;> rfl) ?_); intro a hA
    replace hA := hA.keepN [0, 2, 3, 10]
    refine wN (nT ?_)
    refine ⟨k - 1, by omega, i + 1, by omega, hA, hs.blk K2f h23, ?_, hs.below HBf h3⟩
    have e := shaCells_set (l := shaW b i) (by omega) V
    rw [hlen] at e
    rw [show shaW b (i + 1) = shaW b i ++ [V] by rw [← hV]; show shaW b i ++ _ = _; rw [if_pos hi], ← e]
    exact K3f
  case nL =>
    have hi : i = 16 := by simp at hq; omega
    subst hi
    clear hr hik hq
    replace hA := hA.keepN [2, 3]
    refine wp_exit (xT (xT (xB (nT (wS (wS (wR ?_)))))))
    revert a; refine wo rfl rfl (by decide) (fun ev e h => by simp [go_sem, h] <;> rfl) ?_; intro a hA
    replace hA := hA.keepN [2, 3, 5]
    refine wN (nT (wB ?_))
    refine wp_loop_at (fun k a wx => ∃ (i : Nat), i + k = 64 ∧ 16 ≤ i ∧ At 93 [(2, .pointer (some ⟨g2, 0, none⟩)), (3, .pointer (some ⟨g3, 0, none⟩)), (5, .int .i64 (i : Nat))] a ∧ Blk wx g2 151 (shaCells []).toArray ∧ Blk wx g3 151 (shaCells (shaW b i)).toArray ∧ Below w.heap.size w wx) (48) ?_ ?_
    · exact ⟨16, by omega, by omega, hA, K2, K3, HB⟩
    clear K2 K3 HB
    rintro k a wx ⟨i, hik, hi16, hA, K2, K3, HB⟩
    refine wS (wS (wR ?_))
    revert a; (iterate 2 refine wo rfl rfl (by decide) (fun ev e h => by simp [go_sem, h] <;> rfl) ?_); intro a hA
    replace hA := hA.keepN [2, 3, 5, 50]
    refine wN (nT ?_)
    refine wp_if hA 50 _ rfl (fun hq => ?yM) (fun hq => ?nM)
    case yM =>
      have hi : i < 64 := by simp at hq; omega
      refine wp_skip (nT (wS (wB (wS ?_))))
      obtain ⟨j15, hj15⟩ : ∃ j, i - 15 = j := ⟨_, rfl⟩
      obtain ⟨j16, hj16⟩ : ∃ j, i - 16 = j := ⟨_, rfl⟩
      obtain ⟨j7, hj7⟩ : ∃ j, i - 7 = j := ⟨_, rfl⟩
      obtain ⟨j2, hj2⟩ : ∃ j, i - 2 = j := ⟨_, rfl⟩
      have w15 : IntKind.i64.wrap ((i : Int) - 15) = (j15 : Int) := by rw [IntWalk.i64_in _ (by omega)]; omega
      have w16 : IntKind.i64.wrap ((i : Int) - 16) = (j16 : Int) := by rw [IntWalk.i64_in _ (by omega)]; omega
      have w7 : IntKind.i64.wrap ((i : Int) - 7) = (j7 : Int) := by rw [IntWalk.i64_in _ (by omega)]; omega
      have w2 : IntKind.i64.wrap ((i : Int) - 2) = (j2 : Int) := by rw [IntWalk.i64_in _ (by omega)]; omega
      have hlen : (shaW b i).length = i := shaW_length b i
      have c15 := shaCells_at (l := shaW b i) (j := j15) (by omega)
      have c16 := shaCells_at (l := shaW b i) (j := j16) (by omega)
      have c7 := shaCells_at (l := shaW b i) (j := j7) (by omega)
      have c2 := shaCells_at (l := shaW b i) (j := j2) (by omega)
      have hnx : shaNext (shaW b i) i = shaNext4 ((shaW b i).getD j16 0) ((shaW b i).getD j15 0) ((shaW b i).getD j7 0) ((shaW b i).getD j2 0) := by unfold shaNext shaNext4; rw [hj15, hj16, hj7, hj2]
      have l15 := shaW_getD_lt b i j15
      have l16 := shaW_getD_lt b i j16
      have l7 := shaW_getD_lt b i j7
      have l2 := shaW_getD_lt b i j2
      obtain ⟨x15, hx15⟩ : ∃ x, (shaW b i).getD j15 0 = x := ⟨_, rfl⟩
      obtain ⟨x16, hx16⟩ : ∃ x, (shaW b i).getD j16 0 = x := ⟨_, rfl⟩
      obtain ⟨x7, hx7⟩ : ∃ x, (shaW b i).getD j7 0 = x := ⟨_, rfl⟩
      obtain ⟨x2, hx2⟩ : ∃ x, (shaW b i).getD j2 0 = x := ⟨_, rfl⟩
      rw [hx15, hx16, hx7, hx2] at hnx
      rw [hx15] at c15 l15
      rw [hx16] at c16 l16
      rw [hx7] at c7 l7
      rw [hx2] at c2 l2
      clear hx15 hx16 hx7 hx2
      unfold u32v at c15 c16 c7 c2
      have jj : ∀ j : Nat, (0 : Int) ≤ (j : Int) := fun j => by omega
      have k15 : (j15 : Int) < 64 := by omega
      have k16 : (j16 : Int) < 64 := by omega
      have k7 : (j7 : Int) < 64 := by omega
      have k2 : (j2 : Int) < 64 := by omega
      have pE := fun (wo : World) (hC : (fun wy => Below wx.heap.size wx wy) wo) => have Kx := K3.below hC K3.lt; And.intro (Kx.cell) (And.intro (c15) (c2))
      refine wp_any_at hA [(.det ?dE0), (.det ?dE1), (.det ?dE2), (.det ?dE3), (.det ?dE4), (.det ?dE5), (.det ?dE6), (.det ?dE7), (.det ?dE8), (.det ?dE9)] [] (fun wy => Below wx.heap.size wx wy) (TSp [] Grows) (by kernel_rfl) rfl (by kernel_rfl) (by kernel_rfl) rfl ((Below.refl _ _).drew) (stab_sp [] [true, true, true, true, true, true, true, true, true, true] [true, true, true, true, true, true, true, true, true, true] [] rfl rfl rfl (by kernel_rfl) ⟨trivial, trivial, trivial, trivial, trivial, trivial, trivial, trivial, trivial, trivial, trivial⟩ trivial) (fun _ h => by cases h) (fun _ _ _ _ _ h => by cases h) (fun _ h => by cases h) ⟨?oE0, ?oE1, ?oE2, ?oE3, ?oE4, ?oE5, ?oE6, ?oE7, ?oE8, ?oE9, trivial⟩ (by kernel_rfl) ?fE
      case oE0 => intro ev wo hev hC hs hph; have x0 := se hA hs 5; exact od rfl rfl (by kernel_rfl) hC (TSp.of rfl (Grows.refl _)) (by simp [go_sem, x0, w15, w2, jj, k15, k2, add0] <;> rfl)
      case oE1 => intro ev wo hev hC hs hph; have x0 := sd hs 53 0; exact od rfl rfl (by kernel_rfl) hC (TSp.of rfl (Grows.refl _)) (by simp [go_sem, x0, hev.const, w15, w2, jj, k15, k2, add0] <;> rfl)
      case oE2 => intro ev wo hev hC hs hph; have x0 := se hA hs 3; have x1 := sd hs 54 1; exact od rfl rfl (by kernel_rfl) hC (TSp.of rfl (Grows.refl _)) (by simp [go_sem, x0, x1, w15, w2, jj, k15, k2, add0] <;> rfl)
      case oE3 => intro ev wo hev hC hs hph; have x0 := sd hs 55 2; exact od rfl rfl (by kernel_rfl) hC (TSp.of rfl (Grows.refl _)) (by simp [go_sem, x0, pE _ hC, w15, w2, jj, k15, k2, add0] <;> rfl)
      case oE4 => intro ev wo hev hC hs hph; have x0 := se hA hs 5; exact od rfl rfl (by kernel_rfl) hC (TSp.of rfl (Grows.refl _)) (by simp [go_sem, x0, w15, w2, jj, k15, k2, add0] <;> rfl)
      case oE5 => intro ev wo hev hC hs hph; have x0 := sd hs 57 4; exact od rfl rfl (by kernel_rfl) hC (TSp.of rfl (Grows.refl _)) (by simp [go_sem, x0, hev.const, w15, w2, jj, k15, k2, add0] <;> rfl)
      case oE6 => intro ev wo hev hC hs hph; have x0 := se hA hs 3; have x1 := sd hs 58 5; exact od rfl rfl (by kernel_rfl) hC (TSp.of rfl (Grows.refl _)) (by simp [go_sem, x0, x1, w15, w2, jj, k15, k2, add0] <;> rfl)
      case oE7 => intro ev wo hev hC hs hph; have x0 := sd hs 59 6; exact od rfl rfl (by kernel_rfl) hC (TSp.of rfl (Grows.refl _)) (by simp [go_sem, x0, pE _ hC, w15, w2, jj, k15, k2, add0] <;> rfl)
      case oE8 => intro ev wo hev hC hs hph; have x0 := sd hs 56 3; exact od rfl rfl (by kernel_rfl) hC (TSp.of rfl (Grows.refl _)) (by simp [go_sem, x0, w15, w2, jj, k15, k2, add0] <;> rfl)
      case oE9 => intro ev wo hev hC hs hph; have x0 := sd hs 60 7; exact od rfl rfl (by kernel_rfl) hC (TSp.of rfl (Grows.refl _)) (by simp [go_sem, x0, w15, w2, jj, k15, k2, add0] <;> rfl)
      intro sg wf hC hph
      intro a hA
      replace hA := hA.keepN [2, 3, 5, 6, 7]
      refine nT ?_
      have K2f := K2.below hC K2.lt
      have K3f := K3.below hC K3.lt
      have HBf := HB.trans (hC.mono HB.size)
      have r7 := rotr_lt x15 7
      have r18 := rotr_lt x15 18
      have r17 := rotr_lt x2 17
      have r19 := rotr_lt x2 19
      have s3 : (x15 : Int) / 8 = ((sr x15 3 : Nat) : Int) := shr_u32 x15 3
      have s10 : (x2 : Int) / 1024 = ((sr x2 10 : Nat) : Int) := shr_u32 x2 10
      have e1 := w_xo r7 r18
      have e2 := w_xo (xo_lt r7 r18) (sr_lt (n := 3) l15)
      have e3 := w_xo r17 r19
      have e4 := w_xo (xo_lt r17 r19) (sr_lt (n := 10) l2)
      refine wS (wR ?_)
      revert a; refine wo rfl rfl (by decide) (fun ev e h => by simp [go_sem, h, s3, e1, e2, s10, e3, e4] <;> rfl) ?_; intro a hA
      refine wl_call hA rfl rfl (by decide) (fun ev h => exec_call Tryz.func96 (by kernel_rfl) rfl (h.f _) (by first | (simp only [mL, h.get 61 rfl, h.c] <;> rfl) | (simp [mL, h.get 61 rfl, h.c, s3, e1, e2, s10, e3, e4] <;> rfl))) (rot_any x15 7 (-7) rfl l15 (by decide) (by decide) _) ?_
      rintro e wa ⟨rfl, rfl⟩
      refine ⟨_, rfl, fun a hA => ?_⟩
      revert a; refine wo rfl rfl (by decide) (fun ev e h => by simp [go_sem, h, s3, e1, e2, s10, e3, e4] <;> rfl) ?_; intro a hA
      refine wl_call hA rfl rfl (by decide) (fun ev h => exec_call Tryz.func96 (by kernel_rfl) rfl (h.f _) (by first | (simp only [mL, h.get 63 rfl, h.c] <;> rfl) | (simp [mL, h.get 63 rfl, h.c, s3, e1, e2, s10, e3, e4] <;> rfl))) (rot_any x15 18 (-18) rfl l15 (by decide) (by decide) _) ?_
      rintro e wa ⟨rfl, rfl⟩
      refine ⟨_, rfl, fun a hA => ?_⟩
      revert a; (iterate 5 refine wo rfl rfl (by decide) (fun ev e h => by simp [go_sem, h, s3, e1, e2, s10, e3, e4] <;> rfl) ?_); intro a hA
      replace hA := hA.keepN [2, 3, 5, 7, 8]
      refine wN (nT (wS (wR ?_)))
      revert a; refine wo rfl rfl (by decide) (fun ev e h => by simp [go_sem, h, s3, e1, e2, s10, e3, e4] <;> rfl) ?_; intro a hA
      refine wl_call hA rfl rfl (by decide) (fun ev h => exec_call Tryz.func96 (by kernel_rfl) rfl (h.f _) (by first | (simp only [mL, h.get 69 rfl, h.c] <;> rfl) | (simp [mL, h.get 69 rfl, h.c, s3, e1, e2, s10, e3, e4] <;> rfl))) (rot_any x2 17 (-17) rfl l2 (by decide) (by decide) _) ?_
      rintro e wa ⟨rfl, rfl⟩
      refine ⟨_, rfl, fun a hA => ?_⟩
      revert a; refine wo rfl rfl (by decide) (fun ev e h => by simp [go_sem, h, s3, e1, e2, s10, e3, e4] <;> rfl) ?_; intro a hA
      refine wl_call hA rfl rfl (by decide) (fun ev h => exec_call Tryz.func96 (by kernel_rfl) rfl (h.f _) (by first | (simp only [mL, h.get 71 rfl, h.c] <;> rfl) | (simp [mL, h.get 71 rfl, h.c, s3, e1, e2, s10, e3, e4] <;> rfl))) (rot_any x2 19 (-19) rfl l2 (by decide) (by decide) _) ?_
      rintro e wa ⟨rfl, rfl⟩
      refine ⟨_, rfl, fun a hA => ?_⟩
      revert a; (iterate 5 refine wo rfl rfl (by decide) (fun ev e h => by simp [go_sem, h, s3, e1, e2, s10, e3, e4] <;> rfl) ?_); intro a hA
      replace hA := hA.keepN [2, 3, 5, 8, 9]
      have pF := fun (wo : World) (hC : (fun wy => Below wa.heap.size wa wy) wo) => have Kx := K3f.below hC K3f.lt; And.intro (Kx.cell) (And.intro (c16) (c7))
      refine wN (nT ?_)
      refine wp_region_split 14 ?_
      simp only [List.take_succ_cons, List.take_zero, List.drop_succ_cons, List.drop_zero]
      refine wp_any_split_at hA [(.det ?dF0), (.det ?dF1), (.det ?dF2), (.det ?dF3), (.det ?dF4), (.det ?dF5), (.det ?dF6), (.det ?dF7), (.det ?dF8), (.det ?dF9), (.det ?dF10), (.det ?dF11), (.det ?dF12), (.det ?dF13)] [] (fun wy => Below wa.heap.size wa wy) (TSp [] Grows) (by kernel_rfl) rfl (by kernel_rfl) (by kernel_rfl) rfl (by kernel_rfl) (by kernel_rfl) (by kernel_rfl) (by kernel_rfl) ((Below.refl _ _).drew) (stab_sp [] [true, true, true, true, true, true, true, true, true, true, true, true, true, true] [true, true, true, true, true, true, true, true, true, true, true, true, true, true] [] rfl rfl rfl (by kernel_rfl) ⟨trivial, trivial, trivial, trivial, trivial, trivial, trivial, trivial, trivial, trivial, trivial, trivial, trivial, trivial, trivial⟩ trivial) (fun _ h => by cases h) (fun _ _ _ _ _ h => by cases h) (fun _ h => by cases h) ⟨?oF0, ?oF1, ?oF2, ?oF3, ?oF4, ?oF5, ?oF6, ?oF7, ?oF8, ?oF9, ?oF10, ?oF11, ?oF12, ?oF13, trivial⟩ (by kernel_rfl) ?fF
      case oF0 => intro ev wo hev hC hs hph; have x0 := se hA hs 5; exact od rfl rfl (by kernel_rfl) hC (TSp.of rfl (Grows.refl _)) (by simp [go_sem, x0, w16, w7, jj, k16, k7, add0, w_ad] <;> rfl)
      case oF1 => intro ev wo hev hC hs hph; have x0 := se hA hs 5; exact od rfl rfl (by kernel_rfl) hC (TSp.of rfl (Grows.refl _)) (by simp [go_sem, x0, w16, w7, jj, k16, k7, add0, w_ad] <;> rfl)
      case oF2 => intro ev wo hev hC hs hph; have x0 := sd hs 78 1; exact od rfl rfl (by kernel_rfl) hC (TSp.of rfl (Grows.refl _)) (by simp [go_sem, x0, hev.const, w16, w7, jj, k16, k7, add0, w_ad] <;> rfl)
      case oF3 => intro ev wo hev hC hs hph; have x0 := se hA hs 3; have x1 := sd hs 79 2; exact od rfl rfl (by kernel_rfl) hC (TSp.of rfl (Grows.refl _)) (by simp [go_sem, x0, x1, w16, w7, jj, k16, k7, add0, w_ad] <;> rfl)
      case oF4 => intro ev wo hev hC hs hph; have x0 := sd hs 80 3; exact od rfl rfl (by kernel_rfl) hC (TSp.of rfl (Grows.refl _)) (by simp [go_sem, x0, pF _ hC, s3, e1, e2, s10, e3, e4, w16, w7, jj, k16, k7, add0, w_ad] <;> rfl)
      case oF5 => intro ev wo hev hC hs hph; have x0 := se hA hs 8; exact od rfl rfl (by kernel_rfl) hC (TSp.of rfl (Grows.refl _)) (by simp [go_sem, x0, w16, w7, jj, k16, k7, add0, w_ad] <;> rfl)
      case oF6 => intro ev wo hev hC hs hph; have x0 := sd hs 81 4; have x1 := sd hs 82 5; exact od rfl rfl (by kernel_rfl) hC (TSp.of rfl (Grows.refl _)) (by simp [go_sem, x0, x1, w16, w7, jj, k16, k7, add0, w_ad] <;> rfl)
      case oF7 => intro ev wo hev hC hs hph; have x0 := se hA hs 5; exact od rfl rfl (by kernel_rfl) hC (TSp.of rfl (Grows.refl _)) (by simp [go_sem, x0, w16, w7, jj, k16, k7, add0, w_ad] <;> rfl)
      case oF8 => intro ev wo hev hC hs hph; have x0 := sd hs 84 7; exact od rfl rfl (by kernel_rfl) hC (TSp.of rfl (Grows.refl _)) (by simp [go_sem, x0, hev.const, w16, w7, jj, k16, k7, add0, w_ad] <;> rfl)
      case oF9 => intro ev wo hev hC hs hph; have x0 := se hA hs 3; have x1 := sd hs 85 8; exact od rfl rfl (by kernel_rfl) hC (TSp.of rfl (Grows.refl _)) (by simp [go_sem, x0, x1, w16, w7, jj, k16, k7, add0, w_ad] <;> rfl)
      case oF10 => intro ev wo hev hC hs hph; have x0 := sd hs 86 9; exact od rfl rfl (by kernel_rfl) hC (TSp.of rfl (Grows.refl _)) (by simp [go_sem, x0, pF _ hC, s3, e1, e2, s10, e3, e4, w16, w7, jj, k16, k7, add0, w_ad] <;> rfl)
      case oF11 => intro ev wo hev hC hs hph; have x0 := sd hs 83 6; have x1 := sd hs 87 10; exact od rfl rfl (by kernel_rfl) hC (TSp.of rfl (Grows.refl _)) (by simp [go_sem, x0, x1, w16, w7, jj, k16, k7, add0, w_ad] <;> rfl)
      case oF12 => intro ev wo hev hC hs hph; have x0 := se hA hs 9; exact od rfl rfl (by kernel_rfl) hC (TSp.of rfl (Grows.refl _)) (by simp [go_sem, x0, w16, w7, jj, k16, k7, add0, w_ad] <;> rfl)
      case oF13 => intro ev wo hev hC hs hph; have x0 := sd hs 88 11; have x1 := sd hs 89 12; exact od rfl rfl (by kernel_rfl) hC (TSp.of rfl (Grows.refl _)) (by simp [go_sem, x0, x1, w16, w7, jj, k16, k7, add0, w_ad] <;> rfl)
      intro sg wf hC hph
      intro a hA
      replace hA := hA.keepN [2, 3, 5, 77, 90]
      have K2g := K2f.below hC K2f.lt
      have K3g := K3f.below hC K3f.lt
      have HBg := HBf.trans (hC.mono HBf.size)
      have hci := shaCells_zero (l := shaW b i) (j := i) (by omega) (by omega)
      have ki : (i : Int) < 64 := by omega
      obtain ⟨V, hV⟩ : ∃ V, shaNext (shaW b i) i = V := ⟨_, rfl⟩
      have hVe : ad (ad (ad x16 (xo (xo (rotr x15 7) (rotr x15 18)) (sr x15 3))) x7) (xo (xo (rotr x2 17) (rotr x2 19)) (sr x2 10)) = V := by
        rw [← hV, hnx]
        unfold shaNext4 smallS smallT ad xo sr
        omega
      rw [hVe] at hA
      revert a; refine wo rfl rfl (by decide) (fun ev e h => by simp [go_sem, h, jj, ki, add0, hci] <;> rfl) ?_; intro a hA
      refine wl_setf ((shaCells (shaW b i)).set i (.int .u32 (V : Nat))) _ hA rfl rfl K3g (j := i) (by rfl) (fun ev h => by simp [go_sem, h.get 91 rfl, h.get 90 rfl, jj, ki, add0, hci, K3g.cell, K3g.frozen]; try first | exact ⟨rfl, rfl⟩ | rfl) fun w5 (K3g : Blk _ _ _ _) hs => ?_
      have hwi : IntKind.i64.wrap ((i : Int) + 1) = ((i + 1 : Nat) : Int) := by rw [IntWalk.i64_in _ (by omega)]; omega
      replace hA := hA.keepN [2, 3, 5]
      refine wN (nB (nT (wR ?_)))
      revert a; (iterate 3 refine wo rfl rfl (by decide) (fun ev e h => by simp [go_sem, h, hwi] <;> rfl) ?_); intro a hA
      replace hA := hA.keepN [2, 3, 5]
      refine wN (nT ?_)
      refine ⟨k - 1, by omega, i + 1, by omega, by omega, hA, hs.blk K2g h23, ?_, hs.below HBg h3⟩
      have e := shaCells_set (l := shaW b i) (by omega) V
      rw [hlen] at e
      rw [show shaW b (i + 1) = shaW b i ++ [V] by rw [← hV]; show shaW b i ++ _ = _; rw [if_neg (by omega)], ← e]
      exact K3g
    case nM =>
      have hi : i = 64 := by simp at hq; omega
      subst hi
      replace hA := hA.keepN [2, 3]
      refine wp_exit (xT (xT (xB (nT (wS (wR ?_))))))
      have h64 : (shaCells (shaW b 64)).length = 64 := shaCells_len (Nat.le_of_eq (shaW_length b 64))
      refine wl_op hA rfl rfl (by decide) (fun ev h => exec_loadA K3 Tryz.underlying151 rfl (by kernel_rfl) h64 rfl (h.get 3 rfl)) fun a hA => ?_
      refine wl_setw (shaCells (shaW b 64)) hA rfl rfl K2 (shaCells_len (l := []) (by decide)) h64 (by kernel_rfl) (shaCells_one _) rfl (fun ev h => ⟨h.get 2 rfl, h.get 92 rfl⟩) fun w6 (K2 : Blk _ _ _ _) hs => ?_
      replace hA := hA.keepN [2]
      refine wN (nT (wp_ret ?_))
      refine ret_cell hA 2 rfl rfl K2 Tryz.underlying151 rfl (by kernel_rfl) h64 ?_
      exact ⟨by rw [shaCells_full (shaW_length b 64)], hs.below HB (by omega)⟩
end Go.Proofs.YtmjikfeaopmejaaGreatDoor
/-
  Walk: a state turned by a block (sum.mix).
-/
namespace Go.Proofs.YtmjikfeaopmejaaGreatDoor
open Go.RowKit
set_option linter.unusedSimpArgs false
set_option linter.unusedVariables false
structure ShaS.Ok (s : ShaS) : Prop where
  a : s.a < 4294967296
  b : s.b < 4294967296
  c : s.c < 4294967296
  d : s.d < 4294967296
  e : s.e < 4294967296
  f : s.f < 4294967296
  g : s.g < 4294967296
  h : s.h < 4294967296
theorem shaStep_ok {s : ShaS} (k w : Nat) (h : s.Ok) : (shaStep k w s).Ok := ⟨Nat.mod_lt _ (by decide), h.a, h.b, h.c, Nat.mod_lt _ (by decide), h.e, h.f, h.g⟩
theorem shaSteps_ok {s : ShaS} (w : List Nat) (h : s.Ok) : ∀ i, (shaSteps w s i).Ok
  | 0 => h
  | i + 1 => shaStep_ok _ _ (shaSteps_ok w h i)
theorem shaAdd_ok (s t : ShaS) : (shaAdd s t).Ok := ⟨Nat.mod_lt _ (by decide), Nat.mod_lt _ (by decide), Nat.mod_lt _ (by decide), Nat.mod_lt _ (by decide), Nat.mod_lt _ (by decide), Nat.mod_lt _ (by decide), Nat.mod_lt _ (by decide), Nat.mod_lt _ (by decide)⟩
def mixN (t s : ShaS) (i : Nat) : List Nat := (List.range 8).map fun j => if j < i then ad (t.l.getD j 0) (s.l.getD j 0) else t.l.getD j 0
theorem mixN_get {t s : ShaS} {i : Nat} (h : i < 8) : ((mixN t s i).map u32v)[i]? = some (.int .u32 ((t.l.getD i 0 : Nat) : Int)) := by
  unfold mixN
  rw [List.getElem?_map, List.getElem?_map, List.getElem?_range h]
  simp [u32v]
theorem l_get {s : ShaS} {i : Nat} (h : i < 8) : (s.l.map u32v)[i]? = some (.int .u32 ((s.l.getD i 0 : Nat) : Int)) := by
  rw [List.getElem?_map, List.getD_eq_getElem?_getD, List.getElem?_eq_getElem (show i < s.l.length from h)]
  rfl
theorem mixN_set {t s : ShaS} {i : Nat} (h : i < 8) : ((mixN t s i).map u32v).set i (.int .u32 ((ad (t.l.getD i 0) (s.l.getD i 0) : Nat) : Int)) = (mixN t s (i + 1)).map u32v := by
  have hc : i = 0 ∨ i = 1 ∨ i = 2 ∨ i = 3 ∨ i = 4 ∨ i = 5 ∨ i = 6 ∨ i = 7 := by omega
  rcases hc with rfl | rfl | rfl | rfl | rfl | rfl | rfl | rfl <;> rfl
theorem mixN_len (t s : ShaS) (i : Nat) : ((mixN t s i).map u32v).length = 8 := by unfold mixN; simp
theorem l_len (s : ShaS) : (s.l.map u32v).length = 8 := rfl
theorem shaK_lt : ∀ x ∈ shaK, x < 4294967296 := by decide
theorem shaK_at {i : Nat} (h : i < 64) : (shaK.map u32v)[i]? = some (.int .u32 ((shaK.getD i 0 : Nat) : Int)) := by
  rw [List.getElem?_map, List.getD_eq_getElem?_getD, List.getElem?_eq_getElem (show i < shaK.length from h)]
  rfl
theorem map_one (l : List Nat) : (l.map u32v).all (·.oneCell') = true := by
  rw [List.all_map, List.all_eq_true]
  intro x _
  rfl
theorem w_not {a : Nat} (ha : a < 4294967296) : bits .xor .u32 (if IntKind.u32.signed = true then -1 else IntKind.u32.max) (a : Int) = ((no32 a : Nat) : Int) := by
  have e : 4294967295 ^^^ a = no32 a := by
    apply Nat.eq_of_testBit_eq
    intro i
    have h1 : (4294967295 : Nat).testBit i = decide (i < 32) := by
      have := Nat.testBit_two_pow_sub_one 32 i
      simpa using this
    unfold no32
    rw [Nat.testBit_xor, h1, compl_bit ha]
    by_cases hi : i < 32
    · simp [hi]
    · have : a.testBit i = false := Nat.testBit_lt_two_pow (Nat.lt_of_lt_of_le (show a < 2 ^ 32 from ha) (Nat.pow_le_pow_right (by omega) (by omega)))
      simp [hi, this]
  have := u32_xor_nat 4294967295 a (by decide) ha
  rw [e] at this
  exact this
theorem shaStep_cells {va vb vc vd ve vf vg vh kk ww V1 V2 : Nat} (hV1 : ad (ad (ad (ad vh (xo (xo (rotr ve 6) (rotr ve 11)) (rotr ve 25))) (xo (an ve vf) (an (no32 ve) vg))) kk) ww = V1) (hV2 : ad (xo (xo (rotr va 2) (rotr va 13)) (rotr va 22)) (xo (xo (an va vb) (an va vc)) (an vb vc)) = V2) :
    (shaStep kk ww ⟨va, vb, vc, vd, ve, vf, vg, vh⟩).l.map u32v = [.int .u32 (ad V1 V2 : Nat), .int .u32 (va : Nat), .int .u32 (vb : Nat), .int .u32 (vc : Nat), .int .u32 (ad vd V1 : Nat), .int .u32 (ve : Nat), .int .u32 (vf : Nat), .int .u32 (vg : Nat)] := by
  have ea : (vh + bigS ve + choose ve vf vg + kk + ww + bigT va + most va vb vc) % 4294967296 = ad V1 V2 := by
    rw [← hV1, ← hV2]
    unfold bigS choose bigT most ad xo an no32
    omega
  have eb : (vd + (vh + bigS ve + choose ve vf vg + kk + ww)) % 4294967296 = ad vd V1 := by
    rw [← hV1]
    unfold bigS choose ad xo an no32
    omega
  unfold shaStep ShaS.l
  simp only [List.map_cons, List.map_nil]
  rw [ea, eb]
  rfl
theorem mix0 (t s : ShaS) : (mixN t s 0).map u32v = t.l.map u32v := rfl
theorem mix8 (t s : ShaS) : (mixN t s 8).map u32v = (shaAdd t s).l.map u32v := by
  congr 1
theorem rot_below (x n : Nat) (m : Int) (hm : m = -(n : Int)) (hx : x < 4294967296) (h1 : 1 ≤ n) (h2 : n ≤ 31) (w : World) :
    Calls Tryz.prog 96 #[.int .u32 (x : Nat), .int .i64 m] w fun ev w' => ev = .returned (.int .u32 (rotr x n : Nat)) ∧ Below w.heap.size w w' :=
  (rot_any x n m hm hx h1 h2 w).mono fun _ _ h => ⟨h.1, h.2 ▸ Below.refl _ _⟩
set_option maxRecDepth 100000 in
theorem steps_any (w : World) : Calls Tryz.prog 95 #[] w fun ev w' => ev = .returned (.agg (shaK.map u32v).toArray) ∧ Below w.heap.size w w' := by
  refine calls_at 2 Tryz.func95 rfl rfl (Nat.le_of_ble_eq_true rfl) ?_
  intro a hA; replace hA := hA.norm
  refine wS (wR ?_)
  refine wl_new hA rfl rfl (by decide) (fun ev h => by simp [go_sem]; try first | exact ⟨rfl, rfl⟩ | rfl) fun w1 a (K0 : Blk _ _ _ _) hz0 hb0 hA => ?_
  replace K0 : Blk w1 w.heap.size 151 (shaCells []).toArray := K0
  replace hA := hA.keepN [0]
  refine wN (nT (wS (wR ?_)))
  refine wl_op hA rfl rfl (by decide) (fun ev h => exec_buildC (v := .agg (shaK.map u32v).toArray) h rfl (by kernel_rfl) (by kernel_rfl)) fun a hA => ?_
  refine wl_setw (shaK.map u32v) hA rfl rfl K0 (shaCells_len (l := []) (by decide)) (rfl : (shaK.map u32v).length = 64) (by kernel_rfl) (map_one _) rfl (fun ev h => ⟨h.get 0 rfl, h.get 1 rfl⟩) fun w2 (K0 : Blk _ _ _ _) hs => ?_
  replace hA := hA.keepN [0]
  refine wN (nT (wp_ret ?_))
  refine ret_cell hA 0 rfl rfl K0 Tryz.underlying151 rfl (by kernel_rfl) (rfl : (shaK.map u32v).length = 64) ?_
  exact ⟨rfl, hs.below hb0 (Nat.le_refl _)⟩
set_option maxRecDepth 100000 in
set_option maxHeartbeats 1000000 in
theorem mix_any (s : ShaS) (hs0 : s.Ok) (A : Option Addr) (c : Nat) (b : List UInt8) (hl : b.length = 64) (w : World) (hr : Reads w w.heap.size 1 A 64 (u8s b)) :
    Calls Tryz.prog 80 #[.agg (s.l.map u32v).toArray, .slice A 64 c] w fun ev w' => ev = .returned (.agg ((shaMix s b).l.map u32v).toArray) ∧ Below w.heap.size w w' := by
  refine calls_at 111 Tryz.func80 rfl rfl (Nat.le_of_ble_eq_true rfl) ?_
  intro a hA; replace hA := hA.norm
  refine wS (wR ?_)
  refine wl_new hA rfl rfl (by decide) (fun ev h => by simp [go_sem, h.get 0 rfl]; try first | exact ⟨rfl, rfl⟩ | rfl) fun w1 a (K2 : Blk _ _ _ _) hz1 hb1 hA => ?_
  obtain ⟨g2, hg2⟩ : ∃ g, w.heap.size = g := ⟨_, rfl⟩
  rw [hg2] at K2 hA
  replace K2 : Blk w1 g2 137 (s.l.map u32v).toArray := K2
  have HB : Below w.heap.size w w1 := hb1
  refine wl_new hA rfl rfl (by decide) (fun ev h => by simp [go_sem]; try first | exact ⟨rfl, rfl⟩ | rfl) fun w2 a (K4 : Blk _ _ _ _) hz2 hb2 hA => ?_
  replace HB := HB.trans (hb2.mono HB.size)
  replace K2 := K2.below hb2 K2.lt
  obtain ⟨g4, hg4⟩ : ∃ g, w1.heap.size = g := ⟨_, rfl⟩
  rw [hg4] at K4 hA
  have h24 : g2 ≠ g4 := by omega
  have h4 : w.heap.size ≤ g4 := by omega
  replace hA := hA.keepN [1, 2, 4]
  refine wN (nT (wS (wR ?_)))
  revert a; refine wo rfl rfl (by decide) (fun ev e h => by simp [go_sem, h] <;> rfl) ?_; intro a hA
  refine wl_call hA rfl rfl (by decide) (fun ev h => exec_call Tryz.func94 (by kernel_rfl) rfl (h.f _) (by first | (simp only [mL, h.get 14 rfl, h.c] <;> rfl) | (simp [mL, h.get 14 rfl, h.c] <;> rfl))) (schedule_any A c b hl _ ((hr.below HB).more HB.size)) ?_
  rintro e w3 ⟨rfl, hb3⟩
  refine ⟨_, rfl, fun a hA => ?_⟩
  replace HB := HB.trans (hb3.mono HB.size)
  replace K2 := K2.below hb3 K2.lt
  replace K4 := K4.below hb3 K4.lt
  refine wl_call hA rfl rfl (by decide) (fun ev h => exec_call Tryz.func95 (by kernel_rfl) rfl (h.f _) (by first | (simp only [mL, h.c] <;> rfl) | (simp [mL, h.c] <;> rfl))) (steps_any _) ?_
  rintro e w4 ⟨rfl, hb4⟩
  refine ⟨_, rfl, fun a hA => ?_⟩
  replace HB := HB.trans (hb4.mono HB.size)
  replace K2 := K2.below hb4 K2.lt
  replace K4 := K4.below hb4 K4.lt
  have HBw := HB
  have h3g : w.heap.size ≤ w4.heap.size := HB.size
  have l2 := K2.lt
  have l4 := K4.lt
  refine wl_new hA rfl rfl (by decide) (fun ev h => by simp [go_sem]; try first | exact ⟨rfl, rfl⟩ | rfl) fun w5 a (K5 : Blk _ _ _ _) hz5 hb5 hA => ?_
  replace HB := HB.trans (hb5.mono HB.size)
  replace K2 := K2.below hb5 K2.lt
  replace K4 := K4.below hb5 K4.lt
  obtain ⟨g5, hg5⟩ : ∃ g, w4.heap.size = g := ⟨_, rfl⟩
  rw [hg5] at K5 hA
  replace K5 : Blk w5 g5 151 (shaCells []).toArray := K5
  have h25 : g2 < g5 := by omega
  have h45 : g4 < g5 := by omega
  refine wl_new hA rfl rfl (by decide) (fun ev h => by simp [go_sem]; try first | exact ⟨rfl, rfl⟩ | rfl) fun w6 a (K6 : Blk _ _ _ _) hz6 hb6 hA => ?_
  replace HB := HB.trans (hb6.mono HB.size)
  replace K2 := K2.below hb6 K2.lt
  replace K4 := K4.below hb6 K4.lt
  replace K5 := K5.below hb6 K5.lt
  obtain ⟨g6, hg6⟩ : ∃ g, w5.heap.size = g := ⟨_, rfl⟩
  rw [hg6] at K6 hA
  replace K6 : Blk w6 g6 151 (shaCells []).toArray := K6
  have h56 : g5 < g6 := by omega
  have hB5 : w.heap.size ≤ g5 := by omega
  have hW : ((shaW b 64).map u32v).length = 64 := by rw [List.length_map, shaW_length]
  refine wl_setw ((shaW b 64).map u32v) hA rfl rfl K5 (shaCells_len (l := []) (by decide)) hW (by kernel_rfl) (map_one _) rfl (fun ev h => ⟨h.get 5 rfl, h.get 15 rfl⟩) fun w7 (K5 : Blk _ _ _ _) hs5 => ?_
  replace K6 := hs5.blk K6 (by omega)
  replace K2 := hs5.blk K2 (by omega)
  replace K4 := hs5.blk K4 (by omega)
  replace HB := hs5.below HB hB5
  refine wl_setw (shaK.map u32v) hA rfl rfl K6 (shaCells_len (l := []) (by decide)) (rfl : (shaK.map u32v).length = 64) (by kernel_rfl) (map_one _) rfl (fun ev h => ⟨h.get 6 rfl, h.get 16 rfl⟩) fun w8 (K6 : Blk _ _ _ _) hs6 => ?_
  replace K5 := hs6.blk K5 (by omega)
  replace K2 := hs6.blk K2 (by omega)
  replace K4 := hs6.blk K4 (by omega)
  replace HB := hs6.below HB (by omega)
  replace hA := hA.keepN [2, 4, 5, 6]
  refine wN (nT (wS (wR ?_)))
  refine wl_op hA rfl rfl (by decide) (fun ev h => exec_loadA K2 Tryz.underlying137 rfl (by kernel_rfl) (l_len s) rfl (h.get 2 rfl)) fun a hA => ?_
  have l6 := K6.lt
  refine wl_new hA rfl rfl (by decide) (fun ev h => by simp [go_sem]; try first | exact ⟨rfl, rfl⟩ | rfl) fun w9 a (K7 : Blk _ _ _ _) hz9 hb9 hA => ?_
  replace HB := HB.trans (hb9.mono HB.size)
  replace K2 := K2.below hb9 K2.lt
  replace K4 := K4.below hb9 K4.lt
  replace K5 := K5.below hb9 K5.lt
  replace K6 := K6.below hb9 K6.lt
  obtain ⟨g7, hg7⟩ : ∃ g, w8.heap.size = g := ⟨_, rfl⟩
  rw [hg7] at K7 hA
  have h67 : g6 < g7 := by omega
  refine wl_setw (s.l.map u32v) hA rfl rfl K7 (by rfl) (l_len s) (by kernel_rfl) (map_one _) rfl (fun ev h => ⟨h.get 7 rfl, h.get 17 rfl⟩) fun w10 (K7 : Blk _ _ _ _) hs7 => ?_
  replace K5 := hs7.blk K5 (by omega)
  replace K6 := hs7.blk K6 (by omega)
  replace K2 := hs7.blk K2 (by omega)
  replace K4 := hs7.blk K4 (by omega)
  replace HB := hs7.below HB (by omega)
  obtain ⟨W, hWe⟩ : ∃ W, shaW b 64 = W := ⟨_, rfl⟩
  have hlW : W.length = 64 := by rw [← hWe, shaW_length]
  have hWlt : ∀ j, W.getD j 0 < 4294967296 := fun j => by rw [← hWe]; exact shaW_getD_lt b 64 j
  have hcW : ∀ j, j < 64 → (W.map u32v)[j]? = some (.int .u32 ((W.getD j 0 : Nat) : Int)) := fun j hj => by
    rw [List.getElem?_map, List.getD_eq_getElem?_getD, List.getElem?_eq_getElem (by omega)]
    rfl
  have hfin : shaMix s b = shaAdd (shaSteps W s 64) s := by unfold shaMix; rw [hWe]
  rw [hWe] at K5
  clear hs5 hs6 hs7 hb9 hb6 hb5 hb1 hb2 hb3 hb4 hWe hr
  replace hA := hA.keepN [2, 4, 5, 6, 7]
  refine wN (nT (wS (wS (wR ?_))))
  revert a; refine wo rfl rfl (by decide) (fun ev e h => by simp [go_sem, h] <;> rfl) ?_; intro a hA
  replace hA := hA.keepN [2, 4, 5, 6, 7, 18]
  refine wN (nT (wB ?_))
  refine wp_loop_at (fun k a wx => ∃ (i : Nat), i + k = 64 ∧ At 111 [(2, .pointer (some ⟨g2, 0, none⟩)), (4, .pointer (some ⟨g4, 0, none⟩)), (5, .pointer (some ⟨g5, 0, none⟩)), (6, .pointer (some ⟨g6, 0, none⟩)), (7, .pointer (some ⟨g7, 0, none⟩)), (18, .int .i64 (i : Nat))] a ∧ Blk wx g2 137 (s.l.map u32v).toArray ∧ Blk wx g4 137 #[.int .u32 0, .int .u32 0, .int .u32 0, .int .u32 0, .int .u32 0, .int .u32 0, .int .u32 0, .int .u32 0] ∧ Blk wx g5 151 (W.map u32v).toArray ∧ Blk wx g6 151 (shaK.map u32v).toArray ∧ Blk wx g7 137 ((shaSteps W s i).l.map u32v).toArray ∧ Below w.heap.size w wx) (64) ?_ ?_
  · exact ⟨0, by omega, hA, K2, K4, K5, K6, K7, HB⟩
  clear K2 K4 K5 K6 K7 HB
  rintro k a wx ⟨i, hik, hA, K2, K4, K5, K6, K7, HB⟩
  refine wS (wR ?_)
  revert a; refine wo rfl rfl (by decide) (fun ev e h => by simp [go_sem, h] <;> rfl) ?_; intro a hA
  replace hA := hA.keepN [2, 4, 5, 6, 7, 18, 19]
  refine wN (nT (wS ?_))
  refine wp_if hA 19 _ rfl (fun hq => ?yL) (fun hq => ?nL)
  case yL =>
    have hi : i < 64 := by simp at hq; omega
    have hok := shaSteps_ok W hs0 i
    have hnext : shaSteps W s (i + 1) = shaStep (shaK.getD i 0) (W.getD i 0) (shaSteps W s i) := rfl
    have ck := shaK_at hi
    have cw := hcW i hi
    have lk : shaK.getD i 0 < 4294967296 := by
      rw [List.getD_eq_getElem?_getD, List.getElem?_eq_getElem (show i < shaK.length from hi)]
      exact shaK_lt _ (List.getElem_mem _)
    have lw := hWlt i
    obtain ⟨kk, hkk⟩ : ∃ x, shaK.getD i 0 = x := ⟨_, rfl⟩
    obtain ⟨ww, hww⟩ : ∃ x, W.getD i 0 = x := ⟨_, rfl⟩
    rw [hkk] at ck lk hnext
    rw [hww] at cw lw hnext
    generalize shaSteps W s i = st at *
    obtain ⟨va, vb, vc, vd, ve, vf, vg, vh⟩ := st
    obtain ⟨la, lb, lc, ld, le, lf, lg, lh⟩ := hok
    simp only at la lb lc ld le lf lg lh
    have K7c : Blk wx g7 137 #[.int .u32 (va : Nat), .int .u32 (vb : Nat), .int .u32 (vc : Nat), .int .u32 (vd : Nat), .int .u32 (ve : Nat), .int .u32 (vf : Nat), .int .u32 (vg : Nat), .int .u32 (vh : Nat)] := K7
    clear K7
    refine wp_skip (nT (wS (wB (wS (wR ?_)))))
    revert a; (iterate 2 refine wo rfl rfl (by decide) (fun ev e h => by simp [go_sem, h] <;> rfl) ?_); intro a hA
    replace hA := hA.keepN [2, 4, 5, 6, 7, 8, 18]
    have pD := fun (wo : World) (hC : (fun wy => Below wx.heap.size wx wy) wo) => have Kx := K7c.below hC K7c.lt; (Kx.cell)
    refine wN (nT (wS ?_))
    refine wp_any_at hA [(.det ?dD0), (.det ?dD1), (.det ?dD2), (.det ?dD3), (.det ?dD4), (.det ?dD5)] [] (fun wy => Below wx.heap.size wx wy) (TSp [] Grows) (by kernel_rfl) rfl (by kernel_rfl) (by kernel_rfl) rfl ((Below.refl _ _).drew) (stab_sp [] [true, true, true, true, true, true] [true, true, true, true, true, true] [] rfl rfl rfl (by kernel_rfl) ⟨trivial, trivial, trivial, trivial, trivial, trivial, trivial⟩ trivial) (fun _ h => by cases h) (fun _ _ _ _ _ h => by cases h) (fun _ h => by cases h) ⟨?oD0, ?oD1, ?oD2, ?oD3, ?oD4, ?oD5, trivial⟩ (by kernel_rfl) ?fD
    case oD0 => intro ev wo hev hC hs hph; have x0 := se hA hs 7; exact od rfl rfl (by kernel_rfl) hC (TSp.of rfl (Grows.refl _)) (by simp [go_sem, x0, hev.const] <;> rfl)
    case oD1 => intro ev wo hev hC hs hph; have x0 := sd hs 21 0; exact od rfl rfl (by kernel_rfl) hC (TSp.of rfl (Grows.refl _)) (by simp [go_sem, x0, pD _ hC] <;> rfl)
    case oD2 => intro ev wo hev hC hs hph; have x0 := se hA hs 7; exact od rfl rfl (by kernel_rfl) hC (TSp.of rfl (Grows.refl _)) (by simp [go_sem, x0, hev.const] <;> rfl)
    case oD3 => intro ev wo hev hC hs hph; have x0 := sd hs 23 2; exact od rfl rfl (by kernel_rfl) hC (TSp.of rfl (Grows.refl _)) (by simp [go_sem, x0, pD _ hC] <;> rfl)
    case oD4 => intro ev wo hev hC hs hph; have x0 := sd hs 22 1; exact od rfl rfl (by kernel_rfl) hC (TSp.of rfl (Grows.refl _)) (by simp [go_sem, x0] <;> rfl)
    case oD5 => intro ev wo hev hC hs hph; have x0 := sd hs 24 3; exact od rfl rfl (by kernel_rfl) hC (TSp.of rfl (Grows.refl _)) (by simp [go_sem, x0] <;> rfl)
    intro sg wf hC hph
    intro a hA
    replace hA := hA.keepN [2, 4, 5, 6, 7, 8, 9, 10, 18]
    refine nT ?_
    replace HB := HB.trans (hC.mono HB.size)
    replace K2 := K2.below hC K2.lt
    replace K4 := K4.below hC K4.lt
    replace K5 := K5.below hC K5.lt
    replace K6 := K6.below hC K6.lt
    replace K7c := K7c.below hC K7c.lt
    clear hC hph
    have r6 := rotr_lt ve 6
    have r11 := rotr_lt ve 11
    have r25 := rotr_lt ve 25
    have r2 := rotr_lt va 2
    have r13 := rotr_lt va 13
    have r22 := rotr_lt va 22
    have x1 := w_xo r6 r11
    have x2 := w_xo (xo_lt r6 r11) r25
    have a1 := w_an le lf
    have a2 := w_an (no32_lt ve) lg
    have x3 := w_xo (an_lt (b := vf) le) (an_lt (b := vg) (no32_lt ve))
    have n1 := w_not le
    have jj : (0 : Int) ≤ (i : Int) := by omega
    have ji : (i : Int) < 64 := by omega
    have pE := fun (wo : World) (hC : (fun wy => Below wf.heap.size wf wy) wo) => have Kx := K7c.below hC K7c.lt; have Ky := K6.below hC K6.lt; have Kz := K5.below hC K5.lt; And.intro (Kx.cell) (And.intro (Ky.cell) (And.intro (Kz.cell) (And.intro (ck) (cw))))
    refine wS ?_
    refine wp_any_at hA ((.det ?dE0) :: (.det ?dE1) :: (.det ?dE2) :: (.det ?dE3) :: (.det ?dE4) :: (.det ?dE5) :: (.det ?dE6) :: (.det ?dE7) :: (.det ?dE8) :: (.det ?dE9) :: (.det ?dE10) :: (.det ?dE11) :: (.det ?dE12) :: (.det ?dE13) :: (.det ?dE14) :: (.det ?dE15) :: (.det ?dE16) :: (.det ?dE17) :: (.det ?dE18) :: (.det ?dE19) :: (.det ?dE20) :: (.det ?dE21) :: (.det ?dE22) :: (.det ?dE23) :: (.det ?dE24) :: (.det ?dE25) :: (.det ?dE26) :: (.det ?dE27) :: (.det ?dE28) :: (.det ?dE29) :: (.det ?dE30) :: []) [] (fun wy => Below wf.heap.size wf wy) (TSp [] Grows) (by kernel_rfl) rfl (by kernel_rfl) (by kernel_rfl) rfl ((Below.refl _ _).drew) (stab_sp [] (true :: true :: true :: true :: true :: true :: true :: true :: true :: true :: true :: true :: true :: true :: true :: true :: true :: true :: true :: true :: true :: true :: true :: true :: true :: true :: true :: true :: true :: true :: true :: []) (true :: true :: true :: true :: true :: true :: true :: true :: true :: true :: true :: true :: true :: true :: true :: true :: true :: true :: true :: true :: true :: true :: true :: true :: true :: true :: true :: true :: true :: true :: true :: []) [] rfl rfl rfl (by kernel_rfl) ⟨trivial, trivial, trivial, trivial, trivial, trivial, trivial, trivial, trivial, trivial, trivial, trivial, trivial, trivial, trivial, trivial, trivial, trivial, trivial, trivial, trivial, trivial, trivial, trivial, trivial, trivial, trivial, trivial, trivial, trivial, trivial, trivial⟩ trivial) (fun _ h => by cases h) (fun _ _ _ _ _ h => by cases h) (fun _ h => by cases h) ⟨?oE0, ?oE1, ?oE2, ?oE3, ?oE4, ?oE5, ?oE6, ?oE7, ?oE8, ?oE9, ?oE10, ?oE11, ?oE12, ?oE13, ?oE14, ?oE15, ?oE16, ?oE17, ?oE18, ?oE19, ?oE20, ?oE21, ?oE22, ?oE23, ?oE24, ?oE25, ?oE26, ?oE27, ?oE28, ?oE29, ?oE30, trivial⟩ (by kernel_rfl) ?fE
    case oE0 => intro ev wo hev hC hs hph; have x0 := se hA hs 7; exact od rfl rfl (by kernel_rfl) hC (TSp.of rfl (Grows.refl _)) (by simp [go_sem, x0, hev.const, w_ad, x1, x2, a1, a2, x3, n1, jj, ji, add0] <;> rfl)
    case oE1 => intro ev wo hev hC hs hph; have x0 := sd hs 25 0; exact od rfl rfl (by kernel_rfl) hC (TSp.of rfl (Grows.refl _)) (by simp [go_sem, x0, pE _ hC, w_ad, x1, x2, a1, a2, x3, n1, jj, ji, add0] <;> rfl)
    case oE2 => intro ev wo hev hC hs hph; have x0 := se hA hs 9; exact od rfl rfl (by kernel_rfl) hC (TSp.of rfl (Grows.refl _)) (by simp [go_sem, x0, w_ad, x1, x2, a1, a2, x3, n1, jj, ji, add0] <;> rfl)
    case oE3 =>
      intro ev wo hev hC hs hph
      have e27 := sd hs 27 2
      have Kx := K7c.below hC K7c.lt
      have Ky := K6.below hC K6.lt
      have Kz := K5.below hC K5.lt
      exact ob_dcall (wanted_none rfl) rfl (by kernel_rfl) (rot_below ve 6 (-6) rfl le (by decide) (by decide) wo) (exec_call Tryz.func96 (by kernel_rfl) rfl (hev.func _) (by first | (simp only [mL, e27, hev.const] <;> rfl) | (simp [mL, e27, hev.const] <;> rfl))) (by rfl) (fun w3 hb3 => ⟨hC.trans (hb3.mono hC.size), TSp.of rfl hb3⟩)
    case oE4 => intro ev wo hev hC hs hph; have x0 := se hA hs 9; exact od rfl rfl (by kernel_rfl) hC (TSp.of rfl (Grows.refl _)) (by simp [go_sem, x0, w_ad, x1, x2, a1, a2, x3, n1, jj, ji, add0] <;> rfl)
    case oE5 =>
      intro ev wo hev hC hs hph
      have e29 := sd hs 29 4
      have Kx := K7c.below hC K7c.lt
      have Ky := K6.below hC K6.lt
      have Kz := K5.below hC K5.lt
      exact ob_dcall (wanted_none rfl) rfl (by kernel_rfl) (rot_below ve 11 (-11) rfl le (by decide) (by decide) wo) (exec_call Tryz.func96 (by kernel_rfl) rfl (hev.func _) (by first | (simp only [mL, e29, hev.const] <;> rfl) | (simp [mL, e29, hev.const] <;> rfl))) (by rfl) (fun w3 hb3 => ⟨hC.trans (hb3.mono hC.size), TSp.of rfl hb3⟩)
    case oE6 => intro ev wo hev hC hs hph; have x0 := sd hs 28 3; have x1 := sd hs 30 5; exact od rfl rfl (by kernel_rfl) hC (TSp.of rfl (Grows.refl _)) (by simp [go_sem, x0, x1, w_ad, x1, x2, a1, a2, x3, n1, jj, ji, add0] <;> rfl)
    case oE7 => intro ev wo hev hC hs hph; have x0 := se hA hs 9; exact od rfl rfl (by kernel_rfl) hC (TSp.of rfl (Grows.refl _)) (by simp [go_sem, x0, w_ad, x1, x2, a1, a2, x3, n1, jj, ji, add0] <;> rfl)
    case oE8 =>
      intro ev wo hev hC hs hph
      have e32 := sd hs 32 7
      have Kx := K7c.below hC K7c.lt
      have Ky := K6.below hC K6.lt
      have Kz := K5.below hC K5.lt
      exact ob_dcall (wanted_none rfl) rfl (by kernel_rfl) (rot_below ve 25 (-25) rfl le (by decide) (by decide) wo) (exec_call Tryz.func96 (by kernel_rfl) rfl (hev.func _) (by first | (simp only [mL, e32, hev.const] <;> rfl) | (simp [mL, e32, hev.const] <;> rfl))) (by rfl) (fun w3 hb3 => ⟨hC.trans (hb3.mono hC.size), TSp.of rfl hb3⟩)
    case oE9 => intro ev wo hev hC hs hph; have x0 := sd hs 31 6; have x1 := sd hs 33 8; exact od rfl rfl (by kernel_rfl) hC (TSp.of rfl (Grows.refl _)) (by simp [go_sem, x0, x1, w_ad, x1, x2, a1, a2, x3, n1, jj, ji, add0] <;> rfl)
    case oE10 => intro ev wo hev hC hs hph; have x0 := sd hs 26 1; have x1 := sd hs 34 9; exact od rfl rfl (by kernel_rfl) hC (TSp.of rfl (Grows.refl _)) (by simp [go_sem, x0, x1, w_ad, x1, x2, a1, a2, x3, n1, jj, ji, add0] <;> rfl)
    case oE11 => intro ev wo hev hC hs hph; have x0 := se hA hs 9; exact od rfl rfl (by kernel_rfl) hC (TSp.of rfl (Grows.refl _)) (by simp [go_sem, x0, w_ad, x1, x2, a1, a2, x3, n1, jj, ji, add0] <;> rfl)
    case oE12 => intro ev wo hev hC hs hph; have x0 := se hA hs 7; exact od rfl rfl (by kernel_rfl) hC (TSp.of rfl (Grows.refl _)) (by simp [go_sem, x0, hev.const, w_ad, x1, x2, a1, a2, x3, n1, jj, ji, add0] <;> rfl)
    case oE13 => intro ev wo hev hC hs hph; have x0 := sd hs 37 12; exact od rfl rfl (by kernel_rfl) hC (TSp.of rfl (Grows.refl _)) (by simp [go_sem, x0, pE _ hC, w_ad, x1, x2, a1, a2, x3, n1, jj, ji, add0] <;> rfl)
    case oE14 => intro ev wo hev hC hs hph; have x0 := sd hs 36 11; have x1 := sd hs 38 13; exact od rfl rfl (by kernel_rfl) hC (TSp.of rfl (Grows.refl _)) (by simp [go_sem, x0, x1, w_ad, x1, x2, a1, a2, x3, n1, jj, ji, add0] <;> rfl)
    case oE15 => intro ev wo hev hC hs hph; have x0 := se hA hs 9; exact od rfl rfl (by kernel_rfl) hC (TSp.of rfl (Grows.refl _)) (by simp [go_sem, x0, w_ad, x1, x2, a1, a2, x3, n1, jj, ji, add0] <;> rfl)
    case oE16 => intro ev wo hev hC hs hph; have x0 := sd hs 40 15; exact od rfl rfl (by kernel_rfl) hC (TSp.of rfl (Grows.refl _)) (by simp [go_sem, x0, w_ad, x1, x2, a1, a2, x3, n1, jj, ji, add0] <;> rfl)
    case oE17 => intro ev wo hev hC hs hph; have x0 := se hA hs 7; exact od rfl rfl (by kernel_rfl) hC (TSp.of rfl (Grows.refl _)) (by simp [go_sem, x0, hev.const, w_ad, x1, x2, a1, a2, x3, n1, jj, ji, add0] <;> rfl)
    case oE18 => intro ev wo hev hC hs hph; have x0 := sd hs 42 17; exact od rfl rfl (by kernel_rfl) hC (TSp.of rfl (Grows.refl _)) (by simp [go_sem, x0, pE _ hC, w_ad, x1, x2, a1, a2, x3, n1, jj, ji, add0] <;> rfl)
    case oE19 => intro ev wo hev hC hs hph; have x0 := sd hs 41 16; have x1 := sd hs 43 18; exact od rfl rfl (by kernel_rfl) hC (TSp.of rfl (Grows.refl _)) (by simp [go_sem, x0, x1, w_ad, x1, x2, a1, a2, x3, n1, jj, ji, add0] <;> rfl)
    case oE20 => intro ev wo hev hC hs hph; have x0 := sd hs 39 14; have x1 := sd hs 44 19; exact od rfl rfl (by kernel_rfl) hC (TSp.of rfl (Grows.refl _)) (by simp [go_sem, x0, x1, w_ad, x1, x2, a1, a2, x3, n1, jj, ji, add0] <;> rfl)
    case oE21 => intro ev wo hev hC hs hph; have x0 := sd hs 35 10; have x1 := sd hs 45 20; exact od rfl rfl (by kernel_rfl) hC (TSp.of rfl (Grows.refl _)) (by simp [go_sem, x0, x1, w_ad, x1, x2, a1, a2, x3, n1, jj, ji, add0] <;> rfl)
    case oE22 => intro ev wo hev hC hs hph; have x0 := se hA hs 8; exact od rfl rfl (by kernel_rfl) hC (TSp.of rfl (Grows.refl _)) (by simp [go_sem, x0, w_ad, x1, x2, a1, a2, x3, n1, jj, ji, add0] <;> rfl)
    case oE23 => intro ev wo hev hC hs hph; have x0 := se hA hs 6; have x1 := sd hs 47 22; exact od rfl rfl (by kernel_rfl) hC (TSp.of rfl (Grows.refl _)) (by simp [go_sem, x0, x1, w_ad, x1, x2, a1, a2, x3, n1, jj, ji, add0] <;> rfl)
    case oE24 => intro ev wo hev hC hs hph; have x0 := sd hs 48 23; exact od rfl rfl (by kernel_rfl) hC (TSp.of rfl (Grows.refl _)) (by simp [go_sem, x0, pE _ hC, w_ad, x1, x2, a1, a2, x3, n1, jj, ji, add0] <;> rfl)
    case oE25 => intro ev wo hev hC hs hph; have x0 := sd hs 46 21; have x1 := sd hs 49 24; exact od rfl rfl (by kernel_rfl) hC (TSp.of rfl (Grows.refl _)) (by simp [go_sem, x0, x1, w_ad, x1, x2, a1, a2, x3, n1, jj, ji, add0] <;> rfl)
    case oE26 => intro ev wo hev hC hs hph; have x0 := se hA hs 8; exact od rfl rfl (by kernel_rfl) hC (TSp.of rfl (Grows.refl _)) (by simp [go_sem, x0, w_ad, x1, x2, a1, a2, x3, n1, jj, ji, add0] <;> rfl)
    case oE27 => intro ev wo hev hC hs hph; have x0 := se hA hs 5; have x1 := sd hs 51 26; exact od rfl rfl (by kernel_rfl) hC (TSp.of rfl (Grows.refl _)) (by simp [go_sem, x0, x1, w_ad, x1, x2, a1, a2, x3, n1, jj, ji, add0] <;> rfl)
    case oE28 => intro ev wo hev hC hs hph; have x0 := sd hs 52 27; exact od rfl rfl (by kernel_rfl) hC (TSp.of rfl (Grows.refl _)) (by simp [go_sem, x0, pE _ hC, w_ad, x1, x2, a1, a2, x3, n1, jj, ji, add0] <;> rfl)
    case oE29 => intro ev wo hev hC hs hph; have x0 := sd hs 50 25; have x1 := sd hs 53 28; exact od rfl rfl (by kernel_rfl) hC (TSp.of rfl (Grows.refl _)) (by simp [go_sem, x0, x1, w_ad, x1, x2, a1, a2, x3, n1, jj, ji, add0] <;> rfl)
    case oE30 => intro ev wo hev hC hs hph; have x0 := sd hs 54 29; exact od rfl rfl (by kernel_rfl) hC (TSp.of rfl (Grows.refl _)) (by simp [go_sem, x0, w_ad, x1, x2, a1, a2, x3, n1, jj, ji, add0] <;> rfl)
    intro sg wf hC hph
    intro a hA
    replace hA := hA.keepN [2, 4, 5, 6, 7, 9, 10, 11, 18]
    refine nT ?_
    replace HB := HB.trans (hC.mono HB.size)
    replace K2 := K2.below hC K2.lt
    replace K4 := K4.below hC K4.lt
    replace K5 := K5.below hC K5.lt
    replace K6 := K6.below hC K6.lt
    replace K7c := K7c.below hC K7c.lt
    clear hC hph x1 x2 a1 a2 x3 n1 ck cw
    obtain ⟨V1, hV1⟩ : ∃ x, ad (ad (ad (ad vh (xo (xo (rotr ve 6) (rotr ve 11)) (rotr ve 25))) (xo (an ve vf) (an (no32 ve) vg))) kk) ww = x := ⟨_, rfl⟩
    rw [hV1] at hA
    have y1 := w_xo r2 r13
    have y2 := w_xo (xo_lt r2 r13) r22
    have y3 := w_an la lb
    have y4 := w_an la lc
    have y5 := w_an lb lc
    have y6 := w_xo (an_lt (b := vb) la) (an_lt (b := vc) la)
    have y7 := w_xo (xo_lt (an_lt (b := vb) la) (an_lt (b := vc) la)) (an_lt (b := vc) lb)
    have pF := fun (wo : World) (hC : (fun wy => Below wf.heap.size wf wy) wo) => have Kx := K7c.below hC K7c.lt; (Kx.cell)
    refine wS ?_
    refine wp_any_at hA [(.det ?dF0), (.det ?dF1), (.det ?dF2), (.det ?dF3), (.det ?dF4), (.det ?dF5), (.det ?dF6), (.det ?dF7), (.det ?dF8), (.det ?dF9), (.det ?dF10), (.det ?dF11), (.det ?dF12), (.det ?dF13), (.det ?dF14), (.det ?dF15), (.det ?dF16), (.det ?dF17), (.det ?dF18), (.det ?dF19), (.det ?dF20), (.det ?dF21), (.det ?dF22), (.det ?dF23), (.det ?dF24)] [] (fun wy => Below wf.heap.size wf wy) (TSp [] Grows) (by kernel_rfl) rfl (by kernel_rfl) (by kernel_rfl) rfl ((Below.refl _ _).drew) (stab_sp [] [true, true, true, true, true, true, true, true, true, true, true, true, true, true, true, true, true, true, true, true, true, true, true, true, true] [true, true, true, true, true, true, true, true, true, true, true, true, true, true, true, true, true, true, true, true, true, true, true, true, true] [] rfl rfl rfl (by kernel_rfl) ⟨trivial, trivial, trivial, trivial, trivial, trivial, trivial, trivial, trivial, trivial, trivial, trivial, trivial, trivial, trivial, trivial, trivial, trivial, trivial, trivial, trivial, trivial, trivial, trivial, trivial, trivial⟩ trivial) (fun _ h => by cases h) (fun _ _ _ _ _ h => by cases h) (fun _ h => by cases h) ⟨?oF0, ?oF1, ?oF2, ?oF3, ?oF4, ?oF5, ?oF6, ?oF7, ?oF8, ?oF9, ?oF10, ?oF11, ?oF12, ?oF13, ?oF14, ?oF15, ?oF16, ?oF17, ?oF18, ?oF19, ?oF20, ?oF21, ?oF22, ?oF23, ?oF24, trivial⟩ (by kernel_rfl) ?fF
    case oF0 => intro ev wo hev hC hs hph; have x0 := se hA hs 10; exact od rfl rfl (by kernel_rfl) hC (TSp.of rfl (Grows.refl _)) (by simp [go_sem, x0, w_ad, y1, y2, y3, y4, y5, y6, y7] <;> rfl)
    case oF1 =>
      intro ev wo hev hC hs hph
      have e55 := sd hs 55 0
      have Kx := K7c.below hC K7c.lt
      exact ob_dcall (wanted_none rfl) rfl (by kernel_rfl) (rot_below va 2 (-2) rfl la (by decide) (by decide) wo) (exec_call Tryz.func96 (by kernel_rfl) rfl (hev.func _) (by first | (simp only [mL, e55, hev.const] <;> rfl) | (simp [mL, e55, hev.const] <;> rfl))) (by rfl) (fun w3 hb3 => ⟨hC.trans (hb3.mono hC.size), TSp.of rfl hb3⟩)
    case oF2 => intro ev wo hev hC hs hph; have x0 := se hA hs 10; exact od rfl rfl (by kernel_rfl) hC (TSp.of rfl (Grows.refl _)) (by simp [go_sem, x0, w_ad, y1, y2, y3, y4, y5, y6, y7] <;> rfl)
    case oF3 =>
      intro ev wo hev hC hs hph
      have e57 := sd hs 57 2
      have Kx := K7c.below hC K7c.lt
      exact ob_dcall (wanted_none rfl) rfl (by kernel_rfl) (rot_below va 13 (-13) rfl la (by decide) (by decide) wo) (exec_call Tryz.func96 (by kernel_rfl) rfl (hev.func _) (by first | (simp only [mL, e57, hev.const] <;> rfl) | (simp [mL, e57, hev.const] <;> rfl))) (by rfl) (fun w3 hb3 => ⟨hC.trans (hb3.mono hC.size), TSp.of rfl hb3⟩)
    case oF4 => intro ev wo hev hC hs hph; have x0 := sd hs 56 1; have x1 := sd hs 58 3; exact od rfl rfl (by kernel_rfl) hC (TSp.of rfl (Grows.refl _)) (by simp [go_sem, x0, x1, w_ad, y1, y2, y3, y4, y5, y6, y7] <;> rfl)
    case oF5 => intro ev wo hev hC hs hph; have x0 := se hA hs 10; exact od rfl rfl (by kernel_rfl) hC (TSp.of rfl (Grows.refl _)) (by simp [go_sem, x0, w_ad, y1, y2, y3, y4, y5, y6, y7] <;> rfl)
    case oF6 =>
      intro ev wo hev hC hs hph
      have e60 := sd hs 60 5
      have Kx := K7c.below hC K7c.lt
      exact ob_dcall (wanted_none rfl) rfl (by kernel_rfl) (rot_below va 22 (-22) rfl la (by decide) (by decide) wo) (exec_call Tryz.func96 (by kernel_rfl) rfl (hev.func _) (by first | (simp only [mL, e60, hev.const] <;> rfl) | (simp [mL, e60, hev.const] <;> rfl))) (by rfl) (fun w3 hb3 => ⟨hC.trans (hb3.mono hC.size), TSp.of rfl hb3⟩)
    case oF7 => intro ev wo hev hC hs hph; have x0 := sd hs 59 4; have x1 := sd hs 61 6; exact od rfl rfl (by kernel_rfl) hC (TSp.of rfl (Grows.refl _)) (by simp [go_sem, x0, x1, w_ad, y1, y2, y3, y4, y5, y6, y7] <;> rfl)
    case oF8 => intro ev wo hev hC hs hph; have x0 := se hA hs 10; exact od rfl rfl (by kernel_rfl) hC (TSp.of rfl (Grows.refl _)) (by simp [go_sem, x0, w_ad, y1, y2, y3, y4, y5, y6, y7] <;> rfl)
    case oF9 => intro ev wo hev hC hs hph; have x0 := se hA hs 7; exact od rfl rfl (by kernel_rfl) hC (TSp.of rfl (Grows.refl _)) (by simp [go_sem, x0, hev.const, w_ad, y1, y2, y3, y4, y5, y6, y7] <;> rfl)
    case oF10 => intro ev wo hev hC hs hph; have x0 := sd hs 64 9; exact od rfl rfl (by kernel_rfl) hC (TSp.of rfl (Grows.refl _)) (by simp [go_sem, x0, pF _ hC, w_ad, y1, y2, y3, y4, y5, y6, y7] <;> rfl)
    case oF11 => intro ev wo hev hC hs hph; have x0 := sd hs 63 8; have x1 := sd hs 65 10; exact od rfl rfl (by kernel_rfl) hC (TSp.of rfl (Grows.refl _)) (by simp [go_sem, x0, x1, w_ad, y1, y2, y3, y4, y5, y6, y7] <;> rfl)
    case oF12 => intro ev wo hev hC hs hph; have x0 := se hA hs 10; exact od rfl rfl (by kernel_rfl) hC (TSp.of rfl (Grows.refl _)) (by simp [go_sem, x0, w_ad, y1, y2, y3, y4, y5, y6, y7] <;> rfl)
    case oF13 => intro ev wo hev hC hs hph; have x0 := se hA hs 7; exact od rfl rfl (by kernel_rfl) hC (TSp.of rfl (Grows.refl _)) (by simp [go_sem, x0, hev.const, w_ad, y1, y2, y3, y4, y5, y6, y7] <;> rfl)
    case oF14 => intro ev wo hev hC hs hph; have x0 := sd hs 68 13; exact od rfl rfl (by kernel_rfl) hC (TSp.of rfl (Grows.refl _)) (by simp [go_sem, x0, pF _ hC, w_ad, y1, y2, y3, y4, y5, y6, y7] <;> rfl)
    case oF15 => intro ev wo hev hC hs hph; have x0 := sd hs 67 12; have x1 := sd hs 69 14; exact od rfl rfl (by kernel_rfl) hC (TSp.of rfl (Grows.refl _)) (by simp [go_sem, x0, x1, w_ad, y1, y2, y3, y4, y5, y6, y7] <;> rfl)
    case oF16 => intro ev wo hev hC hs hph; have x0 := sd hs 66 11; have x1 := sd hs 70 15; exact od rfl rfl (by kernel_rfl) hC (TSp.of rfl (Grows.refl _)) (by simp [go_sem, x0, x1, w_ad, y1, y2, y3, y4, y5, y6, y7] <;> rfl)
    case oF17 => intro ev wo hev hC hs hph; have x0 := se hA hs 7; exact od rfl rfl (by kernel_rfl) hC (TSp.of rfl (Grows.refl _)) (by simp [go_sem, x0, hev.const, w_ad, y1, y2, y3, y4, y5, y6, y7] <;> rfl)
    case oF18 => intro ev wo hev hC hs hph; have x0 := sd hs 72 17; exact od rfl rfl (by kernel_rfl) hC (TSp.of rfl (Grows.refl _)) (by simp [go_sem, x0, pF _ hC, w_ad, y1, y2, y3, y4, y5, y6, y7] <;> rfl)
    case oF19 => intro ev wo hev hC hs hph; have x0 := se hA hs 7; exact od rfl rfl (by kernel_rfl) hC (TSp.of rfl (Grows.refl _)) (by simp [go_sem, x0, hev.const, w_ad, y1, y2, y3, y4, y5, y6, y7] <;> rfl)
    case oF20 => intro ev wo hev hC hs hph; have x0 := sd hs 74 19; exact od rfl rfl (by kernel_rfl) hC (TSp.of rfl (Grows.refl _)) (by simp [go_sem, x0, pF _ hC, w_ad, y1, y2, y3, y4, y5, y6, y7] <;> rfl)
    case oF21 => intro ev wo hev hC hs hph; have x0 := sd hs 73 18; have x1 := sd hs 75 20; exact od rfl rfl (by kernel_rfl) hC (TSp.of rfl (Grows.refl _)) (by simp [go_sem, x0, x1, w_ad, y1, y2, y3, y4, y5, y6, y7] <;> rfl)
    case oF22 => intro ev wo hev hC hs hph; have x0 := sd hs 71 16; have x1 := sd hs 76 21; exact od rfl rfl (by kernel_rfl) hC (TSp.of rfl (Grows.refl _)) (by simp [go_sem, x0, x1, w_ad, y1, y2, y3, y4, y5, y6, y7] <;> rfl)
    case oF23 => intro ev wo hev hC hs hph; have x0 := sd hs 62 7; have x1 := sd hs 77 22; exact od rfl rfl (by kernel_rfl) hC (TSp.of rfl (Grows.refl _)) (by simp [go_sem, x0, x1, w_ad, y1, y2, y3, y4, y5, y6, y7] <;> rfl)
    case oF24 => intro ev wo hev hC hs hph; have x0 := sd hs 78 23; exact od rfl rfl (by kernel_rfl) hC (TSp.of rfl (Grows.refl _)) (by simp [go_sem, x0, w_ad, y1, y2, y3, y4, y5, y6, y7] <;> rfl)
    intro sg wf hC hph
    intro a hA
    replace hA := hA.keepN [2, 4, 5, 6, 7, 9, 10, 11, 12, 18]
    refine nT ?_
    replace HB := HB.trans (hC.mono HB.size)
    replace K2 := K2.below hC K2.lt
    replace K4 := K4.below hC K4.lt
    replace K5 := K5.below hC K5.lt
    replace K6 := K6.below hC K6.lt
    replace K7c := K7c.below hC K7c.lt
    clear hC hph y1 y2 y3 y4 y5 y6 y7
    obtain ⟨V2, hV2⟩ : ∃ x, ad (xo (xo (rotr va 2) (rotr va 13)) (rotr va 22)) (xo (xo (an va vb) (an va vc)) (an vb vc)) = x := ⟨_, rfl⟩
    rw [hV2] at hA
    refine wR ?_
    revert a; (iterate 10 refine wo rfl rfl (by decide) (fun ev e h => by simp [go_sem, h, K7c.cell, w_ad] <;> rfl) ?_); intro a hA
    replace hA := hA.keepN [2, 4, 5, 6, 7, 9, 11, 18, 81, 82, 84, 86, 88]
    revert a; (iterate 8 refine wo rfl rfl (by decide) (fun ev e h => by simp [go_sem, h, K7c.cell, w_ad] <;> rfl) ?_); intro a hA
    refine wl_setw ([.int .u32 (ad V1 V2 : Nat), .int .u32 (va : Nat), .int .u32 (vb : Nat), .int .u32 (vc : Nat), .int .u32 (ad vd V1 : Nat), .int .u32 (ve : Nat), .int .u32 (vf : Nat), .int .u32 (vg : Nat)]) hA rfl rfl K7c (by rfl) (by rfl) (by kernel_rfl) (by rfl) rfl (fun ev h => ⟨h.get 7 rfl, h.get 96 rfl⟩) fun w11 (K7c : Blk _ _ _ _) hs => ?_
    have hwi : IntKind.i64.wrap ((i : Int) + 1) = ((i + 1 : Nat) : Int) := by rw [IntWalk.i64_in _ (by omega)]; omega
    replace hA := hA.keepN [2, 4, 5, 6, 7, 18]
    refine wN (nB (nT (wR ?_)))
    revert a; (iterate 2 refine wo rfl rfl (by decide) (fun ev e h => by simp [go_sem, h, hwi] <;> rfl) ?_); intro a hA
    replace hA := hA.keepN [2, 4, 5, 6, 7, 18]
    refine wN (nT ?_)
    refine ⟨k - 1, by omega, i + 1, by omega, hA, hs.blk K2 (by omega), hs.blk K4 (by omega), hs.blk K5 (by omega), hs.blk K6 (by omega), ?_, hs.below HB (by omega)⟩
    have e := shaStep_cells (vd := vd) hV1 hV2
    rw [← hnext] at e
    rw [e]
    exact K7c
  case nL =>
    have hi : i = 64 := by simp at hq; omega
    subst hi
    clear hik hq
    generalize shaSteps W s 64 = t at *
    replace hA := hA.keepN [2, 4, 7]
    refine wp_exit (xT (xT (xB (nT (wS (wS (wR ?_)))))))
    revert a; refine wo rfl rfl (by decide) (fun ev e h => by simp [go_sem, h] <;> rfl) ?_; intro a hA
    replace hA := hA.keepN [2, 4, 7, 98]
    refine wN (nT (wB ?_))
    refine wp_loop_at (fun k a wx => ∃ (i : Nat), i + k = 8 ∧ At 111 [(2, .pointer (some ⟨g2, 0, none⟩)), (4, .pointer (some ⟨g4, 0, none⟩)), (7, .pointer (some ⟨g7, 0, none⟩)), (98, .int .i64 (i : Nat))] a ∧ Blk wx g2 137 (s.l.map u32v).toArray ∧ Blk wx g4 137 #[.int .u32 0, .int .u32 0, .int .u32 0, .int .u32 0, .int .u32 0, .int .u32 0, .int .u32 0, .int .u32 0] ∧ Blk wx g7 137 ((mixN t s i).map u32v).toArray ∧ Below w.heap.size w wx) (8) ?_ ?_
    · exact ⟨0, by omega, hA, K2, K4, by rw [mix0]; exact K7, HB⟩
    clear K2 K4 K5 K6 K7 HB
    rintro k a wx ⟨i, hik, hA, K2, K4, K7, HB⟩
    refine wS (wR ?_)
    revert a; refine wo rfl rfl (by decide) (fun ev e h => by simp [go_sem, h] <;> rfl) ?_; intro a hA
    replace hA := hA.keepN [2, 4, 7, 98, 99]
    refine wN (nT (wS ?_))
    refine wp_if hA 99 _ rfl (fun hq => ?yM) (fun hq => ?nM)
    case yM =>
      have hi : i < 8 := by simp at hq; omega
      have c1 := mixN_get (t := t) (s := s) hi
      have c2 := l_get (s := s) hi
      have jj : (0 : Int) ≤ (i : Int) := by omega
      have ji : (i : Int) < 8 := by omega
      refine wp_skip (nT (wS (wB (wS (wR ?_)))))
      revert a; (iterate 2 refine wo rfl rfl (by decide) (fun ev e h => by simp [go_sem, h] <;> rfl) ?_); intro a hA
      replace hA := hA.keepN [2, 4, 7, 13, 98]
      have pG := fun (wo : World) (hC : (fun wy => Below wx.heap.size wx wy) wo) => have Kx := K7.below hC K7.lt; have Ky := K2.below hC K2.lt; And.intro (Kx.cell) (And.intro (Ky.cell) (And.intro (c1) (c2)))
      refine wN (nT ?_)
      refine wp_region_split 7 ?_
      simp only [List.take_succ_cons, List.take_zero, List.drop_succ_cons, List.drop_zero]
      refine wp_any_split_at hA [(.det ?dG0), (.det ?dG1), (.det ?dG2), (.det ?dG3), (.det ?dG4), (.det ?dG5), (.det ?dG6)] [] (fun wy => Below wx.heap.size wx wy) (TSp [] Grows) (by kernel_rfl) rfl (by kernel_rfl) (by kernel_rfl) rfl (by kernel_rfl) (by kernel_rfl) (by kernel_rfl) (by kernel_rfl) ((Below.refl _ _).drew) (stab_sp [] [true, true, true, true, true, true, true] [true, true, true, true, true, true, true] [] rfl rfl rfl (by kernel_rfl) ⟨trivial, trivial, trivial, trivial, trivial, trivial, trivial, trivial⟩ trivial) (fun _ h => by cases h) (fun _ _ _ _ _ h => by cases h) (fun _ h => by cases h) ⟨?oG0, ?oG1, ?oG2, ?oG3, ?oG4, ?oG5, ?oG6, trivial⟩ (by kernel_rfl) ?fG
      case oG0 => intro ev wo hev hC hs hph; have x0 := se hA hs 13; exact od rfl rfl (by kernel_rfl) hC (TSp.of rfl (Grows.refl _)) (by simp [go_sem, x0, w_ad, jj, ji, add0] <;> rfl)
      case oG1 => intro ev wo hev hC hs hph; have x0 := se hA hs 7; have x1 := sd hs 101 0; exact od rfl rfl (by kernel_rfl) hC (TSp.of rfl (Grows.refl _)) (by simp [go_sem, x0, x1, w_ad, jj, ji, add0] <;> rfl)
      case oG2 => intro ev wo hev hC hs hph; have x0 := sd hs 102 1; exact od rfl rfl (by kernel_rfl) hC (TSp.of rfl (Grows.refl _)) (by simp [go_sem, x0, pG _ hC, w_ad, jj, ji, add0] <;> rfl)
      case oG3 => intro ev wo hev hC hs hph; have x0 := se hA hs 13; exact od rfl rfl (by kernel_rfl) hC (TSp.of rfl (Grows.refl _)) (by simp [go_sem, x0, w_ad, jj, ji, add0] <;> rfl)
      case oG4 => intro ev wo hev hC hs hph; have x0 := se hA hs 2; have x1 := sd hs 104 3; exact od rfl rfl (by kernel_rfl) hC (TSp.of rfl (Grows.refl _)) (by simp [go_sem, x0, x1, w_ad, jj, ji, add0] <;> rfl)
      case oG5 => intro ev wo hev hC hs hph; have x0 := sd hs 105 4; exact od rfl rfl (by kernel_rfl) hC (TSp.of rfl (Grows.refl _)) (by simp [go_sem, x0, pG _ hC, w_ad, jj, ji, add0] <;> rfl)
      case oG6 => intro ev wo hev hC hs hph; have x0 := sd hs 103 2; have x1 := sd hs 106 5; exact od rfl rfl (by kernel_rfl) hC (TSp.of rfl (Grows.refl _)) (by simp [go_sem, x0, x1, w_ad, jj, ji, add0] <;> rfl)
      intro sg wf hC hph
      intro a hA
      replace hA := hA.keepN [2, 4, 7, 98, 101, 107]
      replace HB := HB.trans (hC.mono HB.size)
      replace K2 := K2.below hC K2.lt
      replace K4 := K4.below hC K4.lt
      replace K7 := K7.below hC K7.lt
      revert a; refine wo rfl rfl (by decide) (fun ev e h => by simp [go_sem, h, jj, ji, add0, c1] <;> rfl) ?_; intro a hA
      refine wl_setf (((mixN t s i).map u32v).set i (.int .u32 ((ad (t.l.getD i 0) (s.l.getD i 0) : Nat) : Int))) _ hA rfl rfl K7 (j := i) (by rfl) (fun ev h => by simp [go_sem, h.get 108 rfl, h.get 107 rfl, jj, ji, add0, c1, K7.cell, K7.frozen]; try first | exact ⟨rfl, rfl⟩ | rfl) fun w12 (K7 : Blk _ _ _ _) hs => ?_
      have hwi : IntKind.i64.wrap ((i : Int) + 1) = ((i + 1 : Nat) : Int) := by rw [IntWalk.i64_in _ (by omega)]; omega
      replace hA := hA.keepN [2, 4, 7, 98]
      refine wN (nB (nT (wR ?_)))
      revert a; (iterate 2 refine wo rfl rfl (by decide) (fun ev e h => by simp [go_sem, h, hwi] <;> rfl) ?_); intro a hA
      replace hA := hA.keepN [2, 4, 7, 98]
      refine wN (nT ?_)
      rw [mixN_set hi] at K7
      exact ⟨k - 1, by omega, i + 1, by omega, hA, hs.blk K2 (by omega), hs.blk K4 (by omega), K7, hs.below HB (by omega)⟩
    case nM =>
      have hi : i = 8 := by simp at hq; omega
      subst hi
      replace hA := hA.keepN [4, 7]
      refine wp_exit (xT (xT (xB (nT (wS (wR ?_))))))
      refine wl_op hA rfl rfl (by decide) (fun ev h => exec_loadA K7 Tryz.underlying137 rfl (by kernel_rfl) (mixN_len t s 8) rfl (h.get 7 rfl)) fun a hA => ?_
      refine wl_setw ((mixN t s 8).map u32v) hA rfl rfl K4 (by rfl) (mixN_len t s 8) (by kernel_rfl) (map_one _) rfl (fun ev h => ⟨h.get 4 rfl, h.get 110 rfl⟩) fun w13 (K4 : Blk _ _ _ _) hs => ?_
      replace hA := hA.keepN [4]
      refine wN (nT (wp_ret ?_))
      refine ret_cell hA 4 rfl rfl K4 Tryz.underlying137 rfl (by kernel_rfl) (mixN_len t s 8) ?_
      refine ⟨?_, hs.below HB h4⟩
      rw [hfin, mix8]
end Go.Proofs.YtmjikfeaopmejaaGreatDoor
/-
  Walk: bytes up to whole blocks (sum.padded).
-/
namespace Go.Proofs.YtmjikfeaopmejaaGreatDoor
open Go.RowKit
set_option linter.unusedSimpArgs false
set_option linter.unusedVariables false
theorem zeros_stop {n j : Nat} (h : j ≤ shaZeros n) : (n + 1 + j) % 64 = 56 ↔ j = shaZeros n := by
  unfold shaZeros at *
  omega
theorem padZ_succ (b : List UInt8) (j : Nat) : b ++ [128] ++ List.replicate (j + 1) 0 = b ++ [128] ++ List.replicate j 0 ++ [0] := by
  rw [List.replicate_succ', List.append_assoc, List.append_assoc, List.append_assoc]
theorem be_take (v : Nat) : ∀ (n i : Nat), i < n → (be n v).take (i + 1) = (be n v).take i ++ [UInt8.ofNat (v / 256 ^ (n - 1 - i))]
  | 0, i, h => by omega
  | n + 1, 0, _ => by simp [be]
  | n + 1, i + 1, h => by
    have ih := be_take v n i (by omega)
    have e : n + 1 - 1 - (i + 1) = n - 1 - i := by omega
    rw [e]
    simp only [be, List.take_succ_cons, List.cons_append]
    rw [ih]
theorem sha_shr (v m : Nat) : (v : Int) / 2 ^ (8 * m) = ((v / 256 ^ m : Nat) : Int) := by
  have e : (256 : Nat) ^ m = 2 ^ (8 * m) := by rw [Nat.pow_mul]
  rw [e, Int.natCast_ediv, Int.natCast_pow]; rfl
theorem sha_shift (N i : Nat) (h : i < 8) : Op.shift .shr .u64 (N : Int) .i64 (56 - 8 * (i : Int)) = pure (.int .u64 ((N / 256 ^ (7 - i) : Nat) : Int)) := by
  rw [shift_shr_any _ _ _ _ (by omega), show min (56 - 8 * (i : Int)).toNat IntKind.u64.bits = 8 * (7 - i) by show min (56 - 8 * (i : Int)).toNat 64 = _; omega, sha_shr]
/-- a new row without bytes, with room -/
theorem make8 (c : Nat) (hc : c ≤ 1000000000) (w : World) : ∃ x : Obj, (Instr.makeSlice 23 (.int .i64 0) (.int .i64 (c : Nat))).run Tryz.prog w = .ok (.slice (some ⟨w.heap.size, 0, none⟩) 0 c) (w.alloc x) ∧ Own8 w.heap.size (w.alloc x) (.slice (some ⟨w.heap.size, 0, none⟩) 0 c) [] := by
  obtain ⟨i0, hi0, hz0, hz1, hz2⟩ := info_parts u8_info
  have hmk := run_make_rowN (P := Tryz.prog) 23 5 i0 (.int .u8 0) Tryz.underlying23 hi0 hz0 .i64 .i64 0 c (Nat.zero_le _) (by rw [hz2]; omega) (by omega) w
  rw [hz1, Nat.mul_one, made8] at hmk
  exact ⟨_, hmk, World.ownsRow_made (base := w.heap.size) (e := 5) (size := 1) w (u8s (List.replicate c 0)).toArray c (Nat.le_refl _) (by unfold maxLen; omega) (by simp [u8s])⟩
set_option maxRecDepth 100000 in
theorem padded_any (A : Option Addr) (n c : Nat) (b : List UInt8) (hl : b.length = n) (hn : n ≤ 1000000) (w : World) (hr : Reads w w.heap.size 1 A n (u8s b)) :
    Calls Tryz.prog 79 #[.slice A n c] w fun ev w' => ∃ r, ev = .returned r ∧ Own8 w.heap.size w' r (shaPad b) ∧ Below w.heap.size w w' := by
  have hadd : IntKind.i64.wrap ((n : Int) + 128) = (n : Int) + 128 := IntWalk.i64_in _ (by omega)
  subst hl
  refine calls_at 37 Tryz.func79 rfl rfl (Nat.le_of_ble_eq_true rfl) ?_
  intro a hA; replace hA := hA.norm
  refine wS (wR ?_)
  revert a; refine wo rfl rfl (by decide) (fun ev e h => by simp [go_sem, h, hadd] <;> rfl) ?_; intro a hA
  replace hA := hA.keepN [0]
  refine wN (nT (wS (wR ?_)))
  revert a; (iterate 3 refine wo rfl rfl (by decide) (fun ev e h => by simp [go_sem, h, hadd] <;> rfl) ?_); intro a hA
  obtain ⟨x, hmk, ho⟩ := make8 (b.length + 128) (by omega) w
  rw [show ((b.length + 128 : Nat) : Int) = (b.length : Int) + 128 by omega] at hmk
  have hb0 := (Below.refl w.heap.size w).alloc (Nat.le_refl _) x
  refine wl_op hA rfl rfl (by decide) (fun ev h => by simp [go_sem, h.c, h.get 8 rfl, hadd, hmk]; try first | exact ⟨rfl, rfl⟩ | rfl) fun a hA => ?_
  revert a; refine wo rfl rfl (by decide) (fun ev e h => by simp [go_sem, h, hadd] <;> rfl) ?_; intro a hA
  obtain ⟨r1, w1, hr1, ho1, hg1⟩ := run_app8 ho (u := .slice A b.length c) ⟨A, c, rfl, (hr.below hb0).more hb0.size⟩ (by simp; omega) hb0.size
  have hb1 := below_app8 hb0 ho hg1 (Nat.le_refl _) hb0.size
  refine wl_op hA rfl rfl (by decide) (fun ev h => exec_append rfl (h.get 9 rfl) (h.get 10 rfl) hr1) fun a hA => ?_
  refine wl_new hA rfl rfl (by decide) (fun ev h => by simp [go_sem, h.c, hadd]; try first | exact ⟨rfl, rfl⟩ | rfl) fun w2 a (K : Blk _ _ _ _) hz hb hA => ?_
  replace hb1 := hb1.trans (hb.mono hb1.size)
  replace ho1 := ho1.below hb
  obtain ⟨r3, w3, hr3, ho3, hg3⟩ := run_app8 ho1 (took_blk (c := 128) K) (by simp; omega) hb1.size
  have hb3 := below_app8 hb1 ho1 hg3 (Nat.le_refl _) hb1.size
  refine wl_op hA rfl rfl (by decide) (fun ev h => exec_append rfl (h.get 11 rfl) (h.get 12 rfl) hr3) fun a hA => ?_
  revert a; refine wo rfl rfl (by decide) (fun ev e h => by simp [go_sem, h, hadd] <;> rfl) ?_; intro a hA
  replace hA := hA.keepN [0, 3]
  refine wN (nT (wS (wB ?_)))
  refine wp_loop_at (fun k a wx => ∃ (j : Nat) (v : Value), j + k = shaZeros b.length ∧ At 37 [(0, .slice A b.length c), (3, v)] a ∧ Own8 w.heap.size wx v (b ++ [128] ++ List.replicate j 0) ∧ Below w.heap.size w wx) (shaZeros b.length) ?_ ?_
  · exact ⟨0, _, by omega, hA, by simpa using ho3, hb3⟩
  clear ho3 hb3
  rintro k a wx ⟨j, v, hjk, hA, ho, HB⟩
  have hz64 : shaZeros b.length < 64 := Nat.mod_lt _ (by omega)
  obtain ⟨Av, cv, rfl, hrv⟩ := ho.took
  obtain ⟨L, hL⟩ : ∃ L, (b ++ [128] ++ List.replicate j 0).length = L := ⟨_, rfl⟩
  have hL2 : L = b.length + 1 + j := by rw [← hL]; simp; omega
  rw [hL] at hA
  refine wS (wS (wR ?_))
  revert a; (iterate 4 refine wo rfl rfl (by decide) (fun ev e h => by simp [go_sem, h] <;> rfl) ?_); intro a hA
  replace hA := hA.keepN [0, 3, 17]
  refine wN (nT ?_)
  refine wp_if hA 17 _ rfl (fun hq => ?yP) (fun hq => ?nP)
  case yP =>
    have hne : j ≠ shaZeros b.length := fun e => by
      have := (zeros_stop (n := b.length) (j := j) (by omega)).2 e
      simp [Int.tmod_eq_emod_of_nonneg] at hq
      omega
    refine wp_skip (nT (wB (wR ?_)))
    revert a; refine wo rfl rfl (by decide) (fun ev e h => by simp [go_sem, h] <;> rfl) ?_; intro a hA
    refine wl_new hA rfl rfl (by decide) (fun ev h => by simp [go_sem, h.c]; try first | exact ⟨rfl, rfl⟩ | rfl) fun w4 a (K4 : Blk _ _ _ _) hz4 hb4 hA => ?_
    replace HB := HB.trans (hb4.mono HB.size)
    replace ho := ho.below hb4
    obtain ⟨r5, w5, hr5, ho5, hg5⟩ := run_app8 ho (took_blk (c := 0) K4) (by simp; omega) HB.size
    rw [← hL] at hA
    refine wl_op hA rfl rfl (by decide) (fun ev h => exec_append rfl (h.get 18 rfl) (h.get 19 rfl) hr5) fun a hA => ?_
    revert a; refine wo rfl rfl (by decide) (fun ev e h => by simp [go_sem, h] <;> rfl) ?_; intro a hA
    replace hA := hA.keepN [0, 3]
    refine wN (nB (nT ?_))
    exact ⟨k - 1, by omega, j + 1, _, by omega, hA, by rw [padZ_succ]; exact ho5, below_app8 HB ho hg5 (Nat.le_refl _) HB.size⟩
  case nP =>
    have hje : j = shaZeros b.length := by
      refine (zeros_stop (n := b.length) (j := j) (by omega)).1 ?_
      simp [Int.tmod_eq_emod_of_nonneg] at hq
      omega
    have hw8 : IntKind.u64.wrap (b.length : Int) = (b.length : Int) := IntWalk.u64_in _ (by omega)
    have hw9 : IntKind.u64.wrap ((b.length : Int) * 8) = (b.length : Int) * 8 := IntWalk.u64_in _ (by omega)
    rw [hL] at ho
    replace hA := hA.keepN [0, 3]
    refine wp_exit (xT (xT (xB (nT (wS (wR ?_))))))
    revert a; (iterate 2 refine wo rfl rfl (by decide) (fun ev e h => by simp [go_sem, h, hw8, hw9] <;> rfl) ?_); intro a hA
    refine wl_op hA rfl rfl (by decide) (fun ev h => by simp [go_sem, h.get 22 rfl, hw8, hw9]; try first | exact ⟨rfl, rfl⟩ | rfl) fun a hA => ?_
    revert a; (iterate 2 refine wo rfl rfl (by decide) (fun ev e h => by simp [go_sem, h, hw8, hw9] <;> rfl) ?_); intro a hA
    replace hA := hA.keepN [3, 4]
    refine wN (nT (wS (wS (wR ?_))))
    revert a; refine wo rfl rfl (by decide) (fun ev e h => by simp [go_sem, h, hw8, hw9] <;> rfl) ?_; intro a hA
    replace hA := hA.keepN [3, 4, 5]
    refine wN (nT (wB ?_))
    refine wp_loop_at (fun k a wx => ∃ (i : Nat) (v : Value), i + k = 8 ∧ At 37 [(3, v), (4, .int .u64 ((b.length : Int) * 8)), (5, .int .i64 (56 - 8 * (i : Int)))] a ∧ Own8 w.heap.size wx v (b ++ [128] ++ List.replicate (shaZeros b.length) 0 ++ (be 8 (b.length * 8)).take i) ∧ Below w.heap.size w wx) (8) ?_ ?_
    · exact ⟨0, _, by omega, hA, by rw [← hje]; simpa using ho, HB⟩
    clear ho HB hrv
    rintro k a wx ⟨i, v, hik, hA, ho, HB⟩
    refine wS (wS (wR ?_))
    revert a; (iterate 2 refine wo rfl rfl (by decide) (fun ev e h => by simp [go_sem, h] <;> rfl) ?_); intro a hA
    replace hA := hA.keepN [3, 4, 5, 26]
    refine wN (nT ?_)
    refine wp_if hA 26 _ rfl (fun hq2 => ?yR) (fun hq2 => ?nR)
    case yR =>
      have hi8 : i < 8 := by simp at hq2; omega
      have hsh := sha_shift (b.length * 8) i hi8
      rw [show ((b.length * 8 : Nat) : Int) = (b.length : Int) * 8 by omega] at hsh
      have hwb : ∀ q : Nat, IntKind.u8.wrap (q : Int) = (((UInt8.ofNat q).toNat : Nat) : Int) := fun q => by rw [IntKind.wrap_u8']; simp
      have hw5 : IntKind.i64.wrap (56 - 8 * (i : Int) - 8) = 56 - 8 * ((i + 1 : Nat) : Int) := by rw [IntWalk.i64_in _ (by omega)]; omega
      refine wp_skip (nT (wS (wB (wR ?_))))
      revert a; (iterate 4 refine wo rfl rfl (by decide) (fun ev e h => by simp [go_sem, h] <;> rfl) ?_); intro a hA
      refine wl_op hA rfl rfl (by decide) (fun ev h => by simp [go_sem, h.get 32 rfl]; try first | exact ⟨rfl, rfl⟩ | rfl) fun a hA => ?_
      refine wl_new hA rfl rfl (by decide) (fun ev h => by simp [go_sem, h.get 33 rfl]; try first | exact ⟨rfl, rfl⟩ | rfl) fun w6 a (K6 : Blk _ _ _ _) hz6 hb6 hA => ?_
      replace HB := HB.trans (hb6.mono HB.size)
      replace ho := ho.below hb6
      have hby : IntKind.u8.wrap ((b.length : Int) * 8 / 2 ^ (56 - 8 * (i : Int)).toNat) = (((UInt8.ofNat (b.length * 8 / 256 ^ (7 - i))).toNat : Nat) : Int) := by
        rw [show (56 - 8 * (i : Int)).toNat = 8 * (7 - i) by omega, show (b.length : Int) * 8 = ((b.length * 8 : Nat) : Int) by omega, sha_shr, hwb]
      rw [hby] at K6
      obtain ⟨r7, w7, hr7, ho7, hg7⟩ := run_app8 ho (took_blk K6) (by simp [be_length]; omega) HB.size
      refine wl_op hA rfl rfl (by decide) (fun ev h => exec_append rfl (h.get 29 rfl) (h.get 34 rfl) hr7) fun a hA => ?_
      revert a; refine wo rfl rfl (by decide) (fun ev e h => by simp [go_sem, h, hw5] <;> rfl) ?_; intro a hA
      replace hA := hA.keepN [3, 4, 5]
      refine wN (nB (nT (wR ?_)))
      revert a; (iterate 3 refine wo rfl rfl (by decide) (fun ev e h => by simp [go_sem, h, hw5] <;> rfl) ?_); intro a hA
      replace hA := hA.keepN [3, 4, 5]
      refine wN (nT ?_)
      exact ⟨k - 1, by omega, i + 1, _, by omega, hA, by rw [be_take _ 8 i hi8, ← List.append_assoc]; exact ho7, below_app8 HB ho hg7 (Nat.le_refl _) HB.size⟩
    case nR =>
      replace hA := hA.keepN [3]
      refine wp_exit (xT (xT (xB (nT (wS (wR ?_))))))
      revert a; (iterate 2 refine wo rfl rfl (by decide) (fun ev e h => by simp [go_sem, h] <;> rfl) ?_); intro a hA
      replace hA := hA.keepN [2]
      refine wN (nT (wp_ret ?_))
      refine ret_1 hA 2 rfl rfl ?_
      have hi : i = 8 := by simp at hq2; omega
      subst hi
      exact ⟨_, rfl, by unfold shaPad; rw [List.take_of_length_le (by rw [be_length]; omega)] at ho; exact ho, HB⟩
end Go.Proofs.YtmjikfeaopmejaaGreatDoor
/-
  Walk: SHA-256 (sum.Digest).
-/
namespace Go.Proofs.YtmjikfeaopmejaaGreatDoor
open Go.RowKit
set_option linter.unusedSimpArgs false
set_option linter.unusedVariables false
theorem sha0_ok : sha0.Ok := ⟨by decide, by decide, by decide, by decide, by decide, by decide, by decide, by decide⟩
theorem shaGo_ok (l : List UInt8) : ∀ i, (shaGo l i).Ok
  | 0 => sha0_ok
  | i + 1 => shaAdd_ok _ _
def u8v (x : UInt8) : Value := .int .u8 ((x.toNat : Nat) : Int)
theorem u8s_map (l : List UInt8) : u8s l = l.map u8v := rfl
/-- bytes, and noughts behind them, 32 in all -/
def digCells (l : List UInt8) : List Value := (l ++ List.replicate (32 - l.length) 0).map u8v
theorem digCells_len {l : List UInt8} (h : l.length ≤ 32) : (digCells l).length = 32 := by unfold digCells; simp; omega
theorem digCells_set {l : List UInt8} (h : l.length < 32) (x : UInt8) : (digCells l).set l.length (u8v x) = digCells (l ++ [x]) := by
  unfold digCells
  have e : List.replicate (32 - l.length) (0 : UInt8) = 0 :: List.replicate (32 - (l ++ [x]).length) 0 := by
    rw [List.length_append, show 32 - l.length = (32 - (l.length + [x].length)) + 1 by simp; omega, List.replicate_succ]
  rw [e, List.map_append, List.map_cons, List.set_append_right _ _ (by simp), List.length_map, Nat.sub_self, List.set_cons_zero, List.append_assoc, List.map_append]
  simp
theorem digCells_zero {l : List UInt8} {j : Nat} (h : l.length ≤ j) (h2 : j < 32) : (digCells l)[j]? = some (.int .u8 0) := by
  unfold digCells
  rw [List.getElem?_map, List.getElem?_append_right h, List.getElem?_replicate, if_pos (by omega)]
  rfl
theorem digCells_full {l : List UInt8} (h : l.length = 32) : digCells l = u8s l := by unfold digCells; rw [h]; simp; rfl
theorem digCells_one (l : List UInt8) : (digCells l).all (·.oneCell') = true := by
  unfold digCells
  rw [List.all_map, List.all_eq_true]
  intro x _
  rfl
theorem flat_take (s : ShaS) {i : Nat} (h : i < 32) : (s.l.flatMap (be 4)).take (i + 1) = (s.l.flatMap (be 4)).take i ++ [UInt8.ofNat (s.l.getD (i / 4) 0 / 256 ^ (3 - i % 4))] := by
  have hl : (s.l.flatMap (be 4)).length = 32 := ShaS.l_len s
  rw [List.take_add_one, List.getElem?_eq_getElem (by omega)]
  congr 1
  have hc : ∀ k : Fin 32, (s.l.flatMap (be 4))[k.1]? = some (UInt8.ofNat (s.l.getD (k.1 / 4) 0 / 256 ^ (3 - k.1 % 4))) := by
    intro k
    obtain ⟨k, hk⟩ := k
    have hcs : k = 0 ∨ k = 1 ∨ k = 2 ∨ k = 3 ∨ k = 4 ∨ k = 5 ∨ k = 6 ∨ k = 7 ∨ k = 8 ∨ k = 9 ∨ k = 10 ∨ k = 11 ∨ k = 12 ∨ k = 13 ∨ k = 14 ∨ k = 15 ∨ k = 16 ∨ k = 17 ∨ k = 18 ∨ k = 19 ∨ k = 20 ∨ k = 21 ∨ k = 22 ∨ k = 23 ∨ k = 24 ∨ k = 25 ∨ k = 26 ∨ k = 27 ∨ k = 28 ∨ k = 29 ∨ k = 30 ∨ k = 31 := by omega
    rcases hcs with rfl | rfl | rfl | rfl | rfl | rfl | rfl | rfl | rfl | rfl | rfl | rfl | rfl | rfl | rfl | rfl | rfl | rfl | rfl | rfl | rfl | rfl | rfl | rfl | rfl | rfl | rfl | rfl | rfl | rfl | rfl | rfl <;> simp [ShaS.l, be]
  have := hc ⟨i, h⟩
  rw [List.getElem?_eq_getElem (by omega)] at this
  simpa using this
theorem l_getD_lt {s : ShaS} (h : s.Ok) (j : Nat) : s.l.getD j 0 < 4294967296 := by
  have hc : ∀ x ∈ s.l, x < 4294967296 := by
    intro x hx
    unfold ShaS.l at hx
    simp only [List.mem_cons, List.not_mem_nil, or_false] at hx
    obtain ⟨ha, hb, hc, hd, he, hf, hg, hh⟩ := h
    rcases hx with rfl | rfl | rfl | rfl | rfl | rfl | rfl | rfl <;> assumption
  rw [List.getD_eq_getElem?_getD]
  cases hj : s.l[j]? with
  | none => decide
  | some x => exact hc x (List.mem_of_getElem? hj)
theorem dig_shift (v m : Nat) (hm : m < 4) : Op.shift .shr .u32 (v : Int) .i64 (24 - 8 * (m : Int)) = pure (.int .u32 ((v / 256 ^ (3 - m) : Nat) : Int)) := by
  rw [shift_shr_any _ _ _ _ (by omega), show min (24 - 8 * (m : Int)).toNat IntKind.u32.bits = 8 * (3 - m) by show min (24 - 8 * (m : Int)).toNat 32 = _; omega, sha_shr]
theorem map_no8 (l : List Nat) : (l.map u32v).toArray.toList.all noB8 = true := by
  rw [List.all_map, List.all_eq_true]
  intro x _
  rfl
theorem reads_cut8 {w : World} {B n k cap : Nat} {A : Option Addr} {l : List UInt8} (h : Reads w B 1 A n (u8s l)) (hk : k ≤ n) (hc : n ≤ cap) (h0 : 0 < k) : Reads w B 1 (if cap = k then A else Option.map (fun x => (⟨x.block, x.off + k, none⟩ : Addr)) A) (n - k) (u8s (l.drop k)) := by
  have := h.cut hk hc
  rw [Nat.mul_one] at this
  have e : (fun x : Addr => (⟨x.block, x.off + k, none⟩ : Addr)) = fun x => x.add k := by
    funext x
    unfold Addr.add
    rw [if_neg (by omega)]
  rw [e, show u8s (l.drop k) = (u8s l).drop k by rw [u8s_map, u8s_map, List.map_drop]]
  exact this
set_option maxRecDepth 100000 in
set_option maxHeartbeats 1000000 in
theorem digest_any (A : Option Addr) (n c : Nat) (b : List UInt8) (hl : b.length = n) (hn : n ≤ 1000000) (w : World) (hr : Reads w w.heap.size 1 A n (u8s b)) :
    Calls Tryz.prog 61 #[.slice A n c] w fun ev w' => ev = .returned (.agg (u8s (digest b)).toArray) ∧ Below w.heap.size w w' := by
  refine calls_at 36 Tryz.func61 rfl rfl (Nat.le_of_ble_eq_true rfl) ?_
  intro a hA; replace hA := hA.norm
  refine wS (wR ?_)
  refine wl_new hA rfl rfl (by decide) (fun ev h => by simp [go_sem]; try first | exact ⟨rfl, rfl⟩ | rfl) fun w1 a (K2 : Blk _ _ _ _) hz1 hb1 hA => ?_
  obtain ⟨g2, hg2⟩ : ∃ g, w.heap.size = g := ⟨_, rfl⟩
  rw [hg2] at K2 hA
  replace K2 : Blk w1 g2 91 (digCells []).toArray := K2
  have HB : Below w.heap.size w w1 := hb1
  replace hA := hA.keepN [0, 2]
  refine wN (nT (wS (wR ?_)))
  refine wl_op hA rfl rfl (by decide) (fun ev h => exec_buildC (v := .agg (sha0.l.map u32v).toArray) h rfl (by kernel_rfl) (by kernel_rfl)) fun a hA => ?_
  refine wl_new hA rfl rfl (by decide) (fun ev h => by simp [go_sem]; try first | exact ⟨rfl, rfl⟩ | rfl) fun w2 a (K3 : Blk _ _ _ _) hz2 hb2 hA => ?_
  replace HB := HB.trans (hb2.mono HB.size)
  replace K2 := K2.below hb2 K2.lt
  obtain ⟨g3, hg3⟩ : ∃ g, w1.heap.size = g := ⟨_, rfl⟩
  rw [hg3] at K3 hA
  have h23 : g2 < g3 := by omega
  have hB2 : w.heap.size ≤ g2 := by omega
  refine wl_setw (sha0.l.map u32v) hA rfl rfl K3 (by rfl) (l_len sha0) (by kernel_rfl) (map_one _) rfl (fun ev h => ⟨h.get 3 rfl, h.get 7 rfl⟩) fun w3 (K3 : Blk _ _ _ _) hs3 => ?_
  replace K2 := hs3.blk K2 (by omega)
  replace HB := hs3.below HB (by omega)
  replace hA := hA.keepN [0, 2, 3]
  refine wN (nT (wS (wS (wR ?_))))
  revert a; refine wo rfl rfl (by decide) (fun ev e h => by simp [go_sem, h] <;> rfl) ?_; intro a hA
  refine wl_call hA rfl rfl (by decide) (fun ev h => exec_call Tryz.func79 (by kernel_rfl) rfl (h.f _) (by first | (simp only [mL, h.get 8 rfl, h.c] <;> rfl) | (simp [mL, h.get 8 rfl, h.c] <;> rfl))) (padded_any A n c b hl hn _ ((hr.below HB).more HB.size)) ?_
  rintro e w4 ⟨r, rfl, ho, hb4⟩
  refine ⟨_, rfl, fun a hA => ?_⟩
  replace HB := HB.trans (hb4.mono HB.size)
  replace K2 := K2.below hb4 K2.lt
  replace K3 := K3.below hb4 K3.lt
  obtain ⟨L, hL⟩ : ∃ L, shaPad b = L := ⟨_, rfl⟩
  have hL64 := shaPad_length b
  have hLen : L.length ≤ 2000000 := by rw [← hL]; unfold shaPad; simp [be_length, shaZeros]; omega
  rw [hL] at ho hL64
  obtain ⟨M, hM⟩ : ∃ M, L.length = 64 * M := ⟨L.length / 64, by omega⟩
  have hfin : digest b = (shaGo L M).l.flatMap (be 4) := by unfold digest; rw [hL, hM, Nat.mul_div_cancel_left _ (by decide)]
  obtain ⟨Ar, cr, e0, hrr, hcr⟩ := own_reads ho
  subst e0
  revert a; refine wo rfl rfl (by decide) (fun ev e h => by simp [go_sem, h] <;> rfl) ?_; intro a hA
  replace hA := hA.keepN [2, 3, 4]
  refine wN (nT (wB ?_))
  refine wp_loop_at (fun k a wx => ∃ (i : Nat) (A1 : Option Addr) (n1 c1 : Nat), i + k = M ∧ n1 = 64 * k ∧ n1 ≤ c1 ∧ At 36 [(2, .pointer (some ⟨g2, 0, none⟩)), (3, .pointer (some ⟨g3, 0, none⟩)), (4, .slice A1 n1 c1)] a ∧ Reads wx wx.heap.size 1 A1 n1 (u8s (L.drop (64 * i))) ∧ Blk wx g2 91 (digCells []).toArray ∧ Blk wx g3 137 ((shaGo L i).l.map u32v).toArray ∧ Below w.heap.size w wx) (M) ?_ ?_
  · exact ⟨0, Ar, L.length, cr, by omega, hM, hcr, hA, hrr, K2, K3, HB⟩
  clear K2 K3 HB hrr ho hr
  rintro k a wx ⟨i, A1, n1, c1, hik, hn1, hc1, hA, hR, K2, K3, HB⟩
  refine wS (wS (wR ?_))
  revert a; (iterate 3 refine wo rfl rfl (by decide) (fun ev e h => by simp [go_sem, h] <;> rfl) ?_); intro a hA
  replace hA := hA.keepN [2, 3, 4, 12]
  refine wN (nT ?_)
  refine wp_if hA 12 _ rfl (fun hq => ?yP) (fun hq => ?nP)
  case yP =>
    have hk : 0 < k := by simp at hq; omega
    refine wp_skip (nT (wS (wB ?_)))
    have z1 : (64 : Int) ≤ (c1 : Int) := by omega
    have z2 : (64 : Int) ≤ (n1 : Int) := by omega
    refine wp_region_split 3 ?_
    simp only [List.take_succ_cons, List.take_zero, List.drop_succ_cons, List.drop_zero]
    refine wp_any_split_at hA [(.det (.agg ((shaGo L i).l.map u32v).toArray)), (.det ?dD1), (.det ?dD2)] [] (fun wy => Below wx.heap.size wx wy) (TSp [] Grows) (by kernel_rfl) rfl (by kernel_rfl) (by kernel_rfl) rfl (by kernel_rfl) (by kernel_rfl) (by kernel_rfl) (by kernel_rfl) ((Below.refl _ _).drew) (stab_sp [] [true, true, true] [true, true, true] [] rfl rfl rfl (by kernel_rfl) ⟨trivial, trivial, trivial, trivial⟩ trivial) (fun _ h => by cases h) (fun _ _ _ _ _ h => by cases h) (fun _ h => by cases h) ⟨?oD0, ?oD1, ?oD2, trivial⟩ (by kernel_rfl) ?fD
    case oD0 =>
      intro ev wo hev hC hs hph
      have e3 := se hA hs 3
      have Kx := K3.below hC K3.lt
      exact ob_det (wanted_none rfl) rfl (by kernel_rfl) hC (TSp.of rfl (Grows.refl _)) (exec_loadA Kx Tryz.underlying137 rfl (by kernel_rfl) (l_len _) rfl e3)
    case oD1 => intro ev wo hev hC hs hph; have x0 := se hA hs 4; exact od rfl rfl (by kernel_rfl) hC (TSp.of rfl (Grows.refl _)) (by simp [go_sem, x0, z1, z2] <;> rfl)
    case oD2 => intro ev wo hev hC hs hph; have x0 := sd hs 16 1; exact od rfl rfl (by kernel_rfl) hC (TSp.of rfl (Grows.refl _)) (by simp [go_sem, x0, hev.const, z1, z2] <;> rfl)
    intro sg wf hC hph
    intro a hA
    replace hA := hA.keepN [2, 3, 4, 15, 17]
    replace HB := HB.trans (hC.mono HB.size)
    replace K2 := K2.below hC K2.lt
    replace K3 := K3.below hC K3.lt
    replace hR := (hR.below hC).more hC.size
    refine wl_call hA rfl rfl (by decide) (fun ev h => exec_call Tryz.func80 (by kernel_rfl) rfl (h.f _) (by first | (simp only [mL, h.get 15 rfl, h.get 17 rfl, h.c] <;> rfl) | (simp [mL, h.get 15 rfl, h.get 17 rfl, h.c] <;> rfl))) (mix_any (shaGo L i) (shaGo_ok L i) A1 c1 ((L.drop (64 * i)).take 64) (by rw [List.length_take, List.length_drop]; omega) _ (hR.take8 (by omega))) ?_
    rintro e w5 ⟨rfl, hb5⟩
    refine ⟨_, rfl, fun a hA => ?_⟩
    replace HB := HB.trans (hb5.mono HB.size)
    replace K2 := K2.below hb5 K2.lt
    replace K3 := K3.below hb5 K3.lt
    replace hR := (hR.below hb5).more hb5.size
    have K3b := K3
    refine wl_setw ((shaMix (shaGo L i) ((L.drop (64 * i)).take 64)).l.map u32v) hA rfl rfl K3 (l_len _) (l_len _) (by kernel_rfl) (map_one _) rfl (fun ev h => ⟨h.get 3 rfl, h.get 18 rfl⟩) fun w6 (K3 : Blk _ _ _ _) hs => ?_
    replace hA := hA.keepN [2, 3, 4]
    refine wN (nB (nT (wR ?_)))
    revert a; (iterate 3 refine wo rfl rfl (by decide) (fun ev e h => by simp [go_sem, h, z1, z2] <;> rfl) ?_); intro a hA
    replace hA := hA.keepN [2, 3, 4]
    refine wN (nT ?_)
    refine ⟨k - 1, by omega, i + 1, _, n1 - 64, c1 - 64, by omega, by omega, by omega, hA, ?_, hs.blk K2 (by omega), K3, hs.below HB (by omega)⟩
    have hR2 := reads_cut8 hR (k := 64) (by omega) hc1 (by omega)
    rw [List.drop_drop, show 64 * i + 64 = 64 * (i + 1) by omega] at hR2
    exact reads_only hR2 hs K3b (map_no8 _)
  case nP =>
    have hk : k = 0 := by simp at hq; omega
    have hi : i = M := by omega
    subst hi
    have hok := shaGo_ok L i
    generalize shaGo L i = s at *
    clear hR
    replace hA := hA.keepN [2, 3]
    refine wp_exit (xT (xT (xB (nT (wS (wR ?_))))))
    have l2 := K2.lt
    have l3 := K3.lt
    refine wl_new hA rfl rfl (by decide) (fun ev h => by simp [go_sem]; try first | exact ⟨rfl, rfl⟩ | rfl) fun w7 a (K5 : Blk _ _ _ _) hz5 hb5 hA => ?_
    replace HB := HB.trans (hb5.mono HB.size)
    replace K2 := K2.below hb5 K2.lt
    replace K3 := K3.below hb5 K3.lt
    obtain ⟨g5, hg5⟩ : ∃ g, wx.heap.size = g := ⟨_, rfl⟩
    rw [hg5] at K5 hA l2 l3
    have hB5 : w.heap.size ≤ g5 := by omega
    obtain ⟨D, hD⟩ : ∃ D, s.l.flatMap (be 4) = D := ⟨_, rfl⟩
    have hDl : D.length = 32 := by rw [← hD]; exact ShaS.l_len s
    replace K5 : Blk w7 g5 91 (digCells (D.take 0)).toArray := K5
    replace hA := hA.keepN [2, 3, 5]
    refine wN (nT (wS (wS (wR ?_))))
    revert a; refine wo rfl rfl (by decide) (fun ev e h => by simp [go_sem, h] <;> rfl) ?_; intro a hA
    replace hA := hA.keepN [2, 3, 5, 19]
    refine wN (nT (wB ?_))
    refine wp_loop_at (fun k a wy => ∃ (i : Nat), i + k = 32 ∧ At 36 [(2, .pointer (some ⟨g2, 0, none⟩)), (3, .pointer (some ⟨g3, 0, none⟩)), (5, .pointer (some ⟨g5, 0, none⟩)), (19, .int .i64 (i : Nat))] a ∧ Blk wy g2 91 (digCells []).toArray ∧ Blk wy g3 137 (s.l.map u32v).toArray ∧ Blk wy g5 91 (digCells (D.take i)).toArray ∧ Below w.heap.size w wy) (32) ?_ ?_
    · exact ⟨0, by omega, hA, K2, K3, K5, HB⟩
    clear K2 K3 K5 HB
    rintro k a wy ⟨i, hik2, hA, K2, K3, K5, HB⟩
    refine wS (wR ?_)
    revert a; refine wo rfl rfl (by decide) (fun ev e h => by simp [go_sem, h] <;> rfl) ?_; intro a hA
    replace hA := hA.keepN [2, 3, 5, 19, 20]
    refine wN (nT (wS ?_))
    refine wp_if hA 20 _ rfl (fun hq2 => ?yR) (fun hq2 => ?nR)
    case yR =>
      have hi : i < 32 := by simp at hq2; omega
      have jj : (0 : Int) ≤ (i : Int) := by omega
      have ji : (i : Int) < 32 := by omega
      obtain ⟨q, hqe⟩ : ∃ q, i / 4 = q := ⟨_, rfl⟩
      obtain ⟨m, hme⟩ : ∃ m, i % 4 = m := ⟨_, rfl⟩
      have d1 : IntKind.i64.wrap (q : Int) = (q : Int) := IntWalk.i64_in _ (by omega)
      have d1' : (i : Int).tdiv 4 = (q : Int) := by rw [← hqe]; exact (Int.ofNat_tdiv i 4).symm
      have hm4 : m < 4 := by omega
      have d2 : (i : Int).tmod 4 = (m : Int) := by rw [← hme]; exact (Int.ofNat_tmod i 4).symm
      have d3 : IntKind.i64.wrap (8 * (m : Int)) = 8 * (m : Int) := IntWalk.i64_in _ (by omega)
      have d4 : IntKind.i64.wrap (24 - 8 * (m : Int)) = 24 - 8 * (m : Int) := IntWalk.i64_in _ (by omega)
      have cq := l_get (s := s) (i := q) (by omega)
      have jq : (0 : Int) ≤ (q : Int) := by omega
      have jq8 : (q : Int) < 8 := by omega
      have lv := l_getD_lt hok q
      obtain ⟨v, hv⟩ : ∃ v, s.l.getD q 0 = v := ⟨_, rfl⟩
      rw [hv] at cq lv
      obtain ⟨x, hx⟩ : ∃ x : UInt8, UInt8.ofNat (v / 256 ^ (3 - m)) = x := ⟨_, rfl⟩
      have hby : IntKind.u8.wrap ((v : Int) / 2 ^ (24 - 8 * (m : Int)).toNat) = ((x.toNat : Nat) : Int) := by
        rw [show (24 - 8 * (m : Int)).toNat = 8 * (3 - m) by omega, sha_shr, ← hx, IntKind.wrap_u8']; simp
      have hci := digCells_zero (l := D.take i) (j := i) (by rw [List.length_take]; omega) hi
      refine wp_skip (nT (wS (wB (wS (wR ?_)))))
      revert a; (iterate 2 refine wo rfl rfl (by decide) (fun ev e h => by simp [go_sem, h, d1, d1', d2, d3, d4, jq, jq8, K3.cell, cq, hby, jj, ji, add0, hci] <;> rfl) ?_); intro a hA
      replace hA := hA.keepN [2, 3, 5, 6, 19]
      refine wN (nT (wR ?_))
      revert a; (iterate 10 refine wo rfl rfl (by decide) (fun ev e h => by simp [go_sem, h, d1, d1', d2, d3, d4, jq, jq8, K3.cell, cq, hby, jj, ji, add0, hci] <;> rfl) ?_); intro a hA
      replace hA := hA.keepN [2, 3, 5, 19, 22, 31]
      refine wl_op hA rfl rfl (by decide) (fun ev h => by simp [go_sem, h.get 31 rfl, d1, d1', d2, d3, d4, jq, jq8, K3.cell, cq, hby, jj, ji, add0, hci]; try first | exact ⟨rfl, rfl⟩ | rfl) fun a hA => ?_
      revert a; refine wo rfl rfl (by decide) (fun ev e h => by simp [go_sem, h, d1, d1', d2, d3, d4, jq, jq8, K3.cell, cq, hby, jj, ji, add0, hci] <;> rfl) ?_; intro a hA
      refine wl_setf ((digCells (D.take i)).set i (.int .u8 ((x.toNat : Nat) : Int))) _ hA rfl rfl K5 (j := i) (by rfl) (fun ev h => by simp [go_sem, h.get 33 rfl, h.get 32 rfl, d1, d1', d2, d3, d4, jq, jq8, K3.cell, cq, hby, jj, ji, add0, hci, K5.cell, K5.frozen]; try first | exact ⟨rfl, rfl⟩ | rfl) fun w8 (K5 : Blk _ _ _ _) hs => ?_
      have hwi : IntKind.i64.wrap ((i : Int) + 1) = ((i + 1 : Nat) : Int) := by rw [IntWalk.i64_in _ (by omega)]; omega
      replace hA := hA.keepN [2, 3, 5, 19]
      refine wN (nB (nT (wR ?_)))
      revert a; (iterate 2 refine wo rfl rfl (by decide) (fun ev e h => by simp [go_sem, h, hwi] <;> rfl) ?_); intro a hA
      replace hA := hA.keepN [2, 3, 5, 19]
      refine wN (nT ?_)
      refine ⟨k - 1, by omega, i + 1, by omega, hA, hs.blk K2 (by omega), hs.blk K3 (by omega), ?_, hs.below HB hB5⟩
      have e := digCells_set (l := D.take i) (by rw [List.length_take]; omega) x
      rw [show (D.take i).length = i by rw [List.length_take]; omega] at e
      have e2 := flat_take s hi
      rw [hD, hqe, hme, hv, hx] at e2
      rw [e2, ← e]
      exact K5
    case nR =>
      have hi : i = 32 := by simp at hq2; omega
      subst hi
      rw [List.take_of_length_le (by omega)] at K5
      have h32 : (digCells D).length = 32 := digCells_len (by omega)
      replace hA := hA.keepN [2, 5]
      refine wp_exit (xT (xT (xB (nT (wS (wR ?_))))))
      refine wl_op hA rfl rfl (by decide) (fun ev h => exec_loadA K5 Tryz.underlying91 rfl (by kernel_rfl) h32 rfl (h.get 5 rfl)) fun a hA => ?_
      refine wl_setw (digCells D) hA rfl rfl K2 (digCells_len (l := []) (by decide)) h32 (by kernel_rfl) (digCells_one _) rfl (fun ev h => ⟨h.get 2 rfl, h.get 35 rfl⟩) fun w9 (K2 : Blk _ _ _ _) hs => ?_
      replace hA := hA.keepN [2]
      refine wN (nT (wp_ret ?_))
      refine ret_cell hA 2 rfl rfl K2 Tryz.underlying91 rfl (by kernel_rfl) h32 ?_
      exact ⟨by rw [hfin, hD, digCells_full hDl], hs.below HB hB2⟩
end Go.Proofs.YtmjikfeaopmejaaGreatDoor
/-
  Walks: the number of some bytes, a word turned (cubbyref01.Number, turned).
-/
namespace Go.Proofs.YtmjikfeaopmejaaGreatDoor
open Go.RowKit
set_option linter.unusedSimpArgs false
set_option linter.unusedVariables false
theorem beVal_stepN {l : List UInt8} {j : Nat} (h : j < l.length) : beVal (l.take (j + 1)) = beVal (l.take j) * 256 + (l.getD j 0).toNat := by
  rw [List.take_add_one, List.getElem?_eq_getElem h, List.getD_eq_getElem?_getD, List.getElem?_eq_getElem h]
  exact beVal_snoc _ _
set_option maxRecDepth 100000 in
theorem refNumber_any (A : Option Addr) (n c : Nat) (l : List UInt8) (hl : l.length = n) (hn : n ≤ 4) (w : World) (hr : Reads w w.heap.size 1 A n (u8s l)) :
    Calls Tryz.prog 66 #[.slice A n c] w fun ev w' => ev = .returned (.int .u64 (beVal l : Nat)) ∧ w' = w := by
  refine calls_at 20 Tryz.func66 rfl rfl (Nat.le_of_ble_eq_true rfl) ?_
  intro a hA; replace hA := hA.norm
  refine wS (wR ?_)
  revert a; refine wo rfl rfl (by decide) (fun ev e h => by simp [go_sem, h] <;> rfl) ?_; intro a hA
  replace hA := hA.keepN [0]
  refine wN (nT (wS (wR ?_)))
  revert a; refine wo rfl rfl (by decide) (fun ev e h => by simp [go_sem, h] <;> rfl) ?_; intro a hA
  replace hA := hA.keepN [0, 3]
  refine wN (nT (wS (wS (wR ?_))))
  revert a; (iterate 3 refine wo rfl rfl (by decide) (fun ev e h => by simp [go_sem, h] <;> rfl) ?_); intro a hA
  replace hA := hA.keepN [0, 3, 6, 7]
  refine wN (nT (wB ?_))
  refine wp_loop_at (fun k a wx => ∃ (j v : Nat), j + k = n ∧ v = beVal (l.take j) ∧ At 20 [(0, .slice A n c), (3, .int .u64 (v : Nat)), (6, .int .i64 (n : Nat)), (7, .int .i64 (j : Nat))] a ∧ wx = w) (n) ?_ ?_
  · exact ⟨0, 0, by omega, rfl, hA, rfl⟩
  rintro k a wx ⟨j, v, hjk, hv, hA, rfl⟩
  refine wS (wR ?_)
  revert a; refine wo rfl rfl (by decide) (fun ev e h => by simp [go_sem, h] <;> rfl) ?_; intro a hA
  replace hA := hA.keepN [0, 3, 6, 7, 8]
  refine wN (nT (wS ?_))
  refine wp_if hA 8 _ rfl (fun hq => ?yL) (fun hq => ?nL)
  case yL =>
    have hj : j < n := by simp at hq; omega
    obtain ⟨ad, rfl, had, hc⟩ := u8_ats hr hl (by omega)
    have hcj := hc j hj
    have hst := beVal_stepN (l := l) (j := j) (by omega)
    rw [← hv] at hst
    have hlt := beVal_lt (l.take j)
    rw [← hv, List.length_take] at hlt
    have hlt2 : v < 256 ^ 3 := Nat.lt_of_lt_of_le hlt (Nat.pow_le_pow_right (by decide) (by omega))
    have lx := (l.getD j 0).toNat_lt
    obtain ⟨x, hx⟩ : ∃ x, (l.getD j 0).toNat = x := ⟨_, rfl⟩
    rw [hx] at hcj hst lx
    have w1 : IntKind.u64.wrap ((v : Int) * 256) = (v : Int) * 256 := IntWalk.u64_in _ (by omega)
    have w2 : IntKind.u64.wrap (x : Int) = (x : Int) := IntWalk.u64_in _ (by omega)
    have w3 : IntKind.u64.wrap ((v : Int) * 256 + (x : Int)) = ((v * 256 + x : Nat) : Int) := by rw [IntWalk.u64_in _ (by omega)]; omega
    have w4 : IntKind.i64.wrap ((j : Int) + 1) = ((j + 1 : Nat) : Int) := by rw [IntWalk.i64_in _ (by omega)]; omega
    have jj : (0 : Int) ≤ (j : Int) := by omega
    have ji : (j : Int) < (n : Int) := by omega
    obtain ⟨v2, hv2⟩ : ∃ v2, v * 256 + x = v2 := ⟨_, rfl⟩
    rw [hv2] at w3 hst
    refine wp_skip (nT (wS (wB (wS (wR ?_)))))
    revert a; (iterate 2 refine wo rfl rfl (by decide) (fun ev e h => by simp [go_sem, h, jj, ji, hcj, w1, w2, w3, w4] <;> rfl) ?_); intro a hA
    replace hA := hA.keepN [0, 3, 4, 6, 7]
    refine wN (nT (wR ?_))
    revert a; (iterate 6 refine wo rfl rfl (by decide) (fun ev e h => by simp [go_sem, h, jj, ji, hcj, w1, w2, w3, w4] <;> rfl) ?_); intro a hA
    refine wl_op hA rfl rfl (by decide) (fun ev h => by simp [go_sem, h.get 15 rfl, jj, ji, hcj, w1, w2, w3, w4]; try first | exact ⟨rfl, rfl⟩ | rfl) fun a hA => ?_
    revert a; (iterate 2 refine wo rfl rfl (by decide) (fun ev e h => by simp [go_sem, h, jj, ji, hcj, w1, w2, w3, w4] <;> rfl) ?_); intro a hA
    replace hA := hA.keepN [0, 3, 6, 7]
    refine wN (nB (nT (wR ?_)))
    revert a; (iterate 2 refine wo rfl rfl (by decide) (fun ev e h => by simp [go_sem, h, jj, ji, hcj, w1, w2, w3, w4] <;> rfl) ?_); intro a hA
    replace hA := hA.keepN [0, 3, 6, 7]
    refine wN (nT ?_)
    exact ⟨k - 1, by omega, j + 1, v2, by omega, hst.symm, hA, rfl⟩
  case nL =>
    have hj : j = n := by simp at hq; omega
    subst hj
    replace hA := hA.keepN [3]
    refine wp_exit (xT (xT (xB (nT (wS (wR ?_))))))
    revert a; (iterate 2 refine wo rfl rfl (by decide) (fun ev e h => by simp [go_sem, h] <;> rfl) ?_); intro a hA
    replace hA := hA.keepN [2]
    refine wN (nT (wp_ret ?_))
    refine ret_1 hA 2 rfl rfl ?_
    exact ⟨by rw [hv, List.take_of_length_le (by omega)], rfl⟩
set_option maxRecDepth 100000 in
theorem turned_any (x n : Nat) (m : Int) (hm : m = (n : Int)) (hx : x < 4294967296) (h1 : 1 ≤ n) (h2 : n ≤ 31) (w : World) :
    Calls Tryz.prog 67 #[.int .u64 (x : Nat), .int .u64 m] w fun ev w' => ev = .returned (.int .u64 (rotr x n : Nat)) ∧ Below w.heap.size w w' := by
  subst hm
  obtain ⟨q, hq⟩ : ∃ q, 32 - n = q := ⟨_, rfl⟩
  have hw : IntKind.u64.wrap (32 - (n : Int)) = (q : Int) := by rw [IntWalk.u64_in _ (by omega)]; omega
  have s4 := shr_u32 x n
  have ly : x <<< q < 18446744073709551616 := by
    rw [Nat.shiftLeft_eq]
    exact Nat.lt_of_lt_of_le (Nat.mul_lt_mul_of_lt_of_le hx (Nat.pow_le_pow_right (by decide) (show q ≤ 31 by omega)) (by decide)) (by decide)
  have sy : (x : Int) * 2 ^ q = ((x <<< q : Nat) : Int) := by rw [Nat.shiftLeft_eq, Int.natCast_mul, Int.natCast_pow]; rfl
  obtain ⟨y, hy⟩ : ∃ y, x <<< q = y := ⟨_, rfl⟩
  rw [hy] at ly sy
  have s1 : IntKind.u64.wrap ((x : Int) * 2 ^ q) = (y : Int) := by
    rw [sy]
    exact IntWalk.u64_in _ (by omega)
  have s2 : Op.shift .shl .u64 (x : Int) .u64 (q : Int) = pure (.int .u64 (y : Int)) := by
    rw [shift_shl_any _ _ _ _ (by omega), show min (q : Int).toNat IntKind.u64.bits = q by show min (q : Int).toNat 64 = q; omega, s1]
  obtain ⟨z, hz⟩ : ∃ z, x >>> n = z := ⟨_, rfl⟩
  have lz : z < 4294967296 := by rw [← hz, Nat.shiftRight_eq_div_pow]; exact Nat.lt_of_le_of_lt (Nat.div_le_self _ _) hx
  rw [hz] at s4
  have s5 := u64_or_nat z y (by omega) ly
  obtain ⟨o, ho⟩ : ∃ o, z ||| y = o := ⟨_, rfl⟩
  have lo : o < 18446744073709551616 := by rw [← ho]; exact Nat.or_lt_two_pow (n := 64) (by omega) ly
  rw [ho] at s5
  have s6 := u64_and_nat o 4294967295 lo (by decide)
  have e : o &&& 4294967295 = rotr x n := by
    rw [show (4294967295 : Nat) = 2 ^ 32 - 1 by decide, Nat.and_two_pow_sub_one_eq_mod, ← ho, ← hz, ← hy, ← hq]
    rfl
  rw [e] at s6
  have s6' : bits .and .u64 (o : Int) 4294967295 = ((rotr x n : Nat) : Int) := s6
  clear ho hy hz e hq s6
  refine calls_at 14 Tryz.func67 rfl rfl (Nat.le_of_ble_eq_true rfl) ?_
  intro a hA; replace hA := hA.norm
  refine wS (wR ?_)
  revert a; refine wo rfl rfl (by decide) (fun ev e h => by simp [go_sem, h, hw, s1, s2, s4, s5, s6'] <;> rfl) ?_; intro a hA
  replace hA := hA.keepN [0, 1]
  refine wN (nT (wS (wR ?_)))
  revert a; (iterate 10 refine wo rfl rfl (by decide) (fun ev e h => by simp [go_sem, h, hw, s1, s2, s4, s5, s6'] <;> rfl) ?_); intro a hA
  replace hA := hA.keepN [4]
  refine wN (nT (wp_ret ?_))
  refine ret_1 hA 4 rfl rfl ?_
  exact ⟨rfl, Below.refl _ _⟩
end Go.Proofs.YtmjikfeaopmejaaGreatDoor
