/-
  Walks: what a search's closures ask of a message.
-/
import Derived.Test.YtjhaccmcjlbllaaGreatDoorXdc
import Derived.Test.YtjhaccmcjlbllaaGreatDoorRows
import Derived.LaidSub
import Derived.MakeChecks
import Derived.Lib.LaidTab
import Derived.Stop.LaidErr
import Derived.Deep.Slices
import Derived.Deep.Fields
import Derived.ChangeSame
import Derived.ChangeSlices
import Derived.Carry
import Derived.SizedLaws
import Derived.Lib.SmallJoins
import Derived.Deep.DeepHandedRow
import Derived.Test.YtjhaccmcjlbllaaGreatDoorCards
import Derived.Test.YtjhaccmcjlbllaaGreatDoorTie
import Derived.SevenTiedAt
namespace Go.Proofs.YtjhaccmcjlbllaaGreatDoor
open Go.RowKit
set_option linter.unusedSimpArgs false
set_option linter.unusedVariables false
/-- a mailbox, and one of its messages -/
structure LookV where
  nm : ByteArray
  ep : Int
  nx : Int
  A : Option Addr
  c : Nat
  ms : List MsgV
  i : Nat
  m : MsgV
/-- the last UID -/
def lastUid (ms : List MsgV) : Nat := (ms.getLast?.map (·.uid)).getD 0
def lookBx (L : LookV) : Value := .agg #[.string L.nm, .int .u32 L.ep, .int .u32 L.nx, .slice L.A L.ms.length L.c]
def lookC (L : LookV) : Array Value := #[.string L.nm, .int .u32 L.ep, .int .u32 L.nx, .slice L.A L.ms.length L.c, .int .i64 (L.i : Nat)]
def lookF (L : LookV) : LookS := ⟨L.m.flags, L.m.b, L.m.uid, L.i, L.ms.length, lastUid L.ms⟩
structure LookAt (w : World) (L : LookV) : Prop where
  ms : Msgs w L.A L.ms.length L.ms
  at_ : L.ms[L.i]? = some L.m
  len : L.ms.length ≤ 1000000
  big : L.m.b.length ≤ 1048576
  one : ∃ m, w.cell? ⟨0, 0, none⟩ = some (.int .i64 m)
theorem LookAt.lt {w : World} {L : LookV} (h : LookAt w L) : L.i < L.ms.length := (List.getElem?_eq_some_iff.1 h.at_).1
theorem LookAt.below {w w' : World} {L : LookV} (h : LookAt w L) (hb : Below w.heap.size w w') : LookAt w' L := by
  refine ⟨h.ms.below hb, h.at_, h.len, h.big, ?_⟩
  obtain ⟨m, hm⟩ := h.one
  exact ⟨m, (hb.cell (block_lt_of_cell hm)).trans hm⟩
theorem LookAt.reads {w : World} {L : LookV} (h : LookAt w L) : Reads w w.heap.size 1 L.m.a L.m.b.length (u8s L.m.b) := h.ms.octs _ (List.mem_of_getElem? h.at_)
theorem LookAt.caps {w : World} {L : LookV} (h : LookAt w L) : L.m.b.length ≤ L.m.c ∧ L.m.c ≤ 9223372036854775807 := h.ms.caps _ (List.mem_of_getElem? h.at_)
set_option maxRecDepth 100000 in
set_option maxHeartbeats 4000000 in
theorem msg_any (L : LookV) (w : World) (h : LookAt w L) : Calls Tryz.prog 180 #[.agg (lookC L)] w fun ev w' => ev = .returned (.agg #[.int .u32 (L.m.uid : Nat), .int .i64 L.m.date, .int .i64 L.m.flags, .slice L.m.a L.m.b.length L.m.c]) ∧ Below w.heap.size w w' := by
  obtain ⟨nm, ep, nx, A, c, ms, i, m⟩ := L
  have hlt := h.lt
  obtain ⟨hms, hat, hlen, -, -⟩ := h
  obtain ⟨uid, date, flags, a8, c8, b8⟩ := m
  simp only at hms hat hlen hlt ⊢
  unfold lookC
  have HB := Below.refl w.heap.size w
  refine calls_at 10 Tryz.func180 rfl rfl (Nat.le_of_ble_eq_true rfl) ?_
  intro a hA; replace hA := hA.norm
  refine wS (wR ?_)
  refine wl_new hA rfl rfl (by decide) (fun ev h => by simp [go_sem, h.get 0 rfl]; try first | exact ⟨rfl, rfl⟩ | rfl) fun w1 a (K1 : Blk _ _ _ _) hz1 hb1 hA => ?_
  replace HB := HB.trans (hb1.mono HB.size)
  replace hms := hms.below hb1
  refine wl_new hA rfl rfl (by decide) (fun ev h => by simp [go_sem]; try first | exact ⟨rfl, rfl⟩ | rfl) fun w2 a (K2 : Blk _ _ _ _) hz2 hb2 hA => ?_
  replace HB := HB.trans (hb2.mono HB.size)
  replace hms := hms.below hb2
  replace K1 := K1.below hb2 K1.lt
  obtain ⟨ad, rfl, hadl, q0, q1, q2, q3⟩ := hms.at_ hat
  simp only at q0 q1 q2 q3
  have jj0 : (0 : Int) ≤ (i : Int) := by omega
  have jj1 : (i : Int) < (ms.length : Int) := by omega
  replace hA := hA.keepN [1, 2]
  refine wN (nT (wS (wR ?_)))
  revert a; (iterate 7 refine wo rfl rfl (by decide) (fun ev e h => by simp [go_sem, h, K1.cell, q0, q1, q2, q3, jj0, jj1] <;> rfl) ?_); intro a hA
  refine wl_set [.int .u32 (uid : Nat), .int .i64 date, .int .i64 flags, .slice a8 b8.length c8] hA rfl rfl K2 (by rfl) (fun ev h => by simp [go_sem, h.get 2 rfl, h.get 9 rfl, K1.cell, q0, q1, q2, q3, jj0, jj1, setAll, K2.cell, K2.frozen]) fun w3 (K2 : Blk _ _ _ _) hs3 => ?_
  replace HB := hs3.below HB (by omega)
  replace hA := hA.keepN [2]
  refine wN (nT (wp_ret ?_))
  refine bodyPost_ret (by simp [results, Tryz.results180, go_sem, hA.env 2 _ rfl, K2.cell]; try first | exact ⟨rfl, rfl⟩ | rfl) hA.defers ?_
  exact ⟨rfl, HB⟩
set_option maxRecDepth 100000 in
set_option maxHeartbeats 4000000 in
theorem last_any (L : LookV) (w : World) (h : LookAt w L) : Calls Tryz.prog 190 #[.agg (lookC L)] w fun ev w' => ev = .returned (.int .u32 (lastUid L.ms : Nat)) ∧ Below w.heap.size w w' := by
  obtain ⟨nm, ep, nx, A, c, ms, i, m⟩ := L
  have hlt := h.lt
  obtain ⟨hms, hat, hlen, -, -⟩ := h
  simp only at hms hat hlen hlt ⊢
  unfold lookC
  obtain ⟨y, hy⟩ : ∃ y, ms[ms.length - 1]? = some y := ⟨_, List.getElem?_eq_getElem (by omega)⟩
  have hlast : lastUid ms = y.uid := by unfold lastUid; rw [List.getLast?_eq_getElem?, hy]; rfl
  have HB := Below.refl w.heap.size w
  refine calls_at 14 Tryz.func190 rfl rfl (Nat.le_of_ble_eq_true rfl) ?_
  intro a hA; replace hA := hA.norm
  refine wS (wR ?_)
  refine wl_new hA rfl rfl (by decide) (fun ev h => by simp [go_sem, h.get 0 rfl]; try first | exact ⟨rfl, rfl⟩ | rfl) fun w1 a (K1 : Blk _ _ _ _) hz1 hb1 hA => ?_
  replace HB := HB.trans (hb1.mono HB.size)
  replace hms := hms.below hb1
  obtain ⟨ad, rfl, hadl, q0, -⟩ := hms.at_ hy
  obtain ⟨k, hk⟩ : ∃ k, ms.length = k + 1 := ⟨ms.length - 1, by omega⟩
  rw [hk] at K1 q0 hlt
  rw [Nat.add_sub_cancel] at q0
  have jj0 : (0 : Int) ≤ (k : Int) := by omega
  have jj1 : (k : Int) < (k : Int) + 1 := by omega
  have i1 : IntKind.i64.wrap (k : Int) = (k : Int) := by rw [IntWalk.i64_in _ (by omega)]
  revert a; refine wo rfl rfl (by decide) (fun ev e h => by simp [go_sem, h, K1.cell, q0, jj0, jj1, i1] <;> rfl) ?_; intro a hA
  replace hA := hA.keepN [1]
  refine wN (nT (wS (wR ?_)))
  revert a; (iterate 10 refine wo rfl rfl (by decide) (fun ev e h => by simp [go_sem, h, K1.cell, q0, jj0, jj1, i1] <;> rfl) ?_); intro a hA
  replace hA := hA.keepN [12]
  revert a; (iterate 2 refine wo rfl rfl (by decide) (fun ev e h => by simp [go_sem, h, K1.cell, q0, jj0, jj1, i1] <;> rfl) ?_); intro a hA
  replace hA := hA.keepN [2]
  refine wN (nT (wp_ret ?_))
  refine ret_1 hA 2 rfl rfl ?_
  exact ⟨by rw [hlast], HB⟩
/-- a call enters -/
def Enters (F : FuncId) : Prop := ∀ (args : Array Value) (w : World), (callFunc F args).run Tryz.prog w = .ok (.enter F args) w
theorem enters {F : FuncId} {fn : Func} (hf : Tryz.prog.funcs[F]? = some fn) (hc : callOk fn = true) : Enters F := fun args w => by
  unfold callOk at hc
  rw [Bool.and_eq_true, Bool.not_eq_true'] at hc
  have hn : ¬ fn.name = "runtime.NumGoroutine" := by simpa using hc.1
  have hb : ¬ fn.body = none := by
    have := hc.2
    cases h : fn.body with
    | none => rw [h] at this; cases this
    | some c => simp
  simp [callFunc, hf, hn, hb]
/-- a closure runs, and answers so -/
def RunK (L : LookV) (k : KeyA) (v : Value) (w : World) : Prop := ∃ F caps, v = .func (.func F) #[] caps ∧ Enters F ∧ Calls Tryz.prog F (#[.agg (lookC L)] ++ caps) w fun ev w' => ev = .returned (.bool (evalK k (lookF L))) ∧ Below w.heap.size w w'
theorem run_never (L : LookV) (w : World) : RunK L .never (.func (.func 134) #[] #[]) w := by
  refine ⟨_, _, rfl, enters Tryz.func134 (by kernel_rfl), ?_⟩
  show Calls Tryz.prog _ #[.agg (lookC L)] w _
  rw [evalK]
  have HB := Below.refl w.heap.size w
  unfold lookC
  refine calls_at 3 Tryz.func134 rfl rfl (Nat.le_of_ble_eq_true rfl) ?_
  intro a hA; replace hA := hA.norm
  refine wS (wR ?_)
  refine wl_new hA rfl rfl (by decide) (fun ev h => by simp [go_sem, h.get 0 rfl]; try first | exact ⟨rfl, rfl⟩ | rfl) fun w1 a (K1 : Blk _ _ _ _) hz1 hb1 hA => ?_
  replace HB := HB.trans (hb1.mono HB.size)
  revert a; refine wo rfl rfl (by decide) (fun ev e h => by simp [go_sem, h] <;> rfl) ?_; intro a hA
  replace hA := hA.keepN []
  refine wN (nT (wS (wR ?_)))
  revert a; refine wo rfl rfl (by decide) (fun ev e h => by simp [go_sem, h] <;> rfl) ?_; intro a hA
  replace hA := hA.keepN [2]
  refine wN (nT (wp_ret ?_))
  refine ret_1 hA 2 rfl rfl ?_
  exact ⟨rfl, HB⟩
theorem run_all (L : LookV) (w : World) : RunK L .all (.func (.func 177) #[] #[]) w := by
  refine ⟨_, _, rfl, enters Tryz.func177 (by kernel_rfl), ?_⟩
  show Calls Tryz.prog _ #[.agg (lookC L)] w _
  rw [evalK]
  have HB := Below.refl w.heap.size w
  unfold lookC
  refine calls_at 3 Tryz.func177 rfl rfl (Nat.le_of_ble_eq_true rfl) ?_
  intro a hA; replace hA := hA.norm
  refine wS (wR ?_)
  refine wl_new hA rfl rfl (by decide) (fun ev h => by simp [go_sem, h.get 0 rfl]; try first | exact ⟨rfl, rfl⟩ | rfl) fun w1 a (K1 : Blk _ _ _ _) hz1 hb1 hA => ?_
  replace HB := HB.trans (hb1.mono HB.size)
  revert a; refine wo rfl rfl (by decide) (fun ev e h => by simp [go_sem, h] <;> rfl) ?_; intro a hA
  replace hA := hA.keepN []
  refine wN (nT (wS (wR ?_)))
  revert a; refine wo rfl rfl (by decide) (fun ev e h => by simp [go_sem, h] <;> rfl) ?_; intro a hA
  replace hA := hA.keepN [2]
  refine wN (nT (wp_ret ?_))
  refine ret_1 hA 2 rfl rfl ?_
  exact ⟨rfl, HB⟩
theorem agg_look (L : LookV) : lookC L = #[.string L.nm, .int .u32 L.ep, .int .u32 L.nx, .slice L.A L.ms.length L.c, .int .i64 (L.i : Nat)] := rfl
set_option maxRecDepth 100000 in
set_option maxHeartbeats 4000000 in
theorem run_larger (L : LookV) (n : Int) (q : Nat) (w : World) (h : LookAt w L) (Kq : Blk w q 3 #[.int .i64 n]) : RunK L (.larger n) (.func (.func 185) #[] #[.pointer (some ⟨q, 0, none⟩)]) w := by
  refine ⟨_, _, rfl, enters Tryz.func185 (by kernel_rfl), ?_⟩
  show Calls Tryz.prog _ #[.agg (lookC L), .pointer (some ⟨q, 0, none⟩)] w _
  rw [evalK]
  have HB := Below.refl w.heap.size w
  refine calls_at 10 Tryz.func185 rfl rfl (Nat.le_of_ble_eq_true rfl) ?_
  intro a hA; replace hA := hA.norm
  rw [agg_look] at hA
  refine wS (wR ?_)
  refine wl_new hA rfl rfl (by decide) (fun ev h => by simp [go_sem, h.get 0 rfl]; try first | exact ⟨rfl, rfl⟩ | rfl) fun w1 a (K1 : Blk _ _ _ _) hz1 hb1 hA => ?_
  replace HB := HB.trans (hb1.mono HB.size)
  replace h := h.below hb1
  replace Kq := Kq.below hb1 Kq.lt
  revert a; refine wo rfl rfl (by decide) (fun ev e h => by simp [go_sem, h] <;> rfl) ?_; intro a hA
  replace hA := hA.keepN [1, 2]
  have pS := fun (wo : World) (hC : (fun wy => Below w1.heap.size w1 wy) wo) => have p1 := K1.below hC K1.lt; have p2 := Kq.below hC Kq.lt; And.intro (p1.cell) (p2.cell)
  refine wN (nT (wS ?_))
  refine wp_any_at hA [(.det ?dS0), (.det ?dS1), (.det ?dS2), (.det ?dS3), (.det ?dS4), (.det ?dS5), (.det ?dS6)] [] (fun wy => Below w1.heap.size w1 wy) (TSp [] Grows) (by kernel_rfl) rfl (by kernel_rfl) (by kernel_rfl) rfl ((Below.refl _ _).drew) (stab_sp [] [true, true, true, true, true, true, true] [true, true, true, true, true, true, true] [] rfl rfl rfl (by kernel_rfl) ⟨trivial, trivial, trivial, trivial, trivial, trivial, trivial, trivial⟩ trivial) (fun _ h => by cases h) (fun _ _ _ _ _ h => by cases h) (fun _ h => by cases h) ⟨?oS0, ?oS1, ?oS2, ?oS3, ?oS4, ?oS5, ?oS6, trivial⟩ (by kernel_rfl) ?fS
  case oS0 => intro ev wo hev hC hs hph; have x0 := se hA hs 2; exact od rfl rfl (by kernel_rfl) hC (TSp.of rfl (Grows.refl _)) (by simp [go_sem, x0, pS _ hC] <;> rfl)
  case oS1 =>
    intro ev wo hev hC hs hph
    have e4 := sd hs 4 0
    have p1 := K1.below hC K1.lt
    have p2 := Kq.below hC Kq.lt
    exact ob_dcall (wanted_none rfl) rfl (by kernel_rfl) (msg_any L wo (h.below hC)) (exec_call Tryz.func180 (by kernel_rfl) rfl (hev.func _) (by first | (simp only [mL, e4, hev.const] <;> rfl) | (simp [mL, e4, hev.const] <;> rfl))) (by rfl) (fun w3 hb3 => ⟨hC.trans (hb3.mono hC.size), TSp.of rfl hb3⟩)
  case oS2 => intro ev wo hev hC hs hph; have x0 := sd hs 5 1; exact od rfl rfl (by kernel_rfl) hC (TSp.of rfl (Grows.refl _)) (by simp [go_sem, x0] <;> rfl)
  case oS3 => intro ev wo hev hC hs hph; have x0 := sd hs 6 2; exact od rfl rfl (by kernel_rfl) hC (TSp.of rfl (Grows.refl _)) (by simp [go_sem, x0] <;> rfl)
  case oS4 => intro ev wo hev hC hs hph; have x0 := se hA hs 1; exact od rfl rfl (by kernel_rfl) hC (TSp.of rfl (Grows.refl _)) (by simp [go_sem, x0, pS _ hC] <;> rfl)
  case oS5 => intro ev wo hev hC hs hph; have x0 := sd hs 7 3; have x1 := sd hs 8 4; exact od rfl rfl (by kernel_rfl) hC (TSp.of rfl (Grows.refl _)) (by simp [go_sem, x0, x1] <;> rfl)
  case oS6 => intro ev wo hev hC hs hph; have x0 := sd hs 9 5; exact od rfl rfl (by kernel_rfl) hC (TSp.of rfl (Grows.refl _)) (by simp [go_sem, x0] <;> rfl)
  intro sg wf hC hph
  intro a hA
  replace hA := hA.keepN [3]
  refine nT (wp_ret ?_)
  refine ret_1 hA 3 rfl rfl ?_
  exact ⟨ret_bool (rfl), HB.trans (hC.mono HB.size)⟩
set_option maxRecDepth 100000 in
set_option maxHeartbeats 4000000 in
theorem run_smaller (L : LookV) (n : Int) (q : Nat) (w : World) (h : LookAt w L) (Kq : Blk w q 3 #[.int .i64 n]) : RunK L (.smaller n) (.func (.func 186) #[] #[.pointer (some ⟨q, 0, none⟩)]) w := by
  refine ⟨_, _, rfl, enters Tryz.func186 (by kernel_rfl), ?_⟩
  show Calls Tryz.prog _ #[.agg (lookC L), .pointer (some ⟨q, 0, none⟩)] w _
  rw [evalK]
  have HB := Below.refl w.heap.size w
  refine calls_at 10 Tryz.func186 rfl rfl (Nat.le_of_ble_eq_true rfl) ?_
  intro a hA; replace hA := hA.norm
  rw [agg_look] at hA
  refine wS (wR ?_)
  refine wl_new hA rfl rfl (by decide) (fun ev h => by simp [go_sem, h.get 0 rfl]; try first | exact ⟨rfl, rfl⟩ | rfl) fun w1 a (K1 : Blk _ _ _ _) hz1 hb1 hA => ?_
  replace HB := HB.trans (hb1.mono HB.size)
  replace h := h.below hb1
  replace Kq := Kq.below hb1 Kq.lt
  revert a; refine wo rfl rfl (by decide) (fun ev e h => by simp [go_sem, h] <;> rfl) ?_; intro a hA
  replace hA := hA.keepN [1, 2]
  have pS := fun (wo : World) (hC : (fun wy => Below w1.heap.size w1 wy) wo) => have p1 := K1.below hC K1.lt; have p2 := Kq.below hC Kq.lt; And.intro (p1.cell) (p2.cell)
  refine wN (nT (wS ?_))
  refine wp_any_at hA [(.det ?dS0), (.det ?dS1), (.det ?dS2), (.det ?dS3), (.det ?dS4), (.det ?dS5), (.det ?dS6)] [] (fun wy => Below w1.heap.size w1 wy) (TSp [] Grows) (by kernel_rfl) rfl (by kernel_rfl) (by kernel_rfl) rfl ((Below.refl _ _).drew) (stab_sp [] [true, true, true, true, true, true, true] [true, true, true, true, true, true, true] [] rfl rfl rfl (by kernel_rfl) ⟨trivial, trivial, trivial, trivial, trivial, trivial, trivial, trivial⟩ trivial) (fun _ h => by cases h) (fun _ _ _ _ _ h => by cases h) (fun _ h => by cases h) ⟨?oS0, ?oS1, ?oS2, ?oS3, ?oS4, ?oS5, ?oS6, trivial⟩ (by kernel_rfl) ?fS
  case oS0 => intro ev wo hev hC hs hph; have x0 := se hA hs 2; exact od rfl rfl (by kernel_rfl) hC (TSp.of rfl (Grows.refl _)) (by simp [go_sem, x0, pS _ hC] <;> rfl)
  case oS1 =>
    intro ev wo hev hC hs hph
    have e4 := sd hs 4 0
    have p1 := K1.below hC K1.lt
    have p2 := Kq.below hC Kq.lt
    exact ob_dcall (wanted_none rfl) rfl (by kernel_rfl) (msg_any L wo (h.below hC)) (exec_call Tryz.func180 (by kernel_rfl) rfl (hev.func _) (by first | (simp only [mL, e4, hev.const] <;> rfl) | (simp [mL, e4, hev.const] <;> rfl))) (by rfl) (fun w3 hb3 => ⟨hC.trans (hb3.mono hC.size), TSp.of rfl hb3⟩)
  case oS2 => intro ev wo hev hC hs hph; have x0 := sd hs 5 1; exact od rfl rfl (by kernel_rfl) hC (TSp.of rfl (Grows.refl _)) (by simp [go_sem, x0] <;> rfl)
  case oS3 => intro ev wo hev hC hs hph; have x0 := sd hs 6 2; exact od rfl rfl (by kernel_rfl) hC (TSp.of rfl (Grows.refl _)) (by simp [go_sem, x0] <;> rfl)
  case oS4 => intro ev wo hev hC hs hph; have x0 := se hA hs 1; exact od rfl rfl (by kernel_rfl) hC (TSp.of rfl (Grows.refl _)) (by simp [go_sem, x0, pS _ hC] <;> rfl)
  case oS5 => intro ev wo hev hC hs hph; have x0 := sd hs 7 3; have x1 := sd hs 8 4; exact od rfl rfl (by kernel_rfl) hC (TSp.of rfl (Grows.refl _)) (by simp [go_sem, x0, x1] <;> rfl)
  case oS6 => intro ev wo hev hC hs hph; have x0 := sd hs 9 5; exact od rfl rfl (by kernel_rfl) hC (TSp.of rfl (Grows.refl _)) (by simp [go_sem, x0] <;> rfl)
  intro sg wf hC hph
  intro a hA
  replace hA := hA.keepN [3]
  refine nT (wp_ret ?_)
  refine ret_1 hA 3 rfl rfl ?_
  exact ⟨ret_bool (rfl), HB.trans (hC.mono HB.size)⟩
set_option maxRecDepth 100000 in
set_option maxHeartbeats 4000000 in
theorem run_text (L : LookV) (x : List UInt8) (q : Nat) (w : World) (h : LookAt w L) (Kq : Blk w q 9 #[.string (St x)]) (hx : x.length ≤ 1048576) : RunK L (.text x) (.func (.func 183) #[] #[.pointer (some ⟨q, 0, none⟩)]) w := by
  refine ⟨_, _, rfl, enters Tryz.func183 (by kernel_rfl), ?_⟩
  show Calls Tryz.prog _ #[.agg (lookC L), .pointer (some ⟨q, 0, none⟩)] w _
  rw [evalK]
  have HB := Below.refl w.heap.size w
  obtain ⟨mm, hmm⟩ := h.one
  have hbig := h.big
  have hmlt := block_lt_of_cell hmm
  refine calls_at 10 Tryz.func183 rfl rfl (Nat.le_of_ble_eq_true rfl) ?_
  intro a hA; replace hA := hA.norm
  rw [agg_look] at hA
  refine wS (wR ?_)
  refine wl_new hA rfl rfl (by decide) (fun ev h => by simp [go_sem, h.get 0 rfl]; try first | exact ⟨rfl, rfl⟩ | rfl) fun w1 a (K1 : Blk _ _ _ _) hz1 hb1 hA => ?_
  replace HB := HB.trans (hb1.mono HB.size)
  replace h := h.below hb1
  replace Kq := Kq.below hb1 Kq.lt
  revert a; refine wo rfl rfl (by decide) (fun ev e h => by simp [go_sem, h] <;> rfl) ?_; intro a hA
  replace hA := hA.keepN [1, 2]
  have pS := fun (wo : World) (hC : (fun wy => Below w1.heap.size w1 wy) wo) => have p1 := K1.below hC K1.lt; have p2 := Kq.below hC Kq.lt; And.intro (p1.cell) (p2.cell)
  refine wN (nT (wS ?_))
  refine wp_any_at hA [(.det ?dS0), (.det ?dS1), (.det ?dS2), (.det ?dS3), (.det ?dS4), (.det ?dS5), (.det ?dS6)] [] (fun wy => Below w1.heap.size w1 wy) (TSp [] Grows) (by kernel_rfl) rfl (by kernel_rfl) (by kernel_rfl) rfl ((Below.refl _ _).drew) (stab_sp [] [true, true, true, true, true, true, true] [true, true, true, true, true, true, true] [] rfl rfl rfl (by kernel_rfl) ⟨trivial, trivial, trivial, trivial, trivial, trivial, trivial, trivial⟩ trivial) (fun _ h => by cases h) (fun _ _ _ _ _ h => by cases h) (fun _ h => by cases h) ⟨?oS0, ?oS1, ?oS2, ?oS3, ?oS4, ?oS5, ?oS6, trivial⟩ (by kernel_rfl) ?fS
  case oS0 => intro ev wo hev hC hs hph; have x0 := se hA hs 2; exact od rfl rfl (by kernel_rfl) hC (TSp.of rfl (Grows.refl _)) (by simp [go_sem, x0, pS _ hC] <;> rfl)
  case oS1 =>
    intro ev wo hev hC hs hph
    have e4 := sd hs 4 0
    have p1 := K1.below hC K1.lt
    have p2 := Kq.below hC Kq.lt
    exact ob_dcall (wanted_none rfl) rfl (by kernel_rfl) (msg_any L wo (h.below hC)) (exec_call Tryz.func180 (by kernel_rfl) rfl (hev.func _) (by first | (simp only [mL, e4, hev.const] <;> rfl) | (simp [mL, e4, hev.const] <;> rfl))) (by rfl) (fun w3 hb3 => ⟨hC.trans (hb3.mono hC.size), TSp.of rfl hb3⟩)
  case oS2 => intro ev wo hev hC hs hph; have x0 := sd hs 5 1; exact od rfl rfl (by kernel_rfl) hC (TSp.of rfl (Grows.refl _)) (by simp [go_sem, x0] <;> rfl)
  case oS3 => intro ev wo hev hC hs hph; have x0 := sd hs 6 2; exact od rfl rfl (by kernel_rfl) hC (TSp.of rfl (Grows.refl _)) (by simp [go_sem, x0, conv_reads (c := L.m.c) rfl (h.below hC).reads] <;> rfl)
  case oS4 => intro ev wo hev hC hs hph; have x0 := se hA hs 1; exact od rfl rfl (by kernel_rfl) hC (TSp.of rfl (Grows.refl _)) (by simp [go_sem, x0, pS _ hC] <;> rfl)
  case oS5 =>
    intro ev wo hev hC hs hph
    have e7 := sd hs 7 3
    have e8 := sd hs 8 4
    have p1 := K1.below hC K1.lt
    have p2 := Kq.below hC Kq.lt
    exact ob_dcall (wanted_none rfl) rfl (by kernel_rfl) (within_any L.m.b x mm wo (((HB.trans (hC.mono HB.size)).cell hmlt).trans hmm) (by omega) (by omega)) (exec_call Tryz.func181 (by kernel_rfl) rfl (hev.func _) (by first | (simp only [mL, e7, e8, hev.const] <;> rfl) | (simp [mL, e7, e8, hev.const] <;> rfl))) (by rfl) (fun w3 hb3 => ⟨hC.trans (hb3.mono hC.size), TSp.of rfl hb3⟩)
  case oS6 => intro ev wo hev hC hs hph; have x0 := sd hs 9 5; exact od rfl rfl (by kernel_rfl) hC (TSp.of rfl (Grows.refl _)) (by simp [go_sem, x0] <;> rfl)
  intro sg wf hC hph
  intro a hA
  replace hA := hA.keepN [3]
  refine nT (wp_ret ?_)
  refine ret_1 hA 3 rfl rfl ?_
  exact ⟨rfl, HB.trans (hC.mono HB.size)⟩
set_option maxRecDepth 100000 in
set_option maxHeartbeats 4000000 in
theorem run_body (L : LookV) (x : List UInt8) (q : Nat) (w : World) (h : LookAt w L) (Kq : Blk w q 9 #[.string (St x)]) (hx : x.length ≤ 1048576) : RunK L (.body x) (.func (.func 182) #[] #[.pointer (some ⟨q, 0, none⟩)]) w := by
  refine ⟨_, _, rfl, enters Tryz.func182 (by kernel_rfl), ?_⟩
  show Calls Tryz.prog _ #[.agg (lookC L), .pointer (some ⟨q, 0, none⟩)] w _
  rw [evalK]
  have HB := Below.refl w.heap.size w
  obtain ⟨mm, hmm⟩ := h.one
  have hbig := h.big
  have hmlt := block_lt_of_cell hmm
  refine calls_at 17 Tryz.func182 rfl rfl (Nat.le_of_ble_eq_true rfl) ?_
  intro a hA; replace hA := hA.norm
  rw [agg_look] at hA
  refine wS (wR ?_)
  refine wl_new hA rfl rfl (by decide) (fun ev h => by simp [go_sem, h.get 0 rfl]; try first | exact ⟨rfl, rfl⟩ | rfl) fun w1 a (K1 : Blk _ _ _ _) hz1 hb1 hA => ?_
  replace HB := HB.trans (hb1.mono HB.size)
  replace h := h.below hb1
  replace Kq := Kq.below hb1 Kq.lt
  revert a; refine wo rfl rfl (by decide) (fun ev e h => by simp [go_sem, h, K1.cell] <;> rfl) ?_; intro a hA
  replace hA := hA.keepN [1, 2]
  refine wN (nT (wS (wR ?_)))
  revert a; refine wo rfl rfl (by decide) (fun ev e h => by simp [go_sem, h, K1.cell] <;> rfl) ?_; intro a hA
  refine wl_call hA rfl rfl (by decide) (fun ev h => exec_call Tryz.func180 (by kernel_rfl) rfl (h.f _) (by first | (simp only [mL, h.get 7 rfl, h.c] <;> rfl) | (simp [mL, h.get 7 rfl, h.c, K1.cell] <;> rfl))) (msg_any L w1 h) ?_
  rintro e w2 ⟨rfl, hb2⟩
  refine ⟨_, rfl, fun a hA => ?_⟩
  replace HB := HB.trans (hb2.mono HB.size)
  replace h := h.below hb2
  replace Kq := Kq.below hb2 Kq.lt
  revert a; refine wo rfl rfl (by decide) (fun ev e h => by simp [go_sem, h, K1.cell] <;> rfl) ?_; intro a hA
  refine wl_call hA rfl rfl (by decide) (fun ev h => exec_call Tryz.func62 (by kernel_rfl) rfl (h.f _) (by first | (simp only [mL, h.get 9 rfl, h.c] <;> rfl) | (simp [mL, h.get 9 rfl, h.c, K1.cell] <;> rfl))) (cut_any L.m.a L.m.b.length L.m.c L.m.b _ rfl h.caps.1 (by have := h.caps.2; unfold maxLen; omega) (by omega) h.reads) ?_
  rintro e w3 ⟨v1, v2, rfl, ho1, ho2, hb3⟩
  refine ⟨_, rfl, fun a hA => ?_⟩
  replace HB := HB.trans (hb3.mono HB.size)
  replace h := h.below hb3
  replace Kq := Kq.below hb3 Kq.lt
  have hbl : (bodyH L.m.b).length ≤ 1048576 := by
    have := congrArg List.length (head_body L.m.b)
    rw [List.length_append] at this
    omega
  obtain ⟨A2, c2, rfl, hr2⟩ := ho2.took
  have hcv := conv_reads (c := c2) rfl hr2
  revert a; (iterate 5 refine wo rfl rfl (by decide) (fun ev e h => by simp [go_sem, h, Kq.cell, hcv] <;> rfl) ?_); intro a hA
  replace hA := hA.keepN [1, 5]
  refine wN (nT (wS (wR ?_)))
  revert a; refine wo rfl rfl (by decide) (fun ev e h => by simp [go_sem, h, Kq.cell, hcv] <;> rfl) ?_; intro a hA
  refine wl_op hA rfl rfl (by decide) (fun ev h => by simp [go_sem, h.get 13 rfl, Kq.cell, hcv]; try first | exact ⟨rfl, rfl⟩ | rfl) fun a hA => ?_
  revert a; refine wo rfl rfl (by decide) (fun ev e h => by simp [go_sem, h, Kq.cell, hcv] <;> rfl) ?_; intro a hA
  refine wl_call hA rfl rfl (by decide) (fun ev h => exec_call Tryz.func181 (by kernel_rfl) rfl (h.f _) (by first | (simp only [mL, h.get 14 rfl, h.get 15 rfl, h.c] <;> rfl) | (simp [mL, h.get 14 rfl, h.get 15 rfl, h.c, Kq.cell, hcv] <;> rfl))) (within_any (bodyH L.m.b) x mm _ ((HB.cell hmlt).trans hmm) (by omega) (by omega)) ?_
  rintro e w4 ⟨rfl, hb4⟩
  refine ⟨_, rfl, fun a hA => ?_⟩
  replace HB := HB.trans (hb4.mono HB.size)
  replace h := h.below hb4
  replace Kq := Kq.below hb4 Kq.lt
  revert a; refine wo rfl rfl (by decide) (fun ev e h => by simp [go_sem, h, Kq.cell, hcv] <;> rfl) ?_; intro a hA
  replace hA := hA.keepN [3]
  refine wN (nT (wp_ret ?_))
  refine ret_1 hA 3 rfl rfl ?_
  exact ⟨rfl, HB⟩
theorem and1_i64 (n : Int) : bits .and .i64 n 1 = n % 2 := by
  have h1 : (BitVec.ofInt 64 1).toNat = 2 ^ 1 - 1 := by decide
  have key : (BitVec.ofInt 64 n &&& BitVec.ofInt 64 1).toNat = (n % ((2 ^ 64 : Nat) : Int)).toNat % 2 ^ 1 := by
    rw [BitVec.toNat_and, BitVec.toNat_ofInt, h1, Nat.and_two_pow_sub_one_eq_mod]
  show IntKind.i64.wrap ((BitVec.ofInt 64 n &&& BitVec.ofInt 64 1).toNat : Nat) = n % 2
  rw [key, IntKind.wrap_i64]
  omega
theorem step_sum (st : List FieldS × Bool) (s : List UInt8) : sumV (stepF st s).1 ≤ sumV st.1 + s.length := by
  unfold stepF
  split
  · split
    · exact sumV_add _ _
    · exact Nat.le_add_right _ _
  · split
    · rw [sumV_app]
      have := (cut_len58 s).2
      show sumV st.1 + ((Lib.cut s [58]).2.1.length + 0) ≤ _
      omega
    · exact Nat.le_add_right _ _
theorem lines_sum : ∀ (f : Nat) (b : List UInt8) (st : List FieldS × Bool), sumV (linesF f b st).1 ≤ sumV st.1 + b.length
  | 0, b, st => Nat.le_add_right _ _
  | f + 1, b, st => by
    unfold linesF
    split
    · exact Nat.le_add_right _ _
    · have h1 := line_len b
      have h3 := bare_len (lineS b).1
      have h4 := lines_sum f (lineS b).2 (stepF st (bareS (lineS b).1))
      have h5 := step_sum st (bareS (lineS b).1)
      omega
theorem trimS_le (cut l : List UInt8) : (trimS cut l).length ≤ l.length := by
  unfold trimS trimL
  exact Nat.le_trans (List.dropWhile_sublist _).length_le (trimR_len cut l)
theorem field_len (b n : List UInt8) : ((fieldV b n).getD []).length ≤ b.length := by
  unfold fieldV
  cases hf : (fieldsS b).find? fun f => lowerS f.n == lowerS n with
  | none => exact Nat.zero_le _
  | some x =>
    have hx := List.mem_of_find?_eq_some hf
    unfold fieldsS at hx
    obtain ⟨y, hy, rfl⟩ := List.mem_map.1 hx
    have h1 := sumV_mem hy
    have h2 := lines_sum b.length (headS b) ([], false)
    have h3 : sumV ([] : List FieldS) = 0 := rfl
    have h4 := congrArg List.length (head_body b)
    rw [List.length_append] at h4
    have h5 := trimS_le [32, 9] y.v
    show (trimS [32, 9] y.v).length ≤ _
    simp only at h2
    omega
set_option maxRecDepth 100000 in
set_option maxHeartbeats 4000000 in
theorem run_flag (L : LookV) (i : Nat) (no : Bool) (p q : Nat) (w : World) (h : LookAt w L) (Kp : Blk w p 3 #[.int .i64 (i : Nat)]) (Kq : Blk w q 4 #[.bool no]) (hi : i < 5) : RunK L (.flag i no) (.func (.func 213) #[] #[.pointer (some ⟨p, 0, none⟩), .pointer (some ⟨q, 0, none⟩)]) w := by
  refine ⟨_, _, rfl, enters Tryz.func213 (by kernel_rfl), ?_⟩
  show Calls Tryz.prog _ #[.agg (lookC L), .pointer (some ⟨p, 0, none⟩), .pointer (some ⟨q, 0, none⟩)] w _
  rw [evalK]
  have HB := Below.refl w.heap.size w
  refine calls_at 14 Tryz.func213 rfl rfl (Nat.le_of_ble_eq_true rfl) ?_
  intro a hA; replace hA := hA.norm
  rw [agg_look] at hA
  refine wS (wR ?_)
  refine wl_new hA rfl rfl (by decide) (fun ev h => by simp [go_sem, h.get 0 rfl]; try first | exact ⟨rfl, rfl⟩ | rfl) fun w1 a (K1 : Blk _ _ _ _) hz1 hb1 hA => ?_
  replace HB := HB.trans (hb1.mono HB.size)
  replace h := h.below hb1
  replace Kp := Kp.below hb1 Kp.lt
  replace Kq := Kq.below hb1 Kq.lt
  revert a; refine wo rfl rfl (by decide) (fun ev e h => by simp [go_sem, h] <;> rfl) ?_; intro a hA
  replace hA := hA.keepN [1, 2, 3]
  have pS := fun (wo : World) (hC : (fun wy => Below w1.heap.size w1 wy) wo) => have p1 := K1.below hC K1.lt; have p2 := Kp.below hC Kp.lt; have p3 := Kq.below hC Kq.lt; And.intro (p1.cell) (And.intro (p2.cell) (p3.cell))
  refine wN (nT (wS ?_))
  refine wp_any_at hA [(.det ?dS0), (.det ?dS1), (.det ?dS2), (.det ?dS3), (.det ?dS4), (.det ?dS5), (.det ?dS6), (.det ?dS7), (.det ?dS8), (.det ?dS9)] [] (fun wy => Below w1.heap.size w1 wy) (TSp [] Grows) (by kernel_rfl) rfl (by kernel_rfl) (by kernel_rfl) rfl ((Below.refl _ _).drew) (stab_sp [] [true, true, true, true, true, true, true, true, true, true] [true, true, true, true, true, true, true, true, true, true] [] rfl rfl rfl (by kernel_rfl) ⟨trivial, trivial, trivial, trivial, trivial, trivial, trivial, trivial, trivial, trivial, trivial⟩ trivial) (fun _ h => by cases h) (fun _ _ _ _ _ h => by cases h) (fun _ h => by cases h) ⟨?oS0, ?oS1, ?oS2, ?oS3, ?oS4, ?oS5, ?oS6, ?oS7, ?oS8, ?oS9, trivial⟩ (by kernel_rfl) ?fS
  case oS0 => intro ev wo hev hC hs hph; have x0 := se hA hs 3; exact od rfl rfl (by kernel_rfl) hC (TSp.of rfl (Grows.refl _)) (by simp [go_sem, x0, pS _ hC] <;> rfl)
  case oS1 =>
    intro ev wo hev hC hs hph
    have e5 := sd hs 5 0
    have p1 := K1.below hC K1.lt
    have p2 := Kp.below hC Kp.lt
    have p3 := Kq.below hC Kq.lt
    exact ob_dcall (wanted_none rfl) rfl (by kernel_rfl) (msg_any L wo (h.below hC)) (exec_call Tryz.func180 (by kernel_rfl) rfl (hev.func _) (by first | (simp only [mL, e5, hev.const] <;> rfl) | (simp [mL, e5, hev.const] <;> rfl))) (by rfl) (fun w3 hb3 => ⟨hC.trans (hb3.mono hC.size), TSp.of rfl hb3⟩)
  case oS2 => intro ev wo hev hC hs hph; have x0 := sd hs 6 1; exact od rfl rfl (by kernel_rfl) hC (TSp.of rfl (Grows.refl _)) (by simp [go_sem, x0] <;> rfl)
  case oS3 => intro ev wo hev hC hs hph; have x0 := se hA hs 1; exact od rfl rfl (by kernel_rfl) hC (TSp.of rfl (Grows.refl _)) (by simp [go_sem, x0, pS _ hC] <;> rfl)
  case oS4 => intro ev wo hev hC hs hph; have x0 := sd hs 7 2; have x1 := sd hs 8 3; exact od rfl rfl (by kernel_rfl) hC (TSp.of rfl (Grows.refl _)) (by simp [go_sem, x0, x1] <;> rfl)
  case oS5 => intro ev wo hev hC hs hph; have x0 := sd hs 9 4; exact od rfl rfl (by kernel_rfl) hC (TSp.of rfl (Grows.refl _)) (by simp [go_sem, x0, hev.const] <;> rfl)
  case oS6 => intro ev wo hev hC hs hph; have x0 := sd hs 10 5; exact od rfl rfl (by kernel_rfl) hC (TSp.of rfl (Grows.refl _)) (by simp [go_sem, x0, hev.const] <;> rfl)
  case oS7 => intro ev wo hev hC hs hph; have x0 := se hA hs 2; exact od rfl rfl (by kernel_rfl) hC (TSp.of rfl (Grows.refl _)) (by simp [go_sem, x0, pS _ hC] <;> rfl)
  case oS8 => intro ev wo hev hC hs hph; have x0 := sd hs 11 6; have x1 := sd hs 12 7; exact od rfl rfl (by kernel_rfl) hC (TSp.of rfl (Grows.refl _)) (by simp [go_sem, x0, x1] <;> rfl)
  case oS9 => intro ev wo hev hC hs hph; have x0 := sd hs 13 8; exact od rfl rfl (by kernel_rfl) hC (TSp.of rfl (Grows.refl _)) (by simp [go_sem, x0] <;> rfl)
  intro sg wf hC hph
  intro a hA
  replace hA := hA.keepN [4]
  refine nT (wp_ret ?_)
  refine ret_1 hA 4 rfl rfl ?_
  refine ⟨ret_bool ?_, HB.trans (hC.mono HB.size)⟩
  rw [and1_i64]
  rfl
set_option maxRecDepth 100000 in
set_option maxHeartbeats 4000000 in
theorem run_field (L : LookV) (n x : List UInt8) (p q : Nat) (w : World) (h : LookAt w L) (Kp : Blk w p 9 #[.string (St n)]) (Kq : Blk w q 9 #[.string (St x)]) (hn : n.length ≤ 1048576) (hx : x.length ≤ 1048576) : RunK L (.field n x) (.func (.func 179) #[] #[.pointer (some ⟨p, 0, none⟩), .pointer (some ⟨q, 0, none⟩)]) w := by
  refine ⟨_, _, rfl, enters Tryz.func179 (by kernel_rfl), ?_⟩
  show Calls Tryz.prog _ #[.agg (lookC L), .pointer (some ⟨p, 0, none⟩), .pointer (some ⟨q, 0, none⟩)] w _
  rw [evalK]
  have HB := Below.refl w.heap.size w
  obtain ⟨mm, hmm⟩ := h.one
  have hbig := h.big
  have hcap := h.caps
  have hmlt := block_lt_of_cell hmm
  have hf : ∀ wo, Below w.heap.size w wo → LookAt wo L → Calls Tryz.prog 41 #[.slice L.m.a L.m.b.length L.m.c, .string (St n)] wo fun ev w' => ev = .returned (.tuple #[.string (St ((fieldV L.m.b n).getD [])), .bool (fieldV L.m.b n).isSome]) ∧ Below wo.heap.size wo w' := fun wo hb ho => by
    refine (field_any L.m.a L.m.b.length L.m.c L.m.b n mm wo ((hb.cell hmlt).trans hmm) rfl hcap.1 (by unfold maxLen; omega) (by omega) hn ho.reads).mono fun e w' hh => ⟨?_, hh.2⟩
    rw [hh.1]
    cases fieldV L.m.b n <;> rfl
  obtain ⟨o, ho⟩ : ∃ o, fieldV L.m.b n = o := ⟨_, rfl⟩
  have hol : (o.getD []).length ≤ 1048576 := by
    have := field_len L.m.b n
    rw [ho] at this
    omega
  rw [show (lookF L).octs = L.m.b from rfl, ho]
  rw [ho] at hf
  obtain ⟨q1, hq1⟩ : ∃ q1, o.isSome = q1 := ⟨_, rfl⟩
  obtain ⟨s1, hs1⟩ : ∃ s1, o.getD [] = s1 := ⟨_, rfl⟩
  rw [hs1] at hol hf
  rw [hq1] at hf
  refine calls_at 21 Tryz.func179 rfl rfl (Nat.le_of_ble_eq_true rfl) ?_
  intro a hA; replace hA := hA.norm
  rw [agg_look] at hA
  refine wS (wR ?_)
  refine wl_new hA rfl rfl (by decide) (fun ev h => by simp [go_sem, h.get 0 rfl]; try first | exact ⟨rfl, rfl⟩ | rfl) fun w1 a (K1 : Blk _ _ _ _) hz1 hb1 hA => ?_
  replace HB := HB.trans (hb1.mono HB.size)
  replace h := h.below hb1
  replace Kp := Kp.below hb1 Kp.lt
  replace Kq := Kq.below hb1 Kq.lt
  revert a; refine wo rfl rfl (by decide) (fun ev e h => by simp [go_sem, h] <;> rfl) ?_; intro a hA
  replace hA := hA.keepN [1, 2, 3]
  have pS := fun (wo : World) (hC : (fun wy => Below w1.heap.size w1 wy) wo) => have p1 := K1.below hC K1.lt; have p2 := Kp.below hC Kp.lt; have p3 := Kq.below hC Kq.lt; And.intro (p1.cell) (And.intro (p2.cell) (p3.cell))
  refine wN (nT (wS ?_))
  refine wp_any_at hA [(.det ?dS0), (.det ?dS1), (.det ?dS2), (.det ?dS3), (.det ?dS4), (.det ?dS5), (.det ?dS6), (.det ?dS7), (.det ?dS8), (.det ?dS9)] [] (fun wy => Below w1.heap.size w1 wy) (TSp [] Grows) (by kernel_rfl) rfl (by kernel_rfl) (by kernel_rfl) rfl ((Below.refl _ _).drew) (stab_sp [] [true, true, true, true, true, true, true, true, true, true] [true, true, true, true, true, true, true, true, true, true] [] rfl rfl rfl (by kernel_rfl) ⟨trivial, trivial, trivial, trivial, trivial, trivial, trivial, trivial, trivial, trivial, trivial⟩ trivial) (fun _ h => by cases h) (fun _ _ _ _ _ h => by cases h) (fun _ h => by cases h) ⟨?oS0, ?oS1, ?oS2, ?oS3, ?oS4, ?oS5, ?oS6, ?oS7, ?oS8, ?oS9, trivial⟩ (by kernel_rfl) ?fS
  case oS0 => intro ev wo hev hC hs hph; have x0 := se hA hs 3; exact od rfl rfl (by kernel_rfl) hC (TSp.of rfl (Grows.refl _)) (by simp [go_sem, x0, pS _ hC] <;> rfl)
  case oS1 =>
    intro ev wo hev hC hs hph
    have e8 := sd hs 8 0
    have p1 := K1.below hC K1.lt
    have p2 := Kp.below hC Kp.lt
    have p3 := Kq.below hC Kq.lt
    exact ob_dcall (wanted_none rfl) rfl (by kernel_rfl) (msg_any L wo (h.below hC)) (exec_call Tryz.func180 (by kernel_rfl) rfl (hev.func _) (by first | (simp only [mL, e8, hev.const] <;> rfl) | (simp [mL, e8, hev.const] <;> rfl))) (by rfl) (fun w3 hb3 => ⟨hC.trans (hb3.mono hC.size), TSp.of rfl hb3⟩)
  case oS2 => intro ev wo hev hC hs hph; have x0 := sd hs 9 1; exact od rfl rfl (by kernel_rfl) hC (TSp.of rfl (Grows.refl _)) (by simp [go_sem, x0] <;> rfl)
  case oS3 => intro ev wo hev hC hs hph; have x0 := se hA hs 1; exact od rfl rfl (by kernel_rfl) hC (TSp.of rfl (Grows.refl _)) (by simp [go_sem, x0, pS _ hC] <;> rfl)
  case oS4 =>
    intro ev wo hev hC hs hph
    have e10 := sd hs 10 2
    have e11 := sd hs 11 3
    have p1 := K1.below hC K1.lt
    have p2 := Kp.below hC Kp.lt
    have p3 := Kq.below hC Kq.lt
    exact ob_dcall (wanted_none rfl) rfl (by kernel_rfl) (hf wo (HB.trans (hC.mono HB.size)) (h.below hC)) (exec_call Tryz.func41 (by kernel_rfl) rfl (hev.func _) (by first | (simp only [mL, e10, e11, hev.const] <;> rfl) | (simp [mL, e10, e11, hev.const] <;> rfl))) (by rfl) (fun w3 hb3 => ⟨hC.trans (hb3.mono hC.size), TSp.of rfl hb3⟩)
  case oS5 => intro ev wo hev hC hs hph; have x0 := sd hs 12 4; exact od rfl rfl (by kernel_rfl) hC (TSp.of rfl (Grows.refl _)) (by simp [go_sem, x0] <;> rfl)
  case oS6 => intro ev wo hev hC hs hph; have x0 := sd hs 7 5; exact od rfl rfl (by kernel_rfl) hC (TSp.of rfl (Grows.refl _)) (by simp [go_sem, x0] <;> rfl)
  case oS7 => intro ev wo hev hC hs hph; have x0 := sd hs 7 5; exact od rfl rfl (by kernel_rfl) hC (TSp.of rfl (Grows.refl _)) (by simp [go_sem, x0] <;> rfl)
  case oS8 => intro ev wo hev hC hs hph; have x0 := sd hs 13 6; exact od rfl rfl (by kernel_rfl) hC (TSp.of rfl (Grows.refl _)) (by simp [go_sem, x0] <;> rfl)
  case oS9 => intro ev wo hev hC hs hph; have x0 := sd hs 14 7; exact od rfl rfl (by kernel_rfl) hC (TSp.of rfl (Grows.refl _)) (by simp [go_sem, x0] <;> rfl)
  intro sg wf hC hph
  intro a hA
  replace hA := hA.keepN [2, 5, 6]
  refine nT ?_
  replace h := h.below hC
  replace Kq := Kq.below hC Kq.lt
  replace HB := HB.trans (hC.mono HB.size)
  refine wS (wR ?_)
  revert a; (iterate 2 refine wo rfl rfl (by decide) (fun ev e h => by simp [go_sem, h, Kq.cell] <;> rfl) ?_); (iterate 2 refine wg _ rfl rfl rfl rfl (by decide) (fun hq ev e h => by simp [go_sem, h, ↓gw_t (beq_t hq), Kq.cell] <;> rfl) ?_); intro a hA
  refine wl_gcallv _ hA rfl rfl rfl rfl (by decide) (fun hq ev h => exec_call Tryz.func181 (by kernel_rfl) rfl (h.f _) (by first | (simp only [mL, ((h.get 17 rfl).trans (gw_t (beq_t hq))), ((h.get 18 rfl).trans (gw_t (beq_t hq))), h.c] <;> rfl) | (simp [mL, ((h.get 17 rfl).trans (gw_t (beq_t hq))), ((h.get 18 rfl).trans (gw_t (beq_t hq))), h.c, Kq.cell] <;> rfl))) (fun hq => within_any s1 x mm _ ((HB.cell hmlt).trans hmm) (by omega) (by omega)) fun a w2 hb2 hA => ?_
  replace HB := HB.trans (hb2.mono HB.size)
  replace h := h.below hb2
  replace Kq := Kq.below hb2 Kq.lt
  revert a; refine wka rfl rfl (by decide) rfl rfl rfl ?_; refine wo rfl rfl (by decide) (fun ev e h => by simp [go_sem, h, Kq.cell] <;> rfl) ?_; intro a hA
  replace hA := hA.keepN [4]
  refine wN (nT (wp_ret ?_))
  refine ret_1 hA 4 rfl rfl ?_
  refine ⟨ret_bool ?_, HB⟩
  subst hq1
  subst hs1
  cases o <;> rfl
set_option maxRecDepth 100000 in
set_option maxHeartbeats 4000000 in
theorem run_set (L : LookV) (l : List (Nat × Nat)) (u : Bool) (v : Value) (lo p q : Nat) (w : World) (h : LookAt w L) (Kp : Blk w p 4 #[.bool u]) (Kq : Blk w q 64 #[v]) (hv : w.ownsRow lo 193 2 v l.length (spanCells l)) (h3 : ∀ x ∈ l, x.1 ≤ 4294967295 ∧ x.2 ≤ 4294967295) (h4 : l.length ≤ 65536) : RunK L (.set l u) (.func (.func 188) #[] #[.pointer (some ⟨p, 0, none⟩), .pointer (some ⟨q, 0, none⟩)]) w := by
  refine ⟨_, _, rfl, enters Tryz.func188 (by kernel_rfl), ?_⟩
  show Calls Tryz.prog _ #[.agg (lookC L), .pointer (some ⟨p, 0, none⟩), .pointer (some ⟨q, 0, none⟩)] w _
  rw [evalK]
  have HB := Below.refl w.heap.size w
  have hlen := h.len
  have hlt := h.lt
  obtain ⟨A1, c1, rfl, hr1, -⟩ := own_reads hv
  refine calls_at 24 Tryz.func188 rfl rfl (Nat.le_of_ble_eq_true rfl) ?_
  intro a hA; replace hA := hA.norm
  rw [agg_look] at hA
  refine wS (wR ?_)
  refine wl_new hA rfl rfl (by decide) (fun ev h => by simp [go_sem, h.get 0 rfl]; try first | exact ⟨rfl, rfl⟩ | rfl) fun w1 a (K1 : Blk _ _ _ _) hz1 hb1 hA => ?_
  replace HB := HB.trans (hb1.mono HB.size)
  replace h := h.below hb1
  replace Kp := Kp.below hb1 Kp.lt
  replace Kq := Kq.below hb1 Kq.lt
  replace hr1 := (hr1.below hb1).more hb1.size
  revert a; refine wo rfl rfl (by decide) (fun ev e h => by simp [go_sem, h, Kp.cell] <;> rfl) ?_; intro a hA
  replace hA := hA.keepN [1, 2, 3]
  refine wN (nT (wS (wS (wR ?_))))
  revert a; refine wo rfl rfl (by decide) (fun ev e h => by simp [go_sem, h, Kp.cell] <;> rfl) ?_; intro a hA
  replace hA := hA.keepN [2, 3, 5]
  refine wN (nT ?_)
  refine wp_if hA 5 _ rfl (fun hq => ?yU) (fun hq => ?nU)
  case yU =>
    have pS := fun (wo : World) (hC : (fun wy => Below w1.heap.size w1 wy) wo) => have p1 := K1.below hC K1.lt; have p2 := Kq.below hC Kq.lt; And.intro (p1.cell) (p2.cell)
    refine wS ?_
    refine wp_any_at hA [(.det ?dS0), (.det ?dS1), (.det ?dS2), (.det ?dS3), (.det ?dS4), (.det ?dS5), (.det ?dS6), (.det ?dS7)] [] (fun wy => Below w1.heap.size w1 wy) (TSp [] Grows) (by kernel_rfl) rfl (by kernel_rfl) (by kernel_rfl) rfl ((Below.refl _ _).drew) (stab_sp [] [true, true, true, true, true, true, true, true] [true, true, true, true, true, true, true, true] [] rfl rfl rfl (by kernel_rfl) ⟨trivial, trivial, trivial, trivial, trivial, trivial, trivial, trivial, trivial⟩ trivial) (fun _ h => by cases h) (fun _ _ _ _ _ h => by cases h) (fun _ h => by cases h) ⟨?oS0, ?oS1, ?oS2, ?oS3, ?oS4, ?oS5, ?oS6, ?oS7, trivial⟩ (by kernel_rfl) ?fS
    case oS0 => intro ev wo hev hC hs hph; have x0 := se hA hs 2; exact od rfl rfl (by kernel_rfl) hC (TSp.of rfl (Grows.refl _)) (by simp [go_sem, x0, pS _ hC, Kp.cell] <;> rfl)
    case oS1 => intro ev wo hev hC hs hph; have x0 := se hA hs 3; exact od rfl rfl (by kernel_rfl) hC (TSp.of rfl (Grows.refl _)) (by simp [go_sem, x0, pS _ hC, Kp.cell] <;> rfl)
    case oS2 =>
      intro ev wo hev hC hs hph
      have e7 := sd hs 7 1
      have p1 := K1.below hC K1.lt
      have p2 := Kq.below hC Kq.lt
      exact ob_dcall (wanted_none rfl) rfl (by kernel_rfl) (msg_any L wo (h.below hC)) (exec_call Tryz.func180 (by kernel_rfl) rfl (hev.func _) (by first | (simp only [mL, e7, hev.const] <;> rfl) | (simp [mL, e7, hev.const] <;> rfl))) (by rfl) (fun w3 hb3 => ⟨hC.trans (hb3.mono hC.size), TSp.of rfl hb3⟩)
    case oS3 => intro ev wo hev hC hs hph; have x0 := sd hs 8 2; exact od rfl rfl (by kernel_rfl) hC (TSp.of rfl (Grows.refl _)) (by simp [go_sem, x0] <;> rfl)
    case oS4 => intro ev wo hev hC hs hph; have x0 := se hA hs 3; exact od rfl rfl (by kernel_rfl) hC (TSp.of rfl (Grows.refl _)) (by simp [go_sem, x0, pS _ hC, Kp.cell] <;> rfl)
    case oS5 =>
      intro ev wo hev hC hs hph
      have e10 := sd hs 10 4
      have p1 := K1.below hC K1.lt
      have p2 := Kq.below hC Kq.lt
      exact ob_dcall (wanted_none rfl) rfl (by kernel_rfl) (last_any L wo (h.below hC)) (exec_call Tryz.func190 (by kernel_rfl) rfl (hev.func _) (by first | (simp only [mL, e10, hev.const] <;> rfl) | (simp [mL, e10, hev.const] <;> rfl))) (by rfl) (fun w3 hb3 => ⟨hC.trans (hb3.mono hC.size), TSp.of rfl hb3⟩)
    case oS6 =>
      intro ev wo hev hC hs hph
      have e6 := sd hs 6 0
      have e9 := sd hs 9 3
      have e11 := sd hs 11 5
      have p1 := K1.below hC K1.lt
      have p2 := Kq.below hC Kq.lt
      exact ob_dcall (wanted_none rfl) rfl (by kernel_rfl) (has_any A1 c1 l L.m.uid (lastUid L.ms) h3 h4 wo ((hr1.below hC).more hC.size)) (exec_call Tryz.func189 (by kernel_rfl) rfl (hev.func _) (by first | (simp only [mL, e6, e9, e11, hev.const] <;> rfl) | (simp [mL, e6, e9, e11, hev.const] <;> rfl))) (by rfl) (fun w3 hb3 => ⟨hC.trans (hb3.mono hC.size), TSp.of rfl hb3⟩)
    case oS7 => intro ev wo hev hC hs hph; have x0 := sd hs 12 6; exact od rfl rfl (by kernel_rfl) hC (TSp.of rfl (Grows.refl _)) (by simp [go_sem, x0] <;> rfl)
    intro sg wf hC hph
    intro a hA
    replace hA := hA.keepN [4]
    refine nT (wp_ret (rT ?_))
    refine ret_1 hA 4 rfl rfl ?_
    exact ⟨by rw [if_pos hq]; rfl, HB.trans (hC.mono HB.size)⟩
  case nU =>
    have i1 : IntKind.u32.wrap ((L.i : Nat) : Int) = ((L.i : Nat) : Int) := IntWalk.u32_in _ (by omega)
    have i2 : IntKind.u32.wrap (((L.i : Nat) : Int) + 1) = ((L.i + 1 : Nat) : Int) := by rw [IntWalk.u32_in _ (by omega)]; omega
    have i3 : IntKind.u32.wrap ((L.ms.length : Nat) : Int) = ((L.ms.length : Nat) : Int) := IntWalk.u32_in _ (by omega)
    refine wp_skip (nT (wS (wR ?_)))
    revert a; (iterate 3 refine wo rfl rfl (by decide) (fun ev e h => by simp [go_sem, h, Kq.cell, K1.cell, i1, i2, i3] <;> rfl) ?_); intro a hA
    refine wl_op hA rfl rfl (by decide) (fun ev h => by simp [go_sem, h.get 15 rfl, Kq.cell, K1.cell, i1, i2, i3]; try first | exact ⟨rfl, rfl⟩ | rfl) fun a hA => ?_
    revert a; (iterate 5 refine wo rfl rfl (by decide) (fun ev e h => by simp [go_sem, h, Kq.cell, K1.cell, i1, i2, i3] <;> rfl) ?_); intro a hA
    refine wl_op hA rfl rfl (by decide) (fun ev h => by simp [go_sem, h.get 21 rfl, Kq.cell, K1.cell, i1, i2, i3]; try first | exact ⟨rfl, rfl⟩ | rfl) fun a hA => ?_
    replace hA := hA.keepN [13, 17, 22]
    refine wl_call hA rfl rfl (by decide) (fun ev h => exec_call Tryz.func189 (by kernel_rfl) rfl (h.f _) (by first | (simp only [mL, h.get 13 rfl, h.get 17 rfl, h.get 22 rfl, h.c] <;> rfl) | (simp [mL, h.get 13 rfl, h.get 17 rfl, h.get 22 rfl, h.c, Kq.cell, K1.cell, i1, i2, i3] <;> rfl))) (has_any A1 c1 l (L.i + 1) L.ms.length h3 h4 _ hr1) ?_
    rintro e w2 ⟨rfl, hb2⟩
    refine ⟨_, rfl, fun a hA => ?_⟩
    replace HB := HB.trans (hb2.mono HB.size)
    replace h := h.below hb2
    replace Kp := Kp.below hb2 Kp.lt
    replace Kq := Kq.below hb2 Kq.lt
    replace hr1 := (hr1.below hb2).more hb2.size
    revert a; refine wo rfl rfl (by decide) (fun ev e h => by simp [go_sem, h, Kq.cell, K1.cell, i1, i2, i3] <;> rfl) ?_; intro a hA
    replace hA := hA.keepN [4]
    refine wN (nT (wp_ret ?_))
    refine ret_1 hA 4 rfl rfl ?_
    exact ⟨by rw [if_neg (by rw [hq]; decide)]; rfl, HB⟩
end Go.Proofs.YtjhaccmcjlbllaaGreatDoor
/-
  Walks: a search's closures that call closures.
-/
namespace Go.Proofs.YtjhaccmcjlbllaaGreatDoor
open Go.RowKit
set_option linter.unusedSimpArgs false
set_option linter.unusedVariables false
theorem RunK.calls {L : LookV} {k : KeyA} {F : FuncId} {caps : Array Value} {w : World} (h : RunK L k (.func (.func F) #[] caps) w) : Calls Tryz.prog F (#[.agg (lookC L)] ++ caps) w fun ev w' => ev = .returned (.bool (evalK k (lookF L))) ∧ Below w.heap.size w w' := by
  obtain ⟨F', caps', e, -, hc⟩ := h
  injection e with e1 _ e2
  injection e1 with e1
  subst e1
  subst e2
  exact hc
set_option maxRecDepth 100000 in
set_option maxHeartbeats 4000000 in
theorem run_not (L : LookV) (k : KeyA) (v : Value) (q : Nat) (w : World) (h : LookAt w L) (Kq : Blk w q 87 #[v]) (hk : ∀ w', Below w.heap.size w w' → RunK L k v w') : RunK L (.not k) (.func (.func 136) #[] #[.pointer (some ⟨q, 0, none⟩)]) w := by
  refine ⟨_, _, rfl, enters Tryz.func136 (by kernel_rfl), ?_⟩
  show Calls Tryz.prog _ #[.agg (lookC L), .pointer (some ⟨q, 0, none⟩)] w _
  rw [evalK]
  have HB := Below.refl w.heap.size w
  obtain ⟨F, caps, rfl, hcf, -⟩ := hk w HB
  refine calls_at 8 Tryz.func136 rfl rfl (Nat.le_of_ble_eq_true rfl) ?_
  intro a hA; replace hA := hA.norm
  rw [agg_look] at hA
  refine wS (wR ?_)
  refine wl_new hA rfl rfl (by decide) (fun ev h => by simp [go_sem, h.get 0 rfl]; try first | exact ⟨rfl, rfl⟩ | rfl) fun w1 a (K1 : Blk _ _ _ _) hz1 hb1 hA => ?_
  replace HB := HB.trans (hb1.mono HB.size)
  replace h := h.below hb1
  replace Kq := Kq.below hb1 Kq.lt
  revert a; refine wo rfl rfl (by decide) (fun ev e h => by simp [go_sem, h, Kq.cell, K1.cell, hcf _ _] <;> rfl) ?_; intro a hA
  replace hA := hA.keepN [1, 2]
  refine wN (nT (wS (wR ?_)))
  revert a; (iterate 2 refine wo rfl rfl (by decide) (fun ev e h => by simp [go_sem, h, Kq.cell, K1.cell, hcf _ _] <;> rfl) ?_); intro a hA
  refine wl_call hA rfl rfl (by decide) (fun ev h => by simp [go_sem, h.get 4 rfl, h.get 5 rfl, Kq.cell, K1.cell, hcf _ _]; try first | exact ⟨rfl, rfl⟩ | rfl) ((hk _ HB).calls) ?_
  rintro e w2 ⟨rfl, hb2⟩
  refine ⟨_, rfl, fun a hA => ?_⟩
  replace HB := HB.trans (hb2.mono HB.size)
  replace h := h.below hb2
  replace Kq := Kq.below hb2 Kq.lt
  revert a; (iterate 2 refine wo rfl rfl (by decide) (fun ev e h => by simp [go_sem, h, Kq.cell, K1.cell, hcf _ _] <;> rfl) ?_); intro a hA
  replace hA := hA.keepN [3]
  refine wN (nT (wp_ret ?_))
  refine ret_1 hA 3 rfl rfl ?_
  exact ⟨rfl, HB⟩
set_option maxRecDepth 100000 in
set_option maxHeartbeats 4000000 in
theorem run_or (L : LookV) (ka kb : KeyA) (va vb : Value) (p q : Nat) (w : World) (h : LookAt w L) (Kp : Blk w p 87 #[va]) (Kq : Blk w q 87 #[vb]) (ha : ∀ w', Below w.heap.size w w' → RunK L ka va w') (hb : ∀ w', Below w.heap.size w w' → RunK L kb vb w') : RunK L (.or ka kb) (.func (.func 137) #[] #[.pointer (some ⟨p, 0, none⟩), .pointer (some ⟨q, 0, none⟩)]) w := by
  refine ⟨_, _, rfl, enters Tryz.func137 (by kernel_rfl), ?_⟩
  show Calls Tryz.prog _ #[.agg (lookC L), .pointer (some ⟨p, 0, none⟩), .pointer (some ⟨q, 0, none⟩)] w _
  rw [evalK]
  have HB := Below.refl w.heap.size w
  obtain ⟨F, caps, rfl, hcf, -⟩ := ha w HB
  obtain ⟨F2, caps2, rfl, hcf2, -⟩ := hb w HB
  refine calls_at 13 Tryz.func137 rfl rfl (Nat.le_of_ble_eq_true rfl) ?_
  intro a hA; replace hA := hA.norm
  rw [agg_look] at hA
  refine wS (wR ?_)
  refine wl_new hA rfl rfl (by decide) (fun ev h => by simp [go_sem, h.get 0 rfl]; try first | exact ⟨rfl, rfl⟩ | rfl) fun w1 a (K1 : Blk _ _ _ _) hz1 hb1 hA => ?_
  replace HB := HB.trans (hb1.mono HB.size)
  replace h := h.below hb1
  replace Kp := Kp.below hb1 Kp.lt
  replace Kq := Kq.below hb1 Kq.lt
  revert a; refine wo rfl rfl (by decide) (fun ev e h => by simp [go_sem, h, Kp.cell, K1.cell, hcf _ _] <;> rfl) ?_; intro a hA
  replace hA := hA.keepN [1, 2, 3]
  refine wN (nT (wS (wR ?_)))
  revert a; (iterate 2 refine wo rfl rfl (by decide) (fun ev e h => by simp [go_sem, h, Kp.cell, K1.cell, hcf _ _] <;> rfl) ?_); intro a hA
  refine wl_call hA rfl rfl (by decide) (fun ev h => by simp [go_sem, h.get 5 rfl, h.get 6 rfl, Kp.cell, K1.cell, hcf _ _]; try first | exact ⟨rfl, rfl⟩ | rfl) ((ha _ HB).calls) ?_
  rintro e w2 ⟨rfl, hb2⟩
  refine ⟨_, rfl, fun a hA => ?_⟩
  replace HB := HB.trans (hb2.mono HB.size)
  replace h := h.below hb2
  replace Kp := Kp.below hb2 Kp.lt
  replace Kq := Kq.below hb2 Kq.lt
  replace K1 := K1.below hb2 K1.lt
  revert a; refine wo rfl rfl (by decide) (fun ev e h => by simp [go_sem, h, Kq.cell, K1.cell, hcf2 _ _] <;> rfl) ?_; (iterate 2 refine wg _ rfl rfl rfl rfl (by decide) (fun hq ev e h => by simp [go_sem, h, ↓gw_t (beq_t hq), Kq.cell, K1.cell, hcf2 _ _] <;> rfl) ?_); intro a hA
  refine wl_gcallv _ hA rfl rfl rfl rfl (by decide) (fun hq ev h => by simp [go_sem, ((h.get 9 rfl).trans (gw_t (beq_t hq))), ((h.get 10 rfl).trans (gw_t (beq_t hq))), Kq.cell, K1.cell, hcf2 _ _]; try first | exact ⟨rfl, rfl⟩ | rfl) (fun hq => (hb _ HB).calls) fun a w3 hb3 hA => ?_
  replace HB := HB.trans (hb3.mono HB.size)
  replace h := h.below hb3
  replace Kp := Kp.below hb3 Kp.lt
  replace Kq := Kq.below hb3 Kq.lt
  replace K1 := K1.below hb3 K1.lt
  revert a; refine wko rfl rfl (by decide) rfl rfl rfl ?_; refine wo rfl rfl (by decide) (fun ev e h => by simp [go_sem, h, Kq.cell, K1.cell, hcf2 _ _] <;> rfl) ?_; intro a hA
  replace hA := hA.keepN [4]
  refine wN (nT (wp_ret ?_))
  refine ret_1 hA 4 rfl rfl ?_
  exact ⟨rfl, HB⟩
set_option maxRecDepth 100000 in
set_option maxHeartbeats 4000000 in
theorem bb_any (L : LookV) (k : KeyA) (v : Value) (pl : Nat) (w : World) (Kl : Blk w pl 90 (lookC L)) (hk : ∀ w', Below w.heap.size w w' → RunK L k v w') : Calls Tryz.prog 99 #[v, .pointer (some ⟨pl, 0, none⟩)] w fun ev w' => ev = .returned (.bool (!evalK k (lookF L))) ∧ Below w.heap.size w w' := by
  have HB := Below.refl w.heap.size w
  obtain ⟨F, caps, rfl, hcf, -⟩ := hk w HB
  rw [agg_look] at Kl
  refine calls_at 8 Tryz.func99 rfl rfl (Nat.le_of_ble_eq_true rfl) ?_
  intro a hA; replace hA := hA.norm
  refine wS (wR ?_)
  revert a; refine wo rfl rfl (by decide) (fun ev e h => by simp [go_sem, h, Kl.cell, hcf _ _] <;> rfl) ?_; intro a hA
  replace hA := hA.keepN [0, 1]
  refine wN (nT (wS (wR ?_)))
  revert a; (iterate 2 refine wo rfl rfl (by decide) (fun ev e h => by simp [go_sem, h, Kl.cell, hcf _ _] <;> rfl) ?_); intro a hA
  refine wl_call hA rfl rfl (by decide) (fun ev h => by simp [go_sem, h.get 4 rfl, h.get 5 rfl, Kl.cell, hcf _ _]; try first | exact ⟨rfl, rfl⟩ | rfl) ((hk _ HB).calls) ?_
  rintro e w2 ⟨rfl, hb2⟩
  refine ⟨_, rfl, fun a hA => ?_⟩
  replace HB := HB.trans (hb2.mono HB.size)
  revert a; (iterate 2 refine wo rfl rfl (by decide) (fun ev e h => by simp [go_sem, h, Kl.cell, hcf _ _] <;> rfl) ?_); intro a hA
  replace hA := hA.keepN [3]
  refine wN (nT (wp_ret ?_))
  refine ret_1 hA 3 rfl rfl ?_
  exact ⟨rfl, HB⟩
theorem evalL_cons (k : KeyA) (r : List KeyA) (x : LookS) : evalL (k :: r) x = (evalK k x && evalL r x) := by rw [evalL]
theorem evalL_nil (x : LookS) : evalL [] x = true := by rw [evalL]
set_option maxRecDepth 100000 in
set_option maxHeartbeats 4000000 in
theorem indexF_any (L : LookV) (ks : List KeyA) (vs : List Value) (A : Option Addr) (c pl : Nat) (w : World) (Kl : Blk w pl 90 (lookC L)) (hr : Reads w w.heap.size 1 A ks.length vs) (hvl : vs.length = ks.length) (hl : ks.length ≤ 9223372036854775807) (hk : ∀ (i : Nat) (k : KeyA) (v : Value), ks[i]? = some k → vs[i]? = some v → ∀ w', Below w.heap.size w w' → RunK L k v w') : Calls Tryz.prog 140 #[.slice A ks.length c, .func (.func 99) #[] #[.pointer (some ⟨pl, 0, none⟩)]] w fun ev w' => ∃ i : Int, ev = .returned (.int .i64 i) ∧ decide (0 ≤ i) = !evalL ks (lookF L) ∧ Below w.heap.size w w' := by
  refine calls_at 19 Tryz.func140 rfl rfl (Nat.le_of_ble_eq_true rfl) ?_
  intro a hA; replace hA := hA.norm
  refine wS (wR ?_)
  revert a; refine wo rfl rfl (by decide) (fun ev e h => by simp [go_sem, h] <;> rfl) ?_; intro a hA
  replace hA := hA.keepN [0, 1]
  refine wN (nT (wS (wS (wR ?_))))
  revert a; (iterate 3 refine wo rfl rfl (by decide) (fun ev e h => by simp [go_sem, h] <;> rfl) ?_); intro a hA
  replace hA := hA.keepN [0, 1, 7, 8]
  refine wN (nT (wB ?_))
  refine wp_loop_at (fun k a wx => ∃ j : Nat, j + k = ks.length ∧ evalL (ks.take j) (lookF L) = true ∧ Below w.heap.size w wx ∧ At 19 [(0, .slice A ks.length c), (1, .func (.func 99) #[] #[.pointer (some ⟨pl, 0, none⟩)]), (7, .int .i64 (ks.length : Nat)), (8, .int .i64 (j : Nat))] a) (ks.length) ?_ ?_
  · exact ⟨0, by omega, by rw [List.take_zero, evalL_nil], Below.refl _ _, hA⟩
  clear hA
  rintro k a wx ⟨j, hjk, hno, HB, hA⟩
  refine wS (wR ?_)
  revert a; refine wo rfl rfl (by decide) (fun ev e h => by simp [go_sem, h] <;> rfl) ?_; intro a hA
  replace hA := hA.keepN [0, 1, 7, 8, 9]
  refine wN (nT (wS ?_))
  refine wp_if hA 9 _ rfl (fun hq => ?yA) (fun hq => ?nA)
  case nA =>
    have hjn : ks.length ≤ j := by simp at hq; omega
    replace hA := hA.keepN []
    refine wp_exit (xT (xT (xB (nT (wS (wR ?_))))))
    revert a; refine wo rfl rfl (by decide) (fun ev e h => by simp [go_sem, h] <;> rfl) ?_; intro a hA
    replace hA := hA.keepN [4]
    refine wN (nT (wp_ret ?_))
    refine ret_1 hA 4 rfl rfl ?_
    rw [List.take_of_length_le hjn] at hno
    exact ⟨-1, rfl, by rw [hno]; rfl, HB⟩
  case yA =>
    have hjn : j < ks.length := by simp at hq; omega
    obtain ⟨x, hx⟩ : ∃ x, ks[j]? = some x := ⟨_, List.getElem?_eq_getElem hjn⟩
    obtain ⟨v, hv⟩ : ∃ v, vs[j]? = some v := ⟨_, List.getElem?_eq_getElem (by omega)⟩
    have hkv := hk j x v hx hv
    obtain ⟨ad, rfl, hadl, hc⟩ := hr.2 (by omega)
    have hcell : wx.cell? (ad.add j) = some v := (HB.cell (by rw [block_of_add]; exact hadl)).trans (hc j v hv)
    obtain ⟨F, caps, rfl, hcf, -⟩ := hkv wx HB
    have jj0 : (0 : Int) ≤ (j : Int) := by omega
    have jj1 : (j : Int) < (ks.length : Int) := by omega
    have i3 : IntKind.i64.wrap (((j : Nat) : Int) + 1) = ((j + 1 : Nat) : Int) := by rw [IntWalk.i64_in _ (by omega)]; omega
    have htake : ks.take (j + 1) = ks.take j ++ [x] := by
      rw [List.take_add_one, hx]
      rfl
    refine wp_skip (nT (wS (wB (wS (wR ?_)))))
    revert a; (iterate 2 refine wo rfl rfl (by decide) (fun ev e h => by simp [go_sem, h, hcell, jj0, jj1] <;> rfl) ?_); intro a hA
    replace hA := hA.keepN [0, 1, 5, 7, 8]
    refine wN (nT (wS (wR ?_)))
    revert a; (iterate 5 refine wo rfl rfl (by decide) (fun ev e h => by simp [go_sem, h, hcell, jj0, jj1] <;> rfl) ?_); intro a hA
    refine wl_call hA rfl rfl (by decide) (fun ev h => by simp [go_sem, h.get 11 rfl, h.get 15 rfl, hcell, jj0, jj1]; try first | exact ⟨rfl, rfl⟩ | rfl) (bb_any L x _ pl wx (Kl.below HB Kl.lt) (fun w' hb => hkv w' (HB.trans (hb.mono HB.size)))) ?_
    rintro e w2 ⟨rfl, hb2⟩
    refine ⟨_, rfl, fun a hA => ?_⟩
    replace HB := HB.trans (hb2.mono HB.size)
    obtain ⟨e, he⟩ : ∃ e, evalK x (lookF L) = e := ⟨_, rfl⟩
    rw [he] at hA
    replace hA := hA.keepN [0, 1, 5, 7, 8, 16]
    refine wN (nT ?_)
    refine wp_if hA 16 _ rfl (fun hq2 => ?yB) (fun hq2 => ?nB)
    case nB =>
      have he1 : e = true := by simpa using hq2
      subst he1
      refine wp_skip (nB (nT (wR ?_)))
      revert a; (iterate 2 refine wo rfl rfl (by decide) (fun ev e h => by simp [go_sem, h, i3] <;> rfl) ?_); intro a hA
      replace hA := hA.keepN [0, 1, 7, 8]
      refine wN (nT ?_)
      refine ⟨k - 1, by omega, j + 1, by omega, ?_, HB, hA⟩
      rw [htake, evalL_app, hno, evalL_cons, he, evalL_nil]
      rfl
    case yB =>
      have he1 : e = false := by simpa using hq2
      subst he1
      refine wS (wR ?_)
      revert a; (iterate 2 refine wo rfl rfl (by decide) (fun ev e h => by simp [go_sem, h, hcell, jj0, jj1] <;> rfl) ?_); intro a hA
      replace hA := hA.keepN [4]
      refine wN (nT (wp_ret (rB (rT (rT (rB (rT ?_)))))))
      refine ret_1 hA 4 rfl rfl ?_
      refine ⟨(j : Int), rfl, ?_, HB⟩
      have : evalL ks (lookF L) = false := by
        rw [← List.take_append_drop (j + 1) ks, evalL_app, htake, evalL_app, evalL_cons, he]
        simp
      rw [this, decide_eq_true jj0]
      rfl
set_option maxRecDepth 100000 in
set_option maxHeartbeats 4000000 in
theorem containsF_any (L : LookV) (ks : List KeyA) (vs : List Value) (A : Option Addr) (c pl : Nat) (w : World) (Kl : Blk w pl 90 (lookC L)) (hr : Reads w w.heap.size 1 A ks.length vs) (hvl : vs.length = ks.length) (hl : ks.length ≤ 9223372036854775807) (hk : ∀ (i : Nat) (k : KeyA) (v : Value), ks[i]? = some k → vs[i]? = some v → ∀ w', Below w.heap.size w w' → RunK L k v w') : Calls Tryz.prog 98 #[.slice A ks.length c, .func (.func 99) #[] #[.pointer (some ⟨pl, 0, none⟩)]] w fun ev w' => ev = .returned (.bool (!evalL ks (lookF L))) ∧ Below w.heap.size w w' := by
  refine calls_at 9 Tryz.func98 rfl rfl (Nat.le_of_ble_eq_true rfl) ?_
  intro a hA; replace hA := hA.norm
  refine wS (wR ?_)
  revert a; refine wo rfl rfl (by decide) (fun ev e h => by simp [go_sem, h] <;> rfl) ?_; intro a hA
  replace hA := hA.keepN [0, 1]
  refine wN (nT (wS (wR ?_)))
  revert a; (iterate 2 refine wo rfl rfl (by decide) (fun ev e h => by simp [go_sem, h] <;> rfl) ?_); intro a hA
  refine wl_call hA rfl rfl (by decide) (fun ev h => exec_call Tryz.func140 (by kernel_rfl) rfl (h.f _) (by first | (simp only [mL, h.get 5 rfl, h.get 6 rfl, h.c] <;> rfl) | (simp [mL, h.get 5 rfl, h.get 6 rfl, h.c] <;> rfl))) (indexF_any L ks vs A c pl w Kl hr hvl hl hk) ?_
  rintro e w2 ⟨i, rfl, hi, hb2⟩
  refine ⟨_, rfl, fun a hA => ?_⟩
  revert a; (iterate 2 refine wo rfl rfl (by decide) (fun ev e h => by simp [go_sem, h] <;> rfl) ?_); intro a hA
  replace hA := hA.keepN [4]
  refine wN (nT (wp_ret ?_))
  refine ret_1 hA 4 rfl rfl ?_
  refine ⟨ret_bool ?_, hb2⟩
  rw [← hi]
set_option maxRecDepth 100000 in
set_option maxHeartbeats 4000000 in
theorem run_both (L : LookV) (ks : List KeyA) (vs : List Value) (v : Value) (lo q : Nat) (w : World) (h : LookAt w L) (Kq : Blk w q 146 #[v]) (hv : w.ownsRow lo 87 1 v ks.length vs) (hk : ∀ (i : Nat) (k : KeyA) (v : Value), ks[i]? = some k → vs[i]? = some v → ∀ w', Below w.heap.size w w' → RunK L k v w') : RunK L (.both ks) (.func (.func 97) #[] #[.pointer (some ⟨q, 0, none⟩)]) w := by
  refine ⟨_, _, rfl, enters Tryz.func97 (by kernel_rfl), ?_⟩
  show Calls Tryz.prog _ #[.agg (lookC L), .pointer (some ⟨q, 0, none⟩)] w _
  rw [evalK]
  have HB := Below.refl w.heap.size w
  obtain ⟨A1, c1, rfl, hr1, hn1, hc1⟩ := own_readsM hv
  have hl : ks.length ≤ 9223372036854775807 := by unfold maxLen at hc1; omega
  have hvl : vs.length = ks.length := by have := hv.1; omega
  refine calls_at 8 Tryz.func97 rfl rfl (Nat.le_of_ble_eq_true rfl) ?_
  intro a hA; replace hA := hA.norm
  refine wS (wR ?_)
  refine wl_new hA rfl rfl (by decide) (fun ev h => by simp [go_sem, h.get 0 rfl]; try first | exact ⟨rfl, rfl⟩ | rfl) fun w1 a (K1 : Blk _ _ _ _) hz1 hb1 hA => ?_
  replace HB := HB.trans (hb1.mono HB.size)
  replace h := h.below hb1
  replace Kq := Kq.below hb1 Kq.lt
  replace hr1 := (hr1.below hb1).more hb1.size
  revert a; refine wo rfl rfl (by decide) (fun ev e h => by simp [go_sem, h, Kq.cell, K1.cell] <;> rfl) ?_; intro a hA
  replace hA := hA.keepN [1, 2]
  refine wN (nT (wS (wR ?_)))
  revert a; (iterate 2 refine wo rfl rfl (by decide) (fun ev e h => by simp [go_sem, h, Kq.cell, K1.cell] <;> rfl) ?_); intro a hA
  refine wl_call hA rfl rfl (by decide) (fun ev h => exec_call Tryz.func98 (by kernel_rfl) rfl (h.f _) (by first | (simp only [mL, h.get 4 rfl, h.get 5 rfl, h.c] <;> rfl) | (simp [mL, h.get 4 rfl, h.get 5 rfl, h.c, Kq.cell, K1.cell] <;> rfl))) (containsF_any L ks vs A1 c1 w.heap.size _ K1 hr1 hvl hl (fun i k v e1 e2 w' hb => hk i k v e1 e2 w' (HB.trans (hb.mono HB.size)))) ?_
  rintro e w2 ⟨rfl, hb2⟩
  refine ⟨_, rfl, fun a hA => ?_⟩
  replace HB := HB.trans (hb2.mono HB.size)
  replace h := h.below hb2
  replace Kq := Kq.below hb2 Kq.lt
  replace hr1 := (hr1.below hb2).more hb2.size
  revert a; (iterate 2 refine wo rfl rfl (by decide) (fun ev e h => by simp [go_sem, h, Kq.cell, K1.cell] <;> rfl) ?_); intro a hA
  replace hA := hA.keepN [3]
  refine wN (nT (wp_ret ?_))
  refine ret_1 hA 3 rfl rfl ?_
  exact ⟨ret_bool (by simp), HB⟩
/-- a key's closure answers what the key says -/
theorem run_key {lo hi : Nat} {w : World} {k : KeyA} {v : Value} (h : IsKey lo hi w k v) (L : LookV) : ∀ w', Below w.heap.size w w' → LookAt w' L → RunK L k v w' := by
  induction h with
  | never => exact fun w' _ _ => run_never L w'
  | all => exact fun w' _ _ => run_all L w'
  | field hp hq a b c d => exact fun w' hb hL => run_field L _ _ _ _ w' hL (hp.below hb hp.lt) (hq.below hb hq.lt) c d
  | body hq b d => exact fun w' hb hL => run_body L _ _ w' hL (hq.below hb hq.lt) d
  | text hq b d => exact fun w' hb hL => run_text L _ _ w' hL (hq.below hb hq.lt) d
  | larger hq b => exact fun w' hb hL => run_larger L _ _ w' hL (hq.below hb hq.lt)
  | smaller hq b => exact fun w' hb hL => run_smaller L _ _ w' hL (hq.below hb hq.lt)
  | set hp hq hv hl a b c d => exact fun w' hb hL => run_set L _ _ _ _ _ _ w' hL (hp.below hb hp.lt) (hq.below hb hq.lt) (own_below hv hb) c d
  | flag hp hq a b c => exact fun w' hb hL => run_flag L _ _ _ _ w' hL (hp.below hb hp.lt) (hq.below hb hq.lt) c
  | not hq b _ ih => exact fun w' hb hL => run_not L _ _ _ w' hL (hq.below hb hq.lt) fun w2 hb2 => ih w2 (hb.trans (hb2.mono hb.size)) (hL.below hb2)
  | or hp hq a b _ _ ih1 ih2 => exact fun w' hb hL => run_or L _ _ _ _ _ _ w' hL (hp.below hb hp.lt) (hq.below hb hq.lt) (fun w2 hb2 => ih1 w2 (hb.trans (hb2.mono hb.size)) (hL.below hb2)) (fun w2 hb2 => ih2 w2 (hb.trans (hb2.mono hb.size)) (hL.below hb2))
  | both hq b hv hl _ ih => exact fun w' hb hL => run_both L _ _ _ _ _ w' hL (hq.below hb hq.lt) (own_below hv hb) fun i k x e1 e2 w2 hb2 => ih i k x e1 e2 w2 (hb.trans (hb2.mono hb.size)) (hL.below hb2)
end Go.Proofs.YtjhaccmcjlbllaaGreatDoor
/-
  Walk: search.Find.
-/
namespace Go.Proofs.YtjhaccmcjlbllaaGreatDoor
open Go.RowKit
set_option linter.unusedSimpArgs false
set_option linter.unusedVariables false
/-- what is seen of a message -/
def seesM (ms : List MsgV) (i : Nat) (m : MsgV) : LookS := ⟨m.flags, m.b, m.uid, i, ms.length, lastUid ms⟩
def isSo (k : KeyA) (ms : List MsgV) (i : Nat) : Bool := match ms[i]? with
  | some m => evalK k (seesM ms i m)
  | none => false
/-- which messages are found -/
def findS (o : Option KeyA) (ms : List MsgV) : List Nat := match o with
  | none => []
  | some k => (List.range ms.length).filter (isSo k ms)
def natSh : Sh Nat := ⟨3, 53, 1, 8, .int .i64 0, fun x => [.int .i64 (x : Nat)], fun _ => [], fun _ => rfl, fun x u hu => by
  rw [List.mem_singleton.1 hu]
  rfl, Tryz.underlying53, by kernel_rfl, rfl, by decide, by decide⟩
set_option maxRecDepth 100000 in
set_option maxHeartbeats 4000000 in
theorem find_any (nm : ByteArray) (ep nx : Int) (A : Option Addr) (c : Nat) (ms : List MsgV) (A2 : Option Addr) (c2 : Nat) (l : List TokI) (w : World) (hms : Msgs w A ms.length ms) (hlen : ms.length ≤ 1000000) (hbig : ∀ m ∈ ms, m.b.length ≤ 1048576) (hr : RowR tokISh w A2 l) (hw : Fine w) (hl : l.length ≤ 1048576) (ht : ∀ t ∈ l, t.t.length ≤ 1048576) :
    Calls Tryz.prog 23 #[.agg #[.string nm, .int .u32 ep, .int .u32 nx, .slice A ms.length c], .slice A2 l.length c2] w fun ev w' => ∃ v, ev = .returned v ∧ OwnR natSh w.heap.size w' v (findS (readP l) ms) ∧ Below w.heap.size w w' := by
  have HB := Below.refl w.heap.size w
  refine calls_at 29 Tryz.func23 rfl rfl (Nat.le_of_ble_eq_true rfl) ?_
  intro a hA; replace hA := hA.norm
  refine wS (wR ?_)
  refine wl_new hA rfl rfl (by decide) (fun ev h => by simp [go_sem, h.get 0 rfl]; try first | exact ⟨rfl, rfl⟩ | rfl) fun w1 a (K1 : Blk _ _ _ _) hz1 hb1 hA => ?_
  replace HB := HB.trans (hb1.mono HB.size)
  replace hms := hms.below hb1
  replace hr := hr.below hb1
  replace hw := hw.below hb1
  revert a; refine wo rfl rfl (by decide) (fun ev e h => by simp [go_sem, h] <;> rfl) ?_; intro a hA
  replace hA := hA.keepN [1, 2]
  refine wN (nT (wS (wR ?_)))
  revert a; refine wo rfl rfl (by decide) (fun ev e h => by simp [go_sem, h] <;> rfl) ?_; intro a hA
  refine wl_call hA rfl rfl (by decide) (fun ev h => exec_call Tryz.func45 (by kernel_rfl) rfl (h.f _) (by first | (simp only [mL, h.get 8 rfl, h.c] <;> rfl) | (simp [mL, h.get 8 rfl, h.c] <;> rfl))) (read_any A2 c2 l _ hr hw hl ht) ?_
  rintro e w2 ⟨v, rfl, hb2, hP⟩
  refine ⟨_, rfl, fun a hA => ?_⟩
  replace HB := HB.trans (hb2.mono HB.size)
  replace hms := hms.below hb2
  replace hw := hw.below hb2
  replace K1 := K1.below hb2 K1.lt
  cases hk : readP l with
  | none =>
    rw [hk] at hP
    have hP : v = .nilFunc := hP
    subst hP
    revert a; refine wo rfl rfl (by decide) (fun ev e h => by simp [go_sem, h] <;> rfl) ?_; intro a hA
    replace hA := hA.keepN [2, 5]
    refine wN (nT (wS (wS (wR ?_))))
    revert a; (iterate 2 refine wo rfl rfl (by decide) (fun ev e h => by simp [go_sem, h] <;> rfl) ?_); intro a hA
    replace hA := hA.keepN [2, 5, 11]
    refine wN (nT ?_)
    refine wp_if hA 11 _ rfl (fun hq => ?yA) (fun hq => ?nA)
    case nA => cases hq
    case yA =>
      refine wS (wR ?_)
      revert a; refine wo rfl rfl (by decide) (fun ev e h => by simp [go_sem, h] <;> rfl) ?_; intro a hA
      replace hA := hA.keepN [4]
      refine wN (nT (wp_ret (rT ?_)))
      refine ret_1 hA 4 rfl rfl ?_
      exact ⟨_, rfl, OwnR.nil _ _, HB⟩
  | some k =>
    rw [hk] at hP
    obtain ⟨⟨f0, a0, c0, rfl⟩, hK⟩ := hP
    revert a; refine wo rfl rfl (by decide) (fun ev e h => by simp [go_sem, h] <;> rfl) ?_; intro a hA
    replace hA := hA.keepN [2, 5]
    refine wN (nT (wS (wS (wR ?_))))
    revert a; (iterate 2 refine wo rfl rfl (by decide) (fun ev e h => by simp [go_sem, h] <;> rfl) ?_); intro a hA
    replace hA := hA.keepN [2, 5, 11]
    refine wN (nT ?_)
    refine wp_if hA 11 _ rfl (fun hq => ?yA) (fun hq => ?nA)
    case yA => cases hq
    case nA =>
      refine wp_skip (nT (wS (wR ?_)))
      revert a; refine wo rfl rfl (by decide) (fun ev e h => by simp [go_sem, h, K1.cell] <;> rfl) ?_; intro a hA
      replace hA := hA.keepN [2, 5, 6]
      refine wN (nT (wS (wS (wR ?_))))
      revert a; (iterate 4 refine wo rfl rfl (by decide) (fun ev e h => by simp [go_sem, h, K1.cell] <;> rfl) ?_); intro a hA
      replace hA := hA.keepN [2, 5, 6, 14, 15]
      refine wN (nT (wB ?_))
      refine wp_loop_at (fun f a wx => ∃ (j : Nat) (V : Value), j + f = ms.length ∧ OwnR natSh w2.heap.size wx V ((List.range j).filter (isSo k ms)) ∧ Below w2.heap.size w2 wx ∧ At 29 [(2, .pointer (some ⟨w.heap.size, 0, none⟩)), (5, .func f0 a0 c0), (6, V), (14, .int .i64 (ms.length : Nat)), (15, .int .i64 (j : Nat))] a) (ms.length) ?_ ?_
      · exact ⟨0, _, by omega, OwnR.nil _ _, Below.refl _ _, hA⟩
      clear hA
      rintro f a wx ⟨j, V, hjf, ho, HB2, hA⟩
      refine wS (wR ?_)
      revert a; refine wo rfl rfl (by decide) (fun ev e h => by simp [go_sem, h] <;> rfl) ?_; intro a hA
      replace hA := hA.keepN [2, 5, 6, 14, 15, 16]
      refine wN (nT (wS ?_))
      refine wp_if hA 16 _ rfl (fun hq2 => ?yB) (fun hq2 => ?nB)
      case nB =>
        have hjn : j = ms.length := by simp at hq2; omega
        subst hjn
        replace hA := hA.keepN [6]
        refine wp_exit (xT (xT (xB (nT (wS (wR ?_))))))
        revert a; (iterate 2 refine wo rfl rfl (by decide) (fun ev e h => by simp [go_sem, h] <;> rfl) ?_); intro a hA
        replace hA := hA.keepN [4]
        refine wN (nT (wp_ret ?_))
        refine ret_1 hA 4 rfl rfl ?_
        exact ⟨V, rfl, ho.mono HB.size, HB.trans (HB2.mono HB.size)⟩
      case yB =>
        have hjn : j < ms.length := by simp at hq2; omega
        obtain ⟨m, hm⟩ : ∃ m, ms[j]? = some m := ⟨_, List.getElem?_eq_getElem hjn⟩
        have hLA : ∀ w', Below w2.heap.size w2 w' → LookAt w' ⟨nm, ep, nx, A, c, ms, j, m⟩ := fun w' hb => ⟨hms.below hb, hm, hlen, hbig m (List.mem_of_getElem? hm), (hw.below hb).len⟩
        have hRK := run_key hK ⟨nm, ep, nx, A, c, ms, j, m⟩
        obtain ⟨F, caps, hF, hcf, -⟩ := hRK wx HB2 (hLA wx HB2)
        injection hF with hF1 hF2 hF3
        subst hF1 hF2 hF3
        have Kx := K1.below HB2 K1.lt
        have i3 : IntKind.i64.wrap (((j : Nat) : Int) + 1) = ((j + 1 : Nat) : Int) := by rw [IntWalk.i64_in _ (by omega)]; omega
        refine wp_skip (nT (wS (wB (wS (wR ?_)))))
        revert a; (iterate 2 refine wo rfl rfl (by decide) (fun ev e h => by simp [go_sem, h, Kx.cell, hcf _ _] <;> rfl) ?_); intro a hA
        replace hA := hA.keepN [2, 5, 6, 7, 14, 15]
        refine wN (nT (wS (wR ?_)))
        revert a; (iterate 4 refine wo rfl rfl (by decide) (fun ev e h => by simp [go_sem, h, Kx.cell, hcf _ _] <;> rfl) ?_); intro a hA
        refine wl_call hA rfl rfl (by decide) (fun ev h => by simp [go_sem, h.get 18 rfl, h.get 21 rfl, Kx.cell, hcf _ _]; try first | exact ⟨rfl, rfl⟩ | rfl) ((hRK wx HB2 (hLA wx HB2)).calls) ?_
        rintro e w3 ⟨rfl, hb3⟩
        refine ⟨_, rfl, fun a hA => ?_⟩
        obtain ⟨e, he⟩ : ∃ e, evalK k (lookF ⟨nm, ep, nx, A, c, ms, j, m⟩) = e := ⟨_, rfl⟩
        rw [he] at hA
        have hso : isSo k ms j = e := by
          unfold isSo
          rw [hm]
          exact he
        have hz := HB.size
        have hz2 := HB2.size
        have HB3 := HB2.trans (hb3.mono HB2.size)
        have ho3 := ho.below hb3
        have hz3 := hb3.size
        have hfl : ((List.range j).filter (isSo k ms)).length ≤ j := by
          have := List.length_filter_le (isSo k ms) (List.range j)
          rw [List.length_range] at this
          exact this
        replace hA := hA.keepN [2, 5, 6, 7, 14, 15, 22]
        refine wN (nT ?_)
        refine wp_if hA 22 _ rfl (fun hq3 => ?yC) (fun hq3 => ?nC)
        case nC =>
          have he1 : e = false := by simpa using hq3
          subst he1
          refine wp_skip (nB (nT (wR ?_)))
          revert a; (iterate 2 refine wo rfl rfl (by decide) (fun ev e h => by simp [go_sem, h, i3] <;> rfl) ?_); intro a hA
          replace hA := hA.keepN [2, 5, 6, 14, 15]
          refine wN (nT ?_)
          refine ⟨f - 1, by omega, j + 1, V, by omega, ?_, HB3, hA⟩
          rw [List.range_succ, List.filter_append]
          simpa [hso] using ho3
        case yC =>
          have he1 : e = true := by simpa using hq3
          subst he1
          refine wR ?_
          revert a; (iterate 2 refine wo rfl rfl (by decide) (fun ev e h => by simp [go_sem, h, Kx.cell, hcf _ _] <;> rfl) ?_); intro a hA
          refine wl_new hA rfl rfl (by decide) (fun ev h => by simp [go_sem, h.get 24 rfl, Kx.cell, hcf _ _]; try first | exact ⟨rfl, rfl⟩ | rfl) fun w4 a (K4 : Blk _ _ _ _) hz4 hb4 hA => ?_
          have hrow : RowR natSh w4 _ [j] := rowR_blk (s := natSh) (x := j) K4 (fun p hp => (by cases hp))
          obtain ⟨r, w5, hrun, ho5, hg5, -⟩ := run_appR (c := 1) (ho3.below hb4) hrow (fun _ _ m _ p hp => (by cases hp)) (by simp; omega) (by omega)
          refine wl_op hA rfl rfl (by decide) (fun ev h => exec_append rfl (h.get 23 rfl) (h.get 25 rfl) hrun) fun a hA => ?_
          revert a; refine wo rfl rfl (by decide) (fun ev e h => by simp [go_sem, h, i3] <;> rfl) ?_; intro a hA
          replace hA := hA.keepN [2, 5, 6, 14, 15]
          refine wN (nB (nT (wR ?_)))
          revert a; (iterate 2 refine wo rfl rfl (by decide) (fun ev e h => by simp [go_sem, h, i3] <;> rfl) ?_); intro a hA
          replace hA := hA.keepN [2, 5, 6, 14, 15]
          refine wN (nT ?_)
          refine ⟨f - 1, by omega, j + 1, r, by omega, ?_, ?_, hA⟩
          · rw [List.range_succ, List.filter_append]
            simpa [hso] using ho5
          · exact (HB3.trans (hb4.mono HB3.size)).grown hg5 (by omega) fun g e => (ho3.row.lt g e).1
end Go.Proofs.YtjhaccmcjlbllaaGreatDoor
/-
  New memory, under a guard that is known.
-/
namespace Go.Proofs.YtjhaccmcjlbllaaGreatDoor
open Go Go.RowKit
/-- new memory, under a guard that is so -/
theorem wl_gnew {P : Program} {Q : Exit → Act → World → Prop} {a : Act} {w : World} {n : Nat} {Γ : Env} {l rest : List Oper} {o : Oper} {t gi gt : Nat} {b : Bool} {v : Value} {x : Obj} (hA : At n Γ a) (hg : o.guard = some (gi, b)) (hgd : (l[gi]?).bind (·.dst) = some gt) (hl : look Γ gt = some (.bool b)) (hd : o.dst = some t) (ht : t < n)
    (hrun : ∀ ev, EvIn Γ ev → (execOp ev o).run P w = .ok (.value v) (w.alloc x))
    (hk : ∀ w1 a', w1.heap[w.heap.size]? = some x → w1.heap.size = w.heap.size + 1 → Below w.heap.size w w1 → At n ((t, v) :: Γ) a' → wpList P l.toArray Q rest a' w1) : wpList P l.toArray Q (o :: rest) a w := by
  have hw : Region.wanted o (yielded l.toArray a.tmps) = true := by
    rw [wanted_eq]
    exact wanted_bool (r := true) hg hgd (hA.evin.get gt hl) (by cases b <;> rfl)
  refine wpList_step fun K hK => ?_
  rw [hw, if_pos rfl]
  unfold Oper.wp
  rw [hrun _ hA.evin, Oper.upon_value, hd]
  exact hK _ _ (hk _ _ (heap_alloc_new w x) (by simp) ((Below.refl _ _).alloc (Nat.le_refl _) x) (hA.put ht v))
/-- a call under a guard that is so -/
theorem wl_kcall {P : Program} {Q : Exit → Act → World → Prop} {a : Act} {w : World} {n : Nat} {Γ : Env} {l rest : List Oper} {o : Oper} {t gi gt : Nat} {b : Bool} {f : FuncId} {args : Array Value} {R : Ending → World → Prop} (hA : At n Γ a) (hg : o.guard = some (gi, b)) (hgd : (l[gi]?).bind (·.dst) = some gt) (hl : look Γ gt = some (.bool b)) (hd : o.dst = some t) (ht : t < n)
    (hrun : ∀ ev, EvIn Γ ev → (execOp ev o).run P w = .ok (.enter f args) w) (hc : Calls P f args w R)
    (hk : ∀ e w', R e w' → ∃ v, e = .returned v ∧ ∀ a', At n ((t, v) :: Γ) a' → wpList P l.toArray Q rest a' w') : wpList P l.toArray Q (o :: rest) a w := by
  have hw : Region.wanted o (yielded l.toArray a.tmps) = true := by
    rw [wanted_eq]
    exact wanted_bool (r := true) hg hgd (hA.evin.get gt hl) (by cases b <;> rfl)
  refine wpList_step fun K hK => ?_
  rw [hw, if_pos rfl]
  unfold Oper.wp
  rw [hrun _ hA.evin, Oper.upon_enter]
  refine Calls.mono hc fun e w' hR => ?_
  obtain ⟨v, rfl, h⟩ := hk e w' hR
  rw [hd]
  exact hK _ _ (h _ (hA.put ht v))
end Go.Proofs.YtjhaccmcjlbllaaGreatDoor
/-
  Walks: what the statements on searches ask first.
-/
namespace Go.Proofs.YtjhaccmcjlbllaaGreatDoor
open Go.RowKit
set_option linter.unusedSimpArgs false
set_option linter.unusedVariables false
def tALL : TokI := ⟨1, [97, 108, 108]⟩
theorem read_all : readP [tALL] = some (.both [.all]) := by kernel_rfl
def zMsg : MsgV := ⟨0, 0, 0, none, 0, []⟩
theorem find_all : findS (some (.both [.all])) [zMsg, zMsg] = [0, 1] := by
  have e : ∀ i, isSo (.both [.all]) [zMsg, zMsg] i = (([zMsg, zMsg] : List MsgV)[i]?).isSome := fun i => by
    unfold isSo
    cases ([zMsg, zMsg] : List MsgV)[i]? with
    | none => rfl
    | some m => show evalK _ _ = true; rw [evalK, evalL, evalK, evalL]; rfl
  unfold findS
  simp only
  rw [show (List.range ([zMsg, zMsg] : List MsgV).length) = [0, 1] from rfl]
  simp [e]
theorem reads_none8 (w : World) : Reads w w.heap.size 1 none 0 (u8s []) := Reads.none8
set_option maxRecDepth 100000 in
set_option maxHeartbeats 4000000 in
theorem awake17_any (w : World) (hw : Fine w) : Calls Tryz.prog 19 #[] w fun ev w' => ev = .returned (.bool true) ∧ Below w.heap.size w w' := by
  have HB := Below.refl w.heap.size w
  refine calls_at 14 Tryz.func19 rfl rfl (Nat.le_of_ble_eq_true rfl) ?_
  intro a hA; replace hA := hA.norm
  refine wS (wR ?_)
  revert a; refine wo rfl rfl (by decide) (fun ev e h => by simp [go_sem, h] <;> rfl) ?_; intro a hA
  replace hA := hA.keepN []
  refine wN (nT (wS (wR ?_)))
  revert a; refine wo rfl rfl (by decide) (fun ev e h => by simp [go_sem, h] <;> rfl) ?_; intro a hA
  refine wl_new hA rfl rfl (by decide) (fun ev h => by simp [go_sem, h.get 2 rfl]; try first | exact ⟨rfl, rfl⟩ | rfl) fun w1 a (K1 : Blk _ _ _ _) hz1 hb1 hA => ?_
  replace HB := HB.trans (hb1.mono HB.size)
  replace hw := hw.below hb1
  have hrow : RowR tokISh w1 _ [tALL] := rowR_blk (s := tokISh) (x := tALL) K1 (fun p hp => (by cases hp))
  revert a; refine wo rfl rfl (by decide) (fun ev e h => by simp [go_sem, h] <;> rfl) ?_; intro a hA
  replace hA := hA.keepN [1]
  refine wN (nT (wS (wR ?_)))
  revert a; refine wo rfl rfl (by decide) (fun ev e h => by simp [go_sem, h] <;> rfl) ?_; intro a hA
  refine wl_call hA rfl rfl (by decide) (fun ev h => exec_call Tryz.func25 (by kernel_rfl) rfl (h.f _) (by first | (simp only [mL, h.get 4 rfl, h.c] <;> rfl) | (simp [mL, h.get 4 rfl, h.c] <;> rfl))) (right_any _ 1 [tALL] _ hrow hw (by decide) (by intro t h; rw [List.mem_singleton.1 h]; decide)) ?_
  rintro e w2 ⟨rfl, hb2⟩
  refine ⟨_, rfl, fun a hA => ?_⟩
  replace HB := HB.trans (hb2.mono HB.size)
  replace hw := hw.below hb2
  replace hrow := hrow.below hb2
  rw [read_all] at hA
  revert a; refine wo rfl rfl (by decide) (fun ev e h => by simp [go_sem, h] <;> rfl) ?_; intro a hA
  refine wl_gnew hA rfl rfl rfl rfl (by decide) (fun ev h => by simp [go_sem, h.c]; try first | exact ⟨rfl, rfl⟩ | rfl) fun w3 a (K3 : Blk _ _ _ _) hz3 hb3 hA => ?_
  replace HB := HB.trans (hb3.mono HB.size)
  replace hw := hw.below hb3
  replace hrow := hrow.below hb3
  have hms : Msgs w3 (some ⟨w2.heap.size, 0, none⟩) 2 [zMsg, zMsg] := by
    have K3' : Blk w3 w2.heap.size 25 ([zMsg, zMsg].flatMap msgC).toArray := (show (_ : Array Value) = _ from by kernel_rfl : Array.map _ _ = ([zMsg, zMsg].flatMap msgC).toArray) ▸ K3
    refine ⟨rfl, ⟨rfl, fun _ => ⟨_, rfl, K3'.lt, fun j u hu => ?_⟩⟩, fun m hm => ?_, fun m hm => ?_, fun m hm => ?_⟩
    · rw [add0]
      exact (K3'.cell j).trans (by simpa using hu)
    · have : m = zMsg := by simpa using hm
      subst this
      exact Reads.none8
    · have : m = zMsg := by simpa using hm
      subst this
      decide
    · have : m = zMsg := by simpa using hm
      subst this
      decide
  have hzb : ∀ m ∈ [zMsg, zMsg], m.b.length ≤ 1048576 := by
    intro m hm
    have : m = zMsg := by simpa using hm
    subst this
    decide
  revert a; (iterate 2 refine wg _ rfl rfl rfl rfl (by decide) (fun hq ev e h => by simp [go_sem, h, ↓gw_t (beq_t hq)] <;> rfl) ?_); intro a hA
  refine wl_kcall hA rfl rfl rfl rfl (by decide) (fun ev h => exec_call Tryz.func23 (by kernel_rfl) rfl (h.f _) (by first | (simp only [mL, h.get 8 rfl, h.get 9 rfl, h.c] <;> rfl) | (simp [mL, h.get 8 rfl, h.get 9 rfl, h.c] <;> rfl))) (find_any ⟨#[]⟩ 0 0 (some ⟨w2.heap.size, 0, none⟩) 2 [zMsg, zMsg] _ 1 [tALL] _ hms (by decide) hzb hrow hw (by decide) (by intro t h; rw [List.mem_singleton.1 h]; decide)) ?_
  rintro e w4 ⟨v, rfl, ho, hb4⟩
  refine ⟨_, rfl, fun a hA => ?_⟩
  replace HB := HB.trans (hb4.mono HB.size)
  replace hw := hw.below hb4
  replace hrow := hrow.below hb4
  rw [read_all, find_all] at ho
  obtain ⟨A4, c4, rfl, -, -⟩ := ho.reads
  revert a; (iterate 2 refine wg _ rfl rfl rfl rfl (by decide) (fun hq ev e h => by simp [go_sem, h, ↓gw_t (beq_t hq)] <;> rfl) ?_); refine wka rfl rfl (by decide) rfl rfl rfl ?_; refine wo rfl rfl (by decide) (fun ev e h => by simp [go_sem, h] <;> rfl) ?_; intro a hA
  replace hA := hA.keepN [0]
  refine wN (nT (wp_ret ?_))
  refine ret_1 hA 0 rfl rfl ?_
  exact ⟨rfl, HB⟩
end Go.Proofs.YtjhaccmcjlbllaaGreatDoor
/-
  Walk: the statement on deep keys.
-/
namespace Go.Proofs.YtjhaccmcjlbllaaGreatDoor
open Go.RowKit
set_option linter.unusedSimpArgs false
set_option linter.unusedVariables false
set_option maxRecDepth 100000 in
set_option maxHeartbeats 4000000 in
theorem atom_any (s : ByteArray) (w : World) : Calls Tryz.prog 26 #[.string s] w fun ev w' => ev = .returned (.agg #[.int .i64 1, .string s]) ∧ Below w.heap.size w w' := by
  have HB := Below.refl w.heap.size w
  refine calls_at 5 Tryz.func26 rfl rfl (Nat.le_of_ble_eq_true rfl) ?_
  intro a hA; replace hA := hA.norm
  refine wS (wR ?_)
  refine wl_new hA rfl rfl (by decide) (fun ev h => by simp [go_sem]; try first | exact ⟨rfl, rfl⟩ | rfl) fun w1 a (K1 : Blk _ _ _ _) hz1 hb1 hA => ?_
  replace HB := HB.trans (hb1.mono HB.size)
  replace hA := hA.keepN [0, 2]
  refine wN (nT (wS (wR ?_)))
  revert a; (iterate 2 refine wo rfl rfl (by decide) (fun ev e h => by simp [go_sem, h] <;> rfl) ?_); intro a hA
  refine wl_set [.int .i64 1, .string s] hA rfl rfl K1 (by rfl) (fun ev h => by simp [go_sem, h.get 2 rfl, h.get 4 rfl, setAll, K1.cell, K1.frozen]) fun w2 (K1 : Blk _ _ _ _) hs2 => ?_
  replace HB := hs2.below HB (by omega)
  replace hA := hA.keepN [2]
  refine wN (nT (wp_ret ?_))
  refine bodyPost_ret (by simp [results, Tryz.results26, go_sem, hA.env 2 _ rfl, K1.cell]; try first | exact ⟨rfl, rfl⟩ | rfl) hA.defers ?_
  exact ⟨rfl, HB⟩
def tNOT : TokI := ⟨1, [78, 79, 84]⟩
def tAll : TokI := ⟨1, [65, 76, 76]⟩
def nots (m : Nat) : List TokI := List.replicate m tNOT
theorem deep_all : ∀ m : Fin 20, (readP (nots m.1 ++ [tAll])).isSome = decide (m.1 < 10) := by decide +kernel
theorem read_nil : readP [] = none := by kernel_rfl
theorem nots_succ (m : Nat) : nots (m + 1) = nots m ++ [tNOT] := List.replicate_succ'
theorem nots_tok (m : Nat) : ∀ t ∈ nots m ++ [tAll], t.t.length ≤ 1048576 := by
  intro t h
  rcases List.mem_append.1 h with h | h
  · rw [(List.mem_replicate.1 h).2]; decide
  · rw [List.mem_singleton.1 h]; decide
set_option maxRecDepth 100000 in
set_option maxHeartbeats 4000000 in
theorem deep_law (n : Nat) (hn : n < 256) (w : World) (hw : Fine w) : Calls Tryz.prog 6 #[.int .u8 (n : Nat)] w fun ev w' => ev = .returned (.bool true) ∧ Below w.heap.size w w' := by
  obtain ⟨m, hm⟩ : ∃ m, n % 20 = m := ⟨_, rfl⟩
  have hm20 : m < 20 := by omega
  have hrem : (n : Int).tmod 20 = ((m : Nat) : Int) := by rw [Int.tmod_eq_emod_of_nonneg (by omega)]; omega
  have i8 : IntKind.u8.wrap ((m : Nat) : Int) = ((m : Nat) : Int) := by rw [IntWalk.u8_in _ (by omega)]
  have i64 : IntKind.i64.wrap ((m : Nat) : Int) = ((m : Nat) : Int) := by rw [IntWalk.i64_in _ (by omega)]
  have HB := Below.refl w.heap.size w
  have hw0 := hw
  refine calls_at 29 Tryz.func6 rfl rfl (Nat.le_of_ble_eq_true rfl) ?_
  intro a hA; replace hA := hA.norm
  refine wS (wR ?_)
  revert a; refine wo rfl rfl (by decide) (fun ev e h => by simp [go_sem, h] <;> rfl) ?_; intro a hA
  replace hA := hA.keepN [0]
  refine wN (nT (wS (wS (wR ?_))))
  refine wl_call hA rfl rfl (by decide) (fun ev h => exec_call Tryz.func19 (by kernel_rfl) rfl (h.f _) (by first | (simp only [mL, h.c] <;> rfl) | (simp [mL, h.c] <;> rfl))) (awake17_any w hw) ?_
  rintro e w1 ⟨rfl, hb1⟩
  refine ⟨_, rfl, fun a hA => ?_⟩
  replace HB := HB.trans (hb1.mono HB.size)
  replace hw := hw.below hb1
  revert a; refine wo rfl rfl (by decide) (fun ev e h => by simp [go_sem, h] <;> rfl) ?_; intro a hA
  replace hA := hA.keepN [0, 5]
  refine wN (nT ?_)
  refine wp_if hA 5 _ rfl (fun hq => ?yA) (fun hq => ?nA)
  case yA => cases hq
  case nA =>
    refine wp_skip (nT (wS (wR ?_)))
    revert a; refine wo rfl rfl (by decide) (fun ev e h => by simp [go_sem, h, hrem, i8, i64] <;> rfl) ?_; intro a hA
    replace hA := hA.keepN [0, 3]
    refine wN (nT (wS (wS (wR ?_))))
    revert a; (iterate 2 refine wo rfl rfl (by decide) (fun ev e h => by simp [go_sem, h, hrem, i8, i64] <;> rfl) ?_); intro a hA
    refine wl_op hA rfl rfl (by decide) (fun ev h => by simp [go_sem, h.get 7 rfl, hrem, i8, i64]; try first | exact ⟨rfl, rfl⟩ | rfl) fun a hA => ?_
    revert a; refine wo rfl rfl (by decide) (fun ev e h => by simp [go_sem, h, hrem, i8, i64] <;> rfl) ?_; intro a hA
    replace hA := hA.keepN [0, 3, 8, 9]
    refine wN (nT (wB ?_))
    refine wp_loop_at (fun f a wx => ∃ (j : Nat) (V : Value), j + f = m ∧ OwnR tokISh w.heap.size wx V (nots j) ∧ Below w.heap.size w wx ∧ At 29 [(0, .int .u8 (n : Nat)), (3, V), (8, .int .i64 (m : Nat)), (9, .int .i64 (j : Nat))] a) (m) ?_ ?_
    · exact ⟨0, _, by omega, OwnR.nil _ _, HB, hA⟩
    clear hA HB
    rintro f a wx ⟨j, V, hjf, ho, HB, hA⟩
    refine wS (wR ?_)
    revert a; refine wo rfl rfl (by decide) (fun ev e h => by simp [go_sem, h] <;> rfl) ?_; intro a hA
    replace hA := hA.keepN [0, 3, 8, 9, 10]
    refine wN (nT (wS ?_))
    refine wp_if hA 10 _ rfl (fun hq2 => ?yB) (fun hq2 => ?nB)
    case nB =>
      have hjm : j = m := by simp at hq2; omega
      subst hjm
      replace hA := hA.keepN [0, 3]
      refine wp_exit (xT (xT (xB (nT (wS (wR ?_))))))
      revert a; refine wo rfl rfl (by decide) (fun ev e h => by simp [go_sem, h] <;> rfl) ?_; intro a hA
      refine wl_call hA rfl rfl (by decide) (fun ev h => exec_call Tryz.func26 (by kernel_rfl) rfl (h.f _) (by first | (simp only [mL, h.c] <;> rfl) | (simp [mL, h.c] <;> rfl))) (atom_any _ _) ?_
      rintro e w2 ⟨rfl, hb2⟩
      refine ⟨_, rfl, fun a hA => ?_⟩
      replace HB := HB.trans (hb2.mono HB.size)
      replace ho := ho.below hb2
      refine wl_new hA rfl rfl (by decide) (fun ev h => by simp [go_sem, h.get 17 rfl]; try first | exact ⟨rfl, rfl⟩ | rfl) fun w3 a (K3 : Blk _ _ _ _) hz3 hb3 hA => ?_
      replace HB := HB.trans (hb3.mono HB.size)
      replace ho := ho.below hb3
      have hrow : RowR tokISh w3 _ [tAll] := rowR_blk (s := tokISh) (x := tAll) K3 (fun p hp => (by cases hp))
      obtain ⟨r, w4, hrun, ho4, hg4, -⟩ := run_appR (c := 1) ho hrow (fun _ _ m _ p hp => (by cases hp)) (by simp [nots]; omega) HB.size
      refine wl_op hA rfl rfl (by decide) (fun ev h => exec_append rfl (h.get 16 rfl) (h.get 18 rfl) hrun) fun a hA => ?_
      obtain ⟨A4, c4, rfl, hr4, -⟩ := ho4.reads
      replace HB := HB.grown hg4 HB.size fun g e => (ho.row.lt g e).1
      have hl4 : (nots j ++ [tAll]).length ≤ 1048576 := by simp [nots]; omega
      have hd := deep_all ⟨j, hm20⟩
      simp only at hd
      obtain ⟨q, hq9⟩ : ∃ q, (readP (nots j ++ [tAll])).isSome = q := ⟨_, rfl⟩
      refine wl_call hA rfl rfl (by decide) (fun ev h => exec_call Tryz.func25 (by kernel_rfl) rfl (h.f _) (by first | (simp only [mL, h.get 19 rfl, h.c] <;> rfl) | (simp [mL, h.get 19 rfl, h.c] <;> rfl))) (right_any A4 c4 (nots j ++ [tAll]) _ hr4 (hw0.below HB) hl4 (nots_tok j)) ?_
      rintro e w5 ⟨rfl, hb5⟩
      refine ⟨_, rfl, fun a hA => ?_⟩
      replace HB := HB.trans (hb5.mono HB.size)
      rw [hq9] at hA hd
      revert a; (iterate 5 refine wo rfl rfl (by decide) (fun ev e h => by simp [go_sem, h, hrem, i8] <;> rfl) ?_); intro a hA
      refine wl_gcallv _ hA rfl rfl rfl rfl (by decide) (fun hq ev h => exec_call Tryz.func25 (by kernel_rfl) rfl (h.f _) (by first | (simp only [mL, h.c] <;> rfl) | (simp [mL, h.c, hrem, i8] <;> rfl))) (fun hq => right_any none 0 [] _ (RowR.nil none) (hw0.below HB) (by decide) (by intro t h; cases h)) fun a w6 hb6 hA => ?_
      replace HB := HB.trans (hb6.mono HB.size)
      rw [read_nil] at hA
      revert a; refine wg _ rfl rfl rfl rfl (by decide) (fun hq ev e h => by simp [go_sem, h, ↓gw_t (beq_t hq), hrem, i8] <;> rfl) ?_; refine wka rfl rfl (by decide) rfl rfl rfl ?_; refine wo rfl rfl (by decide) (fun ev e h => by simp [go_sem, h, hrem, i8] <;> rfl) ?_; intro a hA
      replace hA := hA.keepN [2]
      refine wN (nT (wp_ret ?_))
      refine ret_1 hA 2 rfl rfl ?_
      refine ⟨ret_bool ?_, HB⟩
      rw [hd, show decide ((j : Int) < 10) = decide (j < 10) from decide_eq_decide.2 (by omega)]
      simp
    case yB =>
      have hjm : j < m := by simp at hq2; omega
      have i3 : IntKind.i64.wrap (((j : Nat) : Int) + 1) = ((j + 1 : Nat) : Int) := by rw [IntWalk.i64_in _ (by omega)]; omega
      refine wp_skip (nT (wS (wB (wR ?_))))
      revert a; refine wo rfl rfl (by decide) (fun ev e h => by simp [go_sem, h] <;> rfl) ?_; intro a hA
      refine wl_call hA rfl rfl (by decide) (fun ev h => exec_call Tryz.func26 (by kernel_rfl) rfl (h.f _) (by first | (simp only [mL, h.c] <;> rfl) | (simp [mL, h.c] <;> rfl))) (atom_any _ _) ?_
      rintro e w2 ⟨rfl, hb2⟩
      refine ⟨_, rfl, fun a hA => ?_⟩
      replace HB := HB.trans (hb2.mono HB.size)
      replace ho := ho.below hb2
      refine wl_new hA rfl rfl (by decide) (fun ev h => by simp [go_sem, h.get 12 rfl]; try first | exact ⟨rfl, rfl⟩ | rfl) fun w3 a (K3 : Blk _ _ _ _) hz3 hb3 hA => ?_
      replace HB := HB.trans (hb3.mono HB.size)
      replace ho := ho.below hb3
      have hrow : RowR tokISh w3 _ [tNOT] := rowR_blk (s := tokISh) (x := tNOT) K3 (fun p hp => (by cases hp))
      obtain ⟨r, w4, hrun, ho4, hg4, -⟩ := run_appR (c := 1) ho hrow (fun _ _ m _ p hp => (by cases hp)) (by simp [nots]; omega) HB.size
      refine wl_op hA rfl rfl (by decide) (fun ev h => exec_append rfl (h.get 11 rfl) (h.get 13 rfl) hrun) fun a hA => ?_
      have HB4 := HB.grown hg4 HB.size fun g e => (ho.row.lt g e).1
      revert a; refine wo rfl rfl (by decide) (fun ev e h => by simp [go_sem, h, i3] <;> rfl) ?_; intro a hA
      replace hA := hA.keepN [0, 3, 8, 9]
      refine wN (nB (nT (wR ?_)))
      revert a; (iterate 2 refine wo rfl rfl (by decide) (fun ev e h => by simp [go_sem, h, i3] <;> rfl) ?_); intro a hA
      replace hA := hA.keepN [0, 3, 8, 9]
      refine wN (nT ?_)
      refine ⟨f - 1, by omega, j + 1, r, by omega, by rw [nots_succ]; exact ho4, HB4, hA⟩
end Go.Proofs.YtjhaccmcjlbllaaGreatDoor
/-
  What a row says of the first world: what the walks of seqset and search need.
-/
namespace Go.Proofs.YtjhaccmcjlbllaaGreatDoor
open Go.RowKit
theorem tabF_met {l : List (String × DataW Unit)} {W : World} (h : laidMetH Tryz.prog l W) (hl : l.filter (fun x => x.1 == "internal/strconv.uint64pow10") = [("internal/strconv.uint64pow10", Lib.tabData .u64 Lib.pow10Tab)]) :
    Lib.TabIs Tryz.prog W "internal/strconv.uint64pow10" .u64 Lib.pow10Tab := by
  have h1 := laidMetH.filter (fun x => x.1 == "internal/strconv.uint64pow10") h
  rw [hl, MakeChecks.laidMetH_plain _ _ _ (by kernel_rfl)] at h1
  exact Lib.tabIs_of_head (g := 1) (t := 200) (e := 35) (n := 20) (by kernel_rfl) (by kernel_rfl) Tryz.underlying200 Tryz.underlying35 (by kernel_rfl) (by kernel_rfl) h1
theorem star_eq : "*" ++ "errors.errorString" = "*errors.errorString" := by decide
theorem err_row (u : TypeId) (h : Tryz.prog.typeName? 3 u = some "*errors.errorString") : u = 248 :=
  typeName_ptr_named (nm := "errors.errorString") (by rw [star_eq]; kernel_rfl) (by kernel_rfl) (by decide) u (by rw [star_eq]; exact h)
theorem err_met {l : List (String × DataW Unit)} {W : World} (n : String) (text : List UInt8) (g : Nat) (h : laidMetH Tryz.prog l W) (hl : l.filter (fun x => x.1 == n) = [(n, .iface "*errors.errorString" (.ptr (.agg [.lit (.string text)])))])
    (hp : ([(n, (.iface "*errors.errorString" (.ptr (.agg [.lit (.string text)])) : DataW Unit))].all fun x => x.2.handleName?.isNone) = true)
    (hg : Tryz.prog.globalNamed n = some g) (ht : (Tryz.prog.globals[g]?).map (·.type) = some 119) : ∃ ev, W.cell? ⟨g, 0, none⟩ = some ev ∧ (ev = .nilIface ∨ ∃ te pe, ev = .iface te pe) := by
  have h1 := laidMetH.filter (fun x => x.1 == n) h
  rw [hl, MakeChecks.laidMetH_plain _ _ _ hp] at h1
  obtain ⟨a, s, hv, _⟩ := laid_sentinel h1 hg ht Tryz.underlying119 err_row Tryz.underlying248 Tryz.underlying250 rfl rfl Tryz.underlying9 (by kernel_rfl) (by kernel_rfl)
  exact ⟨_, by simpa using World.var?_cell hg hv 0, .inr ⟨_, _, rfl⟩⟩
theorem fine_met {l : List (String × DataW Unit)} {W : World} (h : laidMetH Tryz.prog l W) (hsh : W.ShapedOpen Tryz.prog)
    (hl : l.filter (fun x => x.1 == "internal/strconv.uint64pow10") = [("internal/strconv.uint64pow10", Lib.tabData .u64 Lib.pow10Tab)])
    (h5 : l.filter (fun x => x.1 == "strconv.ErrSyntax") = [("strconv.ErrSyntax", .iface "*errors.errorString" (.ptr (.agg [.lit (.string [105, 110, 118, 97, 108, 105, 100, 32, 115, 121, 110, 116, 97, 120])])))])
    (h6 : l.filter (fun x => x.1 == "strconv.ErrRange") = [("strconv.ErrRange", .iface "*errors.errorString" (.ptr (.agg [.lit (.string [118, 97, 108, 117, 101, 32, 111, 117, 116, 32, 111, 102, 32, 114, 97, 110, 103, 101])])))]) : Fine W := by
  have e6 := err_met "strconv.ErrRange" _ 8 h h6 rfl (by kernel_rfl) (by kernel_rfl)
  refine ⟨tabF_met h hl, Tryz.laysM146.s1_3 W hsh, err_met "strconv.ErrSyntax" _ 7 h h5 rfl (by kernel_rfl) (by kernel_rfl), e6, ?_⟩
  obtain ⟨ev5, hc5, _⟩ := err_met "strconv.ErrSyntax" _ 7 h h5 rfl (by kernel_rfl) (by kernel_rfl)
  obtain ⟨ev, hc, _⟩ := e6
  exact ⟨block_lt_of_cell hc, block_lt_of_cell hc5⟩
end Go.Proofs.YtjhaccmcjlbllaaGreatDoor
/-
  Arguments, opened by their types: numbers, texts, structs of one-cell fields, slices of what reads.
-/
namespace Go.Proofs.YtjhaccmcjlbllaaGreatDoor
open Go.ChangeShapes Go.WideShapes Go.Deep Go.RowKit
theorem cell_lt' {w : World} {a : Addr} {v : Value} (h : w.cell? a = some v) : a.block < w.heap.size := by
  rcases Nat.lt_or_ge a.block w.heap.size with hlt | hge
  · exact hlt
  · unfold World.cell? at h
    simp [Array.getElem?_eq_none hge] at h
/-- cells that read at a type -/
def Fits {H : Type} (enc : TypeId × Value → H) (P : Program) (w : World) (t : TypeId) (cs : List Value) : Prop := ∃ base spare held fuel x, DataW.trod enc P w base spare held fuel t cs = some x
section
variable {H : Type} {enc : TypeId × Value → H} {P : Program} {w : World} {t e : TypeId} {cs : List Value}
theorem fits_int {k : IntKind} (h : Fits enc P w t cs) (ht : P.underlying t = some (.int k)) : ∃ n, cs = [.int k n] ∧ (Lit.int k n).wf = true := by
  obtain ⟨_, _, _, _, _, h⟩ := h
  obtain ⟨n, e, _, hw⟩ := DataW.trod_int ht h
  exact ⟨n, e, hw⟩
theorem fits_string (h : Fits enc P w t cs) (ht : P.underlying t = some .string) : ∃ s : ByteArray, cs = [.string s] ∧ s.size ≤ maxLen := by
  obtain ⟨_, _, _, _, _, h⟩ := h
  obtain ⟨s, e, _, hw⟩ := DataW.trod_string ht h
  exact ⟨s, e, hw⟩
theorem fits_bool (h : Fits enc P w t cs) (ht : P.underlying t = some .bool) : ∃ b, cs = [.bool b] := by
  obtain ⟨_, _, _, _, _, h⟩ := h
  obtain ⟨s, e, _⟩ := DataW.trod_bool ht h
  exact ⟨s, e⟩
theorem fits_fields {fs : Array Field} (h : Fits enc P w t cs) (ht : P.underlying t = some (.struct fs)) (hone : oneCellFields P fs = true) (hC : P.cellsOf t = fs.size) : cs.length = fs.size ∧ ∀ (j : Nat) (f : Field) (c : Value), fs[j]? = some f → cs[j]? = some c → Fits enc P w f.type [c] := by
  obtain ⟨base, spare, held, fuel, x, h⟩ := h
  obtain ⟨ys, n, _, _, hl, hyl, hat⟩ := DataW.trod_struct ht h
  refine ⟨by rw [hl, hC], fun j f c hf hc => ?_⟩
  obtain ⟨ho, hk⟩ := hone_of hone j f hf
  have h1 := hat j f hf
  have hj := (Array.getElem?_eq_some_iff.1 hf).1
  rw [ho, hk] at h1
  have hd1 : (List.drop j cs).take 1 = [c] := by
    have hjl := (List.getElem?_eq_some_iff.1 hc).1
    rw [List.drop_eq_getElem_cons hjl, (List.getElem?_eq_some_iff.1 hc).2]
    rfl
  rw [hd1, List.getElem?_eq_getElem (by omega)] at h1
  exact ⟨base, spare, held, n, _, h1⟩
theorem rows_at (k : Nat) : ∀ (L : List (List Value)) (i j : Nat) (x : List Value), (∀ x ∈ L, x.length = k) → L[i]? = some x → j < k → L.flatten[i * k + j]? = x[j]?
  | y :: r, 0, j, x, hL, h, hj => by
    have e : y = x := by simpa using h
    subst e
    have := hL y List.mem_cons_self
    rw [List.flatten_cons, Nat.zero_mul, Nat.zero_add, List.getElem?_append_left (by omega)]
  | y :: r, i + 1, j, x, hL, h, hj => by
    have ih := rows_at k r i j x (fun z hz => hL z (List.mem_cons_of_mem _ hz)) (by simpa using h) hj
    have := hL y List.mem_cons_self
    have hm : k ≤ (i + 1) * k + j := by rw [Nat.succ_mul]; omega
    rw [List.flatten_cons, List.getElem?_append_right (by omega)]
    have e : (i + 1) * k + j - y.length = i * k + j := by rw [Nat.succ_mul]; omega
    rw [e]; exact ih
theorem rows_len (k : Nat) : ∀ (L : List (List Value)), (∀ x ∈ L, x.length = k) → L.flatten.length = L.length * k
  | [], _ => by simp
  | y :: r, h => by
    have := rows_len k r fun z hz => h z (List.mem_cons_of_mem _ hz)
    rw [List.flatten_cons, List.length_append, this, h y List.mem_cons_self, List.length_cons, Nat.succ_mul]; omega
theorem fits_slice (h : Fits enc P w t cs) (ht : P.underlying t = some (.slice e)) (hk : 0 < P.cellsOf e) :
    ∃ (A : Option Addr) (n c : Nat) (L : List (List Value)), cs = [.slice A n c] ∧ n ≤ c ∧ c ≤ maxLen ∧ L.length = n ∧ (∀ x ∈ L, x.length = P.cellsOf e ∧ Fits enc P w e x) ∧ Reads w w.heap.size (P.cellsOf e) A n L.flatten := by
  obtain ⟨base, spare, held, fuel, x, hf⟩ := h
  rcases open_slice ht hf with ⟨hcs, _⟩ | ⟨a, len, cap, m, n0, D, Pl, hcs, _, hl, hm, hmm, hdx, hx⟩
  · exact ⟨none, 0, 0, [], hcs, Nat.le_refl _, Nat.zero_le _, rfl, fun x hx => (by cases hx), by simp, fun hn => absurd hn (by simp)⟩
  · have hml : len ≤ m := by rw [hmm]; split <;> omega
    have hall : ∀ n, n ≤ len → ∃ L : List (List Value), L.length = n ∧ (∀ x ∈ L, x.length = P.cellsOf e ∧ Fits enc P w e x) ∧ ∀ i x, L[i]? = some x → ∀ j u, x[j]? = some u → w.cell? (a.add (i * P.cellsOf e + j)) = some u := by
      intro n
      induction n with
      | zero => intro _; exact ⟨[], rfl, by simp, by simp⟩
      | succ n ih =>
        intro hnl
        obtain ⟨L, hl1, hl2, hl3⟩ := ih (by omega)
        obtain ⟨cs', hcc, htr⟩ := hx n (by omega)
        obtain ⟨_, hlen, hat⟩ := World.cells?_some hcc
        refine ⟨L ++ [cs'], by simp [hl1], ?_, ?_⟩
        · intro y hy
          rcases List.mem_append.1 hy with h | h
          · exact hl2 y h
          · rw [List.mem_singleton] at h
            subst h
            exact ⟨hlen, base, spare, held, n0, _, htr⟩
        · intro i y hi' j u hj
          rcases Nat.lt_or_ge i L.length with h | h
          · rw [List.getElem?_append_left h] at hi'; exact hl3 i y hi' j u hj
          · rw [List.getElem?_append_right h] at hi'
            have h0 : i - L.length = 0 := by
              rcases Nat.eq_zero_or_pos (i - L.length) with h' | h'
              · exact h'
              · rw [List.getElem?_eq_none (by simp; omega)] at hi'; cases hi'
            rw [h0] at hi'
            have hy : cs' = y := by simpa using hi'
            subst hy
            obtain rfl : i = n := by omega
            have hj2 : j < P.cellsOf e := by
              have := (List.getElem?_eq_some_iff.1 hj).1
              omega
            have := hat j hj2
            rw [hj, Go.Deep.add_add] at this
            exact this
    obtain ⟨L, hL1, hL2, hL3⟩ := hall len (Nat.le_refl _)
    refine ⟨some a, len, cap, L, hcs, hl, hm, hL1, hL2, ?_, fun hn => ⟨a, rfl, ?_, ?_⟩⟩
    · rw [rows_len _ L fun x hx => (hL2 x hx).1, hL1]
    · obtain ⟨x, hx0⟩ : ∃ x, L[0]? = some x := ⟨_, List.getElem?_eq_getElem (by omega)⟩
      have hxl := (hL2 x (List.mem_of_getElem? hx0)).1
      obtain ⟨u, hu⟩ : ∃ u, x[0]? = some u := ⟨_, List.getElem?_eq_getElem (by omega)⟩
      have := cell_lt' (hL3 0 x hx0 0 u hu)
      rwa [block_of_add] at this
    · intro j u hj
      have hjl := (List.getElem?_eq_some_iff.1 hj).1
      rw [rows_len _ L fun x hx => (hL2 x hx).1] at hjl
      have hq : j / P.cellsOf e < L.length := Nat.div_lt_of_lt_mul (by rw [Nat.mul_comm]; exact hjl)
      have he2 : j / P.cellsOf e * P.cellsOf e + j % P.cellsOf e = j := by rw [Nat.mul_comm]; exact Nat.div_add_mod j _
      have hp := rows_at (P.cellsOf e) L (j / P.cellsOf e) (j % P.cellsOf e) _ (fun x hx => (hL2 x hx).1) (List.getElem?_eq_getElem hq) (Nat.mod_lt _ hk)
      rw [he2, hj] at hp
      have := hL3 _ _ (List.getElem?_eq_getElem hq) _ u hp.symm
      rw [he2] at this
      exact this
theorem fits_top {base0 : Nat} {spare : Nat → Bool} {held : Bool} {v : Value} {d : DataW H} {ps : List MemPlace} (h : DataW.Trod enc P w base0 spare held t v d ps) : Fits enc P w t v.cells.toList := by
  obtain ⟨fuel, hf⟩ := h
  exact ⟨_, _, _, fuel, _, hf⟩
theorem fits_struct {base0 : Nat} {spare : Nat → Bool} {held : Bool} {r : Reach} {b0 : Nat} {fs : Array Field} {v : Value} {d : DataW H} {ps : List MemPlace} (hv : Value.okWide P w r b0 t v) (ht : P.underlying t = some (.struct fs)) (h : DataW.Trod enc P w base0 spare held t v d ps) : ∃ cs : Array Value, v = .agg cs ∧ Fits enc P w t cs.toList := by
  obtain ⟨cs, rfl, _⟩ := okWide_struct ht hv
  exact ⟨cs, rfl, fits_top h⟩
theorem fits_plain {base0 : Nat} {spare : Nat → Bool} {held : Bool} {v : Value} {d : DataW H} {ps : List MemPlace} (h : DataW.Trod enc P w base0 spare held t v d ps) (hc : v.cells = #[v]) : Fits enc P w t [v] := by
  have := fits_top h
  rwa [hc] at this
theorem choose_list {M : Type} {f : M → List Value} {Q : M → Prop} : ∀ {L : List (List Value)}, (∀ x ∈ L, ∃ m, x = f m ∧ Q m) → ∃ l : List M, L = l.map f ∧ ∀ m ∈ l, Q m
  | [], _ => ⟨[], rfl, by simp⟩
  | x :: r, h => by
    obtain ⟨m, rfl, hm⟩ := h x List.mem_cons_self
    obtain ⟨l, rfl, hl⟩ := choose_list (L := r) fun y hy => h y (List.mem_cons_of_mem _ hy)
    exact ⟨m :: l, rfl, fun y hy => by
      rcases List.mem_cons.1 hy with e | e
      · subst e; exact hm
      · exact hl y e⟩
/-- all arguments stay behind a call that writes below nothing -/
theorem args_stay (hl : laidOutB P = true) {W W' : World} {sp : Nat → Bool} : ∀ {ts : List TypeId} {vs : List Value} {ds : List (DataW H)} {ps : List MemPlace}, (ts.all fun t => P.readableRec t && decide (t < P.types.size)) = true →
    DataW.TrodAll enc P W 0 (fun _ => true) true ts vs ds ps → (∀ x ∈ ps, W.sameAt W' x) → (∀ x ∈ ps, sp x.block = true) → DataW.TrodAll enc P W' 0 sp true ts vs ds ps
  | [], [], [], _, _, h, _, _ => h
  | _ :: _, _ :: _, _ :: _, _, ha, ⟨p, q, h1, h2, e⟩, hsame, hs => by
    rw [List.all_cons, Bool.and_eq_true, Bool.and_eq_true, decide_eq_true_eq] at ha
    subst e
    exact ⟨p, q, WideElems.Trod_stays hl ha.1.1 ha.1.2 h1 (fun x hx => hsame x (List.mem_append_left _ hx)) (fun x hx => hs x (List.mem_append_left _ hx)),
      args_stay hl ha.2 h2 (fun x hx => hsame x (List.mem_append_right _ hx)) (fun x hx => hs x (List.mem_append_right _ hx)), rfl⟩
end
end Go.Proofs.YtjhaccmcjlbllaaGreatDoor
/-
  Arguments, opened by their types, with a bound on their sizes.
-/
namespace Go.Proofs.YtjhaccmcjlbllaaGreatDoor
open Go.ChangeShapes Go.WideShapes Go.Deep Go.RowKit
/-- cells that read at a type; no part is longer than R -/
def FitsZ {H : Type} (R : Nat) (enc : TypeId × Value → H) (P : Program) (w : World) (t : TypeId) (cs : List Value) : Prop := ∃ base spare held fuel d ps, DataW.trod enc P w base spare held fuel t cs = some (d, ps) ∧ ∀ k ∈ d.weights P t, k ≤ R
section
variable {H : Type} {enc : TypeId × Value → H} {P : Program} {w : World} {t e : TypeId} {cs : List Value} {R : Nat}
theorem FitsZ.fits (h : FitsZ R enc P w t cs) : Fits enc P w t cs := by
  obtain ⟨b, s, hd, f, d, ps, h, _⟩ := h
  exact ⟨b, s, hd, f, _, h⟩
theorem mem_weightsAll {e : TypeId} {dd : DataW H} {k : Nat} : ∀ {l : List (DataW H)}, dd ∈ l → k ∈ dd.weights P e → k ∈ DataW.weightsAll P e l
  | y :: r, h, hk => by
    unfold DataW.weightsAll
    rw [List.mem_append]
    rcases List.mem_cons.1 h with rfl | h
    · exact .inl hk
    · exact .inr (mem_weightsAll h hk)
theorem fitsZ_string (h : FitsZ R enc P w t cs) (ht : P.underlying t = some .string) : ∃ s : ByteArray, cs = [.string s] ∧ s.size ≤ maxLen ∧ s.size ≤ R := by
  obtain ⟨_, _, _, _, d, ps, h, hz⟩ := h
  obtain ⟨s, e, hx, hw⟩ := DataW.trod_string ht h
  refine ⟨s, e, hw, hz _ ?_⟩
  rw [(Prod.mk.inj hx).1]
  show s.size ∈ [s.data.toList.length]
  rw [List.mem_singleton, Array.length_toList]; rfl
theorem fitsZ_fields {fs : Array Field} (h : FitsZ R enc P w t cs) (ht : P.underlying t = some (.struct fs)) (hone : oneCellFields P fs = true) (hC : P.cellsOf t = fs.size) : cs.length = fs.size ∧ ∀ (j : Nat) (f : Field) (c : Value), fs[j]? = some f → cs[j]? = some c → FitsZ R enc P w f.type [c] := by
  obtain ⟨base, spare, held, fuel, d, ps, h, hz⟩ := h
  obtain ⟨ys, n, _, hx, hl, hyl, hat⟩ := DataW.trod_struct ht h
  refine ⟨by rw [hl, hC], fun j f c hf hc => ?_⟩
  obtain ⟨ho, hk⟩ := hone_of hone j f hf
  have h1 := hat j f hf
  have hj := (Array.getElem?_eq_some_iff.1 hf).1
  rw [ho, hk] at h1
  have hd1 : (List.drop j cs).take 1 = [c] := by
    have hjl := (List.getElem?_eq_some_iff.1 hc).1
    rw [List.drop_eq_getElem_cons hjl, (List.getElem?_eq_some_iff.1 hc).2]
    rfl
  have hy : ys[j]? = some (ys[j]'(by omega)) := List.getElem?_eq_getElem (by omega)
  rw [hd1, hy] at h1
  refine ⟨base, spare, held, n, _, _, h1, fun k hk => hz k ?_⟩
  rw [(Prod.mk.inj hx).1]
  unfold DataW.weights
  rw [ht]
  refine DataW.weights_mem_each (j := j) (t := f.type) (d := (ys[j]'(by omega)).1) ?_ ?_ k hk
  · rw [List.getElem?_map, Array.getElem?_toList, hf]; rfl
  · rw [List.getElem?_map, hy]; rfl
theorem fitsZ_slice (h : FitsZ R enc P w t cs) (ht : P.underlying t = some (.slice e)) (hk : 0 < P.cellsOf e) (heb : 1 ≤ P.bytesOf e) :
    ∃ (A : Option Addr) (n c : Nat) (L : List (List Value)), cs = [.slice A n c] ∧ n ≤ c ∧ c ≤ maxLen ∧ n ≤ R ∧ L.length = n ∧ (∀ x ∈ L, x.length = P.cellsOf e ∧ FitsZ R enc P w e x) ∧ Reads w w.heap.size (P.cellsOf e) A n L.flatten := by
  obtain ⟨base, spare, held, fuel, d, ps, hf, hz⟩ := h
  rcases open_slice ht hf with ⟨hcs, _⟩ | ⟨a, len, cap, m, n0, D, Pl, hcs, _, hl, hm, hmm, hdx, hx⟩
  · exact ⟨none, 0, 0, [], hcs, Nat.le_refl _, Nat.zero_le _, Nat.zero_le _, rfl, fun x hx => (by cases hx), by simp, fun hn => absurd hn (by simp)⟩
  · have hml : len ≤ m := by rw [hmm]; split <;> omega
    have hdw : d = .slice ((List.range len).map D) ((List.range (m - len)).map fun j => D (len + j)) := congrArg Prod.fst hdx
    have hall : ∀ n, n ≤ len → ∃ L : List (List Value), L.length = n ∧ (∀ x ∈ L, x.length = P.cellsOf e ∧ FitsZ R enc P w e x) ∧ ∀ i x, L[i]? = some x → ∀ j u, x[j]? = some u → w.cell? (a.add (i * P.cellsOf e + j)) = some u := by
      intro n
      induction n with
      | zero => intro _; exact ⟨[], rfl, by simp, by simp⟩
      | succ n ih =>
        intro hnl
        obtain ⟨L, hl1, hl2, hl3⟩ := ih (by omega)
        obtain ⟨cs', hcc, htr⟩ := hx n (by omega)
        obtain ⟨_, hlen, hat⟩ := World.cells?_some hcc
        refine ⟨L ++ [cs'], by simp [hl1], ?_, ?_⟩
        · intro y hy
          rcases List.mem_append.1 hy with h | h
          · exact hl2 y h
          · rw [List.mem_singleton] at h
            subst h
            refine ⟨hlen, base, spare, held, n0, _, _, htr, fun k hk' => hz k ?_⟩
            rw [hdw]
            unfold DataW.weights
            rw [ht]
            simp only [List.mem_cons, List.mem_append]
            exact .inr (.inl (mem_weightsAll (List.mem_map.2 ⟨n, List.mem_range.2 (by omega), rfl⟩) hk'))
        · intro i y hi' j u hj
          rcases Nat.lt_or_ge i L.length with h | h
          · rw [List.getElem?_append_left h] at hi'; exact hl3 i y hi' j u hj
          · rw [List.getElem?_append_right h] at hi'
            have h0 : i - L.length = 0 := by
              rcases Nat.eq_zero_or_pos (i - L.length) with h' | h'
              · exact h'
              · rw [List.getElem?_eq_none (by simp; omega)] at hi'; cases hi'
            rw [h0] at hi'
            have hy : cs' = y := by simpa using hi'
            subst hy
            obtain rfl : i = n := by omega
            have hj2 : j < P.cellsOf e := by
              have := (List.getElem?_eq_some_iff.1 hj).1
              omega
            have := hat j hj2
            rw [hj, Go.Deep.add_add] at this
            exact this
    obtain ⟨L, hL1, hL2, hL3⟩ := hall len (Nat.le_refl _)
    refine ⟨some a, len, cap, L, hcs, hl, hm, ?_, hL1, hL2, ?_, fun hn => ⟨a, rfl, ?_, ?_⟩⟩
    · have hq := hz ((len + (m - len)) * P.bytesOf e) (by rw [hdw]; simp [DataW.weights, ht])
      have e2 : (len + (m - len)) * 1 ≤ (len + (m - len)) * P.bytesOf e := Nat.mul_le_mul_left _ heb
      omega
    · rw [rows_len _ L fun x hx => (hL2 x hx).1, hL1]
    · obtain ⟨x, hx0⟩ : ∃ x, L[0]? = some x := ⟨_, List.getElem?_eq_getElem (by omega)⟩
      have hxl := (hL2 x (List.mem_of_getElem? hx0)).1
      obtain ⟨u, hu⟩ : ∃ u, x[0]? = some u := ⟨_, List.getElem?_eq_getElem (by omega)⟩
      have := cell_lt' (hL3 0 x hx0 0 u hu)
      rwa [block_of_add] at this
    · intro j u hj
      have hjl := (List.getElem?_eq_some_iff.1 hj).1
      rw [rows_len _ L fun x hx => (hL2 x hx).1] at hjl
      have hq : j / P.cellsOf e < L.length := Nat.div_lt_of_lt_mul (by rw [Nat.mul_comm]; exact hjl)
      have he2 : j / P.cellsOf e * P.cellsOf e + j % P.cellsOf e = j := by rw [Nat.mul_comm]; exact Nat.div_add_mod j _
      have hp := rows_at (P.cellsOf e) L (j / P.cellsOf e) (j % P.cellsOf e) _ (fun x hx => (hL2 x hx).1) (List.getElem?_eq_getElem hq) (Nat.mod_lt _ hk)
      rw [he2, hj] at hp
      have := hL3 _ _ (List.getElem?_eq_getElem hq) _ u hp.symm
      rw [he2] at this
      exact this
theorem sized_at {ts : List TypeId} {ds : List (DataW H)} (h : (DataW.weightsEach P ts ds).all (· ≤ reachBytes) = true) {j : Nat} {t : TypeId} {d : DataW H} (ht : ts[j]? = some t) (hd : ds[j]? = some d) : ∀ k ∈ d.weights P t, k ≤ 140737488355328 := by
  intro k hk
  have := List.all_eq_true.1 h _ (DataW.weights_mem_each ht hd k hk)
  have h2 : reachBytes < 2 ^ 47 := reachBytes_lt
  simp only [decide_eq_true_eq] at this
  omega
theorem fitsZ_top {base0 : Nat} {spare : Nat → Bool} {held : Bool} {v : Value} {d : DataW H} {ps : List MemPlace} (h : DataW.Trod enc P w base0 spare held t v d ps) (hz : ∀ k ∈ d.weights P t, k ≤ R) : FitsZ R enc P w t v.cells.toList := by
  obtain ⟨fuel, hf⟩ := h
  exact ⟨_, _, _, fuel, _, _, hf, hz⟩
theorem fitsZ_struct {base0 : Nat} {spare : Nat → Bool} {held : Bool} {r : Reach} {b0 : Nat} {fs : Array Field} {v : Value} {d : DataW H} {ps : List MemPlace} (hv : Value.okWide P w r b0 t v) (ht : P.underlying t = some (.struct fs)) (h : DataW.Trod enc P w base0 spare held t v d ps) (hz : ∀ k ∈ d.weights P t, k ≤ R) : ∃ cs : Array Value, v = .agg cs ∧ FitsZ R enc P w t cs.toList := by
  obtain ⟨cs, rfl, _⟩ := okWide_struct ht hv
  exact ⟨cs, rfl, fitsZ_top h hz⟩
theorem fitsZ_plain {base0 : Nat} {spare : Nat → Bool} {held : Bool} {v : Value} {d : DataW H} {ps : List MemPlace} (h : DataW.Trod enc P w base0 spare held t v d ps) (hc : v.cells = #[v]) (hz : ∀ k ∈ d.weights P t, k ≤ R) : FitsZ R enc P w t [v] := by
  have := fitsZ_top h hz
  rwa [hc] at this
end
end Go.Proofs.YtjhaccmcjlbllaaGreatDoor
/-
  Arguments, opened: numbers, truths, bytes.
-/
namespace Go.Proofs.YtjhaccmcjlbllaaGreatDoor
open Go.RowKit Go.ChangeShapes Go.WideShapes
theorem u32_range {n : Int} (h : (Lit.int .u32 n).wf = true) : ∃ k : Nat, n = (k : Nat) ∧ k < 4294967296 := by
  simp [Lit.wf, IntKind.min, IntKind.max, IntKind.signed, IntKind.bits] at h
  exact ⟨n.toNat, by omega, by omega⟩
theorem u8_range {n : Int} (h : (Lit.int .u8 n).wf = true) : ∃ k : UInt8, n = (k.toNat : Nat) := by
  simp [Lit.wf, IntKind.min, IntKind.max, IntKind.signed, IntKind.bits] at h
  refine ⟨UInt8.ofNat n.toNat, ?_⟩
  rw [UInt8.toNat_ofNat']
  omega
theorem i64_range {n : Int} (h : (Lit.int .i64 n).wf = true) : -9223372036854775808 ≤ n ∧ n ≤ 9223372036854775807 := by
  simp [Lit.wf, IntKind.min, IntKind.max, IntKind.signed, IntKind.bits] at h
  omega
theorem map_flat {M : Type} (f : M → List Value) (l : List M) : (l.map f).flatten = l.flatMap f := by
  induction l with
  | nil => rfl
  | cons x r ih => rw [List.map_cons, List.flatten_cons, List.flatMap_cons, ih]
theorem flat_one {M : Type} (f : M → Value) (l : List M) : (l.map fun x => [f x]).flatten = l.map f := by
  induction l with
  | nil => rfl
  | cons x r ih => rw [List.map_cons, List.flatten_cons, ih]; rfl
theorem list1 {α : Type} {x : List α} (h : x.length = 1) : ∃ a, x = [a] := by
  match x, h with
  | [a], _ => exact ⟨a, rfl⟩
theorem list4 {α : Type} {x : List α} (h : x.length = 4) : ∃ a b c d, x = [a, b, c, d] := by
  match x, h with
  | [a, b, c, d], _ => exact ⟨a, b, c, d, rfl⟩
theorem array4 {α : Type} {x : Array α} (h : x.toList.length = 4) : ∃ a b c d, x = #[a, b, c, d] := by
  obtain ⟨l⟩ := x
  obtain ⟨a, b, c, d, e⟩ := list4 (show l.length = 4 from h)
  exact ⟨a, b, c, d, by rw [e]⟩
section
variable {H : Type} {enc : TypeId × Value → H} {w : World} {R : Nat}
theorem open_bytesZ {c1 : Value} (h : FitsZ R enc Tryz.prog w 23 [c1]) : ∃ (A : Option Addr) (c : Nat) (l : List UInt8), c1 = .slice A l.length c ∧ l.length ≤ c ∧ c ≤ maxLen ∧ l.length ≤ R ∧ Reads w w.heap.size 1 A l.length (u8s l) := by
  have hk : Tryz.prog.cellsOf 5 = 1 := by kernel_rfl
  obtain ⟨A, n, c, L, hcs, hn, hc, hR, hl, hL, hr⟩ := fitsZ_slice h Tryz.underlying23 (by rw [hk]; omega) (Nat.le_of_ble_eq_true (by kernel_rfl))
  rw [hk] at hr
  obtain ⟨l, rfl, _⟩ := choose_list (f := fun b : UInt8 => [.int .u8 ((b.toNat : Nat) : Int)]) (Q := fun _ => True) fun x hx => by
    obtain ⟨hx1, hx2⟩ := hL x hx
    rw [hk] at hx1
    obtain ⟨a, rfl⟩ := list1 hx1
    obtain ⟨u, e0, hu⟩ := fits_int hx2.fits Tryz.underlying5
    obtain ⟨k, rfl⟩ := u8_range hu
    exact ⟨k, e0, trivial⟩
  rw [List.length_map] at hl
  rw [flat_one (fun b : UInt8 => .int .u8 ((b.toNat : Nat) : Int))] at hr
  subst hl
  simp only [List.cons.injEq, and_true] at hcs
  exact ⟨A, c, l, hcs, hn, hc, hR, hr⟩
theorem fitsZ_part {t : TypeId} {cs : List Value} {fs : Array Field} (h : FitsZ R enc Tryz.prog w t cs) (ht : Tryz.prog.underlying t = some (.struct fs)) : cs.length = Tryz.prog.cellsOf t ∧ ∀ (j : Nat) (f : Field), fs[j]? = some f → FitsZ R enc Tryz.prog w f.type ((cs.drop f.offset).take (Tryz.prog.cellsOf f.type)) := by
  obtain ⟨base, spare, held, fuel, d, ps, h, hz⟩ := h
  obtain ⟨ys, n, _, hx, hl, hyl, hat⟩ := DataW.trod_struct ht h
  refine ⟨hl, fun j f hf => ?_⟩
  have h1 := hat j f hf
  have hj := (Array.getElem?_eq_some_iff.1 hf).1
  have hy : ys[j]? = some (ys[j]'(by omega)) := List.getElem?_eq_getElem (by omega)
  rw [hy] at h1
  refine ⟨base, spare, held, n, _, _, h1, fun k hk => hz k ?_⟩
  rw [(Prod.mk.inj hx).1]
  unfold DataW.weights
  rw [ht]
  refine DataW.weights_mem_each (j := j) (t := f.type) (d := (ys[j]'(by omega)).1) ?_ ?_ k hk
  · rw [List.getElem?_map, Array.getElem?_toList, hf]; rfl
  · rw [List.getElem?_map, hy]; rfl
end
theorem tab_met {l : List (String × DataW Unit)} {W : World} (h : laidMetH Tryz.prog l W) (hl : l.filter (fun x => x.1 == "internal/strconv.uint64pow10") = [("internal/strconv.uint64pow10", Lib.tabData .u64 Lib.pow10Tab)]) :
    Lib.TabIs Tryz.prog W "internal/strconv.uint64pow10" .u64 Lib.pow10Tab := by
  have h1 := laidMetH.filter (fun x => x.1 == "internal/strconv.uint64pow10") h
  rw [hl, MakeChecks.laidMetH_plain _ _ _ (by kernel_rfl)] at h1
  exact Lib.tabIs_of_head (g := 1) (t := 200) (e := 35) (n := 20) (by kernel_rfl) (by kernel_rfl) Tryz.underlying200 Tryz.underlying35 (by kernel_rfl) (by kernel_rfl) h1
section
variable {H : Type} {enc : TypeId × Value → H} {W : World} {base0 b0 : Nat} {spare : Nat → Bool} {held : Bool} {r : Reach} {R : Nat}
set_option maxRecDepth 100000 in
theorem i64_arg {v : Value} {d : DataW H} {ps : List MemPlace} (hv : Value.okWide Tryz.prog W r b0 3 v) (h : DataW.Trod enc Tryz.prog W base0 spare held 3 v d ps) : ∃ k : Int, v = .int .i64 k ∧ -9223372036854775808 ≤ k ∧ k ≤ 9223372036854775807 := by
  obtain ⟨x0, rfl, _, _, h0⟩ := open_int Tryz.underlying3 hv h
  exact ⟨x0, rfl, i64_range h0⟩
set_option maxRecDepth 100000 in
theorem bytes_arg {v : Value} {d : DataW H} {ps : List MemPlace} (hv : Value.okWide Tryz.prog W r b0 23 v) (h : DataW.Trod enc Tryz.prog W base0 spare held 23 v d ps) (hz : ∀ k ∈ d.weights Tryz.prog 23, k ≤ R) :
    ∃ (A : Option Addr) (c : Nat) (l : List UInt8), v = .slice A l.length c ∧ l.length ≤ c ∧ c ≤ maxLen ∧ l.length ≤ R ∧ Reads W W.heap.size 1 A l.length (u8s l) := by
  obtain ⟨A, n, c, rfl⟩ := okWide_slice Tryz.underlying23 hv
  obtain ⟨A', c', l, e, b⟩ := open_bytesZ (fitsZ_plain h rfl hz)
  exact ⟨A', c', l, e, b⟩
set_option maxRecDepth 100000 in
theorem u32_arg {v : Value} {d : DataW H} {ps : List MemPlace} (hv : Value.okWide Tryz.prog W r b0 22 v) (h : DataW.Trod enc Tryz.prog W base0 spare held 22 v d ps) : ∃ k : Nat, v = .int .u32 (k : Nat) ∧ k < 4294967296 := by
  obtain ⟨x0, rfl, _, _, h0⟩ := open_int Tryz.underlying22 hv h
  obtain ⟨k, rfl, hk⟩ := u32_range h0
  exact ⟨k, rfl, hk⟩
set_option maxRecDepth 100000 in
theorem bool_arg {v : Value} {d : DataW H} {ps : List MemPlace} (hv : Value.okWide Tryz.prog W r b0 4 v) (h : DataW.Trod enc Tryz.prog W base0 spare held 4 v d ps) : ∃ b : Bool, v = .bool b := by
  obtain ⟨b, rfl, _⟩ := open_bool Tryz.underlying4 hv h
  exact ⟨b, rfl⟩
end
end Go.Proofs.YtjhaccmcjlbllaaGreatDoor
/-
  Arguments that are small numbers.
-/
namespace Go.Proofs.YtjhaccmcjlbllaaGreatDoor
open Go.RowKit Go.ChangeShapes Go.WideShapes
section
variable {H : Type} {enc : TypeId × Value → H} {W : World} {base0 b0 : Nat} {spare : Nat → Bool} {held : Bool} {r : Reach}
set_option maxRecDepth 100000 in
theorem u8_argN {v : Value} {d : DataW H} {ps : List MemPlace} (hv : Value.okWide Tryz.prog W r b0 5 v) (h : DataW.Trod enc Tryz.prog W base0 spare held 5 v d ps) : ∃ k : Nat, v = .int .u8 (k : Nat) ∧ k < 256 := by
  obtain ⟨x0, rfl, _, _, h0⟩ := open_int Tryz.underlying5 hv h
  obtain ⟨k, rfl⟩ := u8_range h0
  exact ⟨k.toNat, rfl, k.toNat_lt⟩
end
end Go.Proofs.YtjhaccmcjlbllaaGreatDoor
/-
  Ten deep keys are keys, deeper ones are none: cubbylaw17.SearchDeep answers true, for every number.
-/
namespace Go.Proofs.YtjhaccmcjlbllaaGreatDoor.SearchDeep
open Go.RowKit Go.ChangeShapes Go.WideShapes Go.ChangeAt
open Go.ChangeMaps (open_string shut_string)
set_option linter.unusedVariables false
theorem own : ownKnob Tryz.prog.godebug = none := by kernel_rfl
set_option maxRecDepth 100000 in
theorem contract (H : Type) (enc : TypeId × Value → H) (W : World) (base : Nat) (args : Array Value) (ds gs : List (DataW H)) (before : List MemPlace)
    (hval : ∀ (j : Nat) t v, Tryz.f6.params[j]? = some t → args[j]? = some v → Value.okWide Tryz.prog W .any base t v)
    (hW : DataW.Whole enc Tryz.prog Tryz.f6.params.toList Rows.searchDeepSpec.vars false W args.toList ds gs before) (hz : (DataW.weightsEach Tryz.prog (Tryz.f6.params.toList ++ (OpenSpec.ofChange Rows.searchDeepSpec).bare.plain.varTypes Tryz.prog) (ds ++ gs)).all (· ≤ reachBytes) = true) (hL : laidMetH Tryz.prog Rows.searchDeepRow.laid W) (hsh : W.ShapedOpen Tryz.prog) :
    Calls Tryz.prog 6 args W fun e W' => ∃ v, e = .returned v ∧ Rows.searchDeepSpec.post enc Tryz.prog Tryz.f6 false true false false W args v W' := by
  have hW' := hW
  obtain ⟨p, q, hA0, hV, rfl, hfz, hnd⟩ := hW
  have hA : DataW.TrodAll enc Tryz.prog W 0 (fun _ => true) true Tryz.f6.params.toList args.toList ds p := hA0
  rw [Tryz.params6] at hA hval
  have hAk := hA
  obtain ⟨v0, d0, rfl, rfl, g0⟩ := trodAll_one hA
  obtain ⟨rfl, rfl⟩ := trodVars_none hV
  obtain ⟨tt, rfl, htt⟩ := u8_argN (hval 0 5 v0 rfl rfl) g0
  have hw : Fine W := fine_met hL hsh (by kernel_rfl) (by kernel_rfl) (by kernel_rfl)
  clear hA0
  refine (deep_law tt htt W hw).mono fun e W' ⟨he, hb⟩ => ?_
  subst he
  exact ⟨_, rfl, post_of_below (pv := []) hW' (fun _ _ _ => trodAll_mk1 (shut_bool Tryz.underlying4 _)) (fun sp hsp => args_stay (by kernel_rfl) (by kernel_rfl) hAk (fun x hx => hb.same (by simpa using hW'.lt x (List.mem_append_left _ hx))) (fun x hx => hsp x (List.mem_append_left _ hx))) (fun _ _ => rfl) rfl
    hb (ok_one (by kernel_rfl) rfl (okWide_bool_mk Tryz.underlying4 _))⟩
set_option maxRecDepth 100000 in
theorem reads (os : Os) {H : Type} (enc : TypeId × Value → H) : ∃ places, DataW.whole enc Tryz.prog ((World.laidAll Tryz.prog os Rows.searchDeepRow.laid).forCall (fun _ _ => 0) ⟨#[], #[.int .u8 0], []⟩).memory Tryz.f6.params.toList Rows.searchDeepSpec.vars false #[Value.int .u8 0].toList 8 = some ([.lit (.int .u8 0)], [], places) :=
  ⟨[], by kernel_rfl⟩
set_option maxRecDepth 100000 in
theorem lifted (os : Os) (started : os.Started) (H : Type) (enc : TypeId × Value → H) (F : Stop.Interp) :
    ReturnsInHanded {} Tryz.checked os 6 .any ((OpenSpec.ofChange Rows.searchDeepSpec).preRow enc Tryz.prog Tryz.f6 Rows.searchDeepRow.domain false Rows.searchDeepRow.laid) (((OpenSpec.ofChange Rows.searchDeepSpec).at F).post enc Tryz.prog Tryz.f6 false true false false) := by
  obtain ⟨places, hx⟩ := reads os enc
  refine returnsInHanded_of_row (C := Tryz.checked) (s := OpenSpec.ofChange Rows.searchDeepSpec) own started (by kernel_rfl) Tryz.func6
    (witness_row_shaped (enc := enc) (C := Tryz.checked) false (World.laidAll Tryz.prog os Rows.searchDeepRow.laid) #[.int .u8 0] (World.laidAll_os _ _ _) (World.shaped_of_ZipB (by kernel_rfl) (by kernel_rfl)) (by kernel_rfl)
      (OpenSpec.preRow_of_cond 8 hx (by kernel_rfl) (fun k hk => by cases hk) (by kernel_rfl) (laidMet_laidAll _ (by kernel_rfl) (by kernel_rfl)))) ?_
  intro W base args ds gs before hval hW _ _ hz hL hsh _
  exact contract H enc W base args ds gs before hval hW hz hL hsh
theorem said : Rows.SearchDeepSaid :=
  OpenClaim.holds_of_cond 6 Tryz.f6 rfl rfl rfl rfl rfl rfl rfl ⟨rfl, rfl, rfl, rfl, rfl⟩ rfl rfl rfl rfl rfl (by kernel_rfl) Tryz.func6 (by kernel_rfl)
    (of_decide_eq_true (by kernel_rfl)) (by unfold Func.isWrapper; first | (rw [if_pos (by decide +kernel)]; kernel_rfl) | (rw [if_neg (by decide +kernel)]; exact ⟨rfl, rfl⟩))
    (fun os started H enc _ F => by rw [OpenClaim.pre_eq_preRow]; exact lifted os started H enc F)
theorem plain (f : FuncId) (fn : Func) (hf : Tryz.pinned.checked.prog.funcNamed "cubby/cubbylaw17.SearchDeep" = some f) (hfn : Tryz.pinned.checked.prog.funcs[f]? = some fn) :
    true = Tryz.pinned.checked.prog.looks [] ∧ ∀ (j : Nat) t, fn.params[j]? = some t → Tryz.pinned.checked.prog.wantsStandIn t = false := by
  obtain rfl : f = 6 := Option.some.inj ((show Tryz.prog.funcNamed "cubby/cubbylaw17.SearchDeep" = some 6 by kernel_rfl).symm.trans hf) |>.symm
  obtain rfl : fn = Tryz.f6 := (Option.some.inj (Tryz.func6.symm.trans hfn)).symm
  refine ⟨by kernel_rfl, fun j t ht => ?_⟩
  rw [Tryz.params6] at ht
  have hm : t ∈ [5] := by simpa using Array.mem_of_getElem? ht
  have hall : ([5].all fun u => !Tryz.prog.wantsStandIn u) = true := by kernel_rfl
  exact (show Tryz.prog.wantsStandIn t = false by simpa using List.all_eq_true.1 hall t hm)
theorem holds : Rows.SearchDeepCardSaid :=
  Claim7.holds_tied_plain_at .later [] _ _ _ _ said (fun _ h => by cases h) (by kernel_rfl) (fun _ h => by cases h) searchDeep_row_tie rfl ⟨rfl, rfl⟩ (by kernel_rfl) rfl plain (by kernel_rfl)
#print axioms holds
end Go.Proofs.YtjhaccmcjlbllaaGreatDoor.SearchDeep
