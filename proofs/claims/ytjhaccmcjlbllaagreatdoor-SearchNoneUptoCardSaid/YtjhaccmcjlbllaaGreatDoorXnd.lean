/-
  Walks: what a search's closures ask of a message.
-/
import Derived.Test.YtjhaccmcjlbllaaGreatDoorXnc
import Derived.Test.YtjhaccmcjlbllaaGreatDoorChecked
import Derived.Test.YtjhaccmcjlbllaaGreatDoorRows
import Derived.LaidSub
import Derived.MakeChecks
import Derived.Lib.LaidTab
import Derived.Stop.LaidErr
import Derived.Deep.Slices
import Derived.Deep.Fields
import Derived.ChangeSame
import Derived.ChangeSlices
import Derived.Carry
import Derived.SizedLaws
import Derived.Lib.SmallJoins
import Derived.Deep.DeepHandedRow
import Derived.Test.YtjhaccmcjlbllaaGreatDoorCards
import Derived.Test.YtjhaccmcjlbllaaGreatDoorTie
import Derived.SevenTiedAt
namespace Go.Proofs.YtjhaccmcjlbllaaGreatDoor
open Go.RowKit
set_option linter.unusedSimpArgs false
set_option linter.unusedVariables false
/-- a mailbox, and one of its messages -/
structure LookV where
  nm : ByteArray
  ep : Int
  nx : Int
  A : Option Addr
  c : Nat
  ms : List MsgV
  i : Nat
  m : MsgV
/-- the last UID -/
def lastUid (ms : List MsgV) : Nat := (ms.getLast?.map (·.uid)).getD 0
def lookBx (L : LookV) : Value := .agg #[.string L.nm, .int .u32 L.ep, .int .u32 L.nx, .slice L.A L.ms.length L.c]
def lookC (L : LookV) : Array Value := #[.string L.nm, .int .u32 L.ep, .int .u32 L.nx, .slice L.A L.ms.length L.c, .int .i64 (L.i : Nat)]
def lookF (L : LookV) : LookS := ⟨L.m.flags, L.m.b, L.m.uid, L.i, L.ms.length, lastUid L.ms⟩
structure LookAt (w : World) (L : LookV) : Prop where
  ms : Msgs w L.A L.ms.length L.ms
  at_ : L.ms[L.i]? = some L.m
  len : L.ms.length ≤ 1000000
  big : L.m.b.length ≤ 1048576
  one : ∃ m, w.cell? ⟨0, 0, none⟩ = some (.int .i64 m)
theorem LookAt.lt {w : World} {L : LookV} (h : LookAt w L) : L.i < L.ms.length := (List.getElem?_eq_some_iff.1 h.at_).1
theorem LookAt.below {w w' : World} {L : LookV} (h : LookAt w L) (hb : Below w.heap.size w w') : LookAt w' L := by
  refine ⟨h.ms.below hb, h.at_, h.len, h.big, ?_⟩
  obtain ⟨m, hm⟩ := h.one
  exact ⟨m, (hb.cell (block_lt_of_cell hm)).trans hm⟩
theorem LookAt.reads {w : World} {L : LookV} (h : LookAt w L) : Reads w w.heap.size 1 L.m.a L.m.b.length (u8s L.m.b) := h.ms.octs _ (List.mem_of_getElem? h.at_)
theorem LookAt.caps {w : World} {L : LookV} (h : LookAt w L) : L.m.b.length ≤ L.m.c ∧ L.m.c ≤ 9223372036854775807 := h.ms.caps _ (List.mem_of_getElem? h.at_)
set_option maxRecDepth 100000 in
set_option maxHeartbeats 4000000 in
theorem msg_any (L : LookV) (w : World) (h : LookAt w L) : Calls Tryz.prog 180 #[.agg (lookC L)] w fun ev w' => ev = .returned (.agg #[.int .u32 (L.m.uid : Nat), .int .i64 L.m.date, .int .i64 L.m.flags, .slice L.m.a L.m.b.length L.m.c]) ∧ Below w.heap.size w w' := by
  obtain ⟨nm, ep, nx, A, c, ms, i, m⟩ := L
  have hlt := h.lt
  obtain ⟨hms, hat, hlen, -, -⟩ := h
  obtain ⟨uid, date, flags, a8, c8, b8⟩ := m
  simp only at hms hat hlen hlt ⊢
  unfold lookC
  have HB := Below.refl w.heap.size w
  refine calls_at 10 Tryz.func180 rfl rfl (Nat.le_of_ble_eq_true rfl) ?_
  intro a hA; replace hA := hA.norm
  refine wS (wR ?_)
  refine wl_new hA rfl rfl (by decide) (fun ev h => by simp [go_sem, h.get 0 rfl]; try first | exact ⟨rfl, rfl⟩ | rfl) fun w1 a (K1 : Blk _ _ _ _) hz1 hb1 hA => ?_
  replace HB := HB.trans (hb1.mono HB.size)
  replace hms := hms.below hb1
  refine wl_new hA rfl rfl (by decide) (fun ev h => by simp [go_sem]; try first | exact ⟨rfl, rfl⟩ | rfl) fun w2 a (K2 : Blk _ _ _ _) hz2 hb2 hA => ?_
  replace HB := HB.trans (hb2.mono HB.size)
  replace hms := hms.below hb2
  replace K1 := K1.below hb2 K1.lt
  obtain ⟨ad, rfl, hadl, q0, q1, q2, q3⟩ := hms.at_ hat
  simp only at q0 q1 q2 q3
  have jj0 : (0 : Int) ≤ (i : Int) := by omega
  have jj1 : (i : Int) < (ms.length : Int) := by omega
  replace hA := hA.keepN [1, 2]
  refine wN (nT (wS (wR ?_)))
  revert a; (iterate 7 refine wo rfl rfl (by decide) (fun ev e h => by simp [go_sem, h, K1.cell, q0, q1, q2, q3, jj0, jj1] <;> rfl) ?_); intro a hA
  refine wl_set [.int .u32 (uid : Nat), .int .i64 date, .int .i64 flags, .slice a8 b8.length c8] hA rfl rfl K2 (by rfl) (fun ev h => by simp [go_sem, h.get 2 rfl, h.get 9 rfl, K1.cell, q0, q1, q2, q3, jj0, jj1, setAll, K2.cell, K2.frozen]) fun w3 (K2 : Blk _ _ _ _) hs3 => ?_
  replace HB := hs3.below HB (by omega)
  replace hA := hA.keepN [2]
  refine wN (nT (wp_ret ?_))
  refine bodyPost_ret (by simp [results, Tryz.results180, go_sem, hA.env 2 _ rfl, K2.cell]; try first | exact ⟨rfl, rfl⟩ | rfl) hA.defers ?_
  exact ⟨rfl, HB⟩
set_option maxRecDepth 100000 in
set_option maxHeartbeats 4000000 in
theorem last_any (L : LookV) (w : World) (h : LookAt w L) : Calls Tryz.prog 190 #[.agg (lookC L)] w fun ev w' => ev = .returned (.int .u32 (lastUid L.ms : Nat)) ∧ Below w.heap.size w w' := by
  obtain ⟨nm, ep, nx, A, c, ms, i, m⟩ := L
  have hlt := h.lt
  obtain ⟨hms, hat, hlen, -, -⟩ := h
  simp only at hms hat hlen hlt ⊢
  unfold lookC
  obtain ⟨y, hy⟩ : ∃ y, ms[ms.length - 1]? = some y := ⟨_, List.getElem?_eq_getElem (by omega)⟩
  have hlast : lastUid ms = y.uid := by unfold lastUid; rw [List.getLast?_eq_getElem?, hy]; rfl
  have HB := Below.refl w.heap.size w
  refine calls_at 14 Tryz.func190 rfl rfl (Nat.le_of_ble_eq_true rfl) ?_
  intro a hA; replace hA := hA.norm
  refine wS (wR ?_)
  refine wl_new hA rfl rfl (by decide) (fun ev h => by simp [go_sem, h.get 0 rfl]; try first | exact ⟨rfl, rfl⟩ | rfl) fun w1 a (K1 : Blk _ _ _ _) hz1 hb1 hA => ?_
  replace HB := HB.trans (hb1.mono HB.size)
  replace hms := hms.below hb1
  obtain ⟨ad, rfl, hadl, q0, -⟩ := hms.at_ hy
  obtain ⟨k, hk⟩ : ∃ k, ms.length = k + 1 := ⟨ms.length - 1, by omega⟩
  rw [hk] at K1 q0 hlt
  rw [Nat.add_sub_cancel] at q0
  have jj0 : (0 : Int) ≤ (k : Int) := by omega
  have jj1 : (k : Int) < (k : Int) + 1 := by omega
  have i1 : IntKind.i64.wrap (k : Int) = (k : Int) := by rw [IntWalk.i64_in _ (by omega)]
  revert a; refine wo rfl rfl (by decide) (fun ev e h => by simp [go_sem, h, K1.cell, q0, jj0, jj1, i1] <;> rfl) ?_; intro a hA
  replace hA := hA.keepN [1]
  refine wN (nT (wS (wR ?_)))
  revert a; (iterate 10 refine wo rfl rfl (by decide) (fun ev e h => by simp [go_sem, h, K1.cell, q0, jj0, jj1, i1] <;> rfl) ?_); intro a hA
  replace hA := hA.keepN [12]
  revert a; (iterate 2 refine wo rfl rfl (by decide) (fun ev e h => by simp [go_sem, h, K1.cell, q0, jj0, jj1, i1] <;> rfl) ?_); intro a hA
  replace hA := hA.keepN [2]
  refine wN (nT (wp_ret ?_))
  refine ret_1 hA 2 rfl rfl ?_
  exact ⟨by rw [hlast], HB⟩
/-- a call enters -/
def Enters (F : FuncId) : Prop := ∀ (args : Array Value) (w : World), (callFunc F args).run Tryz.prog w = .ok (.enter F args) w
theorem enters {F : FuncId} {fn : Func} (hf : Tryz.prog.funcs[F]? = some fn) (hc : callOk fn = true) : Enters F := fun args w => by
  unfold callOk at hc
  rw [Bool.and_eq_true, Bool.not_eq_true'] at hc
  have hn : ¬ fn.name = "runtime.NumGoroutine" := by simpa using hc.1
  have hb : ¬ fn.body = none := by
    have := hc.2
    cases h : fn.body with
    | none => rw [h] at this; cases this
    | some c => simp
  simp [callFunc, hf, hn, hb]
/-- a closure runs, and answers so -/
def RunK (L : LookV) (k : KeyA) (v : Value) (w : World) : Prop := ∃ F caps, v = .func (.func F) #[] caps ∧ Enters F ∧ Calls Tryz.prog F (#[.agg (lookC L)] ++ caps) w fun ev w' => ev = .returned (.bool (evalK k (lookF L))) ∧ Below w.heap.size w w'
theorem run_never (L : LookV) (w : World) : RunK L .never (.func (.func 134) #[] #[]) w := by
  refine ⟨_, _, rfl, enters Tryz.func134 (by kernel_rfl), ?_⟩
  show Calls Tryz.prog _ #[.agg (lookC L)] w _
  rw [evalK]
  have HB := Below.refl w.heap.size w
  unfold lookC
  refine calls_at 3 Tryz.func134 rfl rfl (Nat.le_of_ble_eq_true rfl) ?_
  intro a hA; replace hA := hA.norm
  refine wS (wR ?_)
  refine wl_new hA rfl rfl (by decide) (fun ev h => by simp [go_sem, h.get 0 rfl]; try first | exact ⟨rfl, rfl⟩ | rfl) fun w1 a (K1 : Blk _ _ _ _) hz1 hb1 hA => ?_
  replace HB := HB.trans (hb1.mono HB.size)
  revert a; refine wo rfl rfl (by decide) (fun ev e h => by simp [go_sem, h] <;> rfl) ?_; intro a hA
  replace hA := hA.keepN []
  refine wN (nT (wS (wR ?_)))
  revert a; refine wo rfl rfl (by decide) (fun ev e h => by simp [go_sem, h] <;> rfl) ?_; intro a hA
  replace hA := hA.keepN [2]
  refine wN (nT (wp_ret ?_))
  refine ret_1 hA 2 rfl rfl ?_
  exact ⟨rfl, HB⟩
theorem run_all (L : LookV) (w : World) : RunK L .all (.func (.func 177) #[] #[]) w := by
  refine ⟨_, _, rfl, enters Tryz.func177 (by kernel_rfl), ?_⟩
  show Calls Tryz.prog _ #[.agg (lookC L)] w _
  rw [evalK]
  have HB := Below.refl w.heap.size w
  unfold lookC
  refine calls_at 3 Tryz.func177 rfl rfl (Nat.le_of_ble_eq_true rfl) ?_
  intro a hA; replace hA := hA.norm
  refine wS (wR ?_)
  refine wl_new hA rfl rfl (by decide) (fun ev h => by simp [go_sem, h.get 0 rfl]; try first | exact ⟨rfl, rfl⟩ | rfl) fun w1 a (K1 : Blk _ _ _ _) hz1 hb1 hA => ?_
  replace HB := HB.trans (hb1.mono HB.size)
  revert a; refine wo rfl rfl (by decide) (fun ev e h => by simp [go_sem, h] <;> rfl) ?_; intro a hA
  replace hA := hA.keepN []
  refine wN (nT (wS (wR ?_)))
  revert a; refine wo rfl rfl (by decide) (fun ev e h => by simp [go_sem, h] <;> rfl) ?_; intro a hA
  replace hA := hA.keepN [2]
  refine wN (nT (wp_ret ?_))
  refine ret_1 hA 2 rfl rfl ?_
  exact ⟨rfl, HB⟩
theorem agg_look (L : LookV) : lookC L = #[.string L.nm, .int .u32 L.ep, .int .u32 L.nx, .slice L.A L.ms.length L.c, .int .i64 (L.i : Nat)] := rfl
set_option maxRecDepth 100000 in
set_option maxHeartbeats 4000000 in
theorem run_larger (L : LookV) (n : Int) (q : Nat) (w : World) (h : LookAt w L) (Kq : Blk w q 3 #[.int .i64 n]) : RunK L (.larger n) (.func (.func 185) #[] #[.pointer (some ⟨q, 0, none⟩)]) w := by
  refine ⟨_, _, rfl, enters Tryz.func185 (by kernel_rfl), ?_⟩
  show Calls Tryz.prog _ #[.agg (lookC L), .pointer (some ⟨q, 0, none⟩)] w _
  rw [evalK]
  have HB := Below.refl w.heap.size w
  refine calls_at 10 Tryz.func185 rfl rfl (Nat.le_of_ble_eq_true rfl) ?_
  intro a hA; replace hA := hA.norm
  rw [agg_look] at hA
  refine wS (wR ?_)
  refine wl_new hA rfl rfl (by decide) (fun ev h => by simp [go_sem, h.get 0 rfl]; try first | exact ⟨rfl, rfl⟩ | rfl) fun w1 a (K1 : Blk _ _ _ _) hz1 hb1 hA => ?_
  replace HB := HB.trans (hb1.mono HB.size)
  replace h := h.below hb1
  replace Kq := Kq.below hb1 Kq.lt
  revert a; refine wo rfl rfl (by decide) (fun ev e h => by simp [go_sem, h] <;> rfl) ?_; intro a hA
  replace hA := hA.keepN [1, 2]
  have pS := fun (wo : World) (hC : (fun wy => Below w1.heap.size w1 wy) wo) => have p1 := K1.below hC K1.lt; have p2 := Kq.below hC Kq.lt; And.intro (p1.cell) (p2.cell)
  refine wN (nT (wS ?_))
  refine wp_any_at hA [(.det ?dS0), (.det ?dS1), (.det ?dS2), (.det ?dS3), (.det ?dS4), (.det ?dS5), (.det ?dS6)] [] (fun wy => Below w1.heap.size w1 wy) (TSp [] Grows) (by kernel_rfl) rfl (by kernel_rfl) (by kernel_rfl) rfl ((Below.refl _ _).drew) (stab_sp [] [true, true, true, true, true, true, true] [true, true, true, true, true, true, true] [] rfl rfl rfl (by kernel_rfl) ⟨trivial, trivial, trivial, trivial, trivial, trivial, trivial, trivial⟩ trivial) (fun _ h => by cases h) (fun _ _ _ _ _ h => by cases h) (fun _ h => by cases h) ⟨?oS0, ?oS1, ?oS2, ?oS3, ?oS4, ?oS5, ?oS6, trivial⟩ (by kernel_rfl) ?fS
  case oS0 => intro ev wo hev hC hs hph; have x0 := se hA hs 2; exact od rfl rfl (by kernel_rfl) hC (TSp.of rfl (Grows.refl _)) (by simp [go_sem, x0, pS _ hC] <;> rfl)
  case oS1 =>
    intro ev wo hev hC hs hph
    have e4 := sd hs 4 0
    have p1 := K1.below hC K1.lt
    have p2 := Kq.below hC Kq.lt
    exact ob_dcall (wanted_none rfl) rfl (by kernel_rfl) (msg_any L wo (h.below hC)) (exec_call Tryz.func180 (by kernel_rfl) rfl (hev.func _) (by first | (simp only [mL, e4, hev.const] <;> rfl) | (simp [mL, e4, hev.const] <;> rfl))) (by rfl) (fun w3 hb3 => ⟨hC.trans (hb3.mono hC.size), TSp.of rfl hb3⟩)
  case oS2 => intro ev wo hev hC hs hph; have x0 := sd hs 5 1; exact od rfl rfl (by kernel_rfl) hC (TSp.of rfl (Grows.refl _)) (by simp [go_sem, x0] <;> rfl)
  case oS3 => intro ev wo hev hC hs hph; have x0 := sd hs 6 2; exact od rfl rfl (by kernel_rfl) hC (TSp.of rfl (Grows.refl _)) (by simp [go_sem, x0] <;> rfl)
  case oS4 => intro ev wo hev hC hs hph; have x0 := se hA hs 1; exact od rfl rfl (by kernel_rfl) hC (TSp.of rfl (Grows.refl _)) (by simp [go_sem, x0, pS _ hC] <;> rfl)
  case oS5 => intro ev wo hev hC hs hph; have x0 := sd hs 7 3; have x1 := sd hs 8 4; exact od rfl rfl (by kernel_rfl) hC (TSp.of rfl (Grows.refl _)) (by simp [go_sem, x0, x1] <;> rfl)
  case oS6 => intro ev wo hev hC hs hph; have x0 := sd hs 9 5; exact od rfl rfl (by kernel_rfl) hC (TSp.of rfl (Grows.refl _)) (by simp [go_sem, x0] <;> rfl)
  intro sg wf hC hph
  intro a hA
  replace hA := hA.keepN [3]
  refine nT (wp_ret ?_)
  refine ret_1 hA 3 rfl rfl ?_
  exact ⟨ret_bool (rfl), HB.trans (hC.mono HB.size)⟩
set_option maxRecDepth 100000 in
set_option maxHeartbeats 4000000 in
theorem run_smaller (L : LookV) (n : Int) (q : Nat) (w : World) (h : LookAt w L) (Kq : Blk w q 3 #[.int .i64 n]) : RunK L (.smaller n) (.func (.func 186) #[] #[.pointer (some ⟨q, 0, none⟩)]) w := by
  refine ⟨_, _, rfl, enters Tryz.func186 (by kernel_rfl), ?_⟩
  show Calls Tryz.prog _ #[.agg (lookC L), .pointer (some ⟨q, 0, none⟩)] w _
  rw [evalK]
  have HB := Below.refl w.heap.size w
  refine calls_at 10 Tryz.func186 rfl rfl (Nat.le_of_ble_eq_true rfl) ?_
  intro a hA; replace hA := hA.norm
  rw [agg_look] at hA
  refine wS (wR ?_)
  refine wl_new hA rfl rfl (by decide) (fun ev h => by simp [go_sem, h.get 0 rfl]; try first | exact ⟨rfl, rfl⟩ | rfl) fun w1 a (K1 : Blk _ _ _ _) hz1 hb1 hA => ?_
  replace HB := HB.trans (hb1.mono HB.size)
  replace h := h.below hb1
  replace Kq := Kq.below hb1 Kq.lt
  revert a; refine wo rfl rfl (by decide) (fun ev e h => by simp [go_sem, h] <;> rfl) ?_; intro a hA
  replace hA := hA.keepN [1, 2]
  have pS := fun (wo : World) (hC : (fun wy => Below w1.heap.size w1 wy) wo) => have p1 := K1.below hC K1.lt; have p2 := Kq.below hC Kq.lt; And.intro (p1.cell) (p2.cell)
  refine wN (nT (wS ?_))
  refine wp_any_at hA [(.det ?dS0), (.det ?dS1), (.det ?dS2), (.det ?dS3), (.det ?dS4), (.det ?dS5), (.det ?dS6)] [] (fun wy => Below w1.heap.size w1 wy) (TSp [] Grows) (by kernel_rfl) rfl (by kernel_rfl) (by kernel_rfl) rfl ((Below.refl _ _).drew) (stab_sp [] [true, true, true, true, true, true, true] [true, true, true, true, true, true, true] [] rfl rfl rfl (by kernel_rfl) ⟨trivial, trivial, trivial, trivial, trivial, trivial, trivial, trivial⟩ trivial) (fun _ h => by cases h) (fun _ _ _ _ _ h => by cases h) (fun _ h => by cases h) ⟨?oS0, ?oS1, ?oS2, ?oS3, ?oS4, ?oS5, ?oS6, trivial⟩ (by kernel_rfl) ?fS
  case oS0 => intro ev wo hev hC hs hph; have x0 := se hA hs 2; exact od rfl rfl (by kernel_rfl) hC (TSp.of rfl (Grows.refl _)) (by simp [go_sem, x0, pS _ hC] <;> rfl)
  case oS1 =>
    intro ev wo hev hC hs hph
    have e4 := sd hs 4 0
    have p1 := K1.below hC K1.lt
    have p2 := Kq.below hC Kq.lt
    exact ob_dcall (wanted_none rfl) rfl (by kernel_rfl) (msg_any L wo (h.below hC)) (exec_call Tryz.func180 (by kernel_rfl) rfl (hev.func _) (by first | (simp only [mL, e4, hev.const] <;> rfl) | (simp [mL, e4, hev.const] <;> rfl))) (by rfl) (fun w3 hb3 => ⟨hC.trans (hb3.mono hC.size), TSp.of rfl hb3⟩)
  case oS2 => intro ev wo hev hC hs hph; have x0 := sd hs 5 1; exact od rfl rfl (by kernel_rfl) hC (TSp.of rfl (Grows.refl _)) (by simp [go_sem, x0] <;> rfl)
  case oS3 => intro ev wo hev hC hs hph; have x0 := sd hs 6 2; exact od rfl rfl (by kernel_rfl) hC (TSp.of rfl (Grows.refl _)) (by simp [go_sem, x0] <;> rfl)
  case oS4 => intro ev wo hev hC hs hph; have x0 := se hA hs 1; exact od rfl rfl (by kernel_rfl) hC (TSp.of rfl (Grows.refl _)) (by simp [go_sem, x0, pS _ hC] <;> rfl)
  case oS5 => intro ev wo hev hC hs hph; have x0 := sd hs 7 3; have x1 := sd hs 8 4; exact od rfl rfl (by kernel_rfl) hC (TSp.of rfl (Grows.refl _)) (by simp [go_sem, x0, x1] <;> rfl)
  case oS6 => intro ev wo hev hC hs hph; have x0 := sd hs 9 5; exact od rfl rfl (by kernel_rfl) hC (TSp.of rfl (Grows.refl _)) (by simp [go_sem, x0] <;> rfl)
  intro sg wf hC hph
  intro a hA
  replace hA := hA.keepN [3]
  refine nT (wp_ret ?_)
  refine ret_1 hA 3 rfl rfl ?_
  exact ⟨ret_bool (rfl), HB.trans (hC.mono HB.size)⟩
set_option maxRecDepth 100000 in
set_option maxHeartbeats 4000000 in
theorem run_text (L : LookV) (x : List UInt8) (q : Nat) (w : World) (h : LookAt w L) (Kq : Blk w q 9 #[.string (St x)]) (hx : x.length ≤ 1048576) : RunK L (.text x) (.func (.func 183) #[] #[.pointer (some ⟨q, 0, none⟩)]) w := by
  refine ⟨_, _, rfl, enters Tryz.func183 (by kernel_rfl), ?_⟩
  show Calls Tryz.prog _ #[.agg (lookC L), .pointer (some ⟨q, 0, none⟩)] w _
  rw [evalK]
  have HB := Below.refl w.heap.size w
  obtain ⟨mm, hmm⟩ := h.one
  have hbig := h.big
  have hmlt := block_lt_of_cell hmm
  refine calls_at 10 Tryz.func183 rfl rfl (Nat.le_of_ble_eq_true rfl) ?_
  intro a hA; replace hA := hA.norm
  rw [agg_look] at hA
  refine wS (wR ?_)
  refine wl_new hA rfl rfl (by decide) (fun ev h => by simp [go_sem, h.get 0 rfl]; try first | exact ⟨rfl, rfl⟩ | rfl) fun w1 a (K1 : Blk _ _ _ _) hz1 hb1 hA => ?_
  replace HB := HB.trans (hb1.mono HB.size)
  replace h := h.below hb1
  replace Kq := Kq.below hb1 Kq.lt
  revert a; refine wo rfl rfl (by decide) (fun ev e h => by simp [go_sem, h] <;> rfl) ?_; intro a hA
  replace hA := hA.keepN [1, 2]
  have pS := fun (wo : World) (hC : (fun wy => Below w1.heap.size w1 wy) wo) => have p1 := K1.below hC K1.lt; have p2 := Kq.below hC Kq.lt; And.intro (p1.cell) (p2.cell)
  refine wN (nT (wS ?_))
  refine wp_any_at hA [(.det ?dS0), (.det ?dS1), (.det ?dS2), (.det ?dS3), (.det ?dS4), (.det ?dS5), (.det ?dS6)] [] (fun wy => Below w1.heap.size w1 wy) (TSp [] Grows) (by kernel_rfl) rfl (by kernel_rfl) (by kernel_rfl) rfl ((Below.refl _ _).drew) (stab_sp [] [true, true, true, true, true, true, true] [true, true, true, true, true, true, true] [] rfl rfl rfl (by kernel_rfl) ⟨trivial, trivial, trivial, trivial, trivial, trivial, trivial, trivial⟩ trivial) (fun _ h => by cases h) (fun _ _ _ _ _ h => by cases h) (fun _ h => by cases h) ⟨?oS0, ?oS1, ?oS2, ?oS3, ?oS4, ?oS5, ?oS6, trivial⟩ (by kernel_rfl) ?fS
  case oS0 => intro ev wo hev hC hs hph; have x0 := se hA hs 2; exact od rfl rfl (by kernel_rfl) hC (TSp.of rfl (Grows.refl _)) (by simp [go_sem, x0, pS _ hC] <;> rfl)
  case oS1 =>
    intro ev wo hev hC hs hph
    have e4 := sd hs 4 0
    have p1 := K1.below hC K1.lt
    have p2 := Kq.below hC Kq.lt
    exact ob_dcall (wanted_none rfl) rfl (by kernel_rfl) (msg_any L wo (h.below hC)) (exec_call Tryz.func180 (by kernel_rfl) rfl (hev.func _) (by first | (simp only [mL, e4, hev.const] <;> rfl) | (simp [mL, e4, hev.const] <;> rfl))) (by rfl) (fun w3 hb3 => ⟨hC.trans (hb3.mono hC.size), TSp.of rfl hb3⟩)
  case oS2 => intro ev wo hev hC hs hph; have x0 := sd hs 5 1; exact od rfl rfl (by kernel_rfl) hC (TSp.of rfl (Grows.refl _)) (by simp [go_sem, x0] <;> rfl)
  case oS3 => intro ev wo hev hC hs hph; have x0 := sd hs 6 2; exact od rfl rfl (by kernel_rfl) hC (TSp.of rfl (Grows.refl _)) (by simp [go_sem, x0, conv_reads (c := L.m.c) rfl (h.below hC).reads] <;> rfl)
  case oS4 => intro ev wo hev hC hs hph; have x0 := se hA hs 1; exact od rfl rfl (by kernel_rfl) hC (TSp.of rfl (Grows.refl _)) (by simp [go_sem, x0, pS _ hC] <;> rfl)
  case oS5 =>
    intro ev wo hev hC hs hph
    have e7 := sd hs 7 3
    have e8 := sd hs 8 4
    have p1 := K1.below hC K1.lt
    have p2 := Kq.below hC Kq.lt
    exact ob_dcall (wanted_none rfl) rfl (by kernel_rfl) (within_any L.m.b x mm wo (((HB.trans (hC.mono HB.size)).cell hmlt).trans hmm) (by omega) (by omega)) (exec_call Tryz.func181 (by kernel_rfl) rfl (hev.func _) (by first | (simp only [mL, e7, e8, hev.const] <;> rfl) | (simp [mL, e7, e8, hev.const] <;> rfl))) (by rfl) (fun w3 hb3 => ⟨hC.trans (hb3.mono hC.size), TSp.of rfl hb3⟩)
  case oS6 => intro ev wo hev hC hs hph; have x0 := sd hs 9 5; exact od rfl rfl (by kernel_rfl) hC (TSp.of rfl (Grows.refl _)) (by simp [go_sem, x0] <;> rfl)
  intro sg wf hC hph
  intro a hA
  replace hA := hA.keepN [3]
  refine nT (wp_ret ?_)
  refine ret_1 hA 3 rfl rfl ?_
  exact ⟨rfl, HB.trans (hC.mono HB.size)⟩
set_option maxRecDepth 100000 in
set_option maxHeartbeats 4000000 in
theorem run_body (L : LookV) (x : List UInt8) (q : Nat) (w : World) (h : LookAt w L) (Kq : Blk w q 9 #[.string (St x)]) (hx : x.length ≤ 1048576) : RunK L (.body x) (.func (.func 182) #[] #[.pointer (some ⟨q, 0, none⟩)]) w := by
  refine ⟨_, _, rfl, enters Tryz.func182 (by kernel_rfl), ?_⟩
  show Calls Tryz.prog _ #[.agg (lookC L), .pointer (some ⟨q, 0, none⟩)] w _
  rw [evalK]
  have HB := Below.refl w.heap.size w
  obtain ⟨mm, hmm⟩ := h.one
  have hbig := h.big
  have hmlt := block_lt_of_cell hmm
  refine calls_at 17 Tryz.func182 rfl rfl (Nat.le_of_ble_eq_true rfl) ?_
  intro a hA; replace hA := hA.norm
  rw [agg_look] at hA
  refine wS (wR ?_)
  refine wl_new hA rfl rfl (by decide) (fun ev h => by simp [go_sem, h.get 0 rfl]; try first | exact ⟨rfl, rfl⟩ | rfl) fun w1 a (K1 : Blk _ _ _ _) hz1 hb1 hA => ?_
  replace HB := HB.trans (hb1.mono HB.size)
  replace h := h.below hb1
  replace Kq := Kq.below hb1 Kq.lt
  revert a; refine wo rfl rfl (by decide) (fun ev e h => by simp [go_sem, h, K1.cell] <;> rfl) ?_; intro a hA
  replace hA := hA.keepN [1, 2]
  refine wN (nT (wS (wR ?_)))
  revert a; refine wo rfl rfl (by decide) (fun ev e h => by simp [go_sem, h, K1.cell] <;> rfl) ?_; intro a hA
  refine wl_call hA rfl rfl (by decide) (fun ev h => exec_call Tryz.func180 (by kernel_rfl) rfl (h.f _) (by first | (simp only [mL, h.get 7 rfl, h.c] <;> rfl) | (simp [mL, h.get 7 rfl, h.c, K1.cell] <;> rfl))) (msg_any L w1 h) ?_
  rintro e w2 ⟨rfl, hb2⟩
  refine ⟨_, rfl, fun a hA => ?_⟩
  replace HB := HB.trans (hb2.mono HB.size)
  replace h := h.below hb2
  replace Kq := Kq.below hb2 Kq.lt
  revert a; refine wo rfl rfl (by decide) (fun ev e h => by simp [go_sem, h, K1.cell] <;> rfl) ?_; intro a hA
  refine wl_call hA rfl rfl (by decide) (fun ev h => exec_call Tryz.func62 (by kernel_rfl) rfl (h.f _) (by first | (simp only [mL, h.get 9 rfl, h.c] <;> rfl) | (simp [mL, h.get 9 rfl, h.c, K1.cell] <;> rfl))) (cut_any L.m.a L.m.b.length L.m.c L.m.b _ rfl h.caps.1 (by have := h.caps.2; unfold maxLen; omega) (by omega) h.reads) ?_
  rintro e w3 ⟨v1, v2, rfl, ho1, ho2, hb3⟩
  refine ⟨_, rfl, fun a hA => ?_⟩
  replace HB := HB.trans (hb3.mono HB.size)
  replace h := h.below hb3
  replace Kq := Kq.below hb3 Kq.lt
  have hbl : (bodyH L.m.b).length ≤ 1048576 := by
    have := congrArg List.length (head_body L.m.b)
    rw [List.length_append] at this
    omega
  obtain ⟨A2, c2, rfl, hr2⟩ := ho2.took
  have hcv := conv_reads (c := c2) rfl hr2
  revert a; (iterate 5 refine wo rfl rfl (by decide) (fun ev e h => by simp [go_sem, h, Kq.cell, hcv] <;> rfl) ?_); intro a hA
  replace hA := hA.keepN [1, 5]
  refine wN (nT (wS (wR ?_)))
  revert a; refine wo rfl rfl (by decide) (fun ev e h => by simp [go_sem, h, Kq.cell, hcv] <;> rfl) ?_; intro a hA
  refine wl_op hA rfl rfl (by decide) (fun ev h => by simp [go_sem, h.get 13 rfl, Kq.cell, hcv]; try first | exact ⟨rfl, rfl⟩ | rfl) fun a hA => ?_
  revert a; refine wo rfl rfl (by decide) (fun ev e h => by simp [go_sem, h, Kq.cell, hcv] <;> rfl) ?_; intro a hA
  refine wl_call hA rfl rfl (by decide) (fun ev h => exec_call Tryz.func181 (by kernel_rfl) rfl (h.f _) (by first | (simp only [mL, h.get 14 rfl, h.get 15 rfl, h.c] <;> rfl) | (simp [mL, h.get 14 rfl, h.get 15 rfl, h.c, Kq.cell, hcv] <;> rfl))) (within_any (bodyH L.m.b) x mm _ ((HB.cell hmlt).trans hmm) (by omega) (by omega)) ?_
  rintro e w4 ⟨rfl, hb4⟩
  refine ⟨_, rfl, fun a hA => ?_⟩
  replace HB := HB.trans (hb4.mono HB.size)
  replace h := h.below hb4
  replace Kq := Kq.below hb4 Kq.lt
  revert a; refine wo rfl rfl (by decide) (fun ev e h => by simp [go_sem, h, Kq.cell, hcv] <;> rfl) ?_; intro a hA
  replace hA := hA.keepN [3]
  refine wN (nT (wp_ret ?_))
  refine ret_1 hA 3 rfl rfl ?_
  exact ⟨rfl, HB⟩
theorem and1_i64 (n : Int) : bits .and .i64 n 1 = n % 2 := by
  have h1 : (BitVec.ofInt 64 1).toNat = 2 ^ 1 - 1 := by decide
  have key : (BitVec.ofInt 64 n &&& BitVec.ofInt 64 1).toNat = (n % ((2 ^ 64 : Nat) : Int)).toNat % 2 ^ 1 := by
    rw [BitVec.toNat_and, BitVec.toNat_ofInt, h1, Nat.and_two_pow_sub_one_eq_mod]
  show IntKind.i64.wrap ((BitVec.ofInt 64 n &&& BitVec.ofInt 64 1).toNat : Nat) = n % 2
  rw [key, IntKind.wrap_i64]
  omega
theorem step_sum (st : List FieldS × Bool) (s : List UInt8) : sumV (stepF st s).1 ≤ sumV st.1 + s.length := by
  unfold stepF
  split
  · split
    · exact sumV_add _ _
    · exact Nat.le_add_right _ _
  · split
    · rw [sumV_app]
      have := (cut_len58 s).2
      show sumV st.1 + ((Lib.cut s [58]).2.1.length + 0) ≤ _
      omega
    · exact Nat.le_add_right _ _
theorem lines_sum : ∀ (f : Nat) (b : List UInt8) (st : List FieldS × Bool), sumV (linesF f b st).1 ≤ sumV st.1 + b.length
  | 0, b, st => Nat.le_add_right _ _
  | f + 1, b, st => by
    unfold linesF
    split
    · exact Nat.le_add_right _ _
    · have h1 := line_len b
      have h3 := bare_len (lineS b).1
      have h4 := lines_sum f (lineS b).2 (stepF st (bareS (lineS b).1))
      have h5 := step_sum st (bareS (lineS b).1)
      omega
theorem trimS_le (cut l : List UInt8) : (trimS cut l).length ≤ l.length := by
  unfold trimS trimL
  exact Nat.le_trans (List.dropWhile_sublist _).length_le (trimR_len cut l)
theorem field_len (b n : List UInt8) : ((fieldV b n).getD []).length ≤ b.length := by
  unfold fieldV
  cases hf : (fieldsS b).find? fun f => lowerS f.n == lowerS n with
  | none => exact Nat.zero_le _
  | some x =>
    have hx := List.mem_of_find?_eq_some hf
    unfold fieldsS at hx
    obtain ⟨y, hy, rfl⟩ := List.mem_map.1 hx
    have h1 := sumV_mem hy
    have h2 := lines_sum b.length (headS b) ([], false)
    have h3 : sumV ([] : List FieldS) = 0 := rfl
    have h4 := congrArg List.length (head_body b)
    rw [List.length_append] at h4
    have h5 := trimS_le [32, 9] y.v
    show (trimS [32, 9] y.v).length ≤ _
    simp only at h2
    omega
set_option maxRecDepth 100000 in
set_option maxHeartbeats 4000000 in
theorem run_flag (L : LookV) (i : Nat) (no : Bool) (p q : Nat) (w : World) (h : LookAt w L) (Kp : Blk w p 3 #[.int .i64 (i : Nat)]) (Kq : Blk w q 4 #[.bool no]) (hi : i < 5) : RunK L (.flag i no) (.func (.func 213) #[] #[.pointer (some ⟨p, 0, none⟩), .pointer (some ⟨q, 0, none⟩)]) w := by
  refine ⟨_, _, rfl, enters Tryz.func213 (by kernel_rfl), ?_⟩
  show Calls Tryz.prog _ #[.agg (lookC L), .pointer (some ⟨p, 0, none⟩), .pointer (some ⟨q, 0, none⟩)] w _
  rw [evalK]
  have HB := Below.refl w.heap.size w
  refine calls_at 14 Tryz.func213 rfl rfl (Nat.le_of_ble_eq_true rfl) ?_
  intro a hA; replace hA := hA.norm
  rw [agg_look] at hA
  refine wS (wR ?_)
  refine wl_new hA rfl rfl (by decide) (fun ev h => by simp [go_sem, h.get 0 rfl]; try first | exact ⟨rfl, rfl⟩ | rfl) fun w1 a (K1 : Blk _ _ _ _) hz1 hb1 hA => ?_
  replace HB := HB.trans (hb1.mono HB.size)
  replace h := h.below hb1
  replace Kp := Kp.below hb1 Kp.lt
  replace Kq := Kq.below hb1 Kq.lt
  revert a; refine wo rfl rfl (by decide) (fun ev e h => by simp [go_sem, h] <;> rfl) ?_; intro a hA
  replace hA := hA.keepN [1, 2, 3]
  have pS := fun (wo : World) (hC : (fun wy => Below w1.heap.size w1 wy) wo) => have p1 := K1.below hC K1.lt; have p2 := Kp.below hC Kp.lt; have p3 := Kq.below hC Kq.lt; And.intro (p1.cell) (And.intro (p2.cell) (p3.cell))
  refine wN (nT (wS ?_))
  refine wp_any_at hA [(.det ?dS0), (.det ?dS1), (.det ?dS2), (.det ?dS3), (.det ?dS4), (.det ?dS5), (.det ?dS6), (.det ?dS7), (.det ?dS8), (.det ?dS9)] [] (fun wy => Below w1.heap.size w1 wy) (TSp [] Grows) (by kernel_rfl) rfl (by kernel_rfl) (by kernel_rfl) rfl ((Below.refl _ _).drew) (stab_sp [] [true, true, true, true, true, true, true, true, true, true] [true, true, true, true, true, true, true, true, true, true] [] rfl rfl rfl (by kernel_rfl) ⟨trivial, trivial, trivial, trivial, trivial, trivial, trivial, trivial, trivial, trivial, trivial⟩ trivial) (fun _ h => by cases h) (fun _ _ _ _ _ h => by cases h) (fun _ h => by cases h) ⟨?oS0, ?oS1, ?oS2, ?oS3, ?oS4, ?oS5, ?oS6, ?oS7, ?oS8, ?oS9, trivial⟩ (by kernel_rfl) ?fS
  case oS0 => intro ev wo hev hC hs hph; have x0 := se hA hs 3; exact od rfl rfl (by kernel_rfl) hC (TSp.of rfl (Grows.refl _)) (by simp [go_sem, x0, pS _ hC] <;> rfl)
  case oS1 =>
    intro ev wo hev hC hs hph
    have e5 := sd hs 5 0
    have p1 := K1.below hC K1.lt
    have p2 := Kp.below hC Kp.lt
    have p3 := Kq.below hC Kq.lt
    exact ob_dcall (wanted_none rfl) rfl (by kernel_rfl) (msg_any L wo (h.below hC)) (exec_call Tryz.func180 (by kernel_rfl) rfl (hev.func _) (by first | (simp only [mL, e5, hev.const] <;> rfl) | (simp [mL, e5, hev.const] <;> rfl))) (by rfl) (fun w3 hb3 => ⟨hC.trans (hb3.mono hC.size), TSp.of rfl hb3⟩)
  case oS2 => intro ev wo hev hC hs hph; have x0 := sd hs 6 1; exact od rfl rfl (by kernel_rfl) hC (TSp.of rfl (Grows.refl _)) (by simp [go_sem, x0] <;> rfl)
  case oS3 => intro ev wo hev hC hs hph; have x0 := se hA hs 1; exact od rfl rfl (by kernel_rfl) hC (TSp.of rfl (Grows.refl _)) (by simp [go_sem, x0, pS _ hC] <;> rfl)
  case oS4 => intro ev wo hev hC hs hph; have x0 := sd hs 7 2; have x1 := sd hs 8 3; exact od rfl rfl (by kernel_rfl) hC (TSp.of rfl (Grows.refl _)) (by simp [go_sem, x0, x1] <;> rfl)
  case oS5 => intro ev wo hev hC hs hph; have x0 := sd hs 9 4; exact od rfl rfl (by kernel_rfl) hC (TSp.of rfl (Grows.refl _)) (by simp [go_sem, x0, hev.const] <;> rfl)
  case oS6 => intro ev wo hev hC hs hph; have x0 := sd hs 10 5; exact od rfl rfl (by kernel_rfl) hC (TSp.of rfl (Grows.refl _)) (by simp [go_sem, x0, hev.const] <;> rfl)
  case oS7 => intro ev wo hev hC hs hph; have x0 := se hA hs 2; exact od rfl rfl (by kernel_rfl) hC (TSp.of rfl (Grows.refl _)) (by simp [go_sem, x0, pS _ hC] <;> rfl)
  case oS8 => intro ev wo hev hC hs hph; have x0 := sd hs 11 6; have x1 := sd hs 12 7; exact od rfl rfl (by kernel_rfl) hC (TSp.of rfl (Grows.refl _)) (by simp [go_sem, x0, x1] <;> rfl)
  case oS9 => intro ev wo hev hC hs hph; have x0 := sd hs 13 8; exact od rfl rfl (by kernel_rfl) hC (TSp.of rfl (Grows.refl _)) (by simp [go_sem, x0] <;> rfl)
  intro sg wf hC hph
  intro a hA
  replace hA := hA.keepN [4]
  refine nT (wp_ret ?_)
  refine ret_1 hA 4 rfl rfl ?_
  refine ⟨ret_bool ?_, HB.trans (hC.mono HB.size)⟩
  rw [and1_i64]
  rfl
set_option maxRecDepth 100000 in
set_option maxHeartbeats 4000000 in
theorem run_field (L : LookV) (n x : List UInt8) (p q : Nat) (w : World) (h : LookAt w L) (Kp : Blk w p 9 #[.string (St n)]) (Kq : Blk w q 9 #[.string (St x)]) (hn : n.length ≤ 1048576) (hx : x.length ≤ 1048576) : RunK L (.field n x) (.func (.func 179) #[] #[.pointer (some ⟨p, 0, none⟩), .pointer (some ⟨q, 0, none⟩)]) w := by
  refine ⟨_, _, rfl, enters Tryz.func179 (by kernel_rfl), ?_⟩
  show Calls Tryz.prog _ #[.agg (lookC L), .pointer (some ⟨p, 0, none⟩), .pointer (some ⟨q, 0, none⟩)] w _
  rw [evalK]
  have HB := Below.refl w.heap.size w
  obtain ⟨mm, hmm⟩ := h.one
  have hbig := h.big
  have hcap := h.caps
  have hmlt := block_lt_of_cell hmm
  have hf : ∀ wo, Below w.heap.size w wo → LookAt wo L → Calls Tryz.prog 41 #[.slice L.m.a L.m.b.length L.m.c, .string (St n)] wo fun ev w' => ev = .returned (.tuple #[.string (St ((fieldV L.m.b n).getD [])), .bool (fieldV L.m.b n).isSome]) ∧ Below wo.heap.size wo w' := fun wo hb ho => by
    refine (field_any L.m.a L.m.b.length L.m.c L.m.b n mm wo ((hb.cell hmlt).trans hmm) rfl hcap.1 (by unfold maxLen; omega) (by omega) hn ho.reads).mono fun e w' hh => ⟨?_, hh.2⟩
    rw [hh.1]
    cases fieldV L.m.b n <;> rfl
  obtain ⟨o, ho⟩ : ∃ o, fieldV L.m.b n = o := ⟨_, rfl⟩
  have hol : (o.getD []).length ≤ 1048576 := by
    have := field_len L.m.b n
    rw [ho] at this
    omega
  rw [show (lookF L).octs = L.m.b from rfl, ho]
  rw [ho] at hf
  obtain ⟨q1, hq1⟩ : ∃ q1, o.isSome = q1 := ⟨_, rfl⟩
  obtain ⟨s1, hs1⟩ : ∃ s1, o.getD [] = s1 := ⟨_, rfl⟩
  rw [hs1] at hol hf
  rw [hq1] at hf
  refine calls_at 21 Tryz.func179 rfl rfl (Nat.le_of_ble_eq_true rfl) ?_
  intro a hA; replace hA := hA.norm
  rw [agg_look] at hA
  refine wS (wR ?_)
  refine wl_new hA rfl rfl (by decide) (fun ev h => by simp [go_sem, h.get 0 rfl]; try first | exact ⟨rfl, rfl⟩ | rfl) fun w1 a (K1 : Blk _ _ _ _) hz1 hb1 hA => ?_
  replace HB := HB.trans (hb1.mono HB.size)
  replace h := h.below hb1
  replace Kp := Kp.below hb1 Kp.lt
  replace Kq := Kq.below hb1 Kq.lt
  revert a; refine wo rfl rfl (by decide) (fun ev e h => by simp [go_sem, h] <;> rfl) ?_; intro a hA
  replace hA := hA.keepN [1, 2, 3]
  have pS := fun (wo : World) (hC : (fun wy => Below w1.heap.size w1 wy) wo) => have p1 := K1.below hC K1.lt; have p2 := Kp.below hC Kp.lt; have p3 := Kq.below hC Kq.lt; And.intro (p1.cell) (And.intro (p2.cell) (p3.cell))
  refine wN (nT (wS ?_))
  refine wp_any_at hA [(.det ?dS0), (.det ?dS1), (.det ?dS2), (.det ?dS3), (.det ?dS4), (.det ?dS5), (.det ?dS6), (.det ?dS7), (.det ?dS8), (.det ?dS9)] [] (fun wy => Below w1.heap.size w1 wy) (TSp [] Grows) (by kernel_rfl) rfl (by kernel_rfl) (by kernel_rfl) rfl ((Below.refl _ _).drew) (stab_sp [] [true, true, true, true, true, true, true, true, true, true] [true, true, true, true, true, true, true, true, true, true] [] rfl rfl rfl (by kernel_rfl) ⟨trivial, trivial, trivial, trivial, trivial, trivial, trivial, trivial, trivial, trivial, trivial⟩ trivial) (fun _ h => by cases h) (fun _ _ _ _ _ h => by cases h) (fun _ h => by cases h) ⟨?oS0, ?oS1, ?oS2, ?oS3, ?oS4, ?oS5, ?oS6, ?oS7, ?oS8, ?oS9, trivial⟩ (by kernel_rfl) ?fS
  case oS0 => intro ev wo hev hC hs hph; have x0 := se hA hs 3; exact od rfl rfl (by kernel_rfl) hC (TSp.of rfl (Grows.refl _)) (by simp [go_sem, x0, pS _ hC] <;> rfl)
  case oS1 =>
    intro ev wo hev hC hs hph
    have e8 := sd hs 8 0
    have p1 := K1.below hC K1.lt
    have p2 := Kp.below hC Kp.lt
    have p3 := Kq.below hC Kq.lt
    exact ob_dcall (wanted_none rfl) rfl (by kernel_rfl) (msg_any L wo (h.below hC)) (exec_call Tryz.func180 (by kernel_rfl) rfl (hev.func _) (by first | (simp only [mL, e8, hev.const] <;> rfl) | (simp [mL, e8, hev.const] <;> rfl))) (by rfl) (fun w3 hb3 => ⟨hC.trans (hb3.mono hC.size), TSp.of rfl hb3⟩)
  case oS2 => intro ev wo hev hC hs hph; have x0 := sd hs 9 1; exact od rfl rfl (by kernel_rfl) hC (TSp.of rfl (Grows.refl _)) (by simp [go_sem, x0] <;> rfl)
  case oS3 => intro ev wo hev hC hs hph; have x0 := se hA hs 1; exact od rfl rfl (by kernel_rfl) hC (TSp.of rfl (Grows.refl _)) (by simp [go_sem, x0, pS _ hC] <;> rfl)
  case oS4 =>
    intro ev wo hev hC hs hph
    have e10 := sd hs 10 2
    have e11 := sd hs 11 3
    have p1 := K1.below hC K1.lt
    have p2 := Kp.below hC Kp.lt
    have p3 := Kq.below hC Kq.lt
    exact ob_dcall (wanted_none rfl) rfl (by kernel_rfl) (hf wo (HB.trans (hC.mono HB.size)) (h.below hC)) (exec_call Tryz.func41 (by kernel_rfl) rfl (hev.func _) (by first | (simp only [mL, e10, e11, hev.const] <;> rfl) | (simp [mL, e10, e11, hev.const] <;> rfl))) (by rfl) (fun w3 hb3 => ⟨hC.trans (hb3.mono hC.size), TSp.of rfl hb3⟩)
  case oS5 => intro ev wo hev hC hs hph; have x0 := sd hs 12 4; exact od rfl rfl (by kernel_rfl) hC (TSp.of rfl (Grows.refl _)) (by simp [go_sem, x0] <;> rfl)
  case oS6 => intro ev wo hev hC hs hph; have x0 := sd hs 7 5; exact od rfl rfl (by kernel_rfl) hC (TSp.of rfl (Grows.refl _)) (by simp [go_sem, x0] <;> rfl)
  case oS7 => intro ev wo hev hC hs hph; have x0 := sd hs 7 5; exact od rfl rfl (by kernel_rfl) hC (TSp.of rfl (Grows.refl _)) (by simp [go_sem, x0] <;> rfl)
  case oS8 => intro ev wo hev hC hs hph; have x0 := sd hs 13 6; exact od rfl rfl (by kernel_rfl) hC (TSp.of rfl (Grows.refl _)) (by simp [go_sem, x0] <;> rfl)
  case oS9 => intro ev wo hev hC hs hph; have x0 := sd hs 14 7; exact od rfl rfl (by kernel_rfl) hC (TSp.of rfl (Grows.refl _)) (by simp [go_sem, x0] <;> rfl)
  intro sg wf hC hph
  intro a hA
  replace hA := hA.keepN [2, 5, 6]
  refine nT ?_
  replace h := h.below hC
  replace Kq := Kq.below hC Kq.lt
  replace HB := HB.trans (hC.mono HB.size)
  refine wS (wR ?_)
  revert a; (iterate 2 refine wo rfl rfl (by decide) (fun ev e h => by simp [go_sem, h, Kq.cell] <;> rfl) ?_); (iterate 2 refine wg _ rfl rfl rfl rfl (by decide) (fun hq ev e h => by simp [go_sem, h, ↓gw_t (beq_t hq), Kq.cell] <;> rfl) ?_); intro a hA
  refine wl_gcallv _ hA rfl rfl rfl rfl (by decide) (fun hq ev h => exec_call Tryz.func181 (by kernel_rfl) rfl (h.f _) (by first | (simp only [mL, ((h.get 17 rfl).trans (gw_t (beq_t hq))), ((h.get 18 rfl).trans (gw_t (beq_t hq))), h.c] <;> rfl) | (simp [mL, ((h.get 17 rfl).trans (gw_t (beq_t hq))), ((h.get 18 rfl).trans (gw_t (beq_t hq))), h.c, Kq.cell] <;> rfl))) (fun hq => within_any s1 x mm _ ((HB.cell hmlt).trans hmm) (by omega) (by omega)) fun a w2 hb2 hA => ?_
  replace HB := HB.trans (hb2.mono HB.size)
  replace h := h.below hb2
  replace Kq := Kq.below hb2 Kq.lt
  revert a; refine wka rfl rfl (by decide) rfl rfl rfl ?_; refine wo rfl rfl (by decide) (fun ev e h => by simp [go_sem, h, Kq.cell] <;> rfl) ?_; intro a hA
  replace hA := hA.keepN [4]
  refine wN (nT (wp_ret ?_))
  refine ret_1 hA 4 rfl rfl ?_
  refine ⟨ret_bool ?_, HB⟩
  subst hq1
  subst hs1
  cases o <;> rfl
set_option maxRecDepth 100000 in
set_option maxHeartbeats 4000000 in
theorem run_set (L : LookV) (l : List (Nat × Nat)) (u : Bool) (v : Value) (lo p q : Nat) (w : World) (h : LookAt w L) (Kp : Blk w p 4 #[.bool u]) (Kq : Blk w q 64 #[v]) (hv : w.ownsRow lo 193 2 v l.length (spanCells l)) (h3 : ∀ x ∈ l, x.1 ≤ 4294967295 ∧ x.2 ≤ 4294967295) (h4 : l.length ≤ 65536) : RunK L (.set l u) (.func (.func 188) #[] #[.pointer (some ⟨p, 0, none⟩), .pointer (some ⟨q, 0, none⟩)]) w := by
  refine ⟨_, _, rfl, enters Tryz.func188 (by kernel_rfl), ?_⟩
  show Calls Tryz.prog _ #[.agg (lookC L), .pointer (some ⟨p, 0, none⟩), .pointer (some ⟨q, 0, none⟩)] w _
  rw [evalK]
  have HB := Below.refl w.heap.size w
  have hlen := h.len
  have hlt := h.lt
  obtain ⟨A1, c1, rfl, hr1, -⟩ := own_reads hv
  refine calls_at 24 Tryz.func188 rfl rfl (Nat.le_of_ble_eq_true rfl) ?_
  intro a hA; replace hA := hA.norm
  rw [agg_look] at hA
  refine wS (wR ?_)
  refine wl_new hA rfl rfl (by decide) (fun ev h => by simp [go_sem, h.get 0 rfl]; try first | exact ⟨rfl, rfl⟩ | rfl) fun w1 a (K1 : Blk _ _ _ _) hz1 hb1 hA => ?_
  replace HB := HB.trans (hb1.mono HB.size)
  replace h := h.below hb1
  replace Kp := Kp.below hb1 Kp.lt
  replace Kq := Kq.below hb1 Kq.lt
  replace hr1 := (hr1.below hb1).more hb1.size
  revert a; refine wo rfl rfl (by decide) (fun ev e h => by simp [go_sem, h, Kp.cell] <;> rfl) ?_; intro a hA
  replace hA := hA.keepN [1, 2, 3]
  refine wN (nT (wS (wS (wR ?_))))
  revert a; refine wo rfl rfl (by decide) (fun ev e h => by simp [go_sem, h, Kp.cell] <;> rfl) ?_; intro a hA
  replace hA := hA.keepN [2, 3, 5]
  refine wN (nT ?_)
  refine wp_if hA 5 _ rfl (fun hq => ?yU) (fun hq => ?nU)
  case yU =>
    have pS := fun (wo : World) (hC : (fun wy => Below w1.heap.size w1 wy) wo) => have p1 := K1.below hC K1.lt; have p2 := Kq.below hC Kq.lt; And.intro (p1.cell) (p2.cell)
    refine wS ?_
    refine wp_any_at hA [(.det ?dS0), (.det ?dS1), (.det ?dS2), (.det ?dS3), (.det ?dS4), (.det ?dS5), (.det ?dS6), (.det ?dS7)] [] (fun wy => Below w1.heap.size w1 wy) (TSp [] Grows) (by kernel_rfl) rfl (by kernel_rfl) (by kernel_rfl) rfl ((Below.refl _ _).drew) (stab_sp [] [true, true, true, true, true, true, true, true] [true, true, true, true, true, true, true, true] [] rfl rfl rfl (by kernel_rfl) ⟨trivial, trivial, trivial, trivial, trivial, trivial, trivial, trivial, trivial⟩ trivial) (fun _ h => by cases h) (fun _ _ _ _ _ h => by cases h) (fun _ h => by cases h) ⟨?oS0, ?oS1, ?oS2, ?oS3, ?oS4, ?oS5, ?oS6, ?oS7, trivial⟩ (by kernel_rfl) ?fS
    case oS0 => intro ev wo hev hC hs hph; have x0 := se hA hs 2; exact od rfl rfl (by kernel_rfl) hC (TSp.of rfl (Grows.refl _)) (by simp [go_sem, x0, pS _ hC, Kp.cell] <;> rfl)
    case oS1 => intro ev wo hev hC hs hph; have x0 := se hA hs 3; exact od rfl rfl (by kernel_rfl) hC (TSp.of rfl (Grows.refl _)) (by simp [go_sem, x0, pS _ hC, Kp.cell] <;> rfl)
    case oS2 =>
      intro ev wo hev hC hs hph
      have e7 := sd hs 7 1
      have p1 := K1.below hC K1.lt
      have p2 := Kq.below hC Kq.lt
      exact ob_dcall (wanted_none rfl) rfl (by kernel_rfl) (msg_any L wo (h.below hC)) (exec_call Tryz.func180 (by kernel_rfl) rfl (hev.func _) (by first | (simp only [mL, e7, hev.const] <;> rfl) | (simp [mL, e7, hev.const] <;> rfl))) (by rfl) (fun w3 hb3 => ⟨hC.trans (hb3.mono hC.size), TSp.of rfl hb3⟩)
    case oS3 => intro ev wo hev hC hs hph; have x0 := sd hs 8 2; exact od rfl rfl (by kernel_rfl) hC (TSp.of rfl (Grows.refl _)) (by simp [go_sem, x0] <;> rfl)
    case oS4 => intro ev wo hev hC hs hph; have x0 := se hA hs 3; exact od rfl rfl (by kernel_rfl) hC (TSp.of rfl (Grows.refl _)) (by simp [go_sem, x0, pS _ hC, Kp.cell] <;> rfl)
    case oS5 =>
      intro ev wo hev hC hs hph
      have e10 := sd hs 10 4
      have p1 := K1.below hC K1.lt
      have p2 := Kq.below hC Kq.lt
      exact ob_dcall (wanted_none rfl) rfl (by kernel_rfl) (last_any L wo (h.below hC)) (exec_call Tryz.func190 (by kernel_rfl) rfl (hev.func _) (by first | (simp only [mL, e10, hev.const] <;> rfl) | (simp [mL, e10, hev.const] <;> rfl))) (by rfl) (fun w3 hb3 => ⟨hC.trans (hb3.mono hC.size), TSp.of rfl hb3⟩)
    case oS6 =>
      intro ev wo hev hC hs hph
      have e6 := sd hs 6 0
      have e9 := sd hs 9 3
      have e11 := sd hs 11 5
      have p1 := K1.below hC K1.lt
      have p2 := Kq.below hC Kq.lt
      exact ob_dcall (wanted_none rfl) rfl (by kernel_rfl) (has_any A1 c1 l L.m.uid (lastUid L.ms) h3 h4 wo ((hr1.below hC).more hC.size)) (exec_call Tryz.func189 (by kernel_rfl) rfl (hev.func _) (by first | (simp only [mL, e6, e9, e11, hev.const] <;> rfl) | (simp [mL, e6, e9, e11, hev.const] <;> rfl))) (by rfl) (fun w3 hb3 => ⟨hC.trans (hb3.mono hC.size), TSp.of rfl hb3⟩)
    case oS7 => intro ev wo hev hC hs hph; have x0 := sd hs 12 6; exact od rfl rfl (by kernel_rfl) hC (TSp.of rfl (Grows.refl _)) (by simp [go_sem, x0] <;> rfl)
    intro sg wf hC hph
    intro a hA
    replace hA := hA.keepN [4]
    refine nT (wp_ret (rT ?_))
    refine ret_1 hA 4 rfl rfl ?_
    exact ⟨by rw [if_pos hq]; rfl, HB.trans (hC.mono HB.size)⟩
  case nU =>
    have i1 : IntKind.u32.wrap ((L.i : Nat) : Int) = ((L.i : Nat) : Int) := IntWalk.u32_in _ (by omega)
    have i2 : IntKind.u32.wrap (((L.i : Nat) : Int) + 1) = ((L.i + 1 : Nat) : Int) := by rw [IntWalk.u32_in _ (by omega)]; omega
    have i3 : IntKind.u32.wrap ((L.ms.length : Nat) : Int) = ((L.ms.length : Nat) : Int) := IntWalk.u32_in _ (by omega)
    refine wp_skip (nT (wS (wR ?_)))
    revert a; (iterate 3 refine wo rfl rfl (by decide) (fun ev e h => by simp [go_sem, h, Kq.cell, K1.cell, i1, i2, i3] <;> rfl) ?_); intro a hA
    refine wl_op hA rfl rfl (by decide) (fun ev h => by simp [go_sem, h.get 15 rfl, Kq.cell, K1.cell, i1, i2, i3]; try first | exact ⟨rfl, rfl⟩ | rfl) fun a hA => ?_
    revert a; (iterate 5 refine wo rfl rfl (by decide) (fun ev e h => by simp [go_sem, h, Kq.cell, K1.cell, i1, i2, i3] <;> rfl) ?_); intro a hA
    refine wl_op hA rfl rfl (by decide) (fun ev h => by simp [go_sem, h.get 21 rfl, Kq.cell, K1.cell, i1, i2, i3]; try first | exact ⟨rfl, rfl⟩ | rfl) fun a hA => ?_
    replace hA := hA.keepN [13, 17, 22]
    refine wl_call hA rfl rfl (by decide) (fun ev h => exec_call Tryz.func189 (by kernel_rfl) rfl (h.f _) (by first | (simp only [mL, h.get 13 rfl, h.get 17 rfl, h.get 22 rfl, h.c] <;> rfl) | (simp [mL, h.get 13 rfl, h.get 17 rfl, h.get 22 rfl, h.c, Kq.cell, K1.cell, i1, i2, i3] <;> rfl))) (has_any A1 c1 l (L.i + 1) L.ms.length h3 h4 _ hr1) ?_
    rintro e w2 ⟨rfl, hb2⟩
    refine ⟨_, rfl, fun a hA => ?_⟩
    replace HB := HB.trans (hb2.mono HB.size)
    replace h := h.below hb2
    replace Kp := Kp.below hb2 Kp.lt
    replace Kq := Kq.below hb2 Kq.lt
    replace hr1 := (hr1.below hb2).more hb2.size
    revert a; refine wo rfl rfl (by decide) (fun ev e h => by simp [go_sem, h, Kq.cell, K1.cell, i1, i2, i3] <;> rfl) ?_; intro a hA
    replace hA := hA.keepN [4]
    refine wN (nT (wp_ret ?_))
    refine ret_1 hA 4 rfl rfl ?_
    exact ⟨by rw [if_neg (by rw [hq]; decide)]; rfl, HB⟩
end Go.Proofs.YtjhaccmcjlbllaaGreatDoor
/-
  Walks: a search's closures that call closures.
-/
namespace Go.Proofs.YtjhaccmcjlbllaaGreatDoor
open Go.RowKit
set_option linter.unusedSimpArgs false
set_option linter.unusedVariables false
theorem RunK.calls {L : LookV} {k : KeyA} {F : FuncId} {caps : Array Value} {w : World} (h : RunK L k (.func (.func F) #[] caps) w) : Calls Tryz.prog F (#[.agg (lookC L)] ++ caps) w fun ev w' => ev = .returned (.bool (evalK k (lookF L))) ∧ Below w.heap.size w w' := by
  obtain ⟨F', caps', e, -, hc⟩ := h
  injection e with e1 _ e2
  injection e1 with e1
  subst e1
  subst e2
  exact hc
set_option maxRecDepth 100000 in
set_option maxHeartbeats 4000000 in
theorem run_not (L : LookV) (k : KeyA) (v : Value) (q : Nat) (w : World) (h : LookAt w L) (Kq : Blk w q 87 #[v]) (hk : ∀ w', Below w.heap.size w w' → RunK L k v w') : RunK L (.not k) (.func (.func 136) #[] #[.pointer (some ⟨q, 0, none⟩)]) w := by
  refine ⟨_, _, rfl, enters Tryz.func136 (by kernel_rfl), ?_⟩
  show Calls Tryz.prog _ #[.agg (lookC L), .pointer (some ⟨q, 0, none⟩)] w _
  rw [evalK]
  have HB := Below.refl w.heap.size w
  obtain ⟨F, caps, rfl, hcf, -⟩ := hk w HB
  refine calls_at 8 Tryz.func136 rfl rfl (Nat.le_of_ble_eq_true rfl) ?_
  intro a hA; replace hA := hA.norm
  rw [agg_look] at hA
  refine wS (wR ?_)
  refine wl_new hA rfl rfl (by decide) (fun ev h => by simp [go_sem, h.get 0 rfl]; try first | exact ⟨rfl, rfl⟩ | rfl) fun w1 a (K1 : Blk _ _ _ _) hz1 hb1 hA => ?_
  replace HB := HB.trans (hb1.mono HB.size)
  replace h := h.below hb1
  replace Kq := Kq.below hb1 Kq.lt
  revert a; refine wo rfl rfl (by decide) (fun ev e h => by simp [go_sem, h, Kq.cell, K1.cell, hcf _ _] <;> rfl) ?_; intro a hA
  replace hA := hA.keepN [1, 2]
  refine wN (nT (wS (wR ?_)))
  revert a; (iterate 2 refine wo rfl rfl (by decide) (fun ev e h => by simp [go_sem, h, Kq.cell, K1.cell, hcf _ _] <;> rfl) ?_); intro a hA
  refine wl_call hA rfl rfl (by decide) (fun ev h => by simp [go_sem, h.get 4 rfl, h.get 5 rfl, Kq.cell, K1.cell, hcf _ _]; try first | exact ⟨rfl, rfl⟩ | rfl) ((hk _ HB).calls) ?_
  rintro e w2 ⟨rfl, hb2⟩
  refine ⟨_, rfl, fun a hA => ?_⟩
  replace HB := HB.trans (hb2.mono HB.size)
  replace h := h.below hb2
  replace Kq := Kq.below hb2 Kq.lt
  revert a; (iterate 2 refine wo rfl rfl (by decide) (fun ev e h => by simp [go_sem, h, Kq.cell, K1.cell, hcf _ _] <;> rfl) ?_); intro a hA
  replace hA := hA.keepN [3]
  refine wN (nT (wp_ret ?_))
  refine ret_1 hA 3 rfl rfl ?_
  exact ⟨rfl, HB⟩
set_option maxRecDepth 100000 in
set_option maxHeartbeats 4000000 in
theorem run_or (L : LookV) (ka kb : KeyA) (va vb : Value) (p q : Nat) (w : World) (h : LookAt w L) (Kp : Blk w p 87 #[va]) (Kq : Blk w q 87 #[vb]) (ha : ∀ w', Below w.heap.size w w' → RunK L ka va w') (hb : ∀ w', Below w.heap.size w w' → RunK L kb vb w') : RunK L (.or ka kb) (.func (.func 137) #[] #[.pointer (some ⟨p, 0, none⟩), .pointer (some ⟨q, 0, none⟩)]) w := by
  refine ⟨_, _, rfl, enters Tryz.func137 (by kernel_rfl), ?_⟩
  show Calls Tryz.prog _ #[.agg (lookC L), .pointer (some ⟨p, 0, none⟩), .pointer (some ⟨q, 0, none⟩)] w _
  rw [evalK]
  have HB := Below.refl w.heap.size w
  obtain ⟨F, caps, rfl, hcf, -⟩ := ha w HB
  obtain ⟨F2, caps2, rfl, hcf2, -⟩ := hb w HB
  refine calls_at 13 Tryz.func137 rfl rfl (Nat.le_of_ble_eq_true rfl) ?_
  intro a hA; replace hA := hA.norm
  rw [agg_look] at hA
  refine wS (wR ?_)
  refine wl_new hA rfl rfl (by decide) (fun ev h => by simp [go_sem, h.get 0 rfl]; try first | exact ⟨rfl, rfl⟩ | rfl) fun w1 a (K1 : Blk _ _ _ _) hz1 hb1 hA => ?_
  replace HB := HB.trans (hb1.mono HB.size)
  replace h := h.below hb1
  replace Kp := Kp.below hb1 Kp.lt
  replace Kq := Kq.below hb1 Kq.lt
  revert a; refine wo rfl rfl (by decide) (fun ev e h => by simp [go_sem, h, Kp.cell, K1.cell, hcf _ _] <;> rfl) ?_; intro a hA
  replace hA := hA.keepN [1, 2, 3]
  refine wN (nT (wS (wR ?_)))
  revert a; (iterate 2 refine wo rfl rfl (by decide) (fun ev e h => by simp [go_sem, h, Kp.cell, K1.cell, hcf _ _] <;> rfl) ?_); intro a hA
  refine wl_call hA rfl rfl (by decide) (fun ev h => by simp [go_sem, h.get 5 rfl, h.get 6 rfl, Kp.cell, K1.cell, hcf _ _]; try first | exact ⟨rfl, rfl⟩ | rfl) ((ha _ HB).calls) ?_
  rintro e w2 ⟨rfl, hb2⟩
  refine ⟨_, rfl, fun a hA => ?_⟩
  replace HB := HB.trans (hb2.mono HB.size)
  replace h := h.below hb2
  replace Kp := Kp.below hb2 Kp.lt
  replace Kq := Kq.below hb2 Kq.lt
  replace K1 := K1.below hb2 K1.lt
  revert a; refine wo rfl rfl (by decide) (fun ev e h => by simp [go_sem, h, Kq.cell, K1.cell, hcf2 _ _] <;> rfl) ?_; (iterate 2 refine wg _ rfl rfl rfl rfl (by decide) (fun hq ev e h => by simp [go_sem, h, ↓gw_t (beq_t hq), Kq.cell, K1.cell, hcf2 _ _] <;> rfl) ?_); intro a hA
  refine wl_gcallv _ hA rfl rfl rfl rfl (by decide) (fun hq ev h => by simp [go_sem, ((h.get 9 rfl).trans (gw_t (beq_t hq))), ((h.get 10 rfl).trans (gw_t (beq_t hq))), Kq.cell, K1.cell, hcf2 _ _]; try first | exact ⟨rfl, rfl⟩ | rfl) (fun hq => (hb _ HB).calls) fun a w3 hb3 hA => ?_
  replace HB := HB.trans (hb3.mono HB.size)
  replace h := h.below hb3
  replace Kp := Kp.below hb3 Kp.lt
  replace Kq := Kq.below hb3 Kq.lt
  replace K1 := K1.below hb3 K1.lt
  revert a; refine wko rfl rfl (by decide) rfl rfl rfl ?_; refine wo rfl rfl (by decide) (fun ev e h => by simp [go_sem, h, Kq.cell, K1.cell, hcf2 _ _] <;> rfl) ?_; intro a hA
  replace hA := hA.keepN [4]
  refine wN (nT (wp_ret ?_))
  refine ret_1 hA 4 rfl rfl ?_
  exact ⟨rfl, HB⟩
set_option maxRecDepth 100000 in
set_option maxHeartbeats 4000000 in
theorem bb_any (L : LookV) (k : KeyA) (v : Value) (pl : Nat) (w : World) (Kl : Blk w pl 90 (lookC L)) (hk : ∀ w', Below w.heap.size w w' → RunK L k v w') : Calls Tryz.prog 99 #[v, .pointer (some ⟨pl, 0, none⟩)] w fun ev w' => ev = .returned (.bool (!evalK k (lookF L))) ∧ Below w.heap.size w w' := by
  have HB := Below.refl w.heap.size w
  obtain ⟨F, caps, rfl, hcf, -⟩ := hk w HB
  rw [agg_look] at Kl
  refine calls_at 8 Tryz.func99 rfl rfl (Nat.le_of_ble_eq_true rfl) ?_
  intro a hA; replace hA := hA.norm
  refine wS (wR ?_)
  revert a; refine wo rfl rfl (by decide) (fun ev e h => by simp [go_sem, h, Kl.cell, hcf _ _] <;> rfl) ?_; intro a hA
  replace hA := hA.keepN [0, 1]
  refine wN (nT (wS (wR ?_)))
  revert a; (iterate 2 refine wo rfl rfl (by decide) (fun ev e h => by simp [go_sem, h, Kl.cell, hcf _ _] <;> rfl) ?_); intro a hA
  refine wl_call hA rfl rfl (by decide) (fun ev h => by simp [go_sem, h.get 4 rfl, h.get 5 rfl, Kl.cell, hcf _ _]; try first | exact ⟨rfl, rfl⟩ | rfl) ((hk _ HB).calls) ?_
  rintro e w2 ⟨rfl, hb2⟩
  refine ⟨_, rfl, fun a hA => ?_⟩
  replace HB := HB.trans (hb2.mono HB.size)
  revert a; (iterate 2 refine wo rfl rfl (by decide) (fun ev e h => by simp [go_sem, h, Kl.cell, hcf _ _] <;> rfl) ?_); intro a hA
  replace hA := hA.keepN [3]
  refine wN (nT (wp_ret ?_))
  refine ret_1 hA 3 rfl rfl ?_
  exact ⟨rfl, HB⟩
theorem evalL_cons (k : KeyA) (r : List KeyA) (x : LookS) : evalL (k :: r) x = (evalK k x && evalL r x) := by rw [evalL]
theorem evalL_nil (x : LookS) : evalL [] x = true := by rw [evalL]
set_option maxRecDepth 100000 in
set_option maxHeartbeats 4000000 in
theorem indexF_any (L : LookV) (ks : List KeyA) (vs : List Value) (A : Option Addr) (c pl : Nat) (w : World) (Kl : Blk w pl 90 (lookC L)) (hr : Reads w w.heap.size 1 A ks.length vs) (hvl : vs.length = ks.length) (hl : ks.length ≤ 9223372036854775807) (hk : ∀ (i : Nat) (k : KeyA) (v : Value), ks[i]? = some k → vs[i]? = some v → ∀ w', Below w.heap.size w w' → RunK L k v w') : Calls Tryz.prog 140 #[.slice A ks.length c, .func (.func 99) #[] #[.pointer (some ⟨pl, 0, none⟩)]] w fun ev w' => ∃ i : Int, ev = .returned (.int .i64 i) ∧ decide (0 ≤ i) = !evalL ks (lookF L) ∧ Below w.heap.size w w' := by
  refine calls_at 19 Tryz.func140 rfl rfl (Nat.le_of_ble_eq_true rfl) ?_
  intro a hA; replace hA := hA.norm
  refine wS (wR ?_)
  revert a; refine wo rfl rfl (by decide) (fun ev e h => by simp [go_sem, h] <;> rfl) ?_; intro a hA
  replace hA := hA.keepN [0, 1]
  refine wN (nT (wS (wS (wR ?_))))
  revert a; (iterate 3 refine wo rfl rfl (by decide) (fun ev e h => by simp [go_sem, h] <;> rfl) ?_); intro a hA
  replace hA := hA.keepN [0, 1, 7, 8]
  refine wN (nT (wB ?_))
  refine wp_loop_at (fun k a wx => ∃ j : Nat, j + k = ks.length ∧ evalL (ks.take j) (lookF L) = true ∧ Below w.heap.size w wx ∧ At 19 [(0, .slice A ks.length c), (1, .func (.func 99) #[] #[.pointer (some ⟨pl, 0, none⟩)]), (7, .int .i64 (ks.length : Nat)), (8, .int .i64 (j : Nat))] a) (ks.length) ?_ ?_
  · exact ⟨0, by omega, by rw [List.take_zero, evalL_nil], Below.refl _ _, hA⟩
  clear hA
  rintro k a wx ⟨j, hjk, hno, HB, hA⟩
  refine wS (wR ?_)
  revert a; refine wo rfl rfl (by decide) (fun ev e h => by simp [go_sem, h] <;> rfl) ?_; intro a hA
  replace hA := hA.keepN [0, 1, 7, 8, 9]
  refine wN (nT (wS ?_))
  refine wp_if hA 9 _ rfl (fun hq => ?yA) (fun hq => ?nA)
  case nA =>
    have hjn : ks.length ≤ j := by simp at hq; omega
    replace hA := hA.keepN []
    refine wp_exit (xT (xT (xB (nT (wS (wR ?_))))))
    revert a; refine wo rfl rfl (by decide) (fun ev e h => by simp [go_sem, h] <;> rfl) ?_; intro a hA
    replace hA := hA.keepN [4]
    refine wN (nT (wp_ret ?_))
    refine ret_1 hA 4 rfl rfl ?_
    rw [List.take_of_length_le hjn] at hno
    exact ⟨-1, rfl, by rw [hno]; rfl, HB⟩
  case yA =>
    have hjn : j < ks.length := by simp at hq; omega
    obtain ⟨x, hx⟩ : ∃ x, ks[j]? = some x := ⟨_, List.getElem?_eq_getElem hjn⟩
    obtain ⟨v, hv⟩ : ∃ v, vs[j]? = some v := ⟨_, List.getElem?_eq_getElem (by omega)⟩
    have hkv := hk j x v hx hv
    obtain ⟨ad, rfl, hadl, hc⟩ := hr.2 (by omega)
    have hcell : wx.cell? (ad.add j) = some v := (HB.cell (by rw [block_of_add]; exact hadl)).trans (hc j v hv)
    obtain ⟨F, caps, rfl, hcf, -⟩ := hkv wx HB
    have jj0 : (0 : Int) ≤ (j : Int) := by omega
    have jj1 : (j : Int) < (ks.length : Int) := by omega
    have i3 : IntKind.i64.wrap (((j : Nat) : Int) + 1) = ((j + 1 : Nat) : Int) := by rw [IntWalk.i64_in _ (by omega)]; omega
    have htake : ks.take (j + 1) = ks.take j ++ [x] := by
      rw [List.take_add_one, hx]
      rfl
    refine wp_skip (nT (wS (wB (wS (wR ?_)))))
    revert a; (iterate 2 refine wo rfl rfl (by decide) (fun ev e h => by simp [go_sem, h, hcell, jj0, jj1] <;> rfl) ?_); intro a hA
    replace hA := hA.keepN [0, 1, 5, 7, 8]
    refine wN (nT (wS (wR ?_)))
    revert a; (iterate 5 refine wo rfl rfl (by decide) (fun ev e h => by simp [go_sem, h, hcell, jj0, jj1] <;> rfl) ?_); intro a hA
    refine wl_call hA rfl rfl (by decide) (fun ev h => by simp [go_sem, h.get 11 rfl, h.get 15 rfl, hcell, jj0, jj1]; try first | exact ⟨rfl, rfl⟩ | rfl) (bb_any L x _ pl wx (Kl.below HB Kl.lt) (fun w' hb => hkv w' (HB.trans (hb.mono HB.size)))) ?_
    rintro e w2 ⟨rfl, hb2⟩
    refine ⟨_, rfl, fun a hA => ?_⟩
    replace HB := HB.trans (hb2.mono HB.size)
    obtain ⟨e, he⟩ : ∃ e, evalK x (lookF L) = e := ⟨_, rfl⟩
    rw [he] at hA
    replace hA := hA.keepN [0, 1, 5, 7, 8, 16]
    refine wN (nT ?_)
    refine wp_if hA 16 _ rfl (fun hq2 => ?yB) (fun hq2 => ?nB)
    case nB =>
      have he1 : e = true := by simpa using hq2
      subst he1
      refine wp_skip (nB (nT (wR ?_)))
      revert a; (iterate 2 refine wo rfl rfl (by decide) (fun ev e h => by simp [go_sem, h, i3] <;> rfl) ?_); intro a hA
      replace hA := hA.keepN [0, 1, 7, 8]
      refine wN (nT ?_)
      refine ⟨k - 1, by omega, j + 1, by omega, ?_, HB, hA⟩
      rw [htake, evalL_app, hno, evalL_cons, he, evalL_nil]
      rfl
    case yB =>
      have he1 : e = false := by simpa using hq2
      subst he1
      refine wS (wR ?_)
      revert a; (iterate 2 refine wo rfl rfl (by decide) (fun ev e h => by simp [go_sem, h, hcell, jj0, jj1] <;> rfl) ?_); intro a hA
      replace hA := hA.keepN [4]
      refine wN (nT (wp_ret (rB (rT (rT (rB (rT ?_)))))))
      refine ret_1 hA 4 rfl rfl ?_
      refine ⟨(j : Int), rfl, ?_, HB⟩
      have : evalL ks (lookF L) = false := by
        rw [← List.take_append_drop (j + 1) ks, evalL_app, htake, evalL_app, evalL_cons, he]
        simp
      rw [this, decide_eq_true jj0]
      rfl
set_option maxRecDepth 100000 in
set_option maxHeartbeats 4000000 in
theorem containsF_any (L : LookV) (ks : List KeyA) (vs : List Value) (A : Option Addr) (c pl : Nat) (w : World) (Kl : Blk w pl 90 (lookC L)) (hr : Reads w w.heap.size 1 A ks.length vs) (hvl : vs.length = ks.length) (hl : ks.length ≤ 9223372036854775807) (hk : ∀ (i : Nat) (k : KeyA) (v : Value), ks[i]? = some k → vs[i]? = some v → ∀ w', Below w.heap.size w w' → RunK L k v w') : Calls Tryz.prog 98 #[.slice A ks.length c, .func (.func 99) #[] #[.pointer (some ⟨pl, 0, none⟩)]] w fun ev w' => ev = .returned (.bool (!evalL ks (lookF L))) ∧ Below w.heap.size w w' := by
  refine calls_at 9 Tryz.func98 rfl rfl (Nat.le_of_ble_eq_true rfl) ?_
  intro a hA; replace hA := hA.norm
  refine wS (wR ?_)
  revert a; refine wo rfl rfl (by decide) (fun ev e h => by simp [go_sem, h] <;> rfl) ?_; intro a hA
  replace hA := hA.keepN [0, 1]
  refine wN (nT (wS (wR ?_)))
  revert a; (iterate 2 refine wo rfl rfl (by decide) (fun ev e h => by simp [go_sem, h] <;> rfl) ?_); intro a hA
  refine wl_call hA rfl rfl (by decide) (fun ev h => exec_call Tryz.func140 (by kernel_rfl) rfl (h.f _) (by first | (simp only [mL, h.get 5 rfl, h.get 6 rfl, h.c] <;> rfl) | (simp [mL, h.get 5 rfl, h.get 6 rfl, h.c] <;> rfl))) (indexF_any L ks vs A c pl w Kl hr hvl hl hk) ?_
  rintro e w2 ⟨i, rfl, hi, hb2⟩
  refine ⟨_, rfl, fun a hA => ?_⟩
  revert a; (iterate 2 refine wo rfl rfl (by decide) (fun ev e h => by simp [go_sem, h] <;> rfl) ?_); intro a hA
  replace hA := hA.keepN [4]
  refine wN (nT (wp_ret ?_))
  refine ret_1 hA 4 rfl rfl ?_
  refine ⟨ret_bool ?_, hb2⟩
  rw [← hi]
set_option maxRecDepth 100000 in
set_option maxHeartbeats 4000000 in
theorem run_both (L : LookV) (ks : List KeyA) (vs : List Value) (v : Value) (lo q : Nat) (w : World) (h : LookAt w L) (Kq : Blk w q 146 #[v]) (hv : w.ownsRow lo 87 1 v ks.length vs) (hk : ∀ (i : Nat) (k : KeyA) (v : Value), ks[i]? = some k → vs[i]? = some v → ∀ w', Below w.heap.size w w' → RunK L k v w') : RunK L (.both ks) (.func (.func 97) #[] #[.pointer (some ⟨q, 0, none⟩)]) w := by
  refine ⟨_, _, rfl, enters Tryz.func97 (by kernel_rfl), ?_⟩
  show Calls Tryz.prog _ #[.agg (lookC L), .pointer (some ⟨q, 0, none⟩)] w _
  rw [evalK]
  have HB := Below.refl w.heap.size w
  obtain ⟨A1, c1, rfl, hr1, hn1, hc1⟩ := own_readsM hv
  have hl : ks.length ≤ 9223372036854775807 := by unfold maxLen at hc1; omega
  have hvl : vs.length = ks.length := by have := hv.1; omega
  refine calls_at 8 Tryz.func97 rfl rfl (Nat.le_of_ble_eq_true rfl) ?_
  intro a hA; replace hA := hA.norm
  refine wS (wR ?_)
  refine wl_new hA rfl rfl (by decide) (fun ev h => by simp [go_sem, h.get 0 rfl]; try first | exact ⟨rfl, rfl⟩ | rfl) fun w1 a (K1 : Blk _ _ _ _) hz1 hb1 hA => ?_
  replace HB := HB.trans (hb1.mono HB.size)
  replace h := h.below hb1
  replace Kq := Kq.below hb1 Kq.lt
  replace hr1 := (hr1.below hb1).more hb1.size
  revert a; refine wo rfl rfl (by decide) (fun ev e h => by simp [go_sem, h, Kq.cell, K1.cell] <;> rfl) ?_; intro a hA
  replace hA := hA.keepN [1, 2]
  refine wN (nT (wS (wR ?_)))
  revert a; (iterate 2 refine wo rfl rfl (by decide) (fun ev e h => by simp [go_sem, h, Kq.cell, K1.cell] <;> rfl) ?_); intro a hA
  refine wl_call hA rfl rfl (by decide) (fun ev h => exec_call Tryz.func98 (by kernel_rfl) rfl (h.f _) (by first | (simp only [mL, h.get 4 rfl, h.get 5 rfl, h.c] <;> rfl) | (simp [mL, h.get 4 rfl, h.get 5 rfl, h.c, Kq.cell, K1.cell] <;> rfl))) (containsF_any L ks vs A1 c1 w.heap.size _ K1 hr1 hvl hl (fun i k v e1 e2 w' hb => hk i k v e1 e2 w' (HB.trans (hb.mono HB.size)))) ?_
  rintro e w2 ⟨rfl, hb2⟩
  refine ⟨_, rfl, fun a hA => ?_⟩
  replace HB := HB.trans (hb2.mono HB.size)
  replace h := h.below hb2
  replace Kq := Kq.below hb2 Kq.lt
  replace hr1 := (hr1.below hb2).more hb2.size
  revert a; (iterate 2 refine wo rfl rfl (by decide) (fun ev e h => by simp [go_sem, h, Kq.cell, K1.cell] <;> rfl) ?_); intro a hA
  replace hA := hA.keepN [3]
  refine wN (nT (wp_ret ?_))
  refine ret_1 hA 3 rfl rfl ?_
  exact ⟨ret_bool (by simp), HB⟩
/-- a key's closure answers what the key says -/
theorem run_key {lo hi : Nat} {w : World} {k : KeyA} {v : Value} (h : IsKey lo hi w k v) (L : LookV) : ∀ w', Below w.heap.size w w' → LookAt w' L → RunK L k v w' := by
  induction h with
  | never => exact fun w' _ _ => run_never L w'
  | all => exact fun w' _ _ => run_all L w'
  | field hp hq a b c d => exact fun w' hb hL => run_field L _ _ _ _ w' hL (hp.below hb hp.lt) (hq.below hb hq.lt) c d
  | body hq b d => exact fun w' hb hL => run_body L _ _ w' hL (hq.below hb hq.lt) d
  | text hq b d => exact fun w' hb hL => run_text L _ _ w' hL (hq.below hb hq.lt) d
  | larger hq b => exact fun w' hb hL => run_larger L _ _ w' hL (hq.below hb hq.lt)
  | smaller hq b => exact fun w' hb hL => run_smaller L _ _ w' hL (hq.below hb hq.lt)
  | set hp hq hv hl a b c d => exact fun w' hb hL => run_set L _ _ _ _ _ _ w' hL (hp.below hb hp.lt) (hq.below hb hq.lt) (own_below hv hb) c d
  | flag hp hq a b c => exact fun w' hb hL => run_flag L _ _ _ _ w' hL (hp.below hb hp.lt) (hq.below hb hq.lt) c
  | not hq b _ ih => exact fun w' hb hL => run_not L _ _ _ w' hL (hq.below hb hq.lt) fun w2 hb2 => ih w2 (hb.trans (hb2.mono hb.size)) (hL.below hb2)
  | or hp hq a b _ _ ih1 ih2 => exact fun w' hb hL => run_or L _ _ _ _ _ _ w' hL (hp.below hb hp.lt) (hq.below hb hq.lt) (fun w2 hb2 => ih1 w2 (hb.trans (hb2.mono hb.size)) (hL.below hb2)) (fun w2 hb2 => ih2 w2 (hb.trans (hb2.mono hb.size)) (hL.below hb2))
  | both hq b hv hl _ ih => exact fun w' hb hL => run_both L _ _ _ _ _ w' hL (hq.below hb hq.lt) (own_below hv hb) fun i k x e1 e2 w2 hb2 => ih i k x e1 e2 w2 (hb.trans (hb2.mono hb.size)) (hL.below hb2)
end Go.Proofs.YtjhaccmcjlbllaaGreatDoor
/-
  Walk: search.Find.
-/
namespace Go.Proofs.YtjhaccmcjlbllaaGreatDoor
open Go.RowKit
set_option linter.unusedSimpArgs false
set_option linter.unusedVariables false
/-- what is seen of a message -/
def seesM (ms : List MsgV) (i : Nat) (m : MsgV) : LookS := ⟨m.flags, m.b, m.uid, i, ms.length, lastUid ms⟩
def isSo (k : KeyA) (ms : List MsgV) (i : Nat) : Bool := match ms[i]? with
  | some m => evalK k (seesM ms i m)
  | none => false
/-- which messages are found -/
def findS (o : Option KeyA) (ms : List MsgV) : List Nat := match o with
  | none => []
  | some k => (List.range ms.length).filter (isSo k ms)
def natSh : Sh Nat := ⟨3, 53, 1, 8, .int .i64 0, fun x => [.int .i64 (x : Nat)], fun _ => [], fun _ => rfl, fun x u hu => by
  rw [List.mem_singleton.1 hu]
  rfl, Tryz.underlying53, by kernel_rfl, rfl, by decide, by decide⟩
set_option maxRecDepth 100000 in
set_option maxHeartbeats 4000000 in
theorem find_any (nm : ByteArray) (ep nx : Int) (A : Option Addr) (c : Nat) (ms : List MsgV) (A2 : Option Addr) (c2 : Nat) (l : List TokI) (w : World) (hms : Msgs w A ms.length ms) (hlen : ms.length ≤ 1000000) (hbig : ∀ m ∈ ms, m.b.length ≤ 1048576) (hr : RowR tokISh w A2 l) (hw : Fine w) (hl : l.length ≤ 1048576) (ht : ∀ t ∈ l, t.t.length ≤ 1048576) :
    Calls Tryz.prog 23 #[.agg #[.string nm, .int .u32 ep, .int .u32 nx, .slice A ms.length c], .slice A2 l.length c2] w fun ev w' => ∃ v, ev = .returned v ∧ OwnR natSh w.heap.size w' v (findS (readP l) ms) ∧ Below w.heap.size w w' := by
  have HB := Below.refl w.heap.size w
  refine calls_at 29 Tryz.func23 rfl rfl (Nat.le_of_ble_eq_true rfl) ?_
  intro a hA; replace hA := hA.norm
  refine wS (wR ?_)
  refine wl_new hA rfl rfl (by decide) (fun ev h => by simp [go_sem, h.get 0 rfl]; try first | exact ⟨rfl, rfl⟩ | rfl) fun w1 a (K1 : Blk _ _ _ _) hz1 hb1 hA => ?_
  replace HB := HB.trans (hb1.mono HB.size)
  replace hms := hms.below hb1
  replace hr := hr.below hb1
  replace hw := hw.below hb1
  revert a; refine wo rfl rfl (by decide) (fun ev e h => by simp [go_sem, h] <;> rfl) ?_; intro a hA
  replace hA := hA.keepN [1, 2]
  refine wN (nT (wS (wR ?_)))
  revert a; refine wo rfl rfl (by decide) (fun ev e h => by simp [go_sem, h] <;> rfl) ?_; intro a hA
  refine wl_call hA rfl rfl (by decide) (fun ev h => exec_call Tryz.func45 (by kernel_rfl) rfl (h.f _) (by first | (simp only [mL, h.get 8 rfl, h.c] <;> rfl) | (simp [mL, h.get 8 rfl, h.c] <;> rfl))) (read_any A2 c2 l _ hr hw hl ht) ?_
  rintro e w2 ⟨v, rfl, hb2, hP⟩
  refine ⟨_, rfl, fun a hA => ?_⟩
  replace HB := HB.trans (hb2.mono HB.size)
  replace hms := hms.below hb2
  replace hw := hw.below hb2
  replace K1 := K1.below hb2 K1.lt
  cases hk : readP l with
  | none =>
    rw [hk] at hP
    have hP : v = .nilFunc := hP
    subst hP
    revert a; refine wo rfl rfl (by decide) (fun ev e h => by simp [go_sem, h] <;> rfl) ?_; intro a hA
    replace hA := hA.keepN [2, 5]
    refine wN (nT (wS (wS (wR ?_))))
    revert a; (iterate 2 refine wo rfl rfl (by decide) (fun ev e h => by simp [go_sem, h] <;> rfl) ?_); intro a hA
    replace hA := hA.keepN [2, 5, 11]
    refine wN (nT ?_)
    refine wp_if hA 11 _ rfl (fun hq => ?yA) (fun hq => ?nA)
    case nA => cases hq
    case yA =>
      refine wS (wR ?_)
      revert a; refine wo rfl rfl (by decide) (fun ev e h => by simp [go_sem, h] <;> rfl) ?_; intro a hA
      replace hA := hA.keepN [4]
      refine wN (nT (wp_ret (rT ?_)))
      refine ret_1 hA 4 rfl rfl ?_
      exact ⟨_, rfl, OwnR.nil _ _, HB⟩
  | some k =>
    rw [hk] at hP
    obtain ⟨⟨f0, a0, c0, rfl⟩, hK⟩ := hP
    revert a; refine wo rfl rfl (by decide) (fun ev e h => by simp [go_sem, h] <;> rfl) ?_; intro a hA
    replace hA := hA.keepN [2, 5]
    refine wN (nT (wS (wS (wR ?_))))
    revert a; (iterate 2 refine wo rfl rfl (by decide) (fun ev e h => by simp [go_sem, h] <;> rfl) ?_); intro a hA
    replace hA := hA.keepN [2, 5, 11]
    refine wN (nT ?_)
    refine wp_if hA 11 _ rfl (fun hq => ?yA) (fun hq => ?nA)
    case yA => cases hq
    case nA =>
      refine wp_skip (nT (wS (wR ?_)))
      revert a; refine wo rfl rfl (by decide) (fun ev e h => by simp [go_sem, h, K1.cell] <;> rfl) ?_; intro a hA
      replace hA := hA.keepN [2, 5, 6]
      refine wN (nT (wS (wS (wR ?_))))
      revert a; (iterate 4 refine wo rfl rfl (by decide) (fun ev e h => by simp [go_sem, h, K1.cell] <;> rfl) ?_); intro a hA
      replace hA := hA.keepN [2, 5, 6, 14, 15]
      refine wN (nT (wB ?_))
      refine wp_loop_at (fun f a wx => ∃ (j : Nat) (V : Value), j + f = ms.length ∧ OwnR natSh w2.heap.size wx V ((List.range j).filter (isSo k ms)) ∧ Below w2.heap.size w2 wx ∧ At 29 [(2, .pointer (some ⟨w.heap.size, 0, none⟩)), (5, .func f0 a0 c0), (6, V), (14, .int .i64 (ms.length : Nat)), (15, .int .i64 (j : Nat))] a) (ms.length) ?_ ?_
      · exact ⟨0, _, by omega, OwnR.nil _ _, Below.refl _ _, hA⟩
      clear hA
      rintro f a wx ⟨j, V, hjf, ho, HB2, hA⟩
      refine wS (wR ?_)
      revert a; refine wo rfl rfl (by decide) (fun ev e h => by simp [go_sem, h] <;> rfl) ?_; intro a hA
      replace hA := hA.keepN [2, 5, 6, 14, 15, 16]
      refine wN (nT (wS ?_))
      refine wp_if hA 16 _ rfl (fun hq2 => ?yB) (fun hq2 => ?nB)
      case nB =>
        have hjn : j = ms.length := by simp at hq2; omega
        subst hjn
        replace hA := hA.keepN [6]
        refine wp_exit (xT (xT (xB (nT (wS (wR ?_))))))
        revert a; (iterate 2 refine wo rfl rfl (by decide) (fun ev e h => by simp [go_sem, h] <;> rfl) ?_); intro a hA
        replace hA := hA.keepN [4]
        refine wN (nT (wp_ret ?_))
        refine ret_1 hA 4 rfl rfl ?_
        exact ⟨V, rfl, ho.mono HB.size, HB.trans (HB2.mono HB.size)⟩
      case yB =>
        have hjn : j < ms.length := by simp at hq2; omega
        obtain ⟨m, hm⟩ : ∃ m, ms[j]? = some m := ⟨_, List.getElem?_eq_getElem hjn⟩
        have hLA : ∀ w', Below w2.heap.size w2 w' → LookAt w' ⟨nm, ep, nx, A, c, ms, j, m⟩ := fun w' hb => ⟨hms.below hb, hm, hlen, hbig m (List.mem_of_getElem? hm), (hw.below hb).len⟩
        have hRK := run_key hK ⟨nm, ep, nx, A, c, ms, j, m⟩
        obtain ⟨F, caps, hF, hcf, -⟩ := hRK wx HB2 (hLA wx HB2)
        injection hF with hF1 hF2 hF3
        subst hF1 hF2 hF3
        have Kx := K1.below HB2 K1.lt
        have i3 : IntKind.i64.wrap (((j : Nat) : Int) + 1) = ((j + 1 : Nat) : Int) := by rw [IntWalk.i64_in _ (by omega)]; omega
        refine wp_skip (nT (wS (wB (wS (wR ?_)))))
        revert a; (iterate 2 refine wo rfl rfl (by decide) (fun ev e h => by simp [go_sem, h, Kx.cell, hcf _ _] <;> rfl) ?_); intro a hA
        replace hA := hA.keepN [2, 5, 6, 7, 14, 15]
        refine wN (nT (wS (wR ?_)))
        revert a; (iterate 4 refine wo rfl rfl (by decide) (fun ev e h => by simp [go_sem, h, Kx.cell, hcf _ _] <;> rfl) ?_); intro a hA
        refine wl_call hA rfl rfl (by decide) (fun ev h => by simp [go_sem, h.get 18 rfl, h.get 21 rfl, Kx.cell, hcf _ _]; try first | exact ⟨rfl, rfl⟩ | rfl) ((hRK wx HB2 (hLA wx HB2)).calls) ?_
        rintro e w3 ⟨rfl, hb3⟩
        refine ⟨_, rfl, fun a hA => ?_⟩
        obtain ⟨e, he⟩ : ∃ e, evalK k (lookF ⟨nm, ep, nx, A, c, ms, j, m⟩) = e := ⟨_, rfl⟩
        rw [he] at hA
        have hso : isSo k ms j = e := by
          unfold isSo
          rw [hm]
          exact he
        have hz := HB.size
        have hz2 := HB2.size
        have HB3 := HB2.trans (hb3.mono HB2.size)
        have ho3 := ho.below hb3
        have hz3 := hb3.size
        have hfl : ((List.range j).filter (isSo k ms)).length ≤ j := by
          have := List.length_filter_le (isSo k ms) (List.range j)
          rw [List.length_range] at this
          exact this
        replace hA := hA.keepN [2, 5, 6, 7, 14, 15, 22]
        refine wN (nT ?_)
        refine wp_if hA 22 _ rfl (fun hq3 => ?yC) (fun hq3 => ?nC)
        case nC =>
          have he1 : e = false := by simpa using hq3
          subst he1
          refine wp_skip (nB (nT (wR ?_)))
          revert a; (iterate 2 refine wo rfl rfl (by decide) (fun ev e h => by simp [go_sem, h, i3] <;> rfl) ?_); intro a hA
          replace hA := hA.keepN [2, 5, 6, 14, 15]
          refine wN (nT ?_)
          refine ⟨f - 1, by omega, j + 1, V, by omega, ?_, HB3, hA⟩
          rw [List.range_succ, List.filter_append]
          simpa [hso] using ho3
        case yC =>
          have he1 : e = true := by simpa using hq3
          subst he1
          refine wR ?_
          revert a; (iterate 2 refine wo rfl rfl (by decide) (fun ev e h => by simp [go_sem, h, Kx.cell, hcf _ _] <;> rfl) ?_); intro a hA
          refine wl_new hA rfl rfl (by decide) (fun ev h => by simp [go_sem, h.get 24 rfl, Kx.cell, hcf _ _]; try first | exact ⟨rfl, rfl⟩ | rfl) fun w4 a (K4 : Blk _ _ _ _) hz4 hb4 hA => ?_
          have hrow : RowR natSh w4 _ [j] := rowR_blk (s := natSh) (x := j) K4 (fun p hp => (by cases hp))
          obtain ⟨r, w5, hrun, ho5, hg5, -⟩ := run_appR (c := 1) (ho3.below hb4) hrow (fun _ _ m _ p hp => (by cases hp)) (by simp; omega) (by omega)
          refine wl_op hA rfl rfl (by decide) (fun ev h => exec_append rfl (h.get 23 rfl) (h.get 25 rfl) hrun) fun a hA => ?_
          revert a; refine wo rfl rfl (by decide) (fun ev e h => by simp [go_sem, h, i3] <;> rfl) ?_; intro a hA
          replace hA := hA.keepN [2, 5, 6, 14, 15]
          refine wN (nB (nT (wR ?_)))
          revert a; (iterate 2 refine wo rfl rfl (by decide) (fun ev e h => by simp [go_sem, h, i3] <;> rfl) ?_); intro a hA
          replace hA := hA.keepN [2, 5, 6, 14, 15]
          refine wN (nT ?_)
          refine ⟨f - 1, by omega, j + 1, r, by omega, ?_, ?_, hA⟩
          · rw [List.range_succ, List.filter_append]
            simpa [hso] using ho5
          · exact (HB3.trans (hb4.mono HB3.size)).grown hg5 (by omega) fun g e => (ho3.row.lt g e).1
end Go.Proofs.YtjhaccmcjlbllaaGreatDoor
/-
  New memory, under a guard that is known.
-/
namespace Go.Proofs.YtjhaccmcjlbllaaGreatDoor
open Go Go.RowKit
/-- new memory, under a guard that is so -/
theorem wl_gnew {P : Program} {Q : Exit → Act → World → Prop} {a : Act} {w : World} {n : Nat} {Γ : Env} {l rest : List Oper} {o : Oper} {t gi gt : Nat} {b : Bool} {v : Value} {x : Obj} (hA : At n Γ a) (hg : o.guard = some (gi, b)) (hgd : (l[gi]?).bind (·.dst) = some gt) (hl : look Γ gt = some (.bool b)) (hd : o.dst = some t) (ht : t < n)
    (hrun : ∀ ev, EvIn Γ ev → (execOp ev o).run P w = .ok (.value v) (w.alloc x))
    (hk : ∀ w1 a', w1.heap[w.heap.size]? = some x → w1.heap.size = w.heap.size + 1 → Below w.heap.size w w1 → At n ((t, v) :: Γ) a' → wpList P l.toArray Q rest a' w1) : wpList P l.toArray Q (o :: rest) a w := by
  have hw : Region.wanted o (yielded l.toArray a.tmps) = true := by
    rw [wanted_eq]
    exact wanted_bool (r := true) hg hgd (hA.evin.get gt hl) (by cases b <;> rfl)
  refine wpList_step fun K hK => ?_
  rw [hw, if_pos rfl]
  unfold Oper.wp
  rw [hrun _ hA.evin, Oper.upon_value, hd]
  exact hK _ _ (hk _ _ (heap_alloc_new w x) (by simp) ((Below.refl _ _).alloc (Nat.le_refl _) x) (hA.put ht v))
/-- a call under a guard that is so -/
theorem wl_kcall {P : Program} {Q : Exit → Act → World → Prop} {a : Act} {w : World} {n : Nat} {Γ : Env} {l rest : List Oper} {o : Oper} {t gi gt : Nat} {b : Bool} {f : FuncId} {args : Array Value} {R : Ending → World → Prop} (hA : At n Γ a) (hg : o.guard = some (gi, b)) (hgd : (l[gi]?).bind (·.dst) = some gt) (hl : look Γ gt = some (.bool b)) (hd : o.dst = some t) (ht : t < n)
    (hrun : ∀ ev, EvIn Γ ev → (execOp ev o).run P w = .ok (.enter f args) w) (hc : Calls P f args w R)
    (hk : ∀ e w', R e w' → ∃ v, e = .returned v ∧ ∀ a', At n ((t, v) :: Γ) a' → wpList P l.toArray Q rest a' w') : wpList P l.toArray Q (o :: rest) a w := by
  have hw : Region.wanted o (yielded l.toArray a.tmps) = true := by
    rw [wanted_eq]
    exact wanted_bool (r := true) hg hgd (hA.evin.get gt hl) (by cases b <;> rfl)
  refine wpList_step fun K hK => ?_
  rw [hw, if_pos rfl]
  unfold Oper.wp
  rw [hrun _ hA.evin, Oper.upon_enter]
  refine Calls.mono hc fun e w' hR => ?_
  obtain ⟨v, rfl, h⟩ := hk e w' hR
  rw [hd]
  exact hK _ _ (h _ (hA.put ht v))
end Go.Proofs.YtjhaccmcjlbllaaGreatDoor
/-
  Walks: what the statements on searches ask first.
-/
namespace Go.Proofs.YtjhaccmcjlbllaaGreatDoor
open Go.RowKit
set_option linter.unusedSimpArgs false
set_option linter.unusedVariables false
def tALL : TokI := ⟨1, [97, 108, 108]⟩
theorem read_all : readP [tALL] = some (.both [.all]) := by kernel_rfl
def zMsg : MsgV := ⟨0, 0, 0, none, 0, []⟩
theorem find_all : findS (some (.both [.all])) [zMsg, zMsg] = [0, 1] := by
  have e : ∀ i, isSo (.both [.all]) [zMsg, zMsg] i = (([zMsg, zMsg] : List MsgV)[i]?).isSome := fun i => by
    unfold isSo
    cases ([zMsg, zMsg] : List MsgV)[i]? with
    | none => rfl
    | some m => show evalK _ _ = true; rw [evalK, evalL, evalK, evalL]; rfl
  unfold findS
  simp only
  rw [show (List.range ([zMsg, zMsg] : List MsgV).length) = [0, 1] from rfl]
  simp [e]
theorem reads_none8 (w : World) : Reads w w.heap.size 1 none 0 (u8s []) := Reads.none8
set_option maxRecDepth 100000 in
set_option maxHeartbeats 4000000 in
theorem awake17_any (w : World) (hw : Fine w) : Calls Tryz.prog 19 #[] w fun ev w' => ev = .returned (.bool true) ∧ Below w.heap.size w w' := by
  have HB := Below.refl w.heap.size w
  refine calls_at 14 Tryz.func19 rfl rfl (Nat.le_of_ble_eq_true rfl) ?_
  intro a hA; replace hA := hA.norm
  refine wS (wR ?_)
  revert a; refine wo rfl rfl (by decide) (fun ev e h => by simp [go_sem, h] <;> rfl) ?_; intro a hA
  replace hA := hA.keepN []
  refine wN (nT (wS (wR ?_)))
  revert a; refine wo rfl rfl (by decide) (fun ev e h => by simp [go_sem, h] <;> rfl) ?_; intro a hA
  refine wl_new hA rfl rfl (by decide) (fun ev h => by simp [go_sem, h.get 2 rfl]; try first | exact ⟨rfl, rfl⟩ | rfl) fun w1 a (K1 : Blk _ _ _ _) hz1 hb1 hA => ?_
  replace HB := HB.trans (hb1.mono HB.size)
  replace hw := hw.below hb1
  have hrow : RowR tokISh w1 _ [tALL] := rowR_blk (s := tokISh) (x := tALL) K1 (fun p hp => (by cases hp))
  revert a; refine wo rfl rfl (by decide) (fun ev e h => by simp [go_sem, h] <;> rfl) ?_; intro a hA
  replace hA := hA.keepN [1]
  refine wN (nT (wS (wR ?_)))
  revert a; refine wo rfl rfl (by decide) (fun ev e h => by simp [go_sem, h] <;> rfl) ?_; intro a hA
  refine wl_call hA rfl rfl (by decide) (fun ev h => exec_call Tryz.func25 (by kernel_rfl) rfl (h.f _) (by first | (simp only [mL, h.get 4 rfl, h.c] <;> rfl) | (simp [mL, h.get 4 rfl, h.c] <;> rfl))) (right_any _ 1 [tALL] _ hrow hw (by decide) (by intro t h; rw [List.mem_singleton.1 h]; decide)) ?_
  rintro e w2 ⟨rfl, hb2⟩
  refine ⟨_, rfl, fun a hA => ?_⟩
  replace HB := HB.trans (hb2.mono HB.size)
  replace hw := hw.below hb2
  replace hrow := hrow.below hb2
  rw [read_all] at hA
  revert a; refine wo rfl rfl (by decide) (fun ev e h => by simp [go_sem, h] <;> rfl) ?_; intro a hA
  refine wl_gnew hA rfl rfl rfl rfl (by decide) (fun ev h => by simp [go_sem, h.c]; try first | exact ⟨rfl, rfl⟩ | rfl) fun w3 a (K3 : Blk _ _ _ _) hz3 hb3 hA => ?_
  replace HB := HB.trans (hb3.mono HB.size)
  replace hw := hw.below hb3
  replace hrow := hrow.below hb3
  have hms : Msgs w3 (some ⟨w2.heap.size, 0, none⟩) 2 [zMsg, zMsg] := by
    have K3' : Blk w3 w2.heap.size 25 ([zMsg, zMsg].flatMap msgC).toArray := (show (_ : Array Value) = _ from by kernel_rfl : Array.map _ _ = ([zMsg, zMsg].flatMap msgC).toArray) ▸ K3
    refine ⟨rfl, ⟨rfl, fun _ => ⟨_, rfl, K3'.lt, fun j u hu => ?_⟩⟩, fun m hm => ?_, fun m hm => ?_, fun m hm => ?_⟩
    · rw [add0]
      exact (K3'.cell j).trans (by simpa using hu)
    · have : m = zMsg := by simpa using hm
      subst this
      exact Reads.none8
    · have : m = zMsg := by simpa using hm
      subst this
      decide
    · have : m = zMsg := by simpa using hm
      subst this
      decide
  have hzb : ∀ m ∈ [zMsg, zMsg], m.b.length ≤ 1048576 := by
    intro m hm
    have : m = zMsg := by simpa using hm
    subst this
    decide
  revert a; (iterate 2 refine wg _ rfl rfl rfl rfl (by decide) (fun hq ev e h => by simp [go_sem, h, ↓gw_t (beq_t hq)] <;> rfl) ?_); intro a hA
  refine wl_kcall hA rfl rfl rfl rfl (by decide) (fun ev h => exec_call Tryz.func23 (by kernel_rfl) rfl (h.f _) (by first | (simp only [mL, h.get 8 rfl, h.get 9 rfl, h.c] <;> rfl) | (simp [mL, h.get 8 rfl, h.get 9 rfl, h.c] <;> rfl))) (find_any ⟨#[]⟩ 0 0 (some ⟨w2.heap.size, 0, none⟩) 2 [zMsg, zMsg] _ 1 [tALL] _ hms (by decide) hzb hrow hw (by decide) (by intro t h; rw [List.mem_singleton.1 h]; decide)) ?_
  rintro e w4 ⟨v, rfl, ho, hb4⟩
  refine ⟨_, rfl, fun a hA => ?_⟩
  replace HB := HB.trans (hb4.mono HB.size)
  replace hw := hw.below hb4
  replace hrow := hrow.below hb4
  rw [read_all, find_all] at ho
  obtain ⟨A4, c4, rfl, -, -⟩ := ho.reads
  revert a; (iterate 2 refine wg _ rfl rfl rfl rfl (by decide) (fun hq ev e h => by simp [go_sem, h, ↓gw_t (beq_t hq)] <;> rfl) ?_); refine wka rfl rfl (by decide) rfl rfl rfl ?_; refine wo rfl rfl (by decide) (fun ev e h => by simp [go_sem, h] <;> rfl) ?_; intro a hA
  replace hA := hA.keepN [0]
  refine wN (nT (wp_ret ?_))
  refine ret_1 hA 0 rfl rfl ?_
  exact ⟨rfl, HB⟩
end Go.Proofs.YtjhaccmcjlbllaaGreatDoor
/-
  Plain: a key more finds no more.
-/
namespace Go.Proofs.YtjhaccmcjlbllaaGreatDoor
open Go.RowKit
theorem isSo_both (L L3 : List KeyA) (ms : List MsgV) (i : Nat) : isSo (.both (L ++ L3)) ms i = (isSo (.both L) ms i && isSo (.both L3) ms i) := by
  unfold isSo
  cases ms[i]? with
  | none => rfl
  | some m =>
    show evalK _ _ = (evalK _ _ && evalK _ _)
    have e : ∀ l x, evalK (.both l) x = evalL l x := fun _ _ => by rw [evalK]
    rw [e, e, e, evalL_app]
theorem none_more {a c : List TokI} {k : KeyA} (ms : List MsgV) (h : readP a = some k) : ∃ Q : Nat → Bool, findS (readP (a ++ c)) ms = (findS (readP a) ms).filter Q := by
  rw [h]
  cases h2 : readP (a ++ c) with
  | none =>
    refine ⟨fun _ => false, ?_⟩
    show [] = _
    rw [List.filter_eq_nil_iff.2]
    intro _ _; simp
  | some k2 =>
    obtain ⟨L, L3, rfl, rfl⟩ := read_more h h2
    refine ⟨isSo (.both L3) ms, ?_⟩
    show List.filter _ _ = List.filter _ (List.filter _ _)
    rw [List.filter_filter]
    congr 1
    funext i
    rw [isSo_both, Bool.and_comm]
/-- one step of the comparison -/
theorem none_step {x y : List Nat} {Q : Nat → Bool} {i k v : Nat} (h : y.drop k = (x.drop i).filter Q) (hx : x[i]? = some v) :
    (Q v = true → y[k]? = some v ∧ y.drop (k + 1) = (x.drop (i + 1)).filter Q) ∧ (Q v = false → y[k]? ≠ some v ∧ y.drop k = (x.drop (i + 1)).filter Q) := by
  have hi := (List.getElem?_eq_some_iff.1 hx).1
  have hxi := (List.getElem?_eq_some_iff.1 hx).2
  rw [List.drop_eq_getElem_cons hi, hxi, List.filter_cons] at h
  refine ⟨fun hq => ?_, fun hq => ?_⟩
  · rw [if_pos hq] at h
    have h0 : y[k]? = some v := by
      have := congrArg (fun l => l[0]?) h
      simpa using this
    refine ⟨h0, ?_⟩
    have := congrArg (List.drop 1) h
    simpa [List.drop_drop, Nat.add_comm] using this
  · rw [if_neg (by rw [hq]; decide)] at h
    refine ⟨fun hy => ?_, h⟩
    have hm : v ∈ y.drop k := by
      have := congrArg (fun l => l[0]?) (show y.drop k = y.drop k from rfl)
      rw [List.mem_iff_getElem?]
      exact ⟨0, by simpa using hy⟩
    rw [h] at hm
    have := (List.mem_filter.1 hm).2
    rw [hq] at this
    cases this
theorem none_end {x y : List Nat} {Q : Nat → Bool} {k : Nat} (h : y.drop k = (x.drop x.length).filter Q) (hk : k ≤ y.length) : k = y.length := by
  rw [List.drop_length] at h
  have := congrArg List.length h
  simp at this
  omega
end Go.Proofs.YtjhaccmcjlbllaaGreatDoor
/-
  Walk: cubbylaw10.Few, over rows of messages.
-/
namespace Go.Proofs.YtjhaccmcjlbllaaGreatDoor
open Go.RowKit
set_option linter.unusedSimpArgs false
set_option linter.unusedVariables false
def fewS : Nat → List MsgV → Bool
  | s, [] => decide (s ≤ 60000)
  | s, m :: r => bif decide (60000 < s + 1 + m.b.length) then false else fewS (s + 1 + m.b.length) r
theorem fewS_true : ∀ {s : Nat} {l : List MsgV}, fewS s l = true → s + l.length + (l.map fun m => m.b.length).sum ≤ 60000
  | s, [], h => by
    unfold fewS at h
    simpa using h
  | s, m :: r, h => by
    unfold fewS at h
    cases hd : decide (60000 < s + 1 + m.b.length) with
    | true => rw [hd] at h; cases h
    | false =>
      rw [hd, cond_false] at h
      have := fewS_true h
      rw [List.length_cons, List.map_cons, List.sum_cons]
      omega
theorem fewS_drop {j : Nat} {l : List MsgV} {x : MsgV} (hx : l[j]? = some x) (s : Nat) : fewS s (l.drop j) = bif decide (60000 < s + 1 + x.b.length) then false else fewS (s + 1 + x.b.length) (l.drop (j + 1)) := by
  have hj := (List.getElem?_eq_some_iff.1 hx).1
  rw [List.drop_eq_getElem_cons hj, (List.getElem?_eq_some_iff.1 hx).2]
  rfl
set_option maxRecDepth 100000 in
theorem few_any (nm : ByteArray) (e nx : Nat) (A : Option Addr) (n c : Nat) (l : List MsgV) (w : World) (hs : nm.size ≤ 140737488355328) (hn : n ≤ 140737488355328) (hsz : ∀ m ∈ l, m.b.length ≤ 140737488355328) (hms : Msgs w A n l) :
    Calls Tryz.prog 20 #[.agg (boxC nm e nx A n c)] w fun ev w' => ev = .returned (.bool (fewS nm.size l)) ∧ Below w.heap.size w w' := by
  have hl := hms.len
  refine calls_at 29 Tryz.func20 rfl rfl (Nat.le_of_ble_eq_true rfl) ?_
  intro a hA; replace hA := hA.norm
  refine wS (wR ?_)
  refine wl_new hA rfl rfl (by decide) (fun ev h => by simp [go_sem, h.get 0 rfl]; try first | exact ⟨rfl, rfl⟩ | rfl) fun w1 a (K : Blk _ _ _ _) hz0 hb0 hA => ?_
  replace hms := hms.below hb0
  unfold boxC at K
  revert a; refine wo rfl rfl (by decide) (fun ev e h => by simp [go_sem, h, K.cell] <;> rfl) ?_; intro a hA
  replace hA := hA.keepN [1]
  refine wN (nT (wS (wR ?_)))
  revert a; (iterate 4 refine wo rfl rfl (by decide) (fun ev e h => by simp [go_sem, h, K.cell] <;> rfl) ?_); intro a hA
  replace hA := hA.keepN [1, 3]
  refine wN (nT (wS (wS (wR ?_))))
  revert a; (iterate 4 refine wo rfl rfl (by decide) (fun ev e h => by simp [go_sem, h, K.cell] <;> rfl) ?_); intro a hA
  replace hA := hA.keepN [1, 3, 10, 11]
  refine wN (nT (wB ?_))
  have HB := Below.refl w1.heap.size w1
  refine wp_loop_at (fun kk a wx => ∃ (j s : Nat), j + kk = n ∧ At 29 [(1, .pointer (some ⟨w.heap.size, 0, none⟩)), (3, .int .i64 (s : Nat)), (10, .int .i64 (n : Nat)), (11, .int .i64 (j : Nat))] a ∧ fewS nm.size l = fewS s (l.drop j) ∧ s ≤ 140737488355328 ∧ Below w1.heap.size w1 wx) (n) ?_ ?_
  · exact ⟨0, _, by omega, hA, rfl, hs, HB⟩
  clear HB
  rintro kk a wx ⟨j, s, hjk, hA, hfe, hs2, HB⟩
  have Kx := K.below HB K.lt
  refine wS (wR ?_)
  revert a; refine wo rfl rfl (by decide) (fun ev e h => by simp [go_sem, h] <;> rfl) ?_; intro a hA
  replace hA := hA.keepN [1, 3, 10, 11, 12]
  refine wN (nT (wS ?_))
  refine wp_if hA 12 _ rfl (fun hq => ?yL) (fun hq => ?nL)
  case yL =>
    have hlt : j < n := by simp at hq; omega
    obtain ⟨x, hx⟩ : ∃ x, l[j]? = some x := ⟨_, List.getElem?_eq_getElem (by omega)⟩
    have hxs := hsz x (List.mem_of_getElem? hx)
    obtain ⟨ad, rfl, hadl, k0, k1, k2, k3⟩ := hms.at_ hx
    have z3 := (HB.cell (p := ⟨(ad.add (j * 4)).block, (ad.add (j * 4)).off + 3, none⟩) hadl).trans k3
    have jj0 : (0 : Int) ≤ (j : Int) := by omega
    have jj1 : (j : Int) < (n : Int) := by omega
    have hwj : IntKind.i64.wrap ((j : Int) + 1) = (j : Int) + 1 := IntWalk.i64_in _ (by omega)
    have hw1 : IntKind.i64.wrap ((s : Int) + 1) = (s : Int) + 1 := IntWalk.i64_in _ (by omega)
    have hw2 : IntKind.i64.wrap ((s : Int) + 1 + (x.b.length : Int)) = ((s + 1 + x.b.length : Nat) : Int) := by rw [IntWalk.i64_in _ (by omega)]; omega
    rw [fewS_drop hx] at hfe
    refine wp_skip (nT (wS (wB (wS (wR ?_)))))
    revert a; (iterate 2 refine wo rfl rfl (by decide) (fun ev e h => by simp [go_sem, h, Kx.cell, z3, jj0, jj1, hw1, hw2] <;> rfl) ?_); intro a hA
    replace hA := hA.keepN [1, 3, 4, 10, 11]
    refine wN (nT (wS (wR ?_)))
    revert a; (iterate 10 refine wo rfl rfl (by decide) (fun ev e h => by simp [go_sem, h, Kx.cell, z3, jj0, jj1, hw1, hw2] <;> rfl) ?_); intro a hA
    replace hA := hA.keepN [1, 10, 11, 23]
    revert a; refine wo rfl rfl (by decide) (fun ev e h => by simp [go_sem, h, Kx.cell, z3, jj0, jj1, hw1, hw2] <;> rfl) ?_; intro a hA
    replace hA := hA.keepN [1, 3, 10, 11]
    refine wN (nT (wS (wR ?_)))
    revert a; (iterate 2 refine wo rfl rfl (by decide) (fun ev e h => by simp [go_sem, h, Kx.cell, z3, jj0, jj1, hw1, hw2] <;> rfl) ?_); intro a hA
    replace hA := hA.keepN [1, 3, 10, 11, 25]
    refine wN (nT ?_)
    refine wp_if hA 25 _ rfl (fun hq2 => ?yR) (fun hq2 => ?nR)
    case yR =>
      have hq2 : decide (60000 < s + 1 + x.b.length) = true := by simp at hq2 ⊢; omega
      rw [hq2, cond_true] at hfe
      refine wS (wR ?_)
      revert a; refine wo rfl rfl (by decide) (fun ev e h => by simp [go_sem, h, Kx.cell, z3, jj0, jj1, hw1, hw2] <;> rfl) ?_; intro a hA
      replace hA := hA.keepN [2]
      refine wN (nT (wp_ret (rB (rT (rT (rB (rT ?_)))))))
      refine ret_1 hA 2 rfl rfl ?_
      exact ⟨ret_bool hfe.symm, hb0.trans (HB.mono hb0.size)⟩
    case nR =>
      have hq2 : decide (60000 < s + 1 + x.b.length) = false := by simp at hq2 ⊢; omega
      rw [hq2, cond_false] at hfe
      refine wp_skip (nB (nT (wR ?_)))
      revert a; (iterate 2 refine wo rfl rfl (by decide) (fun ev e h => by simp [go_sem, h, hwj] <;> rfl) ?_); intro a hA
      replace hA := hA.keepN [1, 3, 10, 11]
      refine wN (nT ?_)
      rw [show ((j : Int) + 1) = ((j + 1 : Nat) : Int) by omega] at hA
      exact ⟨kk - 1, by omega, j + 1, s + 1 + x.b.length, by omega, hA, hfe, by simp at hq2; omega, HB⟩
  case nL =>
    have hjn : j = n := by simp at hq; omega
    rw [hjn, ← hl, List.drop_length] at hfe
    replace hA := hA.keepN [3]
    refine wp_exit (xT (xT (xB (nT (wS (wR ?_))))))
    revert a; (iterate 3 refine wo rfl rfl (by decide) (fun ev e h => by simp [go_sem, h] <;> rfl) ?_); intro a hA
    replace hA := hA.keepN [2]
    refine wN (nT (wp_ret ?_))
    refine ret_1 hA 2 rfl rfl ?_
    exact ⟨ret_bool (by rw [hfe]; unfold fewS; simp; omega), hb0.trans (HB.mono hb0.size)⟩
end Go.Proofs.YtjhaccmcjlbllaaGreatDoor
/-
  cubbyref06.small, Alike, Norm, walked.
-/
namespace Go.Proofs.YtjhaccmcjlbllaaGreatDoor
open Go.RowKit
def plainNI (c : Int) : Bool := decide (97 ≤ c ∧ c ≤ 122 ∨ 65 ≤ c ∧ c ≤ 90 ∨ 48 ≤ c ∧ c ≤ 57 ∨ c = 46 ∨ c = 95 ∨ c = 45)
def plainNB (c : UInt8) : Bool := plainNI (c.toNat : Int)
def slash : ByteArray := ⟨#[47]⟩
def inboxS : ByteArray := ⟨#[73, 78, 66, 79, 88]⟩
theorem toList_take (s : ByteArray) (k : Nat) (h : k = s.size) : s.data.toList.take k = s.data.toList := List.take_of_length_le (by simp [h])
def smallI (c : Int) : Int := if 65 ≤ c ∧ c ≤ 90 then c + 32 else c
theorem smallI_lo (c : Int) (h : 0 ≤ c) : 0 ≤ smallI c := by unfold smallI; split <;> omega
theorem smallI_hi (c : Int) (h : c ≤ 255) : smallI c ≤ 255 := by unfold smallI; split <;> omega
set_option maxHeartbeats 400000 in
theorem small_any (c : Int) (h0 : 0 ≤ c) (h1 : c ≤ 255) (w : World) :
    Calls Tryz.prog 57 #[.int .u8 c] w fun e w' => e = .returned (.int .u8 (smallI c)) ∧ w' = w := by
  go_enter Tryz.func57, Tryz.ntmps57
  go_wp2
  all_goals go_ret
  all_goals exact ⟨ret_int (by unfold smallI; split <;> omega), rfl⟩
def smallB (c : UInt8) : Int := smallI (c.toNat : Int)
def alikeL (a b : List UInt8) : Bool := a.map smallB == b.map smallB
theorem map_take_snoc (s : ByteArray) (k : Nat) (h : k < s.size) (f : UInt8 → Int) : (s.data.toList.take (k + 1)).map f = (s.data.toList.take k).map f ++ [f s[k]] := by
  rw [take_snoc s k h]; simp
theorem alike_diff (a b : ByteArray) (k : Nat) (h : k < a.size) (h' : k < b.size) (hne : smallB a[k] ≠ smallB b[k]) : alikeL a.data.toList b.data.toList = false := by
  unfold alikeL
  rw [beq_eq_false_iff_ne]
  intro e
  have := congrArg (fun l => l[k]?) e
  simp only [List.getElem?_map, List.getElem?_eq_getElem (l := a.data.toList) (i := k) (by simpa using h), List.getElem?_eq_getElem (l := b.data.toList) (i := k) (by simpa using h')] at this
  simp at this; exact hne this
set_option maxHeartbeats 400000 in
theorem alike_any (a b : ByteArray) (ha : a.size ≤ 9223372036854775807) (_hb : b.size ≤ 9223372036854775807) (w : World) :
    Calls Tryz.prog 38 #[.string a, .string b] w fun e w' => e = .returned (.bool (alikeL a.data.toList b.data.toList)) ∧ ∃ n, w' = w.drewN n := by
  by_cases hl : a.size = b.size
  · go_enter Tryz.func38, Tryz.ntmps38
    have hl' : ((a.size : Int) != (b.size : Int)) = false := by simp [hl]
    have HL := Lib.hid hl; clear hl
    go_wp2
    go_loopw [13] (fun i wr => ∃ (k n : Nat), i = .int .i64 k ∧ k ≤ a.size ∧ Hid ((a.data.toList.take k).map smallB = (b.data.toList.take k).map smallB) ∧ Hid (wr = w.drewN n)) (fun i _ => a.size - (intOf i).toNat)
    case atStart => exact ⟨0, 0, rfl, by omega, rfl, rfl⟩
    case round =>
      obtain ⟨k, n, rfl, hk, hm, hw⟩ := hrel
      by_cases hlt : k < a.size
      · have hlb : k < b.size := by have := HL.out; omega
        have a0 := smallI_lo (a[k].toNat : Int) (by omega)
        rcases Bool.eq_false_or_eq_true (smallI (a[k].toNat : Int) != smallI (b[k].toNat : Int)) with he | he
        · have Hf := Lib.hid (alike_diff a b k hlt hlb (by simpa [smallB] using he))
          go_wp2
          go_quiet ((go_at_call 57; exact Calls.quiet_of_same (small_any _ (by omega) (by first | (have := a[k].toNat_lt; omega) | (have := b[k].toNat_lt; omega)) _)))
          go_wp2
          go_ret
          exact ⟨ret_bool Hf.out.symm, _, by rw [hw.out, World.drewN_drewN]⟩
        · go_wp2
          go_quiet ((go_at_call 57; exact Calls.quiet_of_same (small_any _ (by omega) (by first | (have := a[k].toNat_lt; omega) | (have := b[k].toNat_lt; omega)) _)))
          go_wp2
          go_roundw
          case rel =>
            refine ⟨k + 1, _, by go_num, by omega, ?_, by show _ = _; rw [hw.out, World.drewN_drewN]⟩
            show List.map smallB _ = List.map smallB _
            rw [map_take_snoc a k hlt, map_take_snoc b k hlb, hm.out]
            congr 2
            simpa [smallB] using he
          case measure => simp [intOf] <;> omega
      · obtain rfl : k = a.size := by omega
        go_wp2
        go_ret
        refine ⟨ret_bool ?_, _, hw.out⟩
        have h1 := hm.out
        rw [toList_take a _ rfl, toList_take b _ HL.out] at h1
        unfold alikeL
        simp [h1]
  · have hl' : ((a.size : Int) != (b.size : Int)) = true := by simp; omega
    have Hf : Hid (alikeL a.data.toList b.data.toList = false) := by
      show alikeL _ _ = false
      unfold alikeL
      rw [beq_eq_false_iff_ne]
      intro e
      have := congrArg List.length e
      simp at this
      exact hl this
    clear hl
    go_enter Tryz.func38, Tryz.ntmps38
    go_wp2
    go_ret
    exact ⟨ret_bool Hf.out.symm, 0, rfl⟩
/-- the reference's scan: at a part's beginning, or inside one -/
def nameScan : Bool → List UInt8 → Bool
  | st, [] => !st
  | st, c :: l => if c = 47 then !st && nameScan true l else plainNB c && nameScan false l
def refNormV (s : ByteArray) : ByteArray × Bool :=
  if nameScan true s.data.toList && decide (s.size ≤ 60) then (if alikeL s.data.toList [105, 110, 98, 111, 120] = true then (inboxS, true) else (s, true)) else (⟨#[]⟩, false)
theorem scan_slash (st : Bool) (c : UInt8) (l : List UInt8) (h : c = 47) : nameScan st (c :: l) = (!st && nameScan true l) := by rw [nameScan, if_pos h]
theorem scan_other (st : Bool) (c : UInt8) (l : List UInt8) (h : c ≠ 47) : nameScan st (c :: l) = (plainNB c && nameScan false l) := by rw [nameScan, if_neg h]
theorem drop_cons (p : ByteArray) (i : Nat) (h : i < p.size) : p.data.toList.drop i = p[i] :: p.data.toList.drop (i + 1) := by
  rw [List.drop_eq_getElem_cons (by simpa using h)]; rfl
theorem u8_of_intN (c : UInt8) (n : Nat) (hn : n < 256) (h : (c.toNat : Int) = n) : c = UInt8.ofNat n := by
  apply UInt8.toNat_inj.1; simp; omega
set_option maxHeartbeats 1000000 in
theorem refNorm_any (s : ByteArray) (hs : s.size ≤ 9223372036854775807) (w : World) :
    Calls Tryz.prog 68 #[.string s] w fun e w' => e = .returned (.tuple #[.string (refNormV s).1, .bool (refNormV s).2]) ∧ ∃ n, w' = w.drewN n := by
  go_enter Tryz.func68, Tryz.ntmps68
  go_wp2
  go_loop [4, 9] (fun last i => ∃ (k : Nat) (c : Int), last = .int .u8 c ∧ 0 ≤ c ∧ c ≤ 255 ∧ i = .int .i64 k ∧ k ≤ s.size ∧ Hid (nameScan true s.data.toList = nameScan (c == 47) (s.data.toList.drop k))) (fun _ i => s.size - (intOf i).toNat)
  case atStart => exact ⟨0, 47, rfl, by omega, by omega, rfl, by omega, rfl⟩
  case round =>
    obtain ⟨k, c, rfl, hc0, hc1, rfl, hk, hsc⟩ := hrel
    by_cases hlt : k < s.size
    · have hb := s[k].toNat_lt
      have hd := drop_cons s k hlt
      have Hd := Lib.hid hd; clear hd
      rcases Bool.eq_false_or_eq_true ((s[k].toNat : Int) == 47) with h47 | h47
      · rcases Bool.eq_false_or_eq_true (c == 47) with hl | hl
        · have hv : refNormV s = (⟨#[]⟩, false) := by
            unfold refNormV
            rw [hsc.out, Hd.out, scan_slash _ _ _ (u8_of_intN _ 47 (by omega) (by simpa using h47)), hl]; rfl
          have Hv := Lib.hid hv; clear hv
          go_wp2
          go_ret2
          exact ⟨by rw [Hv.out]; rfl, 0, rfl⟩
        · have hv : nameScan true s.data.toList = nameScan true (s.data.toList.drop (k + 1)) := by
            rw [hsc.out, Hd.out, scan_slash _ _ _ (u8_of_intN _ 47 (by omega) (by simpa using h47)), hl]; rfl
          have Hv := Lib.hid hv; clear hv
          have h47' : ((s[k].toNat : Int) != 47) = false := by rw [bne, h47]; rfl
          go_wp2
          go_round
          case rel => exact ⟨k + 1, _, rfl, by omega, by omega, by go_num, by omega, Hv.out.trans (by congr 1; first | rfl | (exact h47.symm))⟩
          case measure => simp [intOf] <;> omega
      · have hs47 : s[k] ≠ 47 := fun e => by rw [e] at h47; exact absurd h47 (by decide)
        have h47' : ((s[k].toNat : Int) != 47) = true := by rw [bne, h47]; rfl
        have Kg : Hid (plainNB s[k] = true → nameScan true s.data.toList = nameScan false (s.data.toList.drop (k + 1))) := fun hp => by
          rw [hsc.out, Hd.out, scan_other _ _ _ hs47, hp]; rfl
        have Kb : Hid (plainNB s[k] = false → refNormV s = (⟨#[]⟩, false)) := fun hp => by
          unfold refNormV
          rw [hsc.out, Hd.out, scan_other _ _ _ hs47, hp]; rfl
        unfold plainNB at Kg Kb
        clear hs47 Hd
        have key : (plainNI (s[k].toNat : Int) = true ∧ (
             (((s[k].toNat : Int) != 46) = false) ∨ (((s[k].toNat : Int) != 46) = true ∧ ((s[k].toNat : Int) != 95) = false) ∨ (((s[k].toNat : Int) != 46) = true ∧ ((s[k].toNat : Int) != 95) = true ∧ ((s[k].toNat : Int) != 45) = false) ∨
             (((s[k].toNat : Int) != 46) = true ∧ ((s[k].toNat : Int) != 95) = true ∧ ((s[k].toNat : Int) != 45) = true ∧ 48 ≤ (s[k].toNat : Int) ∧ (s[k].toNat : Int) ≤ 57) ∨
             (((s[k].toNat : Int) != 46) = true ∧ ((s[k].toNat : Int) != 95) = true ∧ ((s[k].toNat : Int) != 45) = true ∧ (s[k].toNat : Int) < 48 ∧ 97 ≤ smallI (s[k].toNat : Int) ∧ smallI (s[k].toNat : Int) ≤ 122) ∨
             (((s[k].toNat : Int) != 46) = true ∧ ((s[k].toNat : Int) != 95) = true ∧ ((s[k].toNat : Int) != 45) = true ∧ 57 < (s[k].toNat : Int) ∧ 97 ≤ smallI (s[k].toNat : Int) ∧ smallI (s[k].toNat : Int) ≤ 122))) ∨
            (plainNI (s[k].toNat : Int) = false ∧ ((s[k].toNat : Int) != 46) = true ∧ ((s[k].toNat : Int) != 95) = true ∧ ((s[k].toNat : Int) != 45) = true ∧ ((s[k].toNat : Int) < 48 ∨ 57 < (s[k].toNat : Int)) ∧ (smallI (s[k].toNat : Int) < 97 ∨ 122 < smallI (s[k].toNat : Int))) := by
          unfold plainNI smallI; simp only [bne_iff_ne, bne_eq_false_iff_eq, decide_eq_true_eq, decide_eq_false_iff_not]
          split <;> omega
        rcases key with ⟨hp, hk⟩ | ⟨hp, k1, k2, k3, hk, hk2⟩
        · have hv := Kg.out hp
          have Hv := Lib.hid hv; clear hv Kg Kb
          have Hp := Lib.hid hp; clear hp
          rcases hk with k1 | ⟨k1, k2⟩ | ⟨k1, k2, k3⟩ | ⟨k1, k2, k3, k4, k5⟩ | ⟨k1, k2, k3, k4, k5, k6⟩ | ⟨k1, k2, k3, k4, k5, k6⟩
          all_goals
            go_wp2_with (go_at_call 57; refine (small_any _ (by omega) (by omega) _).mono ?_; rintro e w' ⟨rfl, rfl⟩)
          all_goals
            go_round
            case rel => exact ⟨k + 1, _, rfl, by omega, by omega, by go_num, by omega, Hv.out.trans (by congr 1; first | rfl | (exact h47.symm))⟩
            case measure => simp [intOf] <;> omega
        · have hv := Kb.out hp
          have Hv := Lib.hid hv; clear hv Kg Kb
          have Hp := Lib.hid hp; clear hp
          have hk4 : ((s[k].toNat : Int) < 48 ∧ decide (48 ≤ (s[k].toNat : Int)) = false) ∨ (57 < (s[k].toNat : Int) ∧ decide ((s[k].toNat : Int) ≤ 57) = false) := by simp only [decide_eq_false_iff_not]; omega
          have hk5 : (smallI (s[k].toNat : Int) < 97 ∧ decide (97 ≤ smallI (s[k].toNat : Int)) = false) ∨ (122 < smallI (s[k].toNat : Int) ∧ decide (smallI (s[k].toNat : Int) ≤ 122) = false) := by simp only [decide_eq_false_iff_not]; omega
          clear hk hk2
          rcases hk4 with ⟨k4, k6⟩ | ⟨k4, k6⟩ <;> rcases hk5 with ⟨k5, k7⟩ | ⟨k5, k7⟩
          all_goals
            go_wp2_with (go_at_call 57; refine (small_any _ (by omega) (by omega) _).mono ?_; rintro e w' ⟨rfl, rfl⟩)
          all_goals
            go_ret2
            exact ⟨by rw [Hv.out]; rfl, 0, rfl⟩
    · obtain rfl : k = s.size := by omega
      have hnil : s.data.toList.drop s.size = [] := List.drop_eq_nil_of_le (by simp)
      have hsc' := hsc.out
      rw [hnil] at hsc'
      clear hsc hnil
      rcases Bool.eq_false_or_eq_true (c == 47) with hl | hl
      · have hv : refNormV s = (⟨#[]⟩, false) := by
          unfold refNormV
          rw [hsc', hl]; rfl
        have Hv := Lib.hid hv; clear hv hsc'
        go_wp2
        go_ret2
        exact ⟨by rw [Hv.out]; rfl, 0, rfl⟩
      · by_cases h60 : 60 < s.size
        · have hv : refNormV s = (⟨#[]⟩, false) := by
            unfold refNormV
            rw [hsc', hl, show decide (s.size ≤ 60) = false from by simp; omega]; rfl
          have Hv := Lib.hid hv; clear hv hsc'
          go_wp2
          go_ret2
          exact ⟨by rw [Hv.out]; rfl, 0, rfl⟩
        · have hok : (nameScan true s.data.toList && decide (s.size ≤ 60)) = true := by
            rw [hsc', hl, show decide (s.size ≤ 60) = true from by simp; omega]; rfl
          have Hok := Lib.hid hok; clear hok hsc'
          rcases Bool.eq_false_or_eq_true (alikeL s.data.toList [105, 110, 98, 111, 120]) with ha | ha
          · have Hv : Hid (refNormV s = (inboxS, true)) := by show refNormV s = _; unfold refNormV; rw [Hok.out, if_pos rfl, if_pos ha]
            go_wp2_with fail
            refine (alike_any s ⟨#[105, 110, 98, 111, 120]⟩ (by omega) (by decide) _).mono ?_
            rintro e w1 ⟨rfl, n, hw1⟩
            have Hw := Lib.hid hw1; clear hw1
            rw [ha]
            have Ha := Lib.hid ha; clear ha
            go_wp2
            go_ret2
            exact ⟨by rw [Hv.out]; rfl, n, Hw.out⟩
          · have Hv : Hid (refNormV s = (s, true)) := by show refNormV s = _; unfold refNormV; rw [Hok.out, if_pos rfl, if_neg (by rw [ha]; decide)]
            go_wp2_with fail
            refine (alike_any s ⟨#[105, 110, 98, 111, 120]⟩ (by omega) (by decide) _).mono ?_
            rintro e w1 ⟨rfl, n, hw1⟩
            have Hw := Lib.hid hw1; clear hw1
            rw [ha]
            have Ha := Lib.hid ha; clear ha
            go_wp2
            go_ret2
            exact ⟨by rw [Hv.out]; rfl, n, Hw.out⟩
end Go.Proofs.YtjhaccmcjlbllaaGreatDoor
/-
  Walk: is a text a name, as it should be (the document's)?
-/
namespace Go.Proofs.YtjhaccmcjlbllaaGreatDoor
open Go.RowKit
def nameIs (s : ByteArray) : Bool := (refNormV s).2 && ((refNormV s).1.toList == s.toList)
set_option maxRecDepth 100000 in
theorem refNamed_any (s : ByteArray) (hs : s.size ≤ 9223372036854775807) (w : World) :
    Calls Tryz.prog 42 #[.string s] w fun e w' => e = .returned (.bool (nameIs s)) ∧ Below w.heap.size w w' := by
  have R := Lib.hid (refNorm_any s hs w)
  unfold nameIs
  generalize (refNormV s).1 = t at *
  generalize (refNormV s).2 = ok at *
  go_enter Tryz.func42, Tryz.ntmps42
  go_wp2_with fail
  refine R.out.mono ?_
  rintro e w1 ⟨rfl, n, rfl⟩
  have hb := below_drewN (Below.refl w.heap.size w) n
  generalize w.drewN n = w1 at *
  cases ok with
  | true =>
    go_wp2
    go_ret
    exact ⟨rfl, hb⟩
  | false =>
    go_wp2
    go_ret
    exact ⟨rfl, hb⟩
end Go.Proofs.YtjhaccmcjlbllaaGreatDoor
/-
  Messages: what they are in memory; which may be.
-/
namespace Go.Proofs.YtjhaccmcjlbllaaGreatDoor
open Go.RowKit
set_option linter.unusedSimpArgs false
set_option linter.unusedVariables false
def dateOk (t : Int) : Bool := decide (0 ≤ t) && decide (t ≤ 253402300799)
/-- may a time and flags be? -/
def fitsDF (d f : Int) : Bool := dateOk d && decide (0 ≤ f) && decide (f ≤ 31)
def fitsV (m : MsgV) : Bool := fitsDF m.date m.flags
def lastU (l : List MsgV) : Nat → Nat
  | 0 => 0
  | j + 1 => match l[j]? with | some y => y.uid | none => 0
theorem lastU_succ {l : List MsgV} {j : Nat} {x : MsgV} (hx : l[j]? = some x) : lastU l (j + 1) = x.uid := by
  show (match l[j]? with | some y => y.uid | none => 0) = _
  rw [hx]
/-- is a message right where it stands? -/
def msgStep (nx : Nat) (l : List MsgV) (j : Nat) (m : MsgV) : Bool := decide (lastU l j < m.uid) && decide (m.uid < nx) && fitsV m && decide (m.b.length ≤ 20000)
def msgAt (nx : Nat) (l : List MsgV) (j : Nat) : Bool := match l[j]? with | some m => msgStep nx l j m | none => true
def msgsN (nx : Nat) (l : List MsgV) (j : Nat) : Bool := (List.range j).all (msgAt nx l)
theorem msgsN_succ {nx : Nat} {l : List MsgV} {j : Nat} {x : MsgV} (hx : l[j]? = some x) : msgsN nx l (j + 1) = (msgsN nx l j && msgStep nx l j x) := by
  unfold msgsN
  rw [List.range_succ, List.all_append]
  simp [msgAt, hx]
theorem msgs_no {nx : Nat} {l : List MsgV} {j : Nat} {x : MsgV} (hx : l[j]? = some x) (h : msgStep nx l j x = false) : msgsN nx l l.length = false := by
  unfold msgsN
  rw [List.all_eq_false]
  exact ⟨j, List.mem_range.2 (List.getElem?_eq_some_iff.1 hx).1, by unfold msgAt; rw [hx]; simp only [h]; simp⟩
theorem msgs_at {nx : Nat} {l : List MsgV} {j : Nat} {x : MsgV} (hx : l[j]? = some x) (h : msgsN nx l l.length = true) : msgStep nx l j x = true := by
  cases hs : msgStep nx l j x with
  | true => rfl
  | false => rw [msgs_no hx hs] at h; cases h
/-- is a mailbox right? -/
def boxRight (nm : ByteArray) (e nx : Nat) (l : List MsgV) : Bool := nameIs nm && decide (1 ≤ e) && decide (1 ≤ nx) && decide (l.length ≤ 500) && msgsN nx l l.length
end Go.Proofs.YtjhaccmcjlbllaaGreatDoor
/-
  Walk: messages that may be, as the document says.
-/
namespace Go.Proofs.YtjhaccmcjlbllaaGreatDoor
open Go.RowKit
set_option linter.unusedSimpArgs false
set_option linter.unusedVariables false
theorem refFits_any (u d f : Int) (A : Option Addr) (n c : Nat) (w : World) :
    Calls Tryz.prog 43 #[.agg #[.int .u32 u, .int .i64 d, .int .i64 f, .slice A n c]] w fun e w' => e = .returned (.bool (fitsDF d f && decide (n ≤ 20000))) ∧ Below w.heap.size w w' := by
  refine calls_at 27 Tryz.func43 rfl rfl (Nat.le_of_ble_eq_true rfl) ?_
  intro a hA
  simp only [argsE, keepE, lookS, Nat.reduceBEq, cond_true, cond_false, Nat.reduceAdd, gv_tt, gv_ff, Bool.true_and, Bool.false_and, Bool.true_or, Bool.false_or] at hA
  refine wp_seq ?_
  refine wp_region_lit ?_
  -- stop box slot 1
  refine wl_new hA rfl rfl (by decide) (fun ev h => by simp [go_sem, h.get 0 rfl]; try first | exact ⟨rfl, rfl⟩ | rfl) fun w1 a20 (K : Blk _ _ _ _) hz hb hA20 => ?_
  refine wl_op hA20 rfl rfl (by decide) (fun ev h => by simp [go_sem, h.c, K.cell]; try first | exact ⟨rfl, rfl⟩ | rfl) fun a21 hA21 => ?_
  refine wl_nil ?_
  refine n_then ?_
  have hA22 := hA21.keep [1]
  simp only [argsE, keepE, lookS, Nat.reduceBEq, cond_true, cond_false, Nat.reduceAdd, gv_tt, gv_ff, Bool.true_and, Bool.false_and, Bool.true_or, Bool.false_or] at hA22
  clear hA hA20 hA21 a20
  refine wp_seq ?_
  refine wp_region_lit ?_
  refine wl_op hA22 rfl rfl (by decide) (fun ev h => by simp [go_sem, h.get 1 rfl, K.cell]; try first | exact ⟨rfl, rfl⟩ | rfl) fun a23 hA23 => ?_
  refine wl_op hA23 rfl rfl (by decide) (fun ev h => by simp [go_sem, h.get 3 rfl, K.cell]; try first | exact ⟨rfl, rfl⟩ | rfl) fun a24 hA24 => ?_
  refine wl_op hA24 rfl rfl (by decide) (fun ev h => by simp [go_sem, h.c, h.get 4 rfl, K.cell]; try first | exact ⟨rfl, rfl⟩ | rfl) fun a25 hA25 => ?_
  refine wl_op hA25 rfl rfl (by decide) (fun ev h => by simp [go_sem, h.get 5 rfl, K.cell]; try first | exact ⟨rfl, rfl⟩ | rfl) fun a26 hA26 => ?_
  refine wl_guard _ hA26 rfl rfl rfl rfl (by decide) (fun hq ev h => by simp [go_sem, (h.get 1 rfl), K.cell]; try first | exact ⟨rfl, rfl⟩ | rfl) fun a27 hA27 => ?_
  refine wl_guard _ hA27 rfl rfl rfl rfl (by decide) (fun hq ev h => by simp [go_sem, ((h.get 7 rfl).trans (gw_t (beq_t hq))), K.cell]; try first | exact ⟨rfl, rfl⟩ | rfl) fun a28 hA28 => ?_
  refine wl_guard _ hA28 rfl rfl rfl rfl (by decide) (fun hq ev h => by simp [go_sem, h.c, ((h.get 8 rfl).trans (gw_t (beq_t hq))), K.cell]; try first | exact ⟨rfl, rfl⟩ | rfl) fun a29 hA29 => ?_
  refine wl_op hA29 rfl rfl (by decide) (fun ev h => by first | exact pick_and rfl (h.get 6 rfl) (h.get 9 rfl) (h.c _) | exact pick_or rfl (h.get 6 rfl) (h.get 9 rfl) (h.c _) | (simp [go_sem, h.c, h.get 6 rfl, h.get 9 rfl, K.cell, gv_or, gv_and]; try first | exact ⟨rfl, rfl⟩ | rfl)) fun a30 hA30 => ?_
  refine wl_op hA30 rfl rfl (by decide) (fun ev h => by simp [go_sem, h.get 10 rfl, K.cell]; try first | exact ⟨rfl, rfl⟩ | rfl) fun a31 hA31 => ?_
  refine wl_guard _ hA31 rfl rfl rfl rfl (by decide) (fun hq ev h => by simp [go_sem, (h.get 1 rfl), K.cell]; try first | exact ⟨rfl, rfl⟩ | rfl) fun a32 hA32 => ?_
  refine wl_guard _ hA32 rfl rfl rfl rfl (by decide) (fun hq ev h => by simp [go_sem, ((h.get 12 rfl).trans (gw_t (beq_t hq))), K.cell]; try first | exact ⟨rfl, rfl⟩ | rfl) fun a33 hA33 => ?_
  refine wl_guard _ hA33 rfl rfl rfl rfl (by decide) (fun hq ev h => by simp [go_sem, h.c, ((h.get 13 rfl).trans (gw_t (beq_t hq))), K.cell]; try first | exact ⟨rfl, rfl⟩ | rfl) fun a34 hA34 => ?_
  refine wl_op hA34 rfl rfl (by decide) (fun ev h => by first | exact pick_and rfl (h.get 11 rfl) (h.get 14 rfl) (h.c _) | exact pick_or rfl (h.get 11 rfl) (h.get 14 rfl) (h.c _) | (simp [go_sem, h.c, h.get 11 rfl, h.get 14 rfl, K.cell, gv_or, gv_and]; try first | exact ⟨rfl, rfl⟩ | rfl)) fun a35 hA35 => ?_
  refine wl_op hA35 rfl rfl (by decide) (fun ev h => by simp [go_sem, h.get 15 rfl, K.cell]; try first | exact ⟨rfl, rfl⟩ | rfl) fun a36 hA36 => ?_
  refine wl_guard _ hA36 rfl rfl rfl rfl (by decide) (fun hq ev h => by simp [go_sem, (h.get 1 rfl), K.cell]; try first | exact ⟨rfl, rfl⟩ | rfl) fun a37 hA37 => ?_
  refine wl_guard _ hA37 rfl rfl rfl rfl (by decide) (fun hq ev h => by simp [go_sem, ((h.get 17 rfl).trans (gw_t (beq_t hq))), K.cell]; try first | exact ⟨rfl, rfl⟩ | rfl) fun a38 hA38 => ?_
  refine wl_guard _ hA38 rfl rfl rfl rfl (by decide) (fun hq ev h => by simp [go_sem, h.c, ((h.get 18 rfl).trans (gw_t (beq_t hq))), K.cell]; try first | exact ⟨rfl, rfl⟩ | rfl) fun a39 hA39 => ?_
  refine wl_op hA39 rfl rfl (by decide) (fun ev h => by first | exact pick_and rfl (h.get 16 rfl) (h.get 19 rfl) (h.c _) | exact pick_or rfl (h.get 16 rfl) (h.get 19 rfl) (h.c _) | (simp [go_sem, h.c, h.get 16 rfl, h.get 19 rfl, K.cell, gv_or, gv_and]; try first | exact ⟨rfl, rfl⟩ | rfl)) fun a40 hA40 => ?_
  refine wl_op hA40 rfl rfl (by decide) (fun ev h => by simp [go_sem, h.get 20 rfl, K.cell]; try first | exact ⟨rfl, rfl⟩ | rfl) fun a41 hA41 => ?_
  refine wl_guard _ hA41 rfl rfl rfl rfl (by decide) (fun hq ev h => by simp [go_sem, (h.get 1 rfl), K.cell]; try first | exact ⟨rfl, rfl⟩ | rfl) fun a42 hA42 => ?_
  refine wl_guard _ hA42 rfl rfl rfl rfl (by decide) (fun hq ev h => by simp [go_sem, ((h.get 22 rfl).trans (gw_t (beq_t hq))), K.cell]; try first | exact ⟨rfl, rfl⟩ | rfl) fun a43 hA43 => ?_
  refine wl_guard _ hA43 rfl rfl rfl rfl (by decide) (fun hq ev h => by simp [go_sem, ((h.get 23 rfl).trans (gw_t (beq_t hq))), K.cell]; try first | exact ⟨rfl, rfl⟩ | rfl) fun a44 hA44 => ?_
  refine wl_guard _ hA44 rfl rfl rfl rfl (by decide) (fun hq ev h => by simp [go_sem, h.c, ((h.get 24 rfl).trans (gw_t (beq_t hq))), K.cell]; try first | exact ⟨rfl, rfl⟩ | rfl) fun a45 hA45 => ?_
  refine wl_op hA45 rfl rfl (by decide) (fun ev h => by first | exact pick_and rfl (h.get 21 rfl) (h.get 25 rfl) (h.c _) | exact pick_or rfl (h.get 21 rfl) (h.get 25 rfl) (h.c _) | (simp [go_sem, h.c, h.get 21 rfl, h.get 25 rfl, K.cell, gv_or, gv_and]; try first | exact ⟨rfl, rfl⟩ | rfl)) fun a46 hA46 => ?_
  refine wl_op hA46 rfl rfl (by decide) (fun ev h => by simp [go_sem, h.get 26 rfl, K.cell]; try first | exact ⟨rfl, rfl⟩ | rfl) fun a47 hA47 => ?_
  refine wl_nil ?_
  refine n_then ?_
  have hA48 := hA47.keep [2]
  simp only [argsE, keepE, lookS, Nat.reduceBEq, cond_true, cond_false, Nat.reduceAdd, gv_tt, gv_ff, Bool.true_and, Bool.false_and, Bool.true_or, Bool.false_or] at hA48
  clear hA22 hA23 hA24 hA25 hA26 hA27 hA28 hA29 hA30 hA31 hA32 hA33 hA34 hA35 hA36 hA37 hA38 hA39 hA40 hA41 hA42 hA43 hA44 hA45 hA46 hA47 a21 a23 a24 a25 a26 a27 a28 a29 a30 a31 a32 a33 a34 a35 a36 a37 a38 a39 a40 a41 a42 a43 a44 a45 a46
  refine wp_ret ?_
  -- ret
  refine ret_1 hA48 2 rfl rfl ?_
  refine ⟨ret_bool ?_, hb⟩
  unfold fitsDF dateOk
  rw [show decide (f ≤ 31) = decide (f < 32) by rw [Bool.eq_iff_iff]; simp; omega, show decide (n ≤ 20000) = decide ((n : Int) ≤ 20000) by rw [Bool.eq_iff_iff]; simp; omega]
end Go.Proofs.YtjhaccmcjlbllaaGreatDoor
/-
  Walk: a mailbox that is right, as the document says.
-/
namespace Go.Proofs.YtjhaccmcjlbllaaGreatDoor
open Go.RowKit
set_option linter.unusedSimpArgs false
set_option linter.unusedVariables false
theorem headR (nm : ByteArray) (e nx n : Nat) : (!nameIs nm || ((e : Int) == 0) || ((nx : Int) == 0) || decide ((500 : Int) < (n : Int))) = !(nameIs nm && decide (1 ≤ e) && decide (1 ≤ nx) && decide (n ≤ 500)) := by
  rw [show ((e : Int) == 0) = !decide (1 ≤ e) by rw [Bool.eq_iff_iff]; simp, show ((nx : Int) == 0) = !decide (1 ≤ nx) by rw [Bool.eq_iff_iff]; simp, show decide ((500 : Int) < (n : Int)) = !decide (n ≤ 500) by rw [Bool.eq_iff_iff]; simp; omega]
  simp only [Bool.not_and]
theorem Msgs.prev {w : World} {ad : Addr} {n j : Nat} {l : List MsgV} (h : Msgs w (some ad) n l) (hn : j < n) (hj : 0 < j) :
    (ad.add ((j - 1) * 4)).block < w.heap.size ∧ w.cell? (ad.add ((j - 1) * 4)) = some (.int .u32 (lastU l j : Nat)) := by
  obtain ⟨i, rfl⟩ : ∃ i, j = i + 1 := ⟨j - 1, by omega⟩
  have hl := h.len
  obtain ⟨x, hx⟩ : ∃ x, l[i]? = some x := ⟨_, List.getElem?_eq_getElem (by omega)⟩
  obtain ⟨ad', e, hb, h0, _⟩ := h.at_ hx
  injection e with e
  subst e
  rw [Nat.add_sub_cancel, lastU_succ hx]
  exact ⟨hb, h0⟩
theorem refStepE (nx : Nat) (l : List MsgV) (j : Nat) (x : MsgV) : (((x.uid : Int) == 0 || decide (nx ≤ x.uid) || (!fitsDF x.date x.flags || !decide (x.b.length ≤ 20000)) || decide (0 < j) && decide (x.uid ≤ lastU l j))) = !msgStep nx l j x := by
  unfold msgStep fitsV
  rw [show ((x.uid : Int) == 0) = decide (x.uid = 0) by rw [Bool.eq_iff_iff]; simp, show decide (lastU l j < x.uid) = !decide (x.uid ≤ lastU l j) by rw [Bool.eq_iff_iff]; simp, show decide (x.uid < nx) = !decide (nx ≤ x.uid) by rw [Bool.eq_iff_iff]; simp]
  have h0 : j = 0 → lastU l j = 0 := fun e => by subst e; rfl
  have h1 : (decide (x.uid = 0) || decide (0 < j) && decide (x.uid ≤ lastU l j)) = decide (x.uid ≤ lastU l j) := by
    rcases Nat.eq_zero_or_pos j with h | h
    · rw [h0 h, h]
      rw [Bool.eq_iff_iff]; simp
    · rw [Bool.eq_iff_iff]; simp; omega
  rw [← h1]
  clear h1
  generalize decide (x.uid ≤ lastU l j) = b at *
  generalize decide (x.uid = 0) = a at *
  generalize decide (0 < j) = b2 at *
  generalize decide (nx ≤ x.uid) = c
  generalize fitsDF x.date x.flags = d
  generalize decide (x.b.length ≤ 20000) = e
  cases a <;> cases b <;> cases b2 <;> cases c <;> cases d <;> cases e <;> rfl
set_option maxRecDepth 100000 in
set_option maxHeartbeats 1000000 in
theorem refRight_any (nm : ByteArray) (A : Option Addr) (c n e nx : Nat) (l : List MsgV) (w : World) (hs : nm.size ≤ 9223372036854775807) (hn : n ≤ 9223372036854775807) (hms : Msgs w A n l) :
    Calls Tryz.prog 21 #[.agg (boxC nm e nx A n c)] w fun ev w' => ev = .returned (.bool (boxRight nm e nx l)) ∧ Below w.heap.size w w' := by
  have hl := hms.len
  refine calls_at 68 Tryz.func21 rfl rfl (Nat.le_of_ble_eq_true rfl) ?_
  intro a hA
  simp only [argsE, keepE, lookS, Nat.reduceBEq, cond_true, cond_false, Nat.reduceAdd, gv_tt, gv_ff, Bool.true_and, Bool.false_and, Bool.true_or, Bool.false_or] at hA
  refine wp_seq ?_
  refine wp_region_lit ?_
  -- stop box slot 1
  refine wl_new hA rfl rfl (by decide) (fun ev h => by simp [go_sem, h.get 0 rfl]; try first | exact ⟨rfl, rfl⟩ | rfl) fun w1 a1 (K : Blk _ _ _ _) hz hb0 hA1 => ?_
  replace hms := hms.below hb0
  have HB := Below.refl w1.heap.size w1
  unfold boxC at K
  refine wl_op hA1 rfl rfl (by decide) (fun ev h => by simp [go_sem, h.c, (K.below HB K.lt).cell]; try first | exact ⟨rfl, rfl⟩ | rfl) fun a2 hA2 => ?_
  refine wl_nil ?_
  refine n_then ?_
  have hA3 := hA2.keep [1]
  simp only [argsE, keepE, lookS, Nat.reduceBEq, cond_true, cond_false, Nat.reduceAdd, gv_tt, gv_ff, Bool.true_and, Bool.false_and, Bool.true_or, Bool.false_or] at hA3
  clear hA hA1 hA2 a1
  refine wp_seq ?_
  refine wp_seq ?_
  refine wp_region_lit ?_
  refine wl_op hA3 rfl rfl (by decide) (fun ev h => by simp [go_sem, h.get 1 rfl, (K.below HB K.lt).cell]; try first | exact ⟨rfl, rfl⟩ | rfl) fun a4 hA4 => ?_
  refine wl_op hA4 rfl rfl (by decide) (fun ev h => by simp [go_sem, h.get 5 rfl, (K.below HB K.lt).cell]; try first | exact ⟨rfl, rfl⟩ | rfl) fun a5 hA5 => ?_
  -- stop call slot 7
  refine wl_call hA5 rfl rfl (by decide) (fun ev h => by simp [go_sem, h.get 6 rfl, (K.below HB K.lt).cell, h.f]; try first | exact ⟨rfl, rfl⟩ | rfl) (refNamed_any nm hs _) ?_
  rintro e w2 ⟨rfl, hb⟩
  refine ⟨_, rfl, fun a6 hA6 => ?_⟩
  replace HB := HB.trans (hb.mono HB.size)
  have K0 := K.below HB K.lt
  refine wl_op hA6 rfl rfl (by decide) (fun ev h => by simp [go_sem, h.get 7 rfl, K0.cell]; try first | exact ⟨rfl, rfl⟩ | rfl) fun a7 hA7 => ?_
  refine wl_op hA7 rfl rfl (by decide) (fun ev h => by simp [go_sem, h.get 8 rfl, K0.cell]; try first | exact ⟨rfl, rfl⟩ | rfl) fun a8 hA8 => ?_
  refine wl_guard _ hA8 rfl rfl rfl rfl (by decide) (fun hq ev h => by simp [go_sem, (h.get 1 rfl), K0.cell]; try first | exact ⟨rfl, rfl⟩ | rfl) fun a9 hA9 => ?_
  refine wl_guard _ hA9 rfl rfl rfl rfl (by decide) (fun hq ev h => by simp [go_sem, ((h.get 10 rfl).trans (gw_t (beq_t hq))), K0.cell]; try first | exact ⟨rfl, rfl⟩ | rfl) fun a10 hA10 => ?_
  refine wl_guard _ hA10 rfl rfl rfl rfl (by decide) (fun hq ev h => by simp [go_sem, h.c, ((h.get 11 rfl).trans (gw_t (beq_t hq))), K0.cell]; try first | exact ⟨rfl, rfl⟩ | rfl) fun a11 hA11 => ?_
  refine wl_op hA11 rfl rfl (by decide) (fun ev h => by first | exact pick_and rfl (h.get 9 rfl) (h.c _) (h.get 12 rfl) | exact pick_or rfl (h.get 9 rfl) (h.c _) (h.get 12 rfl) | (simp [go_sem, h.c, h.get 9 rfl, h.get 12 rfl, K0.cell, gv_or, gv_and]; try first | exact ⟨rfl, rfl⟩ | rfl)) fun a12 hA12 => ?_
  refine wl_op hA12 rfl rfl (by decide) (fun ev h => by simp [go_sem, h.get 13 rfl, K0.cell]; try first | exact ⟨rfl, rfl⟩ | rfl) fun a13 hA13 => ?_
  refine wl_guard _ hA13 rfl rfl rfl rfl (by decide) (fun hq ev h => by simp [go_sem, (h.get 1 rfl), K0.cell]; try first | exact ⟨rfl, rfl⟩ | rfl) fun a14 hA14 => ?_
  refine wl_guard _ hA14 rfl rfl rfl rfl (by decide) (fun hq ev h => by simp [go_sem, ((h.get 15 rfl).trans (gw_t (beq_t hq))), K0.cell]; try first | exact ⟨rfl, rfl⟩ | rfl) fun a15 hA15 => ?_
  refine wl_guard _ hA15 rfl rfl rfl rfl (by decide) (fun hq ev h => by simp [go_sem, h.c, ((h.get 16 rfl).trans (gw_t (beq_t hq))), K0.cell]; try first | exact ⟨rfl, rfl⟩ | rfl) fun a16 hA16 => ?_
  refine wl_op hA16 rfl rfl (by decide) (fun ev h => by first | exact pick_and rfl (h.get 14 rfl) (h.c _) (h.get 17 rfl) | exact pick_or rfl (h.get 14 rfl) (h.c _) (h.get 17 rfl) | (simp [go_sem, h.c, h.get 14 rfl, h.get 17 rfl, K0.cell, gv_or, gv_and]; try first | exact ⟨rfl, rfl⟩ | rfl)) fun a17 hA17 => ?_
  refine wl_op hA17 rfl rfl (by decide) (fun ev h => by simp [go_sem, h.get 18 rfl, K0.cell]; try first | exact ⟨rfl, rfl⟩ | rfl) fun a18 hA18 => ?_
  refine wl_guard _ hA18 rfl rfl rfl rfl (by decide) (fun hq ev h => by simp [go_sem, (h.get 1 rfl), K0.cell]; try first | exact ⟨rfl, rfl⟩ | rfl) fun a19 hA19 => ?_
  refine wl_guard _ hA19 rfl rfl rfl rfl (by decide) (fun hq ev h => by simp [go_sem, ((h.get 20 rfl).trans (gw_t (beq_t hq))), K0.cell]; try first | exact ⟨rfl, rfl⟩ | rfl) fun a20 hA20 => ?_
  refine wl_guard _ hA20 rfl rfl rfl rfl (by decide) (fun hq ev h => by simp [go_sem, ((h.get 21 rfl).trans (gw_t (beq_t hq))), K0.cell]; try first | exact ⟨rfl, rfl⟩ | rfl) fun a21 hA21 => ?_
  refine wl_guard _ hA21 rfl rfl rfl rfl (by decide) (fun hq ev h => by simp [go_sem, h.c, ((h.get 22 rfl).trans (gw_t (beq_t hq))), K0.cell]; try first | exact ⟨rfl, rfl⟩ | rfl) fun a22 hA22 => ?_
  refine wl_op hA22 rfl rfl (by decide) (fun ev h => by first | exact pick_and rfl (h.get 19 rfl) (h.c _) (h.get 23 rfl) | exact pick_or rfl (h.get 19 rfl) (h.c _) (h.get 23 rfl) | (simp [go_sem, h.c, h.get 19 rfl, h.get 23 rfl, K0.cell, gv_or, gv_and]; try first | exact ⟨rfl, rfl⟩ | rfl)) fun a23 hA23 => ?_
  refine wl_nil ?_
  refine n_then ?_
  have hA24 := hA23.keep [1, 24]
  simp only [argsE, keepE, lookS, Nat.reduceBEq, cond_true, cond_false, Nat.reduceAdd, gv_tt, gv_ff, Bool.true_and, Bool.false_and, Bool.true_or, Bool.false_or] at hA24
  clear hA3 hA4 hA5 hA6 hA7 hA8 hA9 hA10 hA11 hA12 hA13 hA14 hA15 hA16 hA17 hA18 hA19 hA20 hA21 hA22 hA23 a2 a4 a5 a6 a7 a8 a9 a10 a11 a12 a13 a14 a15 a16 a17 a18 a19 a20 a21 a22
  -- cond
  obtain ⟨q, hqe⟩ : ∃ q, (nameIs nm && decide (1 ≤ e) && decide (1 ≤ nx) && decide (n ≤ 500)) = q := ⟨_, rfl⟩
  rw [headR, hqe] at hA24
  have hbr : boxRight nm e nx l = (q && msgsN nx l n) := by unfold boxRight; rw [hl, hqe]
  rw [hbr]
  refine wp_if hA24 24 _ rfl (fun hq => ?yA) (fun hq => ?nA)
  case yA =>
    have hq : q = false := by simpa using hq
    subst hq
    refine wp_seq ?_
    refine wp_region_lit ?_
    refine wl_op hA24 rfl rfl (by decide) (fun ev h => by simp [go_sem, h.c, K0.cell]; try first | exact ⟨rfl, rfl⟩ | rfl) fun a25 hA25 => ?_
    refine wl_nil ?_
    refine n_then ?_
    have hA26 := hA25.keep [2]
    simp only [argsE, keepE, lookS, Nat.reduceBEq, cond_true, cond_false, Nat.reduceAdd, gv_tt, gv_ff, Bool.true_and, Bool.false_and, Bool.true_or, Bool.false_or] at hA26
    clear hA24 hA25
    refine wp_ret ?_
    refine r_then ?_
    refine ret_1 hA26 2 rfl rfl ?_
    exact ⟨rfl, hb0.trans (HB.mono hb0.size)⟩
  case nA =>
    have hq : q = true := by simpa using hq
    subst hq
    rw [Bool.true_and]
    refine wp_skip ?_
    refine n_then ?_
    refine wp_seq ?_
    refine wp_seq ?_
    refine wp_region_lit ?_
    refine wl_op hA24 rfl rfl (by decide) (fun ev h => by simp [go_sem, h.get 1 rfl, K0.cell]; try first | exact ⟨rfl, rfl⟩ | rfl) fun a27 hA27 => ?_
    refine wl_op hA27 rfl rfl (by decide) (fun ev h => by simp [go_sem, h.get 25 rfl, K0.cell]; try first | exact ⟨rfl, rfl⟩ | rfl) fun a28 hA28 => ?_
    refine wl_op hA28 rfl rfl (by decide) (fun ev h => by simp [go_sem, h.get 26 rfl, K0.cell]; try first | exact ⟨rfl, rfl⟩ | rfl) fun a29 hA29 => ?_
    refine wl_op hA29 rfl rfl (by decide) (fun ev h => by simp [go_sem, h.c, K0.cell]; try first | exact ⟨rfl, rfl⟩ | rfl) fun a30 hA30 => ?_
    refine wl_nil ?_
    refine n_then ?_
    have hA31 := hA30.keep [1, 27, 28]
    simp only [argsE, keepE, lookS, Nat.reduceBEq, cond_true, cond_false, Nat.reduceAdd, gv_tt, gv_ff, Bool.true_and, Bool.false_and, Bool.true_or, Bool.false_or] at hA31
    clear hA24 hA27 hA28 hA29 hA30 a27 a28 a29
    refine wp_block ?_
    -- loop
    refine wp_loop_at (fun k a wx => ∃ (j : Nat), j + k = n ∧ At 68 [(1, .pointer (some ⟨w.heap.size, 0, none⟩)), (27, .int .i64 (n : Nat)), (28, .int .i64 (j : Nat))] a ∧ msgsN nx l j = true ∧ Below w1.heap.size w1 wx) (n) ?_ ?_
    · exact ⟨0, by omega, hA31, rfl, HB⟩
    clear HB K0
    rintro k a wx ⟨j, hjk, hA, hall, HB⟩
    refine wp_seq ?_
    refine wp_region_lit ?_
    refine wl_op hA rfl rfl (by decide) (fun ev h => by simp [go_sem, h.get 28 rfl, h.get 27 rfl]; try first | exact ⟨rfl, rfl⟩ | rfl) fun a32 hA32 => ?_
    refine wl_nil ?_
    refine n_then ?_
    have hA33 := hA32.keep [1, 27, 28, 29]
    simp only [argsE, keepE, lookS, Nat.reduceBEq, cond_true, cond_false, Nat.reduceAdd, gv_tt, gv_ff, Bool.true_and, Bool.false_and, Bool.true_or, Bool.false_or] at hA33
    clear hA hA32
    refine wp_seq ?_
    -- cond
    refine wp_if hA33 29 _ rfl (fun hq => ?yL) (fun hq => ?nL)
    case yL =>
      have hlt : j < n := by simp at hq; omega
      obtain ⟨x, hx⟩ : ∃ x, l[j]? = some x := ⟨_, List.getElem?_eq_getElem (by omega)⟩
      obtain ⟨ad, rfl, hadl, k0, k1, k2, k3⟩ := hms.at_ hx
      have z0 := (HB.cell hadl).trans k0
      have z1 := (HB.cell (p := ⟨(ad.add (j * 4)).block, (ad.add (j * 4)).off + 1, none⟩) hadl).trans k1
      have z2 := (HB.cell (p := ⟨(ad.add (j * 4)).block, (ad.add (j * 4)).off + 2, none⟩) hadl).trans k2
      have z3 := (HB.cell (p := ⟨(ad.add (j * 4)).block, (ad.add (j * 4)).off + 3, none⟩) hadl).trans k3
      have jj0 : (0 : Int) ≤ (j : Int) := by omega
      have jj1 : (j : Int) < (n : Int) := by omega
      have hwj : IntKind.i64.wrap ((j : Int) + 1) = (j : Int) + 1 := IntWalk.i64_in _ (by omega)
      have hwk : IntKind.i64.wrap ((j : Int) - 1) = (j : Int) - 1 := IntWalk.i64_in _ (by omega)
      have hpi : decide (0 < j) = true → 0 < j := fun h => by simpa using h
      have hpj : decide (0 < j) = true → (1 : Int) ≤ (j : Int) := fun h => by have := hpi h; omega
      have hpk : (j : Int) - 1 < (n : Int) := by omega
      have K0 := K.below HB K.lt
      refine wp_skip ?_
      refine n_then ?_
      refine wp_seq ?_
      refine wp_block ?_
      refine wp_seq ?_
      refine wp_region_lit ?_
      refine wl_op hA33 rfl rfl (by decide) (fun ev h => by simp [go_sem, h.get 28 rfl, K0.cell, z0, z1, z2, z3, jj0, jj1]; try first | exact ⟨rfl, rfl⟩ | rfl) fun a34 hA34 => ?_
      refine wl_op hA34 rfl rfl (by decide) (fun ev h => by simp [go_sem, h.get 30 rfl, K0.cell, z0, z1, z2, z3, jj0, jj1]; try first | exact ⟨rfl, rfl⟩ | rfl) fun a35 hA35 => ?_
      refine wl_nil ?_
      refine n_then ?_
      have hA36 := hA35.keep [1, 3, 27, 28]
      simp only [argsE, keepE, lookS, Nat.reduceBEq, cond_true, cond_false, Nat.reduceAdd, gv_tt, gv_ff, Bool.true_and, Bool.false_and, Bool.true_or, Bool.false_or] at hA36
      clear hA33 hA34 hA35 a34
      refine wp_seq ?_
      refine wp_region_lit ?_
      refine wl_op hA36 rfl rfl (by decide) (fun ev h => by simp [go_sem, h.get 1 rfl, K0.cell, z0, z1, z2, z3, jj0, jj1]; try first | exact ⟨rfl, rfl⟩ | rfl) fun a37 hA37 => ?_
      refine wl_op hA37 rfl rfl (by decide) (fun ev h => by simp [go_sem, h.get 31 rfl, K0.cell, z0, z1, z2, z3, jj0, jj1]; try first | exact ⟨rfl, rfl⟩ | rfl) fun a38 hA38 => ?_
      refine wl_op hA38 rfl rfl (by decide) (fun ev h => by simp [go_sem, h.get 3 rfl, K0.cell, z0, z1, z2, z3, jj0, jj1]; try first | exact ⟨rfl, rfl⟩ | rfl) fun a39 hA39 => ?_
      refine wl_op hA39 rfl rfl (by decide) (fun ev h => by simp [go_sem, h.get 32 rfl, h.get 33 rfl, K0.cell, z0, z1, z2, z3, jj0, jj1]; try first | exact ⟨rfl, rfl⟩ | rfl) fun a40 hA40 => ?_
      refine wl_op hA40 rfl rfl (by decide) (fun ev h => by simp [go_sem, h.get 34 rfl, K0.cell, z0, z1, z2, z3, jj0, jj1]; try first | exact ⟨rfl, rfl⟩ | rfl) fun a41 hA41 => ?_
      -- stop alloc slot 4
      refine wl_local [.int .u32 (x.uid : Nat), .int .i64 x.date, .int .i64 x.flags, .slice x.a x.b.length x.c] hA41 rfl rfl (by decide) (fun ev h => by simp [go_sem, K0.cell, z0, z1, z2, z3, jj0, jj1]; try first | exact ⟨rfl, rfl⟩ | rfl) rfl rfl (by rfl) (fun w1 g ev hb h => by simp [go_sem, h.get 4 rfl, h.get 35 rfl, K0.cell, z0, z1, z2, z3, jj0, jj1, setAll, hb.cell, hb.frozen]) fun w5 a42 (Ke : Blk _ _ _ _) hz5 hb hA42 => ?_
      replace K0 := K0.below hb K0.lt
      replace HB := HB.trans (hb.mono HB.size)
      refine wl_nil ?_
      refine n_then ?_
      have hA43 := hA42.keep [1, 3, 4, 27, 28]
      simp only [argsE, keepE, lookS, Nat.reduceBEq, cond_true, cond_false, Nat.reduceAdd, gv_tt, gv_ff, Bool.true_and, Bool.false_and, Bool.true_or, Bool.false_or] at hA43
      clear hA36 hA37 hA38 hA39 hA40 hA41 hA42 a35 a37 a38 a39 a40 a41
      refine wp_seq ?_
      refine wp_any_at hA43 ((.det ?dD0) :: (.det ?dD1) :: (.det ?dD2) :: (.det ?dD3) :: (.det ?dD4) :: (.det ?dD5) :: (.det ?dD6) :: (.det ?dD7) :: (.det ?dD8) :: (.det ?dD9) :: (.det ?dD10) :: (.det ?dD11) :: (.det ?dD12) :: (.det ?dD13) :: (.det ?dD14) :: (.det ?dD15) :: (.det ?dD16) :: (.det ?dD17) :: (.det ?dD18) :: (.det ?dD19) :: (.det ?dD20) :: (.det ?dD21) :: (.det ?dD22) :: (.det ?dD23) :: (.det ?dD24) :: (.det ?dD25) :: (.det ?dD26) :: (.det ?dD27) :: (.det ?dD28) :: (.det ?dD29) :: (.det ?dD30) :: []) [] (fun wy => Below w5.heap.size w5 wy) (TSp [] Grows) (by kernel_rfl) rfl (by kernel_rfl) (by kernel_rfl) rfl ((Below.refl w5.heap.size w5).drew) (stab_sp [] (true :: true :: true :: true :: true :: true :: true :: true :: true :: true :: true :: true :: true :: true :: true :: true :: true :: true :: true :: true :: true :: true :: true :: true :: true :: true :: true :: true :: true :: true :: true :: []) (true :: true :: true :: true :: true :: true :: true :: true :: true :: true :: true :: true :: true :: true :: true :: true :: true :: true :: true :: true :: true :: true :: true :: true :: true :: true :: true :: true :: true :: true :: true :: []) [] rfl rfl rfl (by kernel_rfl) ⟨trivial, trivial, trivial, trivial, trivial, trivial, trivial, trivial, trivial, trivial, trivial, trivial, trivial, trivial, trivial, trivial, trivial, trivial, trivial, trivial, trivial, trivial, trivial, trivial, trivial, trivial, trivial, trivial, trivial, trivial, trivial, trivial⟩ trivial) (fun _ h => by cases h) (fun _ _ _ _ _ h => by cases h) (fun _ h => by cases h) ⟨?oD0, ?oD1, ?oD2, ?oD3, ?oD4, ?oD5, ?oD6, ?oD7, ?oD8, ?oD9, ?oD10, ?oD11, ?oD12, ?oD13, ?oD14, ?oD15, ?oD16, ?oD17, ?oD18, ?oD19, ?oD20, ?oD21, ?oD22, ?oD23, ?oD24, ?oD25, ?oD26, ?oD27, ?oD28, ?oD29, ?oD30, trivial⟩ (by kernel_rfl) ?fD
      case oD0 =>
        intro ev wo hev hC hs hph
        have e4 := see_env hA43 hs 4 (by kernel_rfl) (by kernel_rfl) rfl
        exact ob_det (wanted_none rfl) rfl (by kernel_rfl) hC (TSp.of rfl (Grows.refl _)) (by simp [go_sem, e4]; try first | exact ⟨rfl, rfl⟩ | rfl)
      case oD1 =>
        intro ev wo hev hC hs hph
        have e36 := see_det hs 36 0 (by kernel_rfl) (by kernel_rfl) rfl
        have Kx := K0.below hC K0.lt
        have Kex := Ke.below hC Ke.lt
        have pz := fun h => ((HB.trans (hC.mono HB.size)).cell (hms.prev hlt h).1).trans (hms.prev hlt h).2
        exact ob_det (wanted_none rfl) rfl (by kernel_rfl) hC (TSp.of rfl (Grows.refl _)) (by simp [go_sem, e36, Kx.cell, Kex.cell, K0.cell, Ke.cell]; try first | exact ⟨rfl, rfl⟩ | rfl)
      case oD2 =>
        intro ev wo hev hC hs hph
        have e37 := see_det hs 37 1 (by kernel_rfl) (by kernel_rfl) rfl
        exact ob_det (wanted_none rfl) rfl (by kernel_rfl) hC (TSp.of rfl (Grows.refl _)) (by simp [go_sem, e37, hev.const]; try first | exact ⟨rfl, rfl⟩ | rfl)
      case oD3 =>
        intro ev wo hev hC hs hph
        have e38 := see_det hs 38 2 (by kernel_rfl) (by kernel_rfl) rfl
        exact ob_det (wanted_none rfl) rfl (by kernel_rfl) hC (TSp.of rfl (Grows.refl _)) (by simp [go_sem, e38]; try first | exact ⟨rfl, rfl⟩ | rfl)
      case oD4 =>
        intro ev wo hev hC hs hph
        have e4 := see_env hA43 hs 4 (by kernel_rfl) (by kernel_rfl) rfl
        have e39 := see_det hs 39 3 (by kernel_rfl) (by kernel_rfl) rfl
        exact ob_gv _ rfl rfl e39 rfl (by kernel_rfl) hC (TSp.of rfl (Grows.refl _)) (fun hq => by simp [go_sem, e4, e39]; try first | exact ⟨rfl, rfl⟩ | rfl) (by rfl)
      case oD5 =>
        intro ev wo hev hC hs hph
        have e40 := see_det hs 40 4 (by kernel_rfl) (by kernel_rfl) rfl
        have e39 := see_det hs 39 3 (by kernel_rfl) (by kernel_rfl) rfl
        have Kx := K0.below hC K0.lt
        have Kex := Ke.below hC Ke.lt
        have pz := fun h => ((HB.trans (hC.mono HB.size)).cell (hms.prev hlt h).1).trans (hms.prev hlt h).2
        exact ob_gv _ rfl rfl e39 rfl (by kernel_rfl) hC (TSp.of rfl (Grows.refl _)) (fun hq => by simp [go_sem, (e40.trans (gw_t (beq_t hq))), e39, Kx.cell, Kex.cell, K0.cell, Ke.cell]; try first | exact ⟨rfl, rfl⟩ | rfl) (by rfl)
      case oD6 =>
        intro ev wo hev hC hs hph
        have e1 := see_env hA43 hs 1 (by kernel_rfl) (by kernel_rfl) rfl
        have e39 := see_det hs 39 3 (by kernel_rfl) (by kernel_rfl) rfl
        exact ob_gv _ rfl rfl e39 rfl (by kernel_rfl) hC (TSp.of rfl (Grows.refl _)) (fun hq => by simp [go_sem, e1, e39]; try first | exact ⟨rfl, rfl⟩ | rfl) (by rfl)
      case oD7 =>
        intro ev wo hev hC hs hph
        have e42 := see_det hs 42 6 (by kernel_rfl) (by kernel_rfl) rfl
        have e39 := see_det hs 39 3 (by kernel_rfl) (by kernel_rfl) rfl
        have Kx := K0.below hC K0.lt
        have Kex := Ke.below hC Ke.lt
        have pz := fun h => ((HB.trans (hC.mono HB.size)).cell (hms.prev hlt h).1).trans (hms.prev hlt h).2
        exact ob_gv _ rfl rfl e39 rfl (by kernel_rfl) hC (TSp.of rfl (Grows.refl _)) (fun hq => by simp [go_sem, (e42.trans (gw_t (beq_t hq))), e39, Kx.cell, Kex.cell, K0.cell, Ke.cell]; try first | exact ⟨rfl, rfl⟩ | rfl) (by rfl)
      case oD8 =>
        intro ev wo hev hC hs hph
        have e41 := see_det hs 41 5 (by kernel_rfl) (by kernel_rfl) rfl
        have e43 := see_det hs 43 7 (by kernel_rfl) (by kernel_rfl) rfl
        have e39 := see_det hs 39 3 (by kernel_rfl) (by kernel_rfl) rfl
        exact ob_gv _ rfl rfl e39 rfl (by kernel_rfl) hC (TSp.of rfl (Grows.refl _)) (fun hq => by simp [go_sem, (e41.trans (gw_t (beq_t hq))), (e43.trans (gw_t (beq_t hq))), e39]; try first | exact ⟨rfl, rfl⟩ | rfl) (by rfl)
      case oD9 =>
        intro ev wo hev hC hs hph
        have e39 := see_det hs 39 3 (by kernel_rfl) (by kernel_rfl) rfl
        have e44 := see_det hs 44 8 (by kernel_rfl) (by kernel_rfl) rfl
        exact ob_det (wanted_none rfl) rfl (by kernel_rfl) hC (TSp.of rfl (Grows.refl _)) (by first | (refine (pick_and ?_ (e39) (hev.const _) (e44)); rfl) | (rw [pick_and _ (e39) (hev.const _) (e44)]; rfl) | (refine (pick_or ?_ (e39) (hev.const _) (e44)); rfl) | (rw [pick_or _ (e39) (hev.const _) (e44)]; rfl) | (simp [go_sem, e39, e44, hev.const]; try first | exact ⟨rfl, rfl⟩ | rfl))
      case oD10 =>
        intro ev wo hev hC hs hph
        have e45 := see_det hs 45 9 (by kernel_rfl) (by kernel_rfl) rfl
        exact ob_det (wanted_none rfl) rfl (by kernel_rfl) hC (TSp.of rfl (Grows.refl _)) (by simp [go_sem, e45]; try first | exact ⟨rfl, rfl⟩ | rfl)
      case oD11 =>
        intro ev wo hev hC hs hph
        have e4 := see_env hA43 hs 4 (by kernel_rfl) (by kernel_rfl) rfl
        have e46 := see_det hs 46 10 (by kernel_rfl) (by kernel_rfl) rfl
        have Kx := K0.below hC K0.lt
        have Kex := Ke.below hC Ke.lt
        have pz := fun h => ((HB.trans (hC.mono HB.size)).cell (hms.prev hlt h).1).trans (hms.prev hlt h).2
        exact ob_gv _ rfl rfl e46 rfl (by kernel_rfl) hC (TSp.of rfl (Grows.refl _)) (fun hq => by simp [go_sem, e4, e46, Kx.cell, Kex.cell, K0.cell, Ke.cell]; try first | exact ⟨rfl, rfl⟩ | rfl) (by rfl)
      case oD12 =>
        intro ev wo hev hC hs hph
        have e47 := see_det hs 47 11 (by kernel_rfl) (by kernel_rfl) rfl
        have e46 := see_det hs 46 10 (by kernel_rfl) (by kernel_rfl) rfl
        have Kx := K0.below hC K0.lt
        have Kex := Ke.below hC Ke.lt
        have pz := fun h => ((HB.trans (hC.mono HB.size)).cell (hms.prev hlt h).1).trans (hms.prev hlt h).2
        exact ob_gcall _ rfl rfl e46 rfl (by kernel_rfl) (by rfl) (fun hq => by simp [go_sem, (e47.trans (gw_t (beq_t hq))), e46, hev.func, hev.const]; try first | exact ⟨rfl, rfl⟩ | rfl) (fun hq => refFits_any (x.uid : Nat) x.date x.flags x.a x.b.length x.c _) (fun w3 hb3 => ⟨hC.trans (hb3.mono hC.size), TSp.of rfl hb3⟩)
      case oD13 =>
        intro ev wo hev hC hs hph
        have e48 := see_det hs 48 12 (by kernel_rfl) (by kernel_rfl) rfl
        have e46 := see_det hs 46 10 (by kernel_rfl) (by kernel_rfl) rfl
        exact ob_gv _ rfl rfl e46 rfl (by kernel_rfl) hC (TSp.of rfl (Grows.refl _)) (fun hq => by simp [go_sem, (e48.trans (gw_t (beq_t hq))), e46]; try first | exact ⟨rfl, rfl⟩ | rfl) (by rfl)
      case oD14 =>
        intro ev wo hev hC hs hph
        have e46 := see_det hs 46 10 (by kernel_rfl) (by kernel_rfl) rfl
        have e49 := see_det hs 49 13 (by kernel_rfl) (by kernel_rfl) rfl
        exact ob_det (wanted_none rfl) rfl (by kernel_rfl) hC (TSp.of rfl (Grows.refl _)) (by first | (refine (pick_and ?_ (e46) (hev.const _) (e49)); rfl) | (rw [pick_and _ (e46) (hev.const _) (e49)]; rfl) | (refine (pick_or ?_ (e46) (hev.const _) (e49)); rfl) | (rw [pick_or _ (e46) (hev.const _) (e49)]; rfl) | (simp [go_sem, e46, e49, hev.const]; try first | exact ⟨rfl, rfl⟩ | rfl))
      case oD15 =>
        intro ev wo hev hC hs hph
        have e50 := see_det hs 50 14 (by kernel_rfl) (by kernel_rfl) rfl
        exact ob_det (wanted_none rfl) rfl (by kernel_rfl) hC (TSp.of rfl (Grows.refl _)) (by simp [go_sem, e50]; try first | exact ⟨rfl, rfl⟩ | rfl)
      case oD16 =>
        intro ev wo hev hC hs hph
        have e3 := see_env hA43 hs 3 (by kernel_rfl) (by kernel_rfl) rfl
        have e51 := see_det hs 51 15 (by kernel_rfl) (by kernel_rfl) rfl
        exact ob_gv _ rfl rfl e51 rfl (by kernel_rfl) hC (TSp.of rfl (Grows.refl _)) (fun hq => by simp [go_sem, e3, e51]; try first | exact ⟨rfl, rfl⟩ | rfl) (by rfl)
      case oD17 =>
        intro ev wo hev hC hs hph
        have e52 := see_det hs 52 16 (by kernel_rfl) (by kernel_rfl) rfl
        have e51 := see_det hs 51 15 (by kernel_rfl) (by kernel_rfl) rfl
        exact ob_gv _ rfl rfl e51 rfl (by kernel_rfl) hC (TSp.of rfl (Grows.refl _)) (fun hq => by simp [go_sem, (e52.trans (gw_t (beq_t hq))), e51, hev.const]; try first | exact ⟨rfl, rfl⟩ | rfl) (by rfl)
      case oD18 =>
        intro ev wo hev hC hs hph
        have e53 := see_det hs 53 17 (by kernel_rfl) (by kernel_rfl) rfl
        have e51 := see_det hs 51 15 (by kernel_rfl) (by kernel_rfl) rfl
        exact ob_gv _ rfl rfl e51 rfl (by kernel_rfl) hC (TSp.of rfl (Grows.refl _)) (fun hq => by simp [go_sem, (e53.trans (gw_t (beq_t hq))), e51]; try first | exact ⟨rfl, rfl⟩ | rfl) (by rfl)
      case oD19 =>
        intro ev wo hev hC hs hph
        have e1 := see_env hA43 hs 1 (by kernel_rfl) (by kernel_rfl) rfl
        have e54 := see_det hs 54 18 (by kernel_rfl) (by kernel_rfl) rfl
        exact ob_gw _ _ rfl rfl e54 rfl (by kernel_rfl) hC (TSp.of rfl (Grows.refl _)) (fun hq hr => by simp [go_sem, e1, e54]; try first | exact ⟨rfl, rfl⟩ | rfl) (by rfl)
      case oD20 =>
        intro ev wo hev hC hs hph
        have e55 := see_det hs 55 19 (by kernel_rfl) (by kernel_rfl) rfl
        have e54 := see_det hs 54 18 (by kernel_rfl) (by kernel_rfl) rfl
        have Kx := K0.below hC K0.lt
        have Kex := Ke.below hC Ke.lt
        have pz := fun h => ((HB.trans (hC.mono HB.size)).cell (hms.prev hlt h).1).trans (hms.prev hlt h).2
        exact ob_gw _ _ rfl rfl e54 rfl (by kernel_rfl) hC (TSp.of rfl (Grows.refl _)) (fun hq hr => by simp [go_sem, (e55.trans (gw_t (and_beq hq hr))), e54, Kx.cell, Kex.cell, K0.cell, Ke.cell]; try first | exact ⟨rfl, rfl⟩ | rfl) (by rfl)
      case oD21 =>
        intro ev wo hev hC hs hph
        have e3 := see_env hA43 hs 3 (by kernel_rfl) (by kernel_rfl) rfl
        have e54 := see_det hs 54 18 (by kernel_rfl) (by kernel_rfl) rfl
        exact ob_gw _ _ rfl rfl e54 rfl (by kernel_rfl) hC (TSp.of rfl (Grows.refl _)) (fun hq hr => by simp [go_sem, e3, e54]; try first | exact ⟨rfl, rfl⟩ | rfl) (by rfl)
      case oD22 =>
        intro ev wo hev hC hs hph
        have e57 := see_det hs 57 21 (by kernel_rfl) (by kernel_rfl) rfl
        have e54 := see_det hs 54 18 (by kernel_rfl) (by kernel_rfl) rfl
        have Kx := K0.below hC K0.lt
        have Kex := Ke.below hC Ke.lt
        have pz := fun h => ((HB.trans (hC.mono HB.size)).cell (hms.prev hlt h).1).trans (hms.prev hlt h).2
        exact ob_gw _ _ rfl rfl e54 rfl (by kernel_rfl) hC (TSp.of rfl (Grows.refl _)) (fun hq hr => by simp [go_sem, (e57.trans (gw_t (and_beq hq hr))), e54, hev.const, hwk]; try first | exact ⟨rfl, rfl⟩ | rfl) (by rfl)
      case oD23 =>
        intro ev wo hev hC hs hph
        have e56 := see_det hs 56 20 (by kernel_rfl) (by kernel_rfl) rfl
        have e58 := see_det hs 58 22 (by kernel_rfl) (by kernel_rfl) rfl
        have e54 := see_det hs 54 18 (by kernel_rfl) (by kernel_rfl) rfl
        have Kx := K0.below hC K0.lt
        have Kex := Ke.below hC Ke.lt
        have pz := fun h => ((HB.trans (hC.mono HB.size)).cell (hms.prev hlt h).1).trans (hms.prev hlt h).2
        exact ob_gw _ _ rfl rfl e54 rfl (by kernel_rfl) hC (TSp.of rfl (Grows.refl _)) (fun hq hr => by simp [go_sem, (e56.trans (gw_t (and_beq hq hr))), (e58.trans (gw_t (and_beq hq hr))), e54, hpj hr, hpk]; try first | exact ⟨rfl, rfl⟩ | rfl) (by rfl)
      case oD24 =>
        intro ev wo hev hC hs hph
        have e59 := see_det hs 59 23 (by kernel_rfl) (by kernel_rfl) rfl
        have e54 := see_det hs 54 18 (by kernel_rfl) (by kernel_rfl) rfl
        exact ob_gw _ _ rfl rfl e54 rfl (by kernel_rfl) hC (TSp.of rfl (Grows.refl _)) (fun hq hr => by simp [go_sem, (e59.trans (gw_t (and_beq hq hr))), e54]; try first | exact ⟨rfl, rfl⟩ | rfl) (by rfl)
      case oD25 =>
        intro ev wo hev hC hs hph
        have e60 := see_det hs 60 24 (by kernel_rfl) (by kernel_rfl) rfl
        have e54 := see_det hs 54 18 (by kernel_rfl) (by kernel_rfl) rfl
        have Kx := K0.below hC K0.lt
        have Kex := Ke.below hC Ke.lt
        have pz := fun h => ((HB.trans (hC.mono HB.size)).cell (hms.prev hlt h).1).trans (hms.prev hlt h).2
        exact ob_gw _ _ rfl rfl e54 rfl (by kernel_rfl) hC (TSp.of rfl (Grows.refl _)) (fun hq hr => by simp [go_sem, (e60.trans (gw_t (and_beq hq hr))), e54, Kx.cell, Kex.cell, K0.cell, Ke.cell, pz (hpi hr)]; try first | exact ⟨rfl, rfl⟩ | rfl) (by rfl)
      case oD26 =>
        intro ev wo hev hC hs hph
        have e4 := see_env hA43 hs 4 (by kernel_rfl) (by kernel_rfl) rfl
        have e54 := see_det hs 54 18 (by kernel_rfl) (by kernel_rfl) rfl
        exact ob_gw _ _ rfl rfl e54 rfl (by kernel_rfl) hC (TSp.of rfl (Grows.refl _)) (fun hq hr => by simp [go_sem, e4, e54]; try first | exact ⟨rfl, rfl⟩ | rfl) (by rfl)
      case oD27 =>
        intro ev wo hev hC hs hph
        have e62 := see_det hs 62 26 (by kernel_rfl) (by kernel_rfl) rfl
        have e54 := see_det hs 54 18 (by kernel_rfl) (by kernel_rfl) rfl
        have Kx := K0.below hC K0.lt
        have Kex := Ke.below hC Ke.lt
        have pz := fun h => ((HB.trans (hC.mono HB.size)).cell (hms.prev hlt h).1).trans (hms.prev hlt h).2
        exact ob_gw _ _ rfl rfl e54 rfl (by kernel_rfl) hC (TSp.of rfl (Grows.refl _)) (fun hq hr => by simp [go_sem, (e62.trans (gw_t (and_beq hq hr))), e54, Kx.cell, Kex.cell, K0.cell, Ke.cell]; try first | exact ⟨rfl, rfl⟩ | rfl) (by rfl)
      case oD28 =>
        intro ev wo hev hC hs hph
        have e61 := see_det hs 61 25 (by kernel_rfl) (by kernel_rfl) rfl
        have e63 := see_det hs 63 27 (by kernel_rfl) (by kernel_rfl) rfl
        have e54 := see_det hs 54 18 (by kernel_rfl) (by kernel_rfl) rfl
        exact ob_gw _ _ rfl rfl e54 rfl (by kernel_rfl) hC (TSp.of rfl (Grows.refl _)) (fun hq hr => by simp [go_sem, (e61.trans (gw_t (and_beq hq hr))), (e63.trans (gw_t (and_beq hq hr))), e54]; try first | exact ⟨rfl, rfl⟩ | rfl) (by rfl)
      case oD29 =>
        intro ev wo hev hC hs hph
        have e54 := see_det hs 54 18 (by kernel_rfl) (by kernel_rfl) rfl
        have e64 := see_det hs 64 28 (by kernel_rfl) (by kernel_rfl) rfl
        have e51 := see_det hs 51 15 (by kernel_rfl) (by kernel_rfl) rfl
        exact ob_gv _ rfl rfl e51 rfl (by kernel_rfl) hC (TSp.of rfl (Grows.refl _)) (fun hq => by first | (refine (pick_and ?_ ((e54.trans (gw_t (beq_t hq)))) ((e64.trans (gw_a (beq_t hq)))) (hev.const _)); rfl) | (rw [pick_and _ ((e54.trans (gw_t (beq_t hq)))) ((e64.trans (gw_a (beq_t hq)))) (hev.const _)]; rfl) | (refine (pick_or ?_ ((e54.trans (gw_t (beq_t hq)))) ((e64.trans (gw_a (beq_t hq)))) (hev.const _)); rfl) | (rw [pick_or _ ((e54.trans (gw_t (beq_t hq)))) ((e64.trans (gw_a (beq_t hq)))) (hev.const _)]; rfl) | (simp [go_sem, (e54.trans (gw_t (beq_t hq))), (e64.trans (gw_a (beq_t hq))), e51, hev.const]; try first | exact ⟨rfl, rfl⟩ | rfl)) (by rfl)
      case oD30 =>
        intro ev wo hev hC hs hph
        have e51 := see_det hs 51 15 (by kernel_rfl) (by kernel_rfl) rfl
        have e65 := see_det hs 65 29 (by kernel_rfl) (by kernel_rfl) rfl
        exact ob_det (wanted_none rfl) rfl (by kernel_rfl) hC (TSp.of rfl (Grows.refl _)) (by first | (refine (pick_and ?_ (e51) (hev.const _) (e65)); rfl) | (rw [pick_and _ (e51) (hev.const _) (e65)]; rfl) | (refine (pick_or ?_ (e51) (hev.const _) (e65)); rfl) | (rw [pick_or _ (e51) (hev.const _) (e65)]; rfl) | (simp [go_sem, e51, e65, hev.const]; try first | exact ⟨rfl, rfl⟩ | rfl))
      intro sg wf hC hph
      intro a44 hA44
      refine n_then ?_
      have hA45 := hA44.keep [1, 27, 28, 66]
      simp only [argsE, keepE, lookS, Nat.reduceBEq, cond_true, cond_false, Nat.reduceAdd, gv_tt, gv_ff, Bool.true_and, Bool.false_and, Bool.true_or, Bool.false_or] at hA45
      clear hA43 hA44 a42
      rw [refStepE nx l j x] at hA45
      obtain ⟨q, hqe⟩ : ∃ q, msgStep nx l j x = q := ⟨_, rfl⟩
      rw [hqe] at hA45
      have HB := HB.trans (hC.mono HB.size)
      refine wp_if hA45 66 _ rfl (fun hq2 => ?yR) (fun hq2 => ?nR)
      case yR =>
        have hq2 : q = false := by simpa using hq2
        subst hq2
        refine wp_seq ?_
        refine wp_region_lit ?_
        refine wl_op hA45 rfl rfl (by decide) (fun ev h => by simp [go_sem, h.c, hwj]; try first | exact ⟨rfl, rfl⟩ | rfl) fun a46 hA46 => ?_
        refine wl_nil ?_
        refine n_then ?_
        have hA47 := hA46.keep [2]
        simp only [argsE, keepE, lookS, Nat.reduceBEq, cond_true, cond_false, Nat.reduceAdd, gv_tt, gv_ff, Bool.true_and, Bool.false_and, Bool.true_or, Bool.false_or] at hA47
        clear hA45 hA46
        refine wp_ret ?_
        refine r_block ?_
        refine r_then ?_
        refine r_then ?_
        refine r_block ?_
        refine r_then ?_
        refine ret_1 hA47 2 rfl rfl ?_
        exact ⟨ret_bool (by rw [← hl]; exact (msgs_no hx hqe).symm), hb0.trans (HB.mono hb0.size)⟩
      case nR =>
        have hq2 : q = true := by simpa using hq2
        subst hq2
        refine wp_skip ?_
        refine n_block ?_
        refine n_then ?_
        refine wp_region_lit ?_
        refine wl_op hA45 rfl rfl (by decide) (fun ev h => by simp [go_sem, h.c, h.get 28 rfl, hwj]; try first | exact ⟨rfl, rfl⟩ | rfl) fun a48 hA48 => ?_
        refine wl_op hA48 rfl rfl (by decide) (fun ev h => by simp [go_sem, h.get 67 rfl, hwj]; try first | exact ⟨rfl, rfl⟩ | rfl) fun a49 hA49 => ?_
        refine wl_nil ?_
        refine n_then ?_
        have hA50 := hA49.keep [1, 27, 28]
        simp only [argsE, keepE, lookS, Nat.reduceBEq, cond_true, cond_false, Nat.reduceAdd, gv_tt, gv_ff, Bool.true_and, Bool.false_and, Bool.true_or, Bool.false_or] at hA50
        clear hA45 hA48 hA49 a48
        -- round
        rw [show ((j : Int) + 1) = ((j + 1 : Nat) : Int) by omega] at hA50
        exact ⟨k - 1, by omega, j + 1, by omega, hA50, by rw [msgsN_succ hx, hall, hqe]; rfl, HB⟩
    case nL =>
      have hjn : j = n := by simp at hq; omega
      subst hjn
      refine wp_exit ?_
      refine x_then ?_
      refine x_then ?_
      refine x_block ?_
      refine n_then ?_
      have hA51 := hA33.keep []
      simp only [argsE, keepE, lookS, Nat.reduceBEq, cond_true, cond_false, Nat.reduceAdd, gv_tt, gv_ff, Bool.true_and, Bool.false_and, Bool.true_or, Bool.false_or] at hA51
      clear hA33
      refine wp_seq ?_
      refine wp_region_lit ?_
      refine wl_op hA51 rfl rfl (by decide) (fun ev h => by simp [go_sem, h.c]; try first | exact ⟨rfl, rfl⟩ | rfl) fun a52 hA52 => ?_
      refine wl_nil ?_
      refine n_then ?_
      have hA53 := hA52.keep [2]
      simp only [argsE, keepE, lookS, Nat.reduceBEq, cond_true, cond_false, Nat.reduceAdd, gv_tt, gv_ff, Bool.true_and, Bool.false_and, Bool.true_or, Bool.false_or] at hA53
      clear hA51 hA52
      refine wp_ret ?_
      refine ret_1 hA53 2 rfl rfl ?_
      exact ⟨ret_bool hall.symm, hb0.trans (HB.mono hb0.size)⟩
end Go.Proofs.YtjhaccmcjlbllaaGreatDoor
/-
  Walk: what is no key finds nothing; a key more finds no more.
-/
namespace Go.Proofs.YtjhaccmcjlbllaaGreatDoor
open Go.RowKit
set_option linter.unusedSimpArgs false
set_option linter.unusedVariables false
set_option linter.unusedSimpArgs false
set_option linter.unusedVariables false
theorem sum_part {l : List MsgV} : ∀ m ∈ l, m.b.length ≤ (l.map fun m => m.b.length).sum := by
  induction l with
  | nil => intro m h; cases h
  | cons x r ih =>
    intro m h
    rw [List.map_cons, List.sum_cons]
    rcases List.mem_cons.1 h with rfl | h
    · omega
    · have := ih m h; omega
theorem findS_len (o : Option KeyA) (ms : List MsgV) : (findS o ms).length ≤ ms.length := by
  cases o with
  | none => exact Nat.zero_le _
  | some k =>
    have := List.length_filter_le (isSo k ms) (List.range ms.length)
    rw [List.length_range] at this
    exact this
set_option maxRecDepth 100000 in
set_option maxHeartbeats 8000000 in
theorem none_law (nm : ByteArray) (e nx : Nat) (A : Option Addr) (c : Nat) (l : List MsgV) (A1 : Option Addr) (c1 : Nat) (l1 : List TokI) (A2 : Option Addr) (c2 : Nat) (l2 : List TokI) (w : World) (hw : Fine w)
    (hs : nm.size ≤ 140737488355328) (hn : l.length ≤ 140737488355328) (hsz : ∀ m ∈ l, m.b.length ≤ 140737488355328) (hms : Msgs w A l.length l) (hr1 : RowR tokISh w A1 l1) (hr2 : RowR tokISh w A2 l2) (ht1 : ∀ t ∈ l1, t.t.length ≤ 1048576) (ht2 : ∀ t ∈ l2, t.t.length ≤ 1048576) (hl1 : l1.length ≤ 1048576) (hl2 : l2.length ≤ 1048576) :
    Calls Tryz.prog 5 #[.agg (boxC nm e nx A l.length c), .slice A1 l1.length c1, .slice A2 l2.length c2] w fun ev w' => ev = .returned (.bool true) ∧ Below w.heap.size w w' := by
  refine calls_at 75 Tryz.func5 rfl rfl (Nat.le_of_ble_eq_true rfl) ?_
  intro a hA; replace hA := hA.norm
  refine wS (wR ?_)
  refine wl_new hA rfl rfl (by decide) (fun ev h => by simp [go_sem, h.get 0 rfl]; try first | exact ⟨rfl, rfl⟩ | rfl) fun w1 a (K1 : Blk _ _ _ _) hz1 HB hA => ?_
  replace hms := hms.below HB
  replace hr1 := hr1.below HB
  replace hr2 := hr2.below HB
  replace hw := hw.below HB
  unfold boxC at K1
  revert a; refine wo rfl rfl (by decide) (fun ev e h => by simp [go_sem, h] <;> rfl) ?_; intro a hA
  replace hA := hA.keepN [1, 2, 3]
  refine wN (nT (wS (wS (wR ?_))))
  refine wl_call hA rfl rfl (by decide) (fun ev h => exec_call Tryz.func19 (by kernel_rfl) rfl (h.f _) (by first | (simp only [mL, h.c] <;> rfl) | (simp [mL, h.c] <;> rfl))) (awake17_any _ hw) ?_
  rintro e w2 ⟨rfl, hb2⟩
  refine ⟨_, rfl, fun a hA => ?_⟩
  replace HB := HB.trans (hb2.mono HB.size)
  replace K1 := K1.below hb2 K1.lt
  replace hms := hms.below hb2
  replace hr1 := hr1.below hb2
  replace hr2 := hr2.below hb2
  replace hw := hw.below hb2
  revert a; (iterate 2 refine wo rfl rfl (by decide) (fun ev e h => by simp [go_sem, h, K1.cell] <;> rfl) ?_); refine wg _ rfl rfl rfl rfl (by decide) (fun hq ev e h => by simp [go_sem, h, ↓gw_t (beq_t hq), K1.cell] <;> rfl) ?_; intro a hA
  refine wl_gcallv _ hA rfl rfl rfl rfl (by decide) (fun hq ev h => exec_call Tryz.func20 (by kernel_rfl) rfl (h.f _) (by first | (simp only [mL, ((h.get 14 rfl).trans (gw_t (beq_t hq))), h.c] <;> rfl) | (simp [mL, ((h.get 14 rfl).trans (gw_t (beq_t hq))), h.c, K1.cell] <;> rfl))) (fun hq => few_any nm e nx A l.length c l _ hs hn hsz hms) fun a w3 hb3 hA => ?_
  replace HB := HB.trans (hb3.mono HB.size)
  replace K1 := K1.below hb3 K1.lt
  replace hms := hms.below hb3
  replace hr1 := hr1.below hb3
  replace hr2 := hr2.below hb3
  replace hw := hw.below hb3
  obtain ⟨fw, hfw⟩ : ∃ f, fewS nm.size l = f := ⟨_, rfl⟩
  rw [hfw] at hA
  revert a; refine wg _ rfl rfl rfl rfl (by decide) (fun hq ev e h => by simp [go_sem, h, ↓gw_t (beq_t hq), K1.cell] <;> rfl) ?_; refine wko rfl rfl (by decide) rfl rfl rfl ?_; refine wo rfl rfl (by decide) (fun ev e h => by simp [go_sem, h, K1.cell] <;> rfl) ?_; refine wg _ rfl rfl rfl rfl (by decide) (fun hq ev e h => by simp [go_sem, h, ↓gw_t (beq_t hq), K1.cell] <;> rfl) ?_; intro a hA
  refine wl_gcallv _ hA rfl rfl rfl rfl (by decide) (fun hq ev h => exec_call Tryz.func21 (by kernel_rfl) rfl (h.f _) (by first | (simp only [mL, ((h.get 19 rfl).trans (gw_t (beq_t hq))), h.c] <;> rfl) | (simp [mL, ((h.get 19 rfl).trans (gw_t (beq_t hq))), h.c, K1.cell] <;> rfl))) (fun hq => refRight_any nm A c l.length e nx l _ (by omega) (by omega) hms) fun a w4 hb4 hA => ?_
  replace HB := HB.trans (hb4.mono HB.size)
  replace K1 := K1.below hb4 K1.lt
  replace hms := hms.below hb4
  replace hr1 := hr1.below hb4
  replace hr2 := hr2.below hb4
  replace hw := hw.below hb4
  obtain ⟨br, hbr⟩ : ∃ f, boxRight nm e nx l = f := ⟨_, rfl⟩
  rw [hbr] at hA
  have i1 : IntKind.i64.wrap ((l1.length : Int) + (l2.length : Int)) = (l1.length : Int) + (l2.length : Int) := IntWalk.i64_in _ (by omega)
  revert a; refine wg _ rfl rfl rfl rfl (by decide) (fun hq ev e h => by simp [go_sem, h, ↓gw_t (beq_t hq), i1] <;> rfl) ?_; refine wko rfl rfl (by decide) rfl rfl rfl ?_; refine wo rfl rfl (by decide) (fun ev e h => by simp [go_sem, h, i1] <;> rfl) ?_; intro a hA
  replace hA := hA.keepN [1, 2, 3, 23]
  revert a; (iterate 6 refine wg _ rfl rfl rfl rfl (by decide) (fun hq ev e h => by simp [go_sem, h, ↓gw_t (beq_t hq), i1] <;> rfl) ?_); refine wko rfl rfl (by decide) rfl rfl rfl ?_; intro a hA
  replace hA := hA.keepN [1, 2, 3, 30]
  refine wN (nT ?_)
  refine wp_if hA 30 _ rfl (fun hq => ?yA) (fun hq => ?nA)
  case yA =>
    refine wS (wR ?_)
    refine wl_call hA rfl rfl (by decide) (fun ev h => exec_call Tryz.func19 (by kernel_rfl) rfl (h.f _) (by first | (simp only [mL, h.c] <;> rfl) | (simp [mL, h.c, i1] <;> rfl))) (awake17_any _ hw) ?_
    rintro e w5 ⟨rfl, hb5⟩
    refine ⟨_, rfl, fun a hA => ?_⟩
    replace HB := HB.trans (hb5.mono HB.size)
    replace K1 := K1.below hb5 K1.lt
    replace hms := hms.below hb5
    replace hr1 := hr1.below hb5
    replace hr2 := hr2.below hb5
    replace hw := hw.below hb5
    revert a; refine wo rfl rfl (by decide) (fun ev e h => by simp [go_sem, h, i1] <;> rfl) ?_; intro a hA
    replace hA := hA.keepN [6]
    refine wN (nT (wp_ret (rT ?_)))
    refine ret_1 hA 6 rfl rfl ?_
    exact ⟨rfl, HB⟩
  case nA =>
    have hf : fw = true := by cases fw <;> simp at hq <;> simp_all
    have hlen : l1.length + l2.length ≤ 100 := by simp at hq; omega
    rw [hf] at hfw
    have hbig := fewS_true hfw
    have hoct : ∀ m ∈ l, m.b.length ≤ 1048576 := fun m hm => by have := sum_part m hm; omega
    have htok : ∀ t ∈ l1 ++ l2, t.t.length ≤ 1048576 := fun t h => by
      rcases List.mem_append.1 h with h | h
      · exact ht1 t h
      · exact ht2 t h
    clear hq
    refine wp_skip (nT (wS (wR ?_)))
    revert a; (iterate 2 refine wo rfl rfl (by decide) (fun ev e h => by simp [go_sem, h, K1.cell] <;> rfl) ?_); intro a hA
    refine wl_call hA rfl rfl (by decide) (fun ev h => exec_call Tryz.func23 (by kernel_rfl) rfl (h.f _) (by first | (simp only [mL, h.get 32 rfl, h.get 33 rfl, h.c] <;> rfl) | (simp [mL, h.get 32 rfl, h.get 33 rfl, h.c, K1.cell] <;> rfl))) (find_any nm e nx A c l A1 c1 l1 _ hms (by omega) hoct hr1 hw (by omega) ht1) ?_
    rintro e w5 ⟨x, rfl, hx, hb5⟩
    refine ⟨_, rfl, fun a hA => ?_⟩
    replace HB := HB.trans (hb5.mono HB.size)
    replace K1 := K1.below hb5 K1.lt
    replace hms := hms.below hb5
    replace hr1 := hr1.below hb5
    replace hr2 := hr2.below hb5
    replace hw := hw.below hb5
    revert a; refine wo rfl rfl (by decide) (fun ev e h => by simp [go_sem, h, K1.cell] <;> rfl) ?_; intro a hA
    replace hA := hA.keepN [1, 2, 3, 7]
    have pE := fun (wo : World) (hC : (fun wy => Below w5.heap.size w5 wy) wo) => have Kx1 := K1.below hC K1.lt; (Kx1.cell)
    refine wN (nT (wS ?_))
    refine wp_region_split 6 ?_
    simp only [List.take_succ_cons, List.take_zero, List.drop_succ_cons, List.drop_zero]
    refine wp_any_split_at hA [(.det ?dE0), (.used (fun v wy => ∃ g, v = .slice (some ⟨g, 0, none⟩) 0 0 ∧ w5.heap.size ≤ g ∧ Blk wy g 60 #[])), (.det ?dE2), (.used (fun v wy => OwnR tokISh w5.heap.size wy v l1)), (.det ?dE4), (.held (fun v wy => OwnR tokISh w5.heap.size wy v (l1 ++ l2)))] [] (fun wy => Below w5.heap.size w5 wy) (TSp [(3, fun _ _ => True), (5, fun _ _ => True)] Grows) (by kernel_rfl) rfl (by kernel_rfl) (by kernel_rfl) rfl (by kernel_rfl) (by kernel_rfl) (by kernel_rfl) (by kernel_rfl) ((Below.refl w5.heap.size w5).drew) (stab_sp [(3, fun _ _ => True), (5, fun _ _ => True)] [true, false, true, false, true, false] [true, false, true, false, true, true] [] rfl rfl rfl (by kernel_rfl) ⟨trivial, (fun _ _ _ _ ⟨g, hx, hg, hk⟩ hb => ⟨g, hx, hg, hk.below hb hk.lt⟩), trivial, (fun _ _ _ _ hp hb => hp.below hb), trivial, (fun _ _ _ _ hp hb => hp.below hb), trivial⟩ trivial) (fun _ h => by cases h) (fun _ _ _ _ _ h => by cases h) (fun _ h => by cases h) ⟨?oE0, ?oE1, ?oE2, ?oE3, ?oE4, ?oE5, trivial⟩ (by kernel_rfl) ?fE
    case oE0 => intro ev wo hev hC hs hph; have x0 := se hA hs 3; exact od rfl rfl (by kernel_rfl) hC (TSp.of rfl (Grows.refl _)) (by simp [go_sem, x0, pE _ hC, K1.cell] <;> rfl)
    case oE1 =>
      intro ev wo hev hC hs hph
      have Kx1 := K1.below hC K1.lt
      have hbn := (Below.refl wo.heap.size wo).alloc (Nat.le_refl _) (.cells #[] 60)
      exact ob_yes (wanted_none rfl) (does_value (v := .slice (some ⟨wo.heap.size, 0, none⟩) 0 0) (w' := wo.alloc (.cells #[] 60)) (by simp [go_sem]) ⟨hC.trans (hbn.mono hC.size), TSp.of rfl hbn, ⟨_, rfl, hC.size, Blk.new wo _ _⟩, no_start (by kernel_rfl)⟩)
    case oE2 => intro ev wo hev hC hs hph; have x0 := se hA hs 1; exact od rfl rfl (by kernel_rfl) hC (TSp.of rfl (Grows.refl _)) (by simp [go_sem, x0] <;> rfl)
    case oE3 =>
      intro ev wo hev hC hs hph
      have u36 := su hs 36 1
      have e37 := sd hs 37 2
      have Kx1 := K1.below hC K1.lt
      obtain ⟨g, e36, hgB, hK⟩ := u36
      obtain ⟨r, w', hr, ho, hgr, _⟩ := run_appR (s := tokISh) (c := c1) (OwnR.empty hK hgB) (hr1.below hC) (fun _ _ m _ p hp => by cases hp) (by simp; omega) hC.size
      exact ob_yes (wanted_none rfl) (does_value (exec_append rfl e36 e37 hr) ⟨hC.grown hgr hC.size (fun k hk => by rw [← Option.some.inj hk]; exact hgB), TSp.sp rfl trivial, ho, no_start (by kernel_rfl)⟩)
    case oE4 => intro ev wo hev hC hs hph; have x0 := se hA hs 2; exact od rfl rfl (by kernel_rfl) hC (TSp.of rfl (Grows.refl _)) (by simp [go_sem, x0] <;> rfl)
    case oE5 =>
      intro ev wo hev hC hs hph
      have u38 := su hs 38 3
      have e39 := sd hs 39 4
      have Kx1 := K1.below hC K1.lt
      obtain ⟨r, w', hr, ho, hgr, _⟩ := run_appR (s := tokISh) (c := c2) u38 (hr2.below hC) (fun _ _ m _ p hp => by cases hp) (by omega) hC.size
      exact ob_yes (wanted_none rfl) (does_value (exec_append rfl rfl e39 hr) ⟨below_appR hC u38 hgr (Nat.le_refl _) hC.size, TSp.sp rfl trivial, ho, no_start (by kernel_rfl)⟩)
    intro sg wf hC hph
    intro x36 hx36
    intro x38 hx38
    intro x40 hx40 h40
    intro a hA
    replace hA := hA.keepN [1, 7, 35, 40]
    replace HB := HB.trans (hC.mono HB.size)
    replace K1 := K1.below hC K1.lt
    replace hms := hms.below hC
    replace hr1 := hr1.below hC
    replace hr2 := hr2.below hC
    replace hw := hw.below hC
    replace hx := hx.below hC
    obtain ⟨A5, c5, e5, hr5, -⟩ := h40.reads
    subst e5
    refine wl_call hA rfl rfl (by decide) (fun ev h => exec_call Tryz.func23 (by kernel_rfl) rfl (h.f _) (by first | (simp only [mL, h.get 35 rfl, h.get 40 rfl, h.c] <;> rfl) | (simp [mL, h.get 35 rfl, h.get 40 rfl, h.c, K1.cell] <;> rfl))) (find_any nm e nx A c l A5 c5 (l1 ++ l2) _ hms (by omega) hoct hr5 hw (by rw [List.length_append]; omega) htok) ?_
    rintro e w6 ⟨y, rfl, hy, hb6⟩
    refine ⟨_, rfl, fun a hA => ?_⟩
    replace HB := HB.trans (hb6.mono HB.size)
    replace K1 := K1.below hb6 K1.lt
    replace hms := hms.below hb6
    replace hr1 := hr1.below hb6
    replace hr2 := hr2.below hb6
    replace hw := hw.below hb6
    replace hx := hx.below hb6
    revert a; refine wo rfl rfl (by decide) (fun ev e h => by simp [go_sem, h, K1.cell] <;> rfl) ?_; intro a hA
    replace hA := hA.keepN [1, 7, 8]
    refine wN (nT (wS (wS (wR ?_))))
    revert a; refine wo rfl rfl (by decide) (fun ev e h => by simp [go_sem, h, K1.cell] <;> rfl) ?_; intro a hA
    refine wl_call hA rfl rfl (by decide) (fun ev h => exec_call Tryz.func25 (by kernel_rfl) rfl (h.f _) (by first | (simp only [mL, h.get 42 rfl, h.c] <;> rfl) | (simp [mL, h.get 42 rfl, h.c, K1.cell] <;> rfl))) (right_any A1 c1 l1 _ hr1 hw (by omega) ht1) ?_
    rintro e w7 ⟨rfl, hb7⟩
    refine ⟨_, rfl, fun a hA => ?_⟩
    replace HB := HB.trans (hb7.mono HB.size)
    replace hr1 := hr1.below hb7
    replace hw := hw.below hb7
    replace hx := hx.below hb7
    replace hy := hy.below hb7
    obtain ⟨X, hX⟩ : ∃ X, findS (readP l1) l = X := ⟨_, rfl⟩
    rw [hX] at hx
    obtain ⟨Ax, cx, ex, hrx, -⟩ := hx.reads
    subst ex
    cases hrp : readP l1 with
    | none =>
      have hX0 : X = [] := by rw [← hX, hrp]; rfl
      subst hX0
      rw [hrp] at hA
      revert a; refine wo rfl rfl (by decide) (fun ev e h => by simp [go_sem, h, K1.cell] <;> rfl) ?_; intro a hA
      replace hA := hA.keepN [7, 8, 44]
      refine wN (nT ?_)
      refine wp_if hA 44 _ rfl (fun hq => ?yB) (fun hq => ?nB)
      case nB => cases hq
      case yB =>
        refine wS (wR ?_)
        revert a; (iterate 4 refine wo rfl rfl (by decide) (fun ev e h => by simp [go_sem, h, K1.cell] <;> rfl) ?_); intro a hA
        replace hA := hA.keepN [6]
        refine wN (nT (wp_ret (rT ?_)))
        refine ret_1 hA 6 rfl rfl ?_
        exact ⟨rfl, HB⟩
    | some kk =>
      rw [hrp] at hA
      obtain ⟨Q, hQ⟩ := none_more (c := l2) l hrp
      rw [hX] at hQ
      obtain ⟨Y, hY⟩ : ∃ Y, findS (readP (l1 ++ l2)) l = Y := ⟨_, rfl⟩
      rw [hY] at hy hQ
      obtain ⟨Ay, cy, ey, hry, -⟩ := hy.reads
      subst ey
      revert a; refine wo rfl rfl (by decide) (fun ev e h => by simp [go_sem, h, K1.cell] <;> rfl) ?_; intro a hA
      replace hA := hA.keepN [7, 8, 44]
      refine wN (nT ?_)
      refine wp_if hA 44 _ rfl (fun hq => ?yB) (fun hq => ?nB)
      case yB => cases hq
      case nB =>
        refine wp_skip (nT (wS (wR ?_)))
        revert a; refine wo rfl rfl (by decide) (fun ev e h => by simp [go_sem, h, K1.cell] <;> rfl) ?_; intro a hA
        replace hA := hA.keepN [7, 8, 9]
        refine wN (nT (wS (wS (wR ?_))))
        revert a; (iterate 3 refine wo rfl rfl (by decide) (fun ev e h => by simp [go_sem, h, K1.cell] <;> rfl) ?_); intro a hA
        replace hA := hA.keepN [7, 8, 9, 49, 50]
        refine wN (nT (wB ?_))
        have hXl : X.length ≤ 60000 := by rw [← hX]; exact Nat.le_trans (findS_len _ _) (by omega)
        have hYl : Y.length ≤ 60000 := by rw [← hY]; exact Nat.le_trans (findS_len _ _) (by omega)
        refine wp_loop_at (fun f a wx => ∃ (j k : Nat), j + f = X.length ∧ k ≤ Y.length ∧ Y.drop k = (X.drop j).filter Q ∧ Below w7.heap.size w7 wx ∧ At 75 [(7, .slice Ax X.length cx), (8, .slice Ay Y.length cy), (9, .int .i64 (k : Nat)), (49, .int .i64 (X.length : Nat)), (50, .int .i64 (j : Nat))] a) (X.length) ?_ ?_
        · exact ⟨0, 0, by omega, Nat.zero_le _, by rw [hQ]; rfl, Below.refl _ _, hA⟩
        clear hA
        rintro f a wx ⟨j, k, hjf, hkY, hdr, HBx, hA⟩
        refine wS (wR ?_)
        revert a; refine wo rfl rfl (by decide) (fun ev e h => by simp [go_sem, h] <;> rfl) ?_; intro a hA
        replace hA := hA.keepN [7, 8, 9, 49, 50, 51]
        refine wN (nT (wS ?_))
        refine wp_if hA 51 _ rfl (fun hq2 => ?yC) (fun hq2 => ?nC)
        case nC =>
          have hjn : X.length ≤ j := by simp at hq2; omega
          have hke : k = Y.length := none_end (by rw [show X.length = j by omega]; exact hdr) hkY
          replace hA := hA.keepN [8, 9]
          refine wp_exit (xT (xT (xB (nT (wS (wR ?_))))))
          revert a; (iterate 5 refine wo rfl rfl (by decide) (fun ev e h => by simp [go_sem, h] <;> rfl) ?_); intro a hA
          replace hA := hA.keepN [6]
          refine wN (nT (wp_ret ?_))
          refine ret_1 hA 6 rfl rfl ?_
          exact ⟨ret_bool (by rw [hke]; simp), HB.trans (HBx.mono HB.size)⟩
        case yC =>
          have hjn : j < X.length := by simp at hq2; omega
          obtain ⟨v, hv⟩ : ∃ v, X[j]? = some v := ⟨_, List.getElem?_eq_getElem hjn⟩
          obtain ⟨ax, rfl, haxl, kx0, -⟩ := hrx.cell hv
          have kx : w7.cell? (ax.add j) = some (.int .i64 (v : Nat)) := by
            have h1 : w7.cell? (ax.add (j * 1)) = some (.int .i64 (v : Nat)) := kx0 _ rfl
            rwa [Nat.mul_one] at h1
          have hst := none_step hdr hv
          have jj0 : (0 : Int) ≤ (j : Int) := by omega
          have jj1 : (j : Int) < (X.length : Int) := by omega
          have kk0 : (0 : Int) ≤ (k : Int) := by omega
          have i3 : IntKind.i64.wrap (((j : Nat) : Int) + 1) = ((j + 1 : Nat) : Int) := by rw [IntWalk.i64_in _ (by omega)]; omega
          have i4 : IntKind.i64.wrap (((k : Nat) : Int) + 1) = ((k + 1 : Nat) : Int) := by rw [IntWalk.i64_in _ (by omega)]; omega
          obtain ⟨A0, hA0⟩ : ∃ A0 : Addr, ∀ h : k < Y.length, Ay = some A0 ∧ A0.block < w7.heap.size ∧ w7.cell? (A0.add k) = some (.int .i64 ((Y.getD k 0 : Nat) : Int)) := by
            rcases Nat.lt_or_ge k Y.length with h | h
            · obtain ⟨ay, e, hayl, ky0, -⟩ := hry.cell (i := k) (x := Y[k]) (List.getElem?_eq_getElem h)
              refine ⟨ay, fun _ => ⟨e, hayl, ?_⟩⟩
              have h1 : w7.cell? (ay.add (k * 1)) = some (.int .i64 ((Y[k] : Nat) : Int)) := ky0 _ rfl
              rw [Nat.mul_one] at h1
              rw [List.getD_eq_getElem?_getD, List.getElem?_eq_getElem h]
              exact h1
            · exact ⟨default, fun h' => absurd h' (by omega)⟩
          refine wp_skip (nT (wS (wB (wS (wR ?_)))))
          revert a; (iterate 2 refine wo rfl rfl (by decide) (fun ev e h => by simp [go_sem, h, jj0, jj1] <;> rfl) ?_); intro a hA
          replace hA := hA.keepN [7, 8, 9, 10, 49, 50]
          have pG := fun (wo : World) (hC : (fun wy => Below wx.heap.size wx wy) wo) => have Kx := (hC.cell (p := ax.add j) (by rw [block_of_add]; exact Nat.lt_of_lt_of_le haxl HBx.size)).trans ((HBx.cell (p := ax.add j) (by rw [block_of_add]; exact haxl)).trans kx); have Ky := fun h : k < Y.length => (hC.cell (p := A0.add k) (by rw [block_of_add]; exact Nat.lt_of_lt_of_le (hA0 h).2.1 HBx.size)).trans ((HBx.cell (p := A0.add k) (by rw [block_of_add]; exact (hA0 h).2.1)).trans (hA0 h).2.2); have kk1 := fun h : decide (k < Y.length) = true => (by simpa using h : k < Y.length); (Kx)
          refine wN (nT (wS ?_))
          refine wp_any_at hA [(.det ?dG0), (.det ?dG1), (.det ?dG2), (.det ?dG3), (.det ?dG4), (.det ?dG5), (.det ?dG6), (.det ?dG7), (.det ?dG8), (.det ?dG9), (.det ?dG10), (.det ?dG11), (.det ?dG12), (.det ?dG13), (.det ?dG14)] [] (fun wy => Below wx.heap.size wx wy) (TSp [] Grows) (by kernel_rfl) rfl (by kernel_rfl) (by kernel_rfl) rfl ((Below.refl _ _).drew) (stab_sp [] [true, true, true, true, true, true, true, true, true, true, true, true, true, true, true] [true, true, true, true, true, true, true, true, true, true, true, true, true, true, true] [] rfl rfl rfl (by kernel_rfl) ⟨trivial, trivial, trivial, trivial, trivial, trivial, trivial, trivial, trivial, trivial, trivial, trivial, trivial, trivial, trivial, trivial⟩ trivial) (fun _ h => by cases h) (fun _ _ _ _ _ h => by cases h) (fun _ h => by cases h) ⟨?oG0, ?oG1, ?oG2, ?oG3, ?oG4, ?oG5, ?oG6, ?oG7, ?oG8, ?oG9, ?oG10, ?oG11, ?oG12, ?oG13, ?oG14, trivial⟩ (by kernel_rfl) ?fG
          case oG0 => intro ev wo hev hC hs hph; have x0 := se hA hs 9; exact od rfl rfl (by kernel_rfl) hC (TSp.of rfl (Grows.refl _)) (by simp [go_sem, x0, jj0, jj1, kk0, hjn] <;> rfl)
          case oG1 => intro ev wo hev hC hs hph; have x0 := se hA hs 8; exact od rfl rfl (by kernel_rfl) hC (TSp.of rfl (Grows.refl _)) (by simp [go_sem, x0, jj0, jj1, kk0, hjn] <;> rfl)
          case oG2 => intro ev wo hev hC hs hph; have x0 := sd hs 54 1; exact od rfl rfl (by kernel_rfl) hC (TSp.of rfl (Grows.refl _)) (by simp [go_sem, x0, jj0, jj1, kk0, hjn] <;> rfl)
          case oG3 => intro ev wo hev hC hs hph; have x0 := sd hs 53 0; have x1 := sd hs 55 2; exact od rfl rfl (by kernel_rfl) hC (TSp.of rfl (Grows.refl _)) (by simp [go_sem, x0, x1, jj0, jj1, kk0, hjn] <;> rfl)
          case oG4 => intro ev wo hev hC hs hph; have x0 := sd hs 56 3; exact od rfl rfl (by kernel_rfl) hC (TSp.of rfl (Grows.refl _)) (by simp [go_sem, x0, jj0, jj1, kk0, hjn] <;> rfl)
          case oG5 => intro ev wo hev hC hs hph; have x0 := se hA hs 8; have y := sd hs 57 4; exact ob_gv _ rfl rfl y rfl (by kernel_rfl) hC (TSp.of rfl (Grows.refl _)) (fun hq => by simp [go_sem, x0, jj0, jj1, kk0, hjn] <;> rfl) (by rfl)
          case oG6 => intro ev wo hev hC hs hph; have x0 := se hA hs 9; have y := sd hs 57 4; exact ob_gv _ rfl rfl y rfl (by kernel_rfl) hC (TSp.of rfl (Grows.refl _)) (fun hq => by simp [go_sem, x0, jj0, jj1, kk0, hjn] <;> rfl) (by rfl)
          case oG7 =>
            intro ev wo hev hC hs hph
            have e58 := sd hs 58 5
            have e59 := sd hs 59 6
            have e57 := sd hs 57 4
            have Kx := (hC.cell (p := ax.add j) (by rw [block_of_add]; exact Nat.lt_of_lt_of_le haxl HBx.size)).trans ((HBx.cell (p := ax.add j) (by rw [block_of_add]; exact haxl)).trans kx)
            have Ky := fun h : k < Y.length => (hC.cell (p := A0.add k) (by rw [block_of_add]; exact Nat.lt_of_lt_of_le (hA0 h).2.1 HBx.size)).trans ((HBx.cell (p := A0.add k) (by rw [block_of_add]; exact (hA0 h).2.1)).trans (hA0 h).2.2)
            have kk1 := fun h : decide (k < Y.length) = true => (by simpa using h : k < Y.length)
            exact ob_gv _ rfl rfl e57 rfl (by kernel_rfl) hC (TSp.of rfl (Grows.refl _)) (fun hq => by simp [go_sem, (e58.trans (gw_t (beq_t hq))), (e59.trans (gw_t (beq_t hq))), e57, (hA0 (kk1 hq)).1, (by have := kk1 hq; omega : (k : Int) < (Y.length : Int)), kk1 hq, jj0, jj1, kk0, hjn]; try first | exact ⟨rfl, rfl⟩ | rfl) (by rfl)
          case oG8 =>
            intro ev wo hev hC hs hph
            have e60 := sd hs 60 7
            have e57 := sd hs 57 4
            have Kx := (hC.cell (p := ax.add j) (by rw [block_of_add]; exact Nat.lt_of_lt_of_le haxl HBx.size)).trans ((HBx.cell (p := ax.add j) (by rw [block_of_add]; exact haxl)).trans kx)
            have Ky := fun h : k < Y.length => (hC.cell (p := A0.add k) (by rw [block_of_add]; exact Nat.lt_of_lt_of_le (hA0 h).2.1 HBx.size)).trans ((HBx.cell (p := A0.add k) (by rw [block_of_add]; exact (hA0 h).2.1)).trans (hA0 h).2.2)
            have kk1 := fun h : decide (k < Y.length) = true => (by simpa using h : k < Y.length)
            exact ob_gv _ rfl rfl e57 rfl (by kernel_rfl) hC (TSp.of rfl (Grows.refl _)) (fun hq => by simp [go_sem, (e60.trans (gw_t (beq_t hq))), e57, Kx, jj0, jj1, Ky (kk1 hq), jj0, jj1, kk0, hjn]; try first | exact ⟨rfl, rfl⟩ | rfl) (by rfl)
          case oG9 => intro ev wo hev hC hs hph; have x0 := se hA hs 7; have y := sd hs 57 4; exact ob_gv _ rfl rfl y rfl (by kernel_rfl) hC (TSp.of rfl (Grows.refl _)) (fun hq => by simp [go_sem, x0, jj0, jj1, kk0, hjn] <;> rfl) (by rfl)
          case oG10 => intro ev wo hev hC hs hph; have x0 := se hA hs 10; have y := sd hs 57 4; exact ob_gv _ rfl rfl y rfl (by kernel_rfl) hC (TSp.of rfl (Grows.refl _)) (fun hq => by simp [go_sem, x0, jj0, jj1, kk0, hjn] <;> rfl) (by rfl)
          case oG11 => intro ev wo hev hC hs hph; have x0 := sd hs 62 9; have x1 := sd hs 63 10; have y := sd hs 57 4; exact ob_gv _ rfl rfl y rfl (by kernel_rfl) hC (TSp.of rfl (Grows.refl _)) (fun hq => by simp [go_sem, (x0.trans (gw_t (beq_t hq))), (x1.trans (gw_t (beq_t hq))), jj0, jj1, kk0, hjn] <;> rfl) (by rfl)
          case oG12 => intro ev wo hev hC hs hph; have x0 := sd hs 64 11; have y := sd hs 57 4; exact ob_gv _ rfl rfl y rfl (by kernel_rfl) hC (TSp.of rfl (Grows.refl _)) (fun hq => by simp [go_sem, (x0.trans (gw_t (beq_t hq))), pG _ hC, jj0, jj1, jj0, jj1, kk0, hjn] <;> rfl) (by rfl)
          case oG13 => intro ev wo hev hC hs hph; have x0 := sd hs 61 8; have x1 := sd hs 65 12; have y := sd hs 57 4; exact ob_gv _ rfl rfl y rfl (by kernel_rfl) hC (TSp.of rfl (Grows.refl _)) (fun hq => by simp [go_sem, (x0.trans (gw_t (beq_t hq))), (x1.trans (gw_t (beq_t hq))), jj0, jj1, kk0, hjn] <;> rfl) (by rfl)
          case oG14 => intro ev wo hev hC hs hph; have x0 := sd hs 57 4; have x1 := sd hs 66 13; exact od rfl rfl (by kernel_rfl) hC (TSp.of rfl (Grows.refl _)) (by rw [pick_and rfl x0 x1 (hev.const _)] <;> rfl)
          intro sg wf hC hph
          intro a hA
          replace hA := hA.keepN [7, 8, 9, 49, 50, 67]
          refine nT ?_
          refine wp_if hA 67 _ rfl (fun hq3 => ?yD) (fun hq3 => ?nD)
          case yD =>
            have h3 := Bool.and_eq_true_iff.1 hq3
            have hkl : k < Y.length := by simpa using h3.1
            have hyk : Y[k]? = some v := by
              have h4 := h3.2
              rw [List.getElem?_eq_getElem hkl] at h4 ⊢
              have h5 : Y[k] = v := by simp at h4; omega
              rw [h5]
            have hQv : Q v = true := by
              cases hqv : Q v with
              | true => rfl
              | false => exact absurd hyk (hst.2 hqv).1
            refine wR ?_
            revert a; (iterate 3 refine wo rfl rfl (by decide) (fun ev e h => by simp [go_sem, h, i3, i4] <;> rfl) ?_); intro a hA
            replace hA := hA.keepN [7, 8, 9, 49, 50]
            refine wN (nB (nT (wR ?_)))
            revert a; (iterate 2 refine wo rfl rfl (by decide) (fun ev e h => by simp [go_sem, h, i3, i4] <;> rfl) ?_); intro a hA
            replace hA := hA.keepN [7, 8, 9, 49, 50]
            refine wN (nT ?_)
            exact ⟨f - 1, by omega, j + 1, k + 1, by omega, by omega, (hst.1 hQv).2, HBx.trans (hC.mono HBx.size), hA⟩
          case nD =>
            have hQv : Q v = false := by
              cases hqv : Q v with
              | false => rfl
              | true =>
                have h1 := (hst.1 hqv).1
                have h2 := (List.getElem?_eq_some_iff.1 h1).1
                rw [h1] at hq3
                simp [h2] at hq3
            refine wp_skip (nB (nT (wR ?_)))
            revert a; (iterate 2 refine wo rfl rfl (by decide) (fun ev e h => by simp [go_sem, h, i3] <;> rfl) ?_); intro a hA
            replace hA := hA.keepN [7, 8, 9, 49, 50]
            refine wN (nT ?_)
            exact ⟨f - 1, by omega, j + 1, k, by omega, by omega, (hst.2 hQv).2, HBx.trans (hC.mono HBx.size), hA⟩
end Go.Proofs.YtjhaccmcjlbllaaGreatDoor
/-
  What a row says of the first world: what the walks of seqset and search need.
-/
namespace Go.Proofs.YtjhaccmcjlbllaaGreatDoor
open Go.RowKit
theorem tabF_met {l : List (String × DataW Unit)} {W : World} (h : laidMetH Tryz.prog l W) (hl : l.filter (fun x => x.1 == "internal/strconv.uint64pow10") = [("internal/strconv.uint64pow10", Lib.tabData .u64 Lib.pow10Tab)]) :
    Lib.TabIs Tryz.prog W "internal/strconv.uint64pow10" .u64 Lib.pow10Tab := by
  have h1 := laidMetH.filter (fun x => x.1 == "internal/strconv.uint64pow10") h
  rw [hl, MakeChecks.laidMetH_plain _ _ _ (by kernel_rfl)] at h1
  exact Lib.tabIs_of_head (g := 1) (t := 200) (e := 35) (n := 20) (by kernel_rfl) (by kernel_rfl) Tryz.underlying200 Tryz.underlying35 (by kernel_rfl) (by kernel_rfl) h1
theorem star_eq : "*" ++ "errors.errorString" = "*errors.errorString" := by decide
theorem err_row (u : TypeId) (h : Tryz.prog.typeName? 3 u = some "*errors.errorString") : u = 248 :=
  typeName_ptr_named (nm := "errors.errorString") (by rw [star_eq]; kernel_rfl) (by kernel_rfl) (by decide) u (by rw [star_eq]; exact h)
theorem err_met {l : List (String × DataW Unit)} {W : World} (n : String) (text : List UInt8) (g : Nat) (h : laidMetH Tryz.prog l W) (hl : l.filter (fun x => x.1 == n) = [(n, .iface "*errors.errorString" (.ptr (.agg [.lit (.string text)])))])
    (hp : ([(n, (.iface "*errors.errorString" (.ptr (.agg [.lit (.string text)])) : DataW Unit))].all fun x => x.2.handleName?.isNone) = true)
    (hg : Tryz.prog.globalNamed n = some g) (ht : (Tryz.prog.globals[g]?).map (·.type) = some 119) : ∃ ev, W.cell? ⟨g, 0, none⟩ = some ev ∧ (ev = .nilIface ∨ ∃ te pe, ev = .iface te pe) := by
  have h1 := laidMetH.filter (fun x => x.1 == n) h
  rw [hl, MakeChecks.laidMetH_plain _ _ _ hp] at h1
  obtain ⟨a, s, hv, _⟩ := laid_sentinel h1 hg ht Tryz.underlying119 err_row Tryz.underlying248 Tryz.underlying250 rfl rfl Tryz.underlying9 (by kernel_rfl) (by kernel_rfl)
  exact ⟨_, by simpa using World.var?_cell hg hv 0, .inr ⟨_, _, rfl⟩⟩
theorem fine_met {l : List (String × DataW Unit)} {W : World} (h : laidMetH Tryz.prog l W) (hsh : W.ShapedOpen Tryz.prog)
    (hl : l.filter (fun x => x.1 == "internal/strconv.uint64pow10") = [("internal/strconv.uint64pow10", Lib.tabData .u64 Lib.pow10Tab)])
    (h5 : l.filter (fun x => x.1 == "strconv.ErrSyntax") = [("strconv.ErrSyntax", .iface "*errors.errorString" (.ptr (.agg [.lit (.string [105, 110, 118, 97, 108, 105, 100, 32, 115, 121, 110, 116, 97, 120])])))])
    (h6 : l.filter (fun x => x.1 == "strconv.ErrRange") = [("strconv.ErrRange", .iface "*errors.errorString" (.ptr (.agg [.lit (.string [118, 97, 108, 117, 101, 32, 111, 117, 116, 32, 111, 102, 32, 114, 97, 110, 103, 101])])))]) : Fine W := by
  have e6 := err_met "strconv.ErrRange" _ 8 h h6 rfl (by kernel_rfl) (by kernel_rfl)
  refine ⟨tabF_met h hl, Tryz.laysM146.s1_3 W hsh, err_met "strconv.ErrSyntax" _ 7 h h5 rfl (by kernel_rfl) (by kernel_rfl), e6, ?_⟩
  obtain ⟨ev5, hc5, _⟩ := err_met "strconv.ErrSyntax" _ 7 h h5 rfl (by kernel_rfl) (by kernel_rfl)
  obtain ⟨ev, hc, _⟩ := e6
  exact ⟨block_lt_of_cell hc, block_lt_of_cell hc5⟩
end Go.Proofs.YtjhaccmcjlbllaaGreatDoor
/-
  Arguments, opened by their types: numbers, texts, structs of one-cell fields, slices of what reads.
-/
namespace Go.Proofs.YtjhaccmcjlbllaaGreatDoor
open Go.ChangeShapes Go.WideShapes Go.Deep Go.RowKit
theorem cell_lt' {w : World} {a : Addr} {v : Value} (h : w.cell? a = some v) : a.block < w.heap.size := by
  rcases Nat.lt_or_ge a.block w.heap.size with hlt | hge
  · exact hlt
  · unfold World.cell? at h
    simp [Array.getElem?_eq_none hge] at h
/-- cells that read at a type -/
def Fits {H : Type} (enc : TypeId × Value → H) (P : Program) (w : World) (t : TypeId) (cs : List Value) : Prop := ∃ base spare held fuel x, DataW.trod enc P w base spare held fuel t cs = some x
section
variable {H : Type} {enc : TypeId × Value → H} {P : Program} {w : World} {t e : TypeId} {cs : List Value}
theorem fits_int {k : IntKind} (h : Fits enc P w t cs) (ht : P.underlying t = some (.int k)) : ∃ n, cs = [.int k n] ∧ (Lit.int k n).wf = true := by
  obtain ⟨_, _, _, _, _, h⟩ := h
  obtain ⟨n, e, _, hw⟩ := DataW.trod_int ht h
  exact ⟨n, e, hw⟩
theorem fits_string (h : Fits enc P w t cs) (ht : P.underlying t = some .string) : ∃ s : ByteArray, cs = [.string s] ∧ s.size ≤ maxLen := by
  obtain ⟨_, _, _, _, _, h⟩ := h
  obtain ⟨s, e, _, hw⟩ := DataW.trod_string ht h
  exact ⟨s, e, hw⟩
theorem fits_bool (h : Fits enc P w t cs) (ht : P.underlying t = some .bool) : ∃ b, cs = [.bool b] := by
  obtain ⟨_, _, _, _, _, h⟩ := h
  obtain ⟨s, e, _⟩ := DataW.trod_bool ht h
  exact ⟨s, e⟩
theorem fits_fields {fs : Array Field} (h : Fits enc P w t cs) (ht : P.underlying t = some (.struct fs)) (hone : oneCellFields P fs = true) (hC : P.cellsOf t = fs.size) : cs.length = fs.size ∧ ∀ (j : Nat) (f : Field) (c : Value), fs[j]? = some f → cs[j]? = some c → Fits enc P w f.type [c] := by
  obtain ⟨base, spare, held, fuel, x, h⟩ := h
  obtain ⟨ys, n, _, _, hl, hyl, hat⟩ := DataW.trod_struct ht h
  refine ⟨by rw [hl, hC], fun j f c hf hc => ?_⟩
  obtain ⟨ho, hk⟩ := hone_of hone j f hf
  have h1 := hat j f hf
  have hj := (Array.getElem?_eq_some_iff.1 hf).1
  rw [ho, hk] at h1
  have hd1 : (List.drop j cs).take 1 = [c] := by
    have hjl := (List.getElem?_eq_some_iff.1 hc).1
    rw [List.drop_eq_getElem_cons hjl, (List.getElem?_eq_some_iff.1 hc).2]
    rfl
  rw [hd1, List.getElem?_eq_getElem (by omega)] at h1
  exact ⟨base, spare, held, n, _, h1⟩
theorem rows_at (k : Nat) : ∀ (L : List (List Value)) (i j : Nat) (x : List Value), (∀ x ∈ L, x.length = k) → L[i]? = some x → j < k → L.flatten[i * k + j]? = x[j]?
  | y :: r, 0, j, x, hL, h, hj => by
    have e : y = x := by simpa using h
    subst e
    have := hL y List.mem_cons_self
    rw [List.flatten_cons, Nat.zero_mul, Nat.zero_add, List.getElem?_append_left (by omega)]
  | y :: r, i + 1, j, x, hL, h, hj => by
    have ih := rows_at k r i j x (fun z hz => hL z (List.mem_cons_of_mem _ hz)) (by simpa using h) hj
    have := hL y List.mem_cons_self
    have hm : k ≤ (i + 1) * k + j := by rw [Nat.succ_mul]; omega
    rw [List.flatten_cons, List.getElem?_append_right (by omega)]
    have e : (i + 1) * k + j - y.length = i * k + j := by rw [Nat.succ_mul]; omega
    rw [e]; exact ih
theorem rows_len (k : Nat) : ∀ (L : List (List Value)), (∀ x ∈ L, x.length = k) → L.flatten.length = L.length * k
  | [], _ => by simp
  | y :: r, h => by
    have := rows_len k r fun z hz => h z (List.mem_cons_of_mem _ hz)
    rw [List.flatten_cons, List.length_append, this, h y List.mem_cons_self, List.length_cons, Nat.succ_mul]; omega
theorem fits_slice (h : Fits enc P w t cs) (ht : P.underlying t = some (.slice e)) (hk : 0 < P.cellsOf e) :
    ∃ (A : Option Addr) (n c : Nat) (L : List (List Value)), cs = [.slice A n c] ∧ n ≤ c ∧ c ≤ maxLen ∧ L.length = n ∧ (∀ x ∈ L, x.length = P.cellsOf e ∧ Fits enc P w e x) ∧ Reads w w.heap.size (P.cellsOf e) A n L.flatten := by
  obtain ⟨base, spare, held, fuel, x, hf⟩ := h
  rcases open_slice ht hf with ⟨hcs, _⟩ | ⟨a, len, cap, m, n0, D, Pl, hcs, _, hl, hm, hmm, hdx, hx⟩
  · exact ⟨none, 0, 0, [], hcs, Nat.le_refl _, Nat.zero_le _, rfl, fun x hx => (by cases hx), by simp, fun hn => absurd hn (by simp)⟩
  · have hml : len ≤ m := by rw [hmm]; split <;> omega
    have hall : ∀ n, n ≤ len → ∃ L : List (List Value), L.length = n ∧ (∀ x ∈ L, x.length = P.cellsOf e ∧ Fits enc P w e x) ∧ ∀ i x, L[i]? = some x → ∀ j u, x[j]? = some u → w.cell? (a.add (i * P.cellsOf e + j)) = some u := by
      intro n
      induction n with
      | zero => intro _; exact ⟨[], rfl, by simp, by simp⟩
      | succ n ih =>
        intro hnl
        obtain ⟨L, hl1, hl2, hl3⟩ := ih (by omega)
        obtain ⟨cs', hcc, htr⟩ := hx n (by omega)
        obtain ⟨_, hlen, hat⟩ := World.cells?_some hcc
        refine ⟨L ++ [cs'], by simp [hl1], ?_, ?_⟩
        · intro y hy
          rcases List.mem_append.1 hy with h | h
          · exact hl2 y h
          · rw [List.mem_singleton] at h
            subst h
            exact ⟨hlen, base, spare, held, n0, _, htr⟩
        · intro i y hi' j u hj
          rcases Nat.lt_or_ge i L.length with h | h
          · rw [List.getElem?_append_left h] at hi'; exact hl3 i y hi' j u hj
          · rw [List.getElem?_append_right h] at hi'
            have h0 : i - L.length = 0 := by
              rcases Nat.eq_zero_or_pos (i - L.length) with h' | h'
              · exact h'
              · rw [List.getElem?_eq_none (by simp; omega)] at hi'; cases hi'
            rw [h0] at hi'
            have hy : cs' = y := by simpa using hi'
            subst hy
            obtain rfl : i = n := by omega
            have hj2 : j < P.cellsOf e := by
              have := (List.getElem?_eq_some_iff.1 hj).1
              omega
            have := hat j hj2
            rw [hj, Go.Deep.add_add] at this
            exact this
    obtain ⟨L, hL1, hL2, hL3⟩ := hall len (Nat.le_refl _)
    refine ⟨some a, len, cap, L, hcs, hl, hm, hL1, hL2, ?_, fun hn => ⟨a, rfl, ?_, ?_⟩⟩
    · rw [rows_len _ L fun x hx => (hL2 x hx).1, hL1]
    · obtain ⟨x, hx0⟩ : ∃ x, L[0]? = some x := ⟨_, List.getElem?_eq_getElem (by omega)⟩
      have hxl := (hL2 x (List.mem_of_getElem? hx0)).1
      obtain ⟨u, hu⟩ : ∃ u, x[0]? = some u := ⟨_, List.getElem?_eq_getElem (by omega)⟩
      have := cell_lt' (hL3 0 x hx0 0 u hu)
      rwa [block_of_add] at this
    · intro j u hj
      have hjl := (List.getElem?_eq_some_iff.1 hj).1
      rw [rows_len _ L fun x hx => (hL2 x hx).1] at hjl
      have hq : j / P.cellsOf e < L.length := Nat.div_lt_of_lt_mul (by rw [Nat.mul_comm]; exact hjl)
      have he2 : j / P.cellsOf e * P.cellsOf e + j % P.cellsOf e = j := by rw [Nat.mul_comm]; exact Nat.div_add_mod j _
      have hp := rows_at (P.cellsOf e) L (j / P.cellsOf e) (j % P.cellsOf e) _ (fun x hx => (hL2 x hx).1) (List.getElem?_eq_getElem hq) (Nat.mod_lt _ hk)
      rw [he2, hj] at hp
      have := hL3 _ _ (List.getElem?_eq_getElem hq) _ u hp.symm
      rw [he2] at this
      exact this
theorem fits_top {base0 : Nat} {spare : Nat → Bool} {held : Bool} {v : Value} {d : DataW H} {ps : List MemPlace} (h : DataW.Trod enc P w base0 spare held t v d ps) : Fits enc P w t v.cells.toList := by
  obtain ⟨fuel, hf⟩ := h
  exact ⟨_, _, _, fuel, _, hf⟩
theorem fits_struct {base0 : Nat} {spare : Nat → Bool} {held : Bool} {r : Reach} {b0 : Nat} {fs : Array Field} {v : Value} {d : DataW H} {ps : List MemPlace} (hv : Value.okWide P w r b0 t v) (ht : P.underlying t = some (.struct fs)) (h : DataW.Trod enc P w base0 spare held t v d ps) : ∃ cs : Array Value, v = .agg cs ∧ Fits enc P w t cs.toList := by
  obtain ⟨cs, rfl, _⟩ := okWide_struct ht hv
  exact ⟨cs, rfl, fits_top h⟩
theorem fits_plain {base0 : Nat} {spare : Nat → Bool} {held : Bool} {v : Value} {d : DataW H} {ps : List MemPlace} (h : DataW.Trod enc P w base0 spare held t v d ps) (hc : v.cells = #[v]) : Fits enc P w t [v] := by
  have := fits_top h
  rwa [hc] at this
theorem choose_list {M : Type} {f : M → List Value} {Q : M → Prop} : ∀ {L : List (List Value)}, (∀ x ∈ L, ∃ m, x = f m ∧ Q m) → ∃ l : List M, L = l.map f ∧ ∀ m ∈ l, Q m
  | [], _ => ⟨[], rfl, by simp⟩
  | x :: r, h => by
    obtain ⟨m, rfl, hm⟩ := h x List.mem_cons_self
    obtain ⟨l, rfl, hl⟩ := choose_list (L := r) fun y hy => h y (List.mem_cons_of_mem _ hy)
    exact ⟨m :: l, rfl, fun y hy => by
      rcases List.mem_cons.1 hy with e | e
      · subst e; exact hm
      · exact hl y e⟩
/-- all arguments stay behind a call that writes below nothing -/
theorem args_stay (hl : laidOutB P = true) {W W' : World} {sp : Nat → Bool} : ∀ {ts : List TypeId} {vs : List Value} {ds : List (DataW H)} {ps : List MemPlace}, (ts.all fun t => P.readableRec t && decide (t < P.types.size)) = true →
    DataW.TrodAll enc P W 0 (fun _ => true) true ts vs ds ps → (∀ x ∈ ps, W.sameAt W' x) → (∀ x ∈ ps, sp x.block = true) → DataW.TrodAll enc P W' 0 sp true ts vs ds ps
  | [], [], [], _, _, h, _, _ => h
  | _ :: _, _ :: _, _ :: _, _, ha, ⟨p, q, h1, h2, e⟩, hsame, hs => by
    rw [List.all_cons, Bool.and_eq_true, Bool.and_eq_true, decide_eq_true_eq] at ha
    subst e
    exact ⟨p, q, WideElems.Trod_stays hl ha.1.1 ha.1.2 h1 (fun x hx => hsame x (List.mem_append_left _ hx)) (fun x hx => hs x (List.mem_append_left _ hx)),
      args_stay hl ha.2 h2 (fun x hx => hsame x (List.mem_append_right _ hx)) (fun x hx => hs x (List.mem_append_right _ hx)), rfl⟩
end
end Go.Proofs.YtjhaccmcjlbllaaGreatDoor
/-
  Arguments, opened by their types, with a bound on their sizes.
-/
namespace Go.Proofs.YtjhaccmcjlbllaaGreatDoor
open Go.ChangeShapes Go.WideShapes Go.Deep Go.RowKit
/-- cells that read at a type; no part is longer than R -/
def FitsZ {H : Type} (R : Nat) (enc : TypeId × Value → H) (P : Program) (w : World) (t : TypeId) (cs : List Value) : Prop := ∃ base spare held fuel d ps, DataW.trod enc P w base spare held fuel t cs = some (d, ps) ∧ ∀ k ∈ d.weights P t, k ≤ R
section
variable {H : Type} {enc : TypeId × Value → H} {P : Program} {w : World} {t e : TypeId} {cs : List Value} {R : Nat}
theorem FitsZ.fits (h : FitsZ R enc P w t cs) : Fits enc P w t cs := by
  obtain ⟨b, s, hd, f, d, ps, h, _⟩ := h
  exact ⟨b, s, hd, f, _, h⟩
theorem mem_weightsAll {e : TypeId} {dd : DataW H} {k : Nat} : ∀ {l : List (DataW H)}, dd ∈ l → k ∈ dd.weights P e → k ∈ DataW.weightsAll P e l
  | y :: r, h, hk => by
    unfold DataW.weightsAll
    rw [List.mem_append]
    rcases List.mem_cons.1 h with rfl | h
    · exact .inl hk
    · exact .inr (mem_weightsAll h hk)
theorem fitsZ_string (h : FitsZ R enc P w t cs) (ht : P.underlying t = some .string) : ∃ s : ByteArray, cs = [.string s] ∧ s.size ≤ maxLen ∧ s.size ≤ R := by
  obtain ⟨_, _, _, _, d, ps, h, hz⟩ := h
  obtain ⟨s, e, hx, hw⟩ := DataW.trod_string ht h
  refine ⟨s, e, hw, hz _ ?_⟩
  rw [(Prod.mk.inj hx).1]
  show s.size ∈ [s.data.toList.length]
  rw [List.mem_singleton, Array.length_toList]; rfl
theorem fitsZ_fields {fs : Array Field} (h : FitsZ R enc P w t cs) (ht : P.underlying t = some (.struct fs)) (hone : oneCellFields P fs = true) (hC : P.cellsOf t = fs.size) : cs.length = fs.size ∧ ∀ (j : Nat) (f : Field) (c : Value), fs[j]? = some f → cs[j]? = some c → FitsZ R enc P w f.type [c] := by
  obtain ⟨base, spare, held, fuel, d, ps, h, hz⟩ := h
  obtain ⟨ys, n, _, hx, hl, hyl, hat⟩ := DataW.trod_struct ht h
  refine ⟨by rw [hl, hC], fun j f c hf hc => ?_⟩
  obtain ⟨ho, hk⟩ := hone_of hone j f hf
  have h1 := hat j f hf
  have hj := (Array.getElem?_eq_some_iff.1 hf).1
  rw [ho, hk] at h1
  have hd1 : (List.drop j cs).take 1 = [c] := by
    have hjl := (List.getElem?_eq_some_iff.1 hc).1
    rw [List.drop_eq_getElem_cons hjl, (List.getElem?_eq_some_iff.1 hc).2]
    rfl
  have hy : ys[j]? = some (ys[j]'(by omega)) := List.getElem?_eq_getElem (by omega)
  rw [hd1, hy] at h1
  refine ⟨base, spare, held, n, _, _, h1, fun k hk => hz k ?_⟩
  rw [(Prod.mk.inj hx).1]
  unfold DataW.weights
  rw [ht]
  refine DataW.weights_mem_each (j := j) (t := f.type) (d := (ys[j]'(by omega)).1) ?_ ?_ k hk
  · rw [List.getElem?_map, Array.getElem?_toList, hf]; rfl
  · rw [List.getElem?_map, hy]; rfl
theorem fitsZ_slice (h : FitsZ R enc P w t cs) (ht : P.underlying t = some (.slice e)) (hk : 0 < P.cellsOf e) (heb : 1 ≤ P.bytesOf e) :
    ∃ (A : Option Addr) (n c : Nat) (L : List (List Value)), cs = [.slice A n c] ∧ n ≤ c ∧ c ≤ maxLen ∧ n ≤ R ∧ L.length = n ∧ (∀ x ∈ L, x.length = P.cellsOf e ∧ FitsZ R enc P w e x) ∧ Reads w w.heap.size (P.cellsOf e) A n L.flatten := by
  obtain ⟨base, spare, held, fuel, d, ps, hf, hz⟩ := h
  rcases open_slice ht hf with ⟨hcs, _⟩ | ⟨a, len, cap, m, n0, D, Pl, hcs, _, hl, hm, hmm, hdx, hx⟩
  · exact ⟨none, 0, 0, [], hcs, Nat.le_refl _, Nat.zero_le _, Nat.zero_le _, rfl, fun x hx => (by cases hx), by simp, fun hn => absurd hn (by simp)⟩
  · have hml : len ≤ m := by rw [hmm]; split <;> omega
    have hdw : d = .slice ((List.range len).map D) ((List.range (m - len)).map fun j => D (len + j)) := congrArg Prod.fst hdx
    have hall : ∀ n, n ≤ len → ∃ L : List (List Value), L.length = n ∧ (∀ x ∈ L, x.length = P.cellsOf e ∧ FitsZ R enc P w e x) ∧ ∀ i x, L[i]? = some x → ∀ j u, x[j]? = some u → w.cell? (a.add (i * P.cellsOf e + j)) = some u := by
      intro n
      induction n with
      | zero => intro _; exact ⟨[], rfl, by simp, by simp⟩
      | succ n ih =>
        intro hnl
        obtain ⟨L, hl1, hl2, hl3⟩ := ih (by omega)
        obtain ⟨cs', hcc, htr⟩ := hx n (by omega)
        obtain ⟨_, hlen, hat⟩ := World.cells?_some hcc
        refine ⟨L ++ [cs'], by simp [hl1], ?_, ?_⟩
        · intro y hy
          rcases List.mem_append.1 hy with h | h
          · exact hl2 y h
          · rw [List.mem_singleton] at h
            subst h
            refine ⟨hlen, base, spare, held, n0, _, _, htr, fun k hk' => hz k ?_⟩
            rw [hdw]
            unfold DataW.weights
            rw [ht]
            simp only [List.mem_cons, List.mem_append]
            exact .inr (.inl (mem_weightsAll (List.mem_map.2 ⟨n, List.mem_range.2 (by omega), rfl⟩) hk'))
        · intro i y hi' j u hj
          rcases Nat.lt_or_ge i L.length with h | h
          · rw [List.getElem?_append_left h] at hi'; exact hl3 i y hi' j u hj
          · rw [List.getElem?_append_right h] at hi'
            have h0 : i - L.length = 0 := by
              rcases Nat.eq_zero_or_pos (i - L.length) with h' | h'
              · exact h'
              · rw [List.getElem?_eq_none (by simp; omega)] at hi'; cases hi'
            rw [h0] at hi'
            have hy : cs' = y := by simpa using hi'
            subst hy
            obtain rfl : i = n := by omega
            have hj2 : j < P.cellsOf e := by
              have := (List.getElem?_eq_some_iff.1 hj).1
              omega
            have := hat j hj2
            rw [hj, Go.Deep.add_add] at this
            exact this
    obtain ⟨L, hL1, hL2, hL3⟩ := hall len (Nat.le_refl _)
    refine ⟨some a, len, cap, L, hcs, hl, hm, ?_, hL1, hL2, ?_, fun hn => ⟨a, rfl, ?_, ?_⟩⟩
    · have hq := hz ((len + (m - len)) * P.bytesOf e) (by rw [hdw]; simp [DataW.weights, ht])
      have e2 : (len + (m - len)) * 1 ≤ (len + (m - len)) * P.bytesOf e := Nat.mul_le_mul_left _ heb
      omega
    · rw [rows_len _ L fun x hx => (hL2 x hx).1, hL1]
    · obtain ⟨x, hx0⟩ : ∃ x, L[0]? = some x := ⟨_, List.getElem?_eq_getElem (by omega)⟩
      have hxl := (hL2 x (List.mem_of_getElem? hx0)).1
      obtain ⟨u, hu⟩ : ∃ u, x[0]? = some u := ⟨_, List.getElem?_eq_getElem (by omega)⟩
      have := cell_lt' (hL3 0 x hx0 0 u hu)
      rwa [block_of_add] at this
    · intro j u hj
      have hjl := (List.getElem?_eq_some_iff.1 hj).1
      rw [rows_len _ L fun x hx => (hL2 x hx).1] at hjl
      have hq : j / P.cellsOf e < L.length := Nat.div_lt_of_lt_mul (by rw [Nat.mul_comm]; exact hjl)
      have he2 : j / P.cellsOf e * P.cellsOf e + j % P.cellsOf e = j := by rw [Nat.mul_comm]; exact Nat.div_add_mod j _
      have hp := rows_at (P.cellsOf e) L (j / P.cellsOf e) (j % P.cellsOf e) _ (fun x hx => (hL2 x hx).1) (List.getElem?_eq_getElem hq) (Nat.mod_lt _ hk)
      rw [he2, hj] at hp
      have := hL3 _ _ (List.getElem?_eq_getElem hq) _ u hp.symm
      rw [he2] at this
      exact this
theorem sized_at {ts : List TypeId} {ds : List (DataW H)} (h : (DataW.weightsEach P ts ds).all (· ≤ reachBytes) = true) {j : Nat} {t : TypeId} {d : DataW H} (ht : ts[j]? = some t) (hd : ds[j]? = some d) : ∀ k ∈ d.weights P t, k ≤ 140737488355328 := by
  intro k hk
  have := List.all_eq_true.1 h _ (DataW.weights_mem_each ht hd k hk)
  have h2 : reachBytes < 2 ^ 47 := reachBytes_lt
  simp only [decide_eq_true_eq] at this
  omega
theorem fitsZ_top {base0 : Nat} {spare : Nat → Bool} {held : Bool} {v : Value} {d : DataW H} {ps : List MemPlace} (h : DataW.Trod enc P w base0 spare held t v d ps) (hz : ∀ k ∈ d.weights P t, k ≤ R) : FitsZ R enc P w t v.cells.toList := by
  obtain ⟨fuel, hf⟩ := h
  exact ⟨_, _, _, fuel, _, _, hf, hz⟩
theorem fitsZ_struct {base0 : Nat} {spare : Nat → Bool} {held : Bool} {r : Reach} {b0 : Nat} {fs : Array Field} {v : Value} {d : DataW H} {ps : List MemPlace} (hv : Value.okWide P w r b0 t v) (ht : P.underlying t = some (.struct fs)) (h : DataW.Trod enc P w base0 spare held t v d ps) (hz : ∀ k ∈ d.weights P t, k ≤ R) : ∃ cs : Array Value, v = .agg cs ∧ FitsZ R enc P w t cs.toList := by
  obtain ⟨cs, rfl, _⟩ := okWide_struct ht hv
  exact ⟨cs, rfl, fitsZ_top h hz⟩
theorem fitsZ_plain {base0 : Nat} {spare : Nat → Bool} {held : Bool} {v : Value} {d : DataW H} {ps : List MemPlace} (h : DataW.Trod enc P w base0 spare held t v d ps) (hc : v.cells = #[v]) (hz : ∀ k ∈ d.weights P t, k ≤ R) : FitsZ R enc P w t [v] := by
  have := fitsZ_top h hz
  rwa [hc] at this
end
end Go.Proofs.YtjhaccmcjlbllaaGreatDoor
/-
  Arguments, opened: numbers, truths, bytes.
-/
namespace Go.Proofs.YtjhaccmcjlbllaaGreatDoor
open Go.RowKit Go.ChangeShapes Go.WideShapes
theorem u32_range {n : Int} (h : (Lit.int .u32 n).wf = true) : ∃ k : Nat, n = (k : Nat) ∧ k < 4294967296 := by
  simp [Lit.wf, IntKind.min, IntKind.max, IntKind.signed, IntKind.bits] at h
  exact ⟨n.toNat, by omega, by omega⟩
theorem u8_range {n : Int} (h : (Lit.int .u8 n).wf = true) : ∃ k : UInt8, n = (k.toNat : Nat) := by
  simp [Lit.wf, IntKind.min, IntKind.max, IntKind.signed, IntKind.bits] at h
  refine ⟨UInt8.ofNat n.toNat, ?_⟩
  rw [UInt8.toNat_ofNat']
  omega
theorem i64_range {n : Int} (h : (Lit.int .i64 n).wf = true) : -9223372036854775808 ≤ n ∧ n ≤ 9223372036854775807 := by
  simp [Lit.wf, IntKind.min, IntKind.max, IntKind.signed, IntKind.bits] at h
  omega
theorem map_flat {M : Type} (f : M → List Value) (l : List M) : (l.map f).flatten = l.flatMap f := by
  induction l with
  | nil => rfl
  | cons x r ih => rw [List.map_cons, List.flatten_cons, List.flatMap_cons, ih]
theorem flat_one {M : Type} (f : M → Value) (l : List M) : (l.map fun x => [f x]).flatten = l.map f := by
  induction l with
  | nil => rfl
  | cons x r ih => rw [List.map_cons, List.flatten_cons, ih]; rfl
theorem list1 {α : Type} {x : List α} (h : x.length = 1) : ∃ a, x = [a] := by
  match x, h with
  | [a], _ => exact ⟨a, rfl⟩
theorem list4 {α : Type} {x : List α} (h : x.length = 4) : ∃ a b c d, x = [a, b, c, d] := by
  match x, h with
  | [a, b, c, d], _ => exact ⟨a, b, c, d, rfl⟩
theorem array4 {α : Type} {x : Array α} (h : x.toList.length = 4) : ∃ a b c d, x = #[a, b, c, d] := by
  obtain ⟨l⟩ := x
  obtain ⟨a, b, c, d, e⟩ := list4 (show l.length = 4 from h)
  exact ⟨a, b, c, d, by rw [e]⟩
section
variable {H : Type} {enc : TypeId × Value → H} {w : World} {R : Nat}
theorem open_bytesZ {c1 : Value} (h : FitsZ R enc Tryz.prog w 23 [c1]) : ∃ (A : Option Addr) (c : Nat) (l : List UInt8), c1 = .slice A l.length c ∧ l.length ≤ c ∧ c ≤ maxLen ∧ l.length ≤ R ∧ Reads w w.heap.size 1 A l.length (u8s l) := by
  have hk : Tryz.prog.cellsOf 5 = 1 := by kernel_rfl
  obtain ⟨A, n, c, L, hcs, hn, hc, hR, hl, hL, hr⟩ := fitsZ_slice h Tryz.underlying23 (by rw [hk]; omega) (Nat.le_of_ble_eq_true (by kernel_rfl))
  rw [hk] at hr
  obtain ⟨l, rfl, _⟩ := choose_list (f := fun b : UInt8 => [.int .u8 ((b.toNat : Nat) : Int)]) (Q := fun _ => True) fun x hx => by
    obtain ⟨hx1, hx2⟩ := hL x hx
    rw [hk] at hx1
    obtain ⟨a, rfl⟩ := list1 hx1
    obtain ⟨u, e0, hu⟩ := fits_int hx2.fits Tryz.underlying5
    obtain ⟨k, rfl⟩ := u8_range hu
    exact ⟨k, e0, trivial⟩
  rw [List.length_map] at hl
  rw [flat_one (fun b : UInt8 => .int .u8 ((b.toNat : Nat) : Int))] at hr
  subst hl
  simp only [List.cons.injEq, and_true] at hcs
  exact ⟨A, c, l, hcs, hn, hc, hR, hr⟩
theorem fitsZ_part {t : TypeId} {cs : List Value} {fs : Array Field} (h : FitsZ R enc Tryz.prog w t cs) (ht : Tryz.prog.underlying t = some (.struct fs)) : cs.length = Tryz.prog.cellsOf t ∧ ∀ (j : Nat) (f : Field), fs[j]? = some f → FitsZ R enc Tryz.prog w f.type ((cs.drop f.offset).take (Tryz.prog.cellsOf f.type)) := by
  obtain ⟨base, spare, held, fuel, d, ps, h, hz⟩ := h
  obtain ⟨ys, n, _, hx, hl, hyl, hat⟩ := DataW.trod_struct ht h
  refine ⟨hl, fun j f hf => ?_⟩
  have h1 := hat j f hf
  have hj := (Array.getElem?_eq_some_iff.1 hf).1
  have hy : ys[j]? = some (ys[j]'(by omega)) := List.getElem?_eq_getElem (by omega)
  rw [hy] at h1
  refine ⟨base, spare, held, n, _, _, h1, fun k hk => hz k ?_⟩
  rw [(Prod.mk.inj hx).1]
  unfold DataW.weights
  rw [ht]
  refine DataW.weights_mem_each (j := j) (t := f.type) (d := (ys[j]'(by omega)).1) ?_ ?_ k hk
  · rw [List.getElem?_map, Array.getElem?_toList, hf]; rfl
  · rw [List.getElem?_map, hy]; rfl
end
theorem tab_met {l : List (String × DataW Unit)} {W : World} (h : laidMetH Tryz.prog l W) (hl : l.filter (fun x => x.1 == "internal/strconv.uint64pow10") = [("internal/strconv.uint64pow10", Lib.tabData .u64 Lib.pow10Tab)]) :
    Lib.TabIs Tryz.prog W "internal/strconv.uint64pow10" .u64 Lib.pow10Tab := by
  have h1 := laidMetH.filter (fun x => x.1 == "internal/strconv.uint64pow10") h
  rw [hl, MakeChecks.laidMetH_plain _ _ _ (by kernel_rfl)] at h1
  exact Lib.tabIs_of_head (g := 1) (t := 200) (e := 35) (n := 20) (by kernel_rfl) (by kernel_rfl) Tryz.underlying200 Tryz.underlying35 (by kernel_rfl) (by kernel_rfl) h1
section
variable {H : Type} {enc : TypeId × Value → H} {W : World} {base0 b0 : Nat} {spare : Nat → Bool} {held : Bool} {r : Reach} {R : Nat}
set_option maxRecDepth 100000 in
theorem i64_arg {v : Value} {d : DataW H} {ps : List MemPlace} (hv : Value.okWide Tryz.prog W r b0 3 v) (h : DataW.Trod enc Tryz.prog W base0 spare held 3 v d ps) : ∃ k : Int, v = .int .i64 k ∧ -9223372036854775808 ≤ k ∧ k ≤ 9223372036854775807 := by
  obtain ⟨x0, rfl, _, _, h0⟩ := open_int Tryz.underlying3 hv h
  exact ⟨x0, rfl, i64_range h0⟩
set_option maxRecDepth 100000 in
theorem bytes_arg {v : Value} {d : DataW H} {ps : List MemPlace} (hv : Value.okWide Tryz.prog W r b0 23 v) (h : DataW.Trod enc Tryz.prog W base0 spare held 23 v d ps) (hz : ∀ k ∈ d.weights Tryz.prog 23, k ≤ R) :
    ∃ (A : Option Addr) (c : Nat) (l : List UInt8), v = .slice A l.length c ∧ l.length ≤ c ∧ c ≤ maxLen ∧ l.length ≤ R ∧ Reads W W.heap.size 1 A l.length (u8s l) := by
  obtain ⟨A, n, c, rfl⟩ := okWide_slice Tryz.underlying23 hv
  obtain ⟨A', c', l, e, b⟩ := open_bytesZ (fitsZ_plain h rfl hz)
  exact ⟨A', c', l, e, b⟩
set_option maxRecDepth 100000 in
theorem u32_arg {v : Value} {d : DataW H} {ps : List MemPlace} (hv : Value.okWide Tryz.prog W r b0 22 v) (h : DataW.Trod enc Tryz.prog W base0 spare held 22 v d ps) : ∃ k : Nat, v = .int .u32 (k : Nat) ∧ k < 4294967296 := by
  obtain ⟨x0, rfl, _, _, h0⟩ := open_int Tryz.underlying22 hv h
  obtain ⟨k, rfl, hk⟩ := u32_range h0
  exact ⟨k, rfl, hk⟩
set_option maxRecDepth 100000 in
theorem bool_arg {v : Value} {d : DataW H} {ps : List MemPlace} (hv : Value.okWide Tryz.prog W r b0 4 v) (h : DataW.Trod enc Tryz.prog W base0 spare held 4 v d ps) : ∃ b : Bool, v = .bool b := by
  obtain ⟨b, rfl, _⟩ := open_bool Tryz.underlying4 hv h
  exact ⟨b, rfl⟩
end
end Go.Proofs.YtjhaccmcjlbllaaGreatDoor
/-
  Arguments, opened: messages, mailboxes.
-/
namespace Go.Proofs.YtjhaccmcjlbllaaGreatDoor
open Go.RowKit Go.ChangeShapes Go.WideShapes
section
variable {H : Type} {enc : TypeId × Value → H} {w : World} {R : Nat}
/-- a message whose octets read -/
structure MsgOk (R : Nat) (w : World) (m : MsgV) : Prop where
  octs : Reads w w.heap.size 1 m.a m.b.length (u8s m.b)
  uid : m.uid < 4294967296
  cap : m.b.length ≤ m.c ∧ m.c ≤ 9223372036854775807
  size : m.b.length ≤ R
  date : -9223372036854775808 ≤ m.date ∧ m.date ≤ 9223372036854775807
  flags : -9223372036854775808 ≤ m.flags ∧ m.flags ≤ 9223372036854775807
set_option maxRecDepth 100000 in
theorem open_msgZ {x : List Value} (h : FitsZ R enc Tryz.prog w 25 x) : ∃ m : MsgV, x = msgC m ∧ MsgOk R w m := by
  obtain ⟨hx3, hx4⟩ := fitsZ_fields h Tryz.underlying25 (by kernel_rfl) (by kernel_rfl)
  obtain ⟨a0, a1, a2, a3, rfl⟩ := list4 hx3
  obtain ⟨u, e0, hu⟩ := fits_int (hx4 0 _ a0 rfl rfl).fits Tryz.underlying22
  obtain ⟨d, e1, hd⟩ := fits_int (hx4 1 _ a1 rfl rfl).fits Tryz.underlying2
  obtain ⟨f, e2, hf⟩ := fits_int (hx4 2 _ a2 rfl rfl).fits Tryz.underlying3
  obtain ⟨k, rfl, hk⟩ := u32_range hu
  obtain ⟨A, c, l, rfl, h1, h2, h3, h4⟩ := open_bytesZ (hx4 3 _ a3 rfl rfl)
  simp only [List.cons.injEq, and_true] at e0 e1 e2
  subst e0 e1 e2
  exact ⟨⟨k, d, f, A, c, l⟩, rfl, h4, hk, ⟨h1, by unfold maxLen at h2; exact h2⟩, h3, i64_range hd, i64_range hf⟩
set_option maxRecDepth 100000 in
theorem open_msgsZ {c1 : Value} (h : FitsZ R enc Tryz.prog w 42 [c1]) : ∃ (A : Option Addr) (c : Nat) (l : List MsgV), c1 = .slice A l.length c ∧ l.length ≤ c ∧ c ≤ maxLen ∧ l.length ≤ R ∧ Msgs w A l.length l ∧ ∀ m ∈ l, MsgOk R w m := by
  have hk : Tryz.prog.cellsOf 25 = 4 := by kernel_rfl
  obtain ⟨A, n, c, L, hcs, hn, hc, hR, hl, hL, hr⟩ := fitsZ_slice h Tryz.underlying42 (by rw [hk]; omega) (Nat.le_of_ble_eq_true (by kernel_rfl))
  rw [hk] at hr
  obtain ⟨l, rfl, hq⟩ := choose_list (f := msgC) (Q := MsgOk R w) fun x hx => open_msgZ (hL x hx).2
  rw [List.length_map] at hl
  rw [map_flat] at hr
  subst hl
  simp only [List.cons.injEq, and_true] at hcs
  exact ⟨A, c, l, hcs, hn, hc, hR, ⟨rfl, hr, fun m hm => (hq m hm).octs, fun m hm => (hq m hm).uid, fun m hm => (hq m hm).cap⟩, hq⟩
set_option maxRecDepth 100000 in
theorem open_boxZ {cs : Array Value} (h : FitsZ R enc Tryz.prog w 44 cs.toList) : ∃ (nm : ByteArray) (e nx : Nat) (A : Option Addr) (c : Nat) (l : List MsgV), cs = boxC nm e nx A l.length c ∧ nm.size ≤ maxLen ∧ nm.size ≤ R ∧ e < 4294967296 ∧ nx < 4294967296 ∧ l.length ≤ c ∧ c ≤ maxLen ∧ l.length ≤ R ∧ Msgs w A l.length l ∧ ∀ m ∈ l, MsgOk R w m := by
  obtain ⟨hx3, hx4⟩ := fitsZ_fields h Tryz.underlying44 (by kernel_rfl) (by kernel_rfl)
  obtain ⟨a0, a1, a2, a3, rfl⟩ := array4 (show cs.toList.length = 4 from hx3)
  obtain ⟨s, e0, hs, hsR⟩ := fitsZ_string (hx4 0 _ a0 rfl rfl) Tryz.underlying9
  obtain ⟨u1, e1, hu1⟩ := fits_int (hx4 1 _ a1 rfl rfl).fits Tryz.underlying22
  obtain ⟨u2, e2, hu2⟩ := fits_int (hx4 2 _ a2 rfl rfl).fits Tryz.underlying22
  obtain ⟨k1, rfl, hk1⟩ := u32_range hu1
  obtain ⟨k2, rfl, hk2⟩ := u32_range hu2
  obtain ⟨A, c, l, rfl, h1, h2, h3, h4, h5⟩ := open_msgsZ (hx4 3 _ a3 rfl rfl)
  simp only [List.cons.injEq, and_true] at e0 e1 e2
  subst e0 e1 e2
  exact ⟨s, k1, k2, A, c, l, rfl, hs, hsR, hk1, hk2, h1, h2, h3, h4, h5⟩
end
section
variable {H : Type} {enc : TypeId × Value → H} {W : World} {base0 b0 : Nat} {spare : Nat → Bool} {held : Bool} {r : Reach} {R : Nat}
set_option maxRecDepth 100000 in
theorem box_arg {v : Value} {d : DataW H} {ps : List MemPlace} (hv : Value.okWide Tryz.prog W r b0 44 v) (h : DataW.Trod enc Tryz.prog W base0 spare held 44 v d ps) (hz : ∀ k ∈ d.weights Tryz.prog 44, k ≤ R) :
    ∃ (nm : ByteArray) (e nx : Nat) (A : Option Addr) (c : Nat) (l : List MsgV), v = .agg (boxC nm e nx A l.length c) ∧ nm.size ≤ maxLen ∧ nm.size ≤ R ∧ e < 4294967296 ∧ nx < 4294967296 ∧ l.length ≤ c ∧ c ≤ maxLen ∧ l.length ≤ R ∧ Msgs W A l.length l ∧ ∀ m ∈ l, MsgOk R W m := by
  obtain ⟨cs, rfl, hf⟩ := fitsZ_struct hv Tryz.underlying44 h hz
  obtain ⟨nm, e, nx, A, c, l, rfl, b⟩ := open_boxZ hf
  exact ⟨nm, e, nx, A, c, l, rfl, b⟩
set_option maxRecDepth 100000 in
theorem msg_arg {v : Value} {d : DataW H} {ps : List MemPlace} (hv : Value.okWide Tryz.prog W r b0 25 v) (h : DataW.Trod enc Tryz.prog W base0 spare held 25 v d ps) (hz : ∀ k ∈ d.weights Tryz.prog 25, k ≤ R) :
    ∃ m : MsgV, v = .agg #[.int .u32 (m.uid : Nat), .int .i64 m.date, .int .i64 m.flags, .slice m.a m.b.length m.c] ∧ MsgOk R W m := by
  obtain ⟨cs, rfl, hf⟩ := fitsZ_struct hv Tryz.underlying25 h hz
  obtain ⟨m, e, hm⟩ := open_msgZ hf
  exact ⟨m, by congr 1; exact Array.ext' e, hm⟩
end
end Go.Proofs.YtjhaccmcjlbllaaGreatDoor
/-
  Arguments, opened by their types, with a bound on their bulk.
-/
namespace Go.Proofs.YtjhaccmcjlbllaaGreatDoor
open Go.ChangeShapes Go.WideShapes Go.Deep Go.RowKit
/-- cells that read at a type; their bulk is at most R -/
def FitsK {H : Type} (R : Nat) (enc : TypeId × Value → H) (P : Program) (w : World) (t : TypeId) (cs : List Value) : Prop := ∃ base spare held fuel d ps, DataW.trod enc P w base spare held fuel t cs = some (d, ps) ∧ Rows.uptoBulk d ≤ R
section
variable {H : Type} {enc : TypeId × Value → H} {P : Program} {w : World} {t e : TypeId} {cs : List Value} {R : Nat}
theorem FitsK.fits (h : FitsK R enc P w t cs) : Fits enc P w t cs := by
  obtain ⟨b, s, hd, f, d, ps, h, _⟩ := h
  exact ⟨b, s, hd, f, _, h⟩
theorem bulk_one (d : DataW H) : 1 ≤ Rows.uptoBulk d := by
  cases d with
  | lit l => cases l <;> simp [Rows.uptoBulk]
  | nil => simp [Rows.uptoBulk]
  | ptr d => simp [Rows.uptoBulk]
  | slice elems spare => simp [Rows.uptoBulk]
  | agg parts => simp [Rows.uptoBulk]
  | iface t d => simp [Rows.uptoBulk]
  | map entries => simp [Rows.uptoBulk]
  | held h => simp [Rows.uptoBulk]
theorem bulk_part {d : DataW H} : ∀ {l : List (DataW H)}, d ∈ l → Rows.uptoBulk d ≤ Rows.uptoBulkAll l
  | y :: r, h => by
    simp only [Rows.uptoBulkAll]
    rcases List.mem_cons.1 h with rfl | h
    · omega
    · have := bulk_part h; omega
theorem bulk_len : ∀ l : List (DataW H), l.length ≤ Rows.uptoBulkAll l
  | [] => by simp [Rows.uptoBulkAll]
  | x :: r => by have := bulk_one x; have := bulk_len r; simp only [Rows.uptoBulkAll, List.length_cons]; omega
theorem fitsK_string (h : FitsK R enc P w t cs) (ht : P.underlying t = some .string) : ∃ s : ByteArray, cs = [.string s] ∧ s.size ≤ maxLen ∧ s.size ≤ R := by
  obtain ⟨_, _, _, _, d, ps, h, hz⟩ := h
  obtain ⟨s, e, hx, hw⟩ := DataW.trod_string ht h
  refine ⟨s, e, hw, ?_⟩
  rw [(Prod.mk.inj hx).1] at hz
  simp only [Rows.uptoBulk, Array.length_toList] at hz
  have e2 : s.data.size = s.size := rfl
  omega
theorem fitsK_fields {fs : Array Field} (h : FitsK R enc P w t cs) (ht : P.underlying t = some (.struct fs)) (hone : oneCellFields P fs = true) (hC : P.cellsOf t = fs.size) : cs.length = fs.size ∧ ∀ (j : Nat) (f : Field) (c : Value), fs[j]? = some f → cs[j]? = some c → FitsK R enc P w f.type [c] := by
  obtain ⟨base, spare, held, fuel, d, ps, h, hz⟩ := h
  obtain ⟨ys, n, _, hx, hl, hyl, hat⟩ := DataW.trod_struct ht h
  refine ⟨by rw [hl, hC], fun j f c hf hc => ?_⟩
  obtain ⟨ho, hk⟩ := hone_of hone j f hf
  have h1 := hat j f hf
  have hj := (Array.getElem?_eq_some_iff.1 hf).1
  rw [ho, hk] at h1
  have hd1 : (List.drop j cs).take 1 = [c] := by
    have hjl := (List.getElem?_eq_some_iff.1 hc).1
    rw [List.drop_eq_getElem_cons hjl, (List.getElem?_eq_some_iff.1 hc).2]
    rfl
  have hy : ys[j]? = some (ys[j]'(by omega)) := List.getElem?_eq_getElem (by omega)
  rw [hd1, hy] at h1
  refine ⟨base, spare, held, n, _, _, h1, ?_⟩
  rw [(Prod.mk.inj hx).1] at hz
  simp only [Rows.uptoBulk] at hz
  exact Nat.le_trans (bulk_part (l := ys.map (·.1)) (List.mem_map.2 ⟨_, List.mem_of_getElem? hy, rfl⟩)) (by omega)
theorem fitsK_slice (h : FitsK R enc P w t cs) (ht : P.underlying t = some (.slice e)) (hk : 0 < P.cellsOf e) :
    ∃ (A : Option Addr) (n c : Nat) (L : List (List Value)), cs = [.slice A n c] ∧ n ≤ c ∧ c ≤ maxLen ∧ n ≤ R ∧ L.length = n ∧ (∀ x ∈ L, x.length = P.cellsOf e ∧ FitsK R enc P w e x) ∧ Reads w w.heap.size (P.cellsOf e) A n L.flatten := by
  obtain ⟨base, spare, held, fuel, d, ps, hf, hz⟩ := h
  rcases open_slice ht hf with ⟨hcs, _⟩ | ⟨a, len, cap, m, n0, D, Pl, hcs, _, hl, hm, hmm, hdx, hx⟩
  · exact ⟨none, 0, 0, [], hcs, Nat.le_refl _, Nat.zero_le _, Nat.zero_le _, rfl, fun x hx => (by cases hx), by simp, fun hn => absurd hn (by simp)⟩
  · have hml : len ≤ m := by rw [hmm]; split <;> omega
    have hdw : d = .slice ((List.range len).map D) ((List.range (m - len)).map fun j => D (len + j)) := congrArg Prod.fst hdx
    have hzz : Rows.uptoBulkAll ((List.range len).map D) + 1 ≤ R := by
      rw [hdw] at hz
      simp only [Rows.uptoBulk] at hz
      omega
    have hall : ∀ n, n ≤ len → ∃ L : List (List Value), L.length = n ∧ (∀ x ∈ L, x.length = P.cellsOf e ∧ FitsK R enc P w e x) ∧ ∀ i x, L[i]? = some x → ∀ j u, x[j]? = some u → w.cell? (a.add (i * P.cellsOf e + j)) = some u := by
      intro n
      induction n with
      | zero => intro _; exact ⟨[], rfl, by simp, by simp⟩
      | succ n ih =>
        intro hnl
        obtain ⟨L, hl1, hl2, hl3⟩ := ih (by omega)
        obtain ⟨cs', hcc, htr⟩ := hx n (by omega)
        obtain ⟨_, hlen, hat⟩ := World.cells?_some hcc
        refine ⟨L ++ [cs'], by simp [hl1], ?_, ?_⟩
        · intro y hy
          rcases List.mem_append.1 hy with h | h
          · exact hl2 y h
          · rw [List.mem_singleton] at h
            subst h
            refine ⟨hlen, base, spare, held, n0, _, _, htr, ?_⟩
            have := bulk_part (d := (D n)) (l := (List.range len).map D) (List.mem_map.2 ⟨n, List.mem_range.2 (by omega), rfl⟩)
            omega
        · intro i y hi' j u hj
          rcases Nat.lt_or_ge i L.length with h | h
          · rw [List.getElem?_append_left h] at hi'; exact hl3 i y hi' j u hj
          · rw [List.getElem?_append_right h] at hi'
            have h0 : i - L.length = 0 := by
              rcases Nat.eq_zero_or_pos (i - L.length) with h' | h'
              · exact h'
              · rw [List.getElem?_eq_none (by simp; omega)] at hi'; cases hi'
            rw [h0] at hi'
            have hy : cs' = y := by simpa using hi'
            subst hy
            obtain rfl : i = n := by omega
            have hj2 : j < P.cellsOf e := by
              have := (List.getElem?_eq_some_iff.1 hj).1
              omega
            have := hat j hj2
            rw [hj, Go.Deep.add_add] at this
            exact this
    obtain ⟨L, hL1, hL2, hL3⟩ := hall len (Nat.le_refl _)
    refine ⟨some a, len, cap, L, hcs, hl, hm, ?_, hL1, hL2, ?_, fun hn => ⟨a, rfl, ?_, ?_⟩⟩
    · have := bulk_len ((List.range len).map D)
      rw [List.length_map, List.length_range] at this
      omega
    · rw [rows_len _ L fun x hx => (hL2 x hx).1, hL1]
    · obtain ⟨x, hx0⟩ : ∃ x, L[0]? = some x := ⟨_, List.getElem?_eq_getElem (by omega)⟩
      have hxl := (hL2 x (List.mem_of_getElem? hx0)).1
      obtain ⟨u, hu⟩ : ∃ u, x[0]? = some u := ⟨_, List.getElem?_eq_getElem (by omega)⟩
      have := cell_lt' (hL3 0 x hx0 0 u hu)
      rwa [block_of_add] at this
    · intro j u hj
      have hjl := (List.getElem?_eq_some_iff.1 hj).1
      rw [rows_len _ L fun x hx => (hL2 x hx).1] at hjl
      have hq : j / P.cellsOf e < L.length := Nat.div_lt_of_lt_mul (by rw [Nat.mul_comm]; exact hjl)
      have he2 : j / P.cellsOf e * P.cellsOf e + j % P.cellsOf e = j := by rw [Nat.mul_comm]; exact Nat.div_add_mod j _
      have hp := rows_at (P.cellsOf e) L (j / P.cellsOf e) (j % P.cellsOf e) _ (fun x hx => (hL2 x hx).1) (List.getElem?_eq_getElem hq) (Nat.mod_lt _ hk)
      rw [he2, hj] at hp
      have := hL3 _ _ (List.getElem?_eq_getElem hq) _ u hp.symm
      rw [he2] at this
      exact this
theorem fitsK_top {base0 : Nat} {spare : Nat → Bool} {held : Bool} {v : Value} {d : DataW H} {ps : List MemPlace} (h : DataW.Trod enc P w base0 spare held t v d ps) (hz : Rows.uptoBulk d ≤ R) : FitsK R enc P w t v.cells.toList := by
  obtain ⟨fuel, hf⟩ := h
  exact ⟨_, _, _, fuel, _, _, hf, hz⟩
theorem fitsK_struct {base0 : Nat} {spare : Nat → Bool} {held : Bool} {r : Reach} {b0 : Nat} {fs : Array Field} {v : Value} {d : DataW H} {ps : List MemPlace} (hv : Value.okWide P w r b0 t v) (ht : P.underlying t = some (.struct fs)) (h : DataW.Trod enc P w base0 spare held t v d ps) (hz : Rows.uptoBulk d ≤ R) : ∃ cs : Array Value, v = .agg cs ∧ FitsK R enc P w t cs.toList := by
  obtain ⟨cs, rfl, _⟩ := okWide_struct ht hv
  exact ⟨cs, rfl, fitsK_top h hz⟩
theorem fitsK_plain {base0 : Nat} {spare : Nat → Bool} {held : Bool} {v : Value} {d : DataW H} {ps : List MemPlace} (h : DataW.Trod enc P w base0 spare held t v d ps) (hc : v.cells = #[v]) (hz : Rows.uptoBulk d ≤ R) : FitsK R enc P w t [v] := by
  have := fitsK_top h hz
  rwa [hc] at this
end
end Go.Proofs.YtjhaccmcjlbllaaGreatDoor
/-
  Arguments that are tokens, opened.
-/
namespace Go.Proofs.YtjhaccmcjlbllaaGreatDoor
open Go.RowKit Go.ChangeShapes Go.WideShapes
theorem list2 {α : Type} {x : List α} (h : x.length = 2) : ∃ a b, x = [a, b] := by
  match x, h with
  | [a, b], _ => exact ⟨a, b, rfl⟩
section
variable {H : Type} {enc : TypeId × Value → H} {w W : World} {R base0 b0 : Nat} {spare : Nat → Bool} {held : Bool} {r : Reach}
theorem open_tokK {x : List Value} (h : FitsK R enc Tryz.prog w 60 x) : ∃ m : TokI, x = tokIC m ∧ m.t.length ≤ R := by
  obtain ⟨hx3, hx4⟩ := fitsK_fields h Tryz.underlying60 (by kernel_rfl) (by kernel_rfl)
  obtain ⟨a0, a1, rfl⟩ := list2 hx3
  obtain ⟨k, e0, _⟩ := fits_int (hx4 0 _ a0 rfl rfl).fits Tryz.underlying3
  obtain ⟨s, e1, _, hs⟩ := fitsK_string (hx4 1 _ a1 rfl rfl) Tryz.underlying9
  simp only [List.cons.injEq, and_true] at e0 e1
  subst e0 e1
  refine ⟨⟨k, s.data.toList⟩, ?_, hs⟩
  unfold tokIC
  rw [show St s.data.toList = s from rfl]
theorem open_toksK {c1 : Value} (h : FitsK R enc Tryz.prog w 47 [c1]) : ∃ (A : Option Addr) (c : Nat) (l : List TokI), c1 = .slice A l.length c ∧ l.length ≤ c ∧ l.length ≤ R ∧ RowR tokISh w A l ∧ ∀ m ∈ l, m.t.length ≤ R := by
  have hk : Tryz.prog.cellsOf 60 = 2 := by kernel_rfl
  obtain ⟨A, n, c, L, hcs, hn, hc, hR, hl, hL, hr⟩ := fitsK_slice h Tryz.underlying47 (by rw [hk]; omega)
  rw [hk] at hr
  obtain ⟨l, rfl, hq⟩ := choose_list (f := tokIC) (Q := fun m => m.t.length ≤ R) fun x hx => open_tokK (hL x hx).2
  rw [List.length_map] at hl
  rw [map_flat] at hr
  subst hl
  simp only [List.cons.injEq, and_true] at hcs
  exact ⟨A, c, l, hcs, hn, hR, ⟨hr, fun m _ p hp => by cases hp⟩, hq⟩
set_option maxRecDepth 100000 in
theorem toks_argK {v : Value} {d : DataW H} {ps : List MemPlace} (hv : Value.okWide Tryz.prog W r b0 47 v) (h : DataW.Trod enc Tryz.prog W base0 spare held 47 v d ps) (hz : Rows.uptoBulk d ≤ R) :
    ∃ (A : Option Addr) (c : Nat) (l : List TokI), v = .slice A l.length c ∧ l.length ≤ c ∧ l.length ≤ R ∧ RowR tokISh W A l ∧ ∀ m ∈ l, m.t.length ≤ R := by
  obtain ⟨A, n, c, rfl⟩ := okWide_slice Tryz.underlying47 hv
  obtain ⟨A', c', l, e, b⟩ := open_toksK (fitsK_plain h rfl hz)
  exact ⟨A', c', l, e, b⟩
end
end Go.Proofs.YtjhaccmcjlbllaaGreatDoor
/-
  What is no key finds nothing; a key more finds no more: cubbylaw17.SearchNone answers true, for every mailbox and every two rows of tokens whose bulk is at most the given bound.
-/
namespace Go.Proofs.YtjhaccmcjlbllaaGreatDoor.SearchNone
open Go.RowKit Go.ChangeShapes Go.WideShapes Go.ChangeAt
open Go.ChangeMaps (open_string shut_string)
set_option linter.unusedVariables false
theorem own : ownKnob Tryz.prog.godebug = none := by kernel_rfl
set_option maxRecDepth 100000 in
theorem contract (H : Type) (enc : TypeId × Value → H) (W : World) (base : Nat) (args : Array Value) (ds gs : List (DataW H)) (before : List MemPlace)
    (hval : ∀ (j : Nat) t v, Tryz.f5.params[j]? = some t → args[j]? = some v → Value.okWide Tryz.prog W .any base t v)
    (hW : DataW.Whole enc Tryz.prog Tryz.f5.params.toList Rows.searchNoneSpec.vars false W args.toList ds gs before) (hz : (DataW.weightsEach Tryz.prog (Tryz.f5.params.toList ++ (Rows.OpenSpec.upto Rows.searchNoneSpec).bare.plain.varTypes Tryz.prog) (ds ++ gs)).all (· ≤ reachBytes) = true) (hL : laidMetH Tryz.prog Rows.searchNoneUptoRow.laid W) (hsh : W.ShapedOpen Tryz.prog) (hk : Rows.uptoSmall H (ds ++ gs) = true) :
    Calls Tryz.prog 5 args W fun e W' => ∃ v, e = .returned v ∧ Rows.searchNoneSpec.post enc Tryz.prog Tryz.f5 false true false false W args v W' := by
  have hW' := hW
  obtain ⟨p, q, hA0, hV, rfl, hfz, hnd⟩ := hW
  have hA : DataW.TrodAll enc Tryz.prog W 0 (fun _ => true) true Tryz.f5.params.toList args.toList ds p := hA0
  rw [Tryz.params5] at hA hval
  have hAk := hA
  obtain ⟨v0, v1, v2, d0, d1, d2, p0, p1, p2, rfl, rfl, rfl, g0, g1, g2⟩ := trodAll_three hA
  obtain ⟨rfl, rfl⟩ := trodVars_none hV
  have hbulk : Rows.uptoBulkAll [d0, d1, d2] ≤ 1048576 := of_decide_eq_true hk
  simp only [Rows.uptoBulkAll] at hbulk
  obtain ⟨nm, e, nx, A, c, l, rfl, b1, b2, b3, b4, b5, b6, b7, b8, b9⟩ := box_arg (hval 0 44 v0 rfl rfl) g0 (sized_at hz (j := 0) (t := 44) (by kernel_rfl) rfl)
  obtain ⟨A1, c1, l1, rfl, p1, p2, p3, p4⟩ := toks_argK (R := 1048576) (hval 1 47 v1 rfl rfl) g1 (by omega)
  obtain ⟨A2, c2, l2, rfl, q1, q2, q3, q4⟩ := toks_argK (R := 1048576) (hval 2 47 v2 rfl rfl) g2 (by omega)
  have hw : Fine W := fine_met hL hsh (by kernel_rfl) (by kernel_rfl) (by kernel_rfl)
  clear hA0
  refine (none_law nm e nx A c l A1 c1 l1 A2 c2 l2 W hw (by unfold maxLen at b1; omega) (by omega) (fun x hx => (b9 x hx).size) b8 p3 q3 p4 q4 p2 q2).mono fun e W' ⟨he, hb⟩ => ?_
  subst he
  exact ⟨_, rfl, post_of_below (pv := []) hW' (fun _ _ _ => trodAll_mk1 (shut_bool Tryz.underlying4 _)) (fun sp hsp => args_stay (by kernel_rfl) (by kernel_rfl) hAk (fun x hx => hb.same (by simpa using hW'.lt x (List.mem_append_left _ hx))) (fun x hx => hsp x (List.mem_append_left _ hx))) (fun _ _ => rfl) rfl
    hb (ok_one (by kernel_rfl) rfl (okWide_bool_mk Tryz.underlying4 _))⟩
set_option maxRecDepth 100000 in
theorem reads (os : Os) {H : Type} (enc : TypeId × Value → H) : ∃ places, DataW.whole enc Tryz.prog ((World.laidAll Tryz.prog os Rows.searchNoneUptoRow.laid).forCall (fun _ _ => 0) ⟨#[], #[.agg #[.string ⟨#[]⟩, .int .u32 0, .int .u32 0, .slice none 0 0], .slice none 0 0, .slice none 0 0], []⟩).memory Tryz.f5.params.toList Rows.searchNoneSpec.vars false #[Value.agg #[.string ⟨#[]⟩, .int .u32 0, .int .u32 0, .slice none 0 0], Value.slice none 0 0, Value.slice none 0 0].toList 8 = some ([.agg [.lit (.string []), .lit (.int .u32 0), .lit (.int .u32 0), .nil], .nil, .nil], [], places) :=
  ⟨[], by kernel_rfl⟩
set_option maxRecDepth 100000 in
theorem lifted (os : Os) (started : os.Started) (H : Type) (enc : TypeId × Value → H) (F : Stop.Interp) :
    ReturnsInHanded {} Tryz.checked os 5 .any ((Rows.OpenSpec.upto Rows.searchNoneSpec).preRow enc Tryz.prog Tryz.f5 Rows.searchNoneUptoRow.domain false Rows.searchNoneUptoRow.laid) (((Rows.OpenSpec.upto Rows.searchNoneSpec).at F).post enc Tryz.prog Tryz.f5 false true false false) := by
  obtain ⟨places, hx⟩ := reads os enc
  refine returnsInHanded_of_row (C := Tryz.checked) (s := Rows.OpenSpec.upto Rows.searchNoneSpec) own started (by kernel_rfl) Tryz.func5
    (witness_row_shaped (enc := enc) (C := Tryz.checked) false (World.laidAll Tryz.prog os Rows.searchNoneUptoRow.laid) #[.agg #[.string ⟨#[]⟩, .int .u32 0, .int .u32 0, .slice none 0 0], .slice none 0 0, .slice none 0 0] (World.laidAll_os _ _ _) (World.shaped_of_ZipB (by kernel_rfl) (by kernel_rfl)) (by kernel_rfl)
      (OpenSpec.preRow_of_cond 8 hx (by kernel_rfl) (fun k hk => by cases hk; kernel_rfl) (by kernel_rfl) (laidMet_laidAll _ (by kernel_rfl) (by kernel_rfl)))) ?_
  intro W base args ds gs before hval hW _ hcond hz hL hsh _
  exact contract H enc W base args ds gs before hval hW hz hL hsh (hcond _ rfl)
theorem said : Rows.SearchNoneUptoSaid :=
  OpenClaim.holds_of_cond 5 Tryz.f5 rfl rfl rfl rfl rfl rfl rfl ⟨rfl, rfl, rfl, rfl, rfl⟩ rfl rfl rfl rfl rfl (by kernel_rfl) Tryz.func5 (by kernel_rfl)
    (of_decide_eq_true (by kernel_rfl)) (by unfold Func.isWrapper; first | (rw [if_pos (by decide +kernel)]; kernel_rfl) | (rw [if_neg (by decide +kernel)]; exact ⟨rfl, rfl⟩))
    (fun os started H enc _ F => by rw [OpenClaim.pre_eq_preRow]; exact lifted os started H enc F)
theorem plain (f : FuncId) (fn : Func) (hf : Tryz.pinned.checked.prog.funcNamed "cubby/cubbylaw17.SearchNone" = some f) (hfn : Tryz.pinned.checked.prog.funcs[f]? = some fn) :
    true = Tryz.pinned.checked.prog.looks [] ∧ ∀ (j : Nat) t, fn.params[j]? = some t → Tryz.pinned.checked.prog.wantsStandIn t = false := by
  obtain rfl : f = 5 := Option.some.inj ((show Tryz.prog.funcNamed "cubby/cubbylaw17.SearchNone" = some 5 by kernel_rfl).symm.trans hf) |>.symm
  obtain rfl : fn = Tryz.f5 := (Option.some.inj (Tryz.func5.symm.trans hfn)).symm
  refine ⟨by kernel_rfl, fun j t ht => ?_⟩
  rw [Tryz.params5] at ht
  have hm : t ∈ [44, 47, 47] := by simpa using Array.mem_of_getElem? ht
  have hall : ([44, 47, 47].all fun u => !Tryz.prog.wantsStandIn u) = true := by kernel_rfl
  exact (show Tryz.prog.wantsStandIn t = false by simpa using List.all_eq_true.1 hall t hm)
theorem holds : Rows.SearchNoneUptoCardSaid :=
  Claim7.holds_tied_plain_at .later [] _ _ _ _ said (fun _ h => by cases h) (by kernel_rfl) (fun _ h => by cases h) searchNoneUpto_row_tie rfl ⟨rfl, rfl⟩ (by kernel_rfl) rfl plain (by kernel_rfl)
#print axioms holds
end Go.Proofs.YtjhaccmcjlbllaaGreatDoor.SearchNone
