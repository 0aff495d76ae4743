/-
  Walks: what a search's closures ask of a message.
-/
import Derived.Test.YtjhaccmcjlbllaaGreatDoorXsc
import Derived.Lib.Replace
import Derived.Lib.SplitLaws
import Derived.Lib.ItoaNum
import Derived.Lib.AppendIntMem
import Derived.Test.YtjhaccmcjlbllaaGreatDoorChecked
namespace Go.Proofs.YtjhaccmcjlbllaaGreatDoor
open Go.RowKit
set_option linter.unusedSimpArgs false
set_option linter.unusedVariables false
/-- a mailbox, and one of its messages -/
structure LookV where
  nm : ByteArray
  ep : Int
  nx : Int
  A : Option Addr
  c : Nat
  ms : List MsgV
  i : Nat
  m : MsgV
/-- the last UID -/
def lastUid (ms : List MsgV) : Nat := (ms.getLast?.map (·.uid)).getD 0
def lookBx (L : LookV) : Value := .agg #[.string L.nm, .int .u32 L.ep, .int .u32 L.nx, .slice L.A L.ms.length L.c]
def lookC (L : LookV) : Array Value := #[.string L.nm, .int .u32 L.ep, .int .u32 L.nx, .slice L.A L.ms.length L.c, .int .i64 (L.i : Nat)]
def lookF (L : LookV) : LookS := ⟨L.m.flags, L.m.b, L.m.uid, L.i, L.ms.length, lastUid L.ms⟩
structure LookAt (w : World) (L : LookV) : Prop where
  ms : Msgs w L.A L.ms.length L.ms
  at_ : L.ms[L.i]? = some L.m
  len : L.ms.length ≤ 1000000
  big : L.m.b.length ≤ 1048576
  one : ∃ m, w.cell? ⟨0, 0, none⟩ = some (.int .i64 m)
theorem LookAt.lt {w : World} {L : LookV} (h : LookAt w L) : L.i < L.ms.length := (List.getElem?_eq_some_iff.1 h.at_).1
theorem LookAt.below {w w' : World} {L : LookV} (h : LookAt w L) (hb : Below w.heap.size w w') : LookAt w' L := by
  refine ⟨h.ms.below hb, h.at_, h.len, h.big, ?_⟩
  obtain ⟨m, hm⟩ := h.one
  exact ⟨m, (hb.cell (block_lt_of_cell hm)).trans hm⟩
theorem LookAt.reads {w : World} {L : LookV} (h : LookAt w L) : Reads w w.heap.size 1 L.m.a L.m.b.length (u8s L.m.b) := h.ms.octs _ (List.mem_of_getElem? h.at_)
theorem LookAt.caps {w : World} {L : LookV} (h : LookAt w L) : L.m.b.length ≤ L.m.c ∧ L.m.c ≤ 9223372036854775807 := h.ms.caps _ (List.mem_of_getElem? h.at_)
set_option maxRecDepth 100000 in
set_option maxHeartbeats 4000000 in
theorem msg_any (L : LookV) (w : World) (h : LookAt w L) : Calls Tryz.prog 180 #[.agg (lookC L)] w fun ev w' => ev = .returned (.agg #[.int .u32 (L.m.uid : Nat), .int .i64 L.m.date, .int .i64 L.m.flags, .slice L.m.a L.m.b.length L.m.c]) ∧ Below w.heap.size w w' := by
  obtain ⟨nm, ep, nx, A, c, ms, i, m⟩ := L
  have hlt := h.lt
  obtain ⟨hms, hat, hlen, -, -⟩ := h
  obtain ⟨uid, date, flags, a8, c8, b8⟩ := m
  simp only at hms hat hlen hlt ⊢
  unfold lookC
  have HB := Below.refl w.heap.size w
  refine calls_at 10 Tryz.func180 rfl rfl (Nat.le_of_ble_eq_true rfl) ?_
  intro a hA; replace hA := hA.norm
  refine wS (wR ?_)
  refine wl_new hA rfl rfl (by decide) (fun ev h => by simp [go_sem, h.get 0 rfl]; try first | exact ⟨rfl, rfl⟩ | rfl) fun w1 a (K1 : Blk _ _ _ _) hz1 hb1 hA => ?_
  replace HB := HB.trans (hb1.mono HB.size)
  replace hms := hms.below hb1
  refine wl_new hA rfl rfl (by decide) (fun ev h => by simp [go_sem]; try first | exact ⟨rfl, rfl⟩ | rfl) fun w2 a (K2 : Blk _ _ _ _) hz2 hb2 hA => ?_
  replace HB := HB.trans (hb2.mono HB.size)
  replace hms := hms.below hb2
  replace K1 := K1.below hb2 K1.lt
  obtain ⟨ad, rfl, hadl, q0, q1, q2, q3⟩ := hms.at_ hat
  simp only at q0 q1 q2 q3
  have jj0 : (0 : Int) ≤ (i : Int) := by omega
  have jj1 : (i : Int) < (ms.length : Int) := by omega
  replace hA := hA.keepN [1, 2]
  refine wN (nT (wS (wR ?_)))
  revert a; (iterate 7 refine wo rfl rfl (by decide) (fun ev e h => by simp [go_sem, h, K1.cell, q0, q1, q2, q3, jj0, jj1] <;> rfl) ?_); intro a hA
  refine wl_set [.int .u32 (uid : Nat), .int .i64 date, .int .i64 flags, .slice a8 b8.length c8] hA rfl rfl K2 (by rfl) (fun ev h => by simp [go_sem, h.get 2 rfl, h.get 9 rfl, K1.cell, q0, q1, q2, q3, jj0, jj1, setAll, K2.cell, K2.frozen]) fun w3 (K2 : Blk _ _ _ _) hs3 => ?_
  replace HB := hs3.below HB (by omega)
  replace hA := hA.keepN [2]
  refine wN (nT (wp_ret ?_))
  refine bodyPost_ret (by simp [results, Tryz.results180, go_sem, hA.env 2 _ rfl, K2.cell]; try first | exact ⟨rfl, rfl⟩ | rfl) hA.defers ?_
  exact ⟨rfl, HB⟩
set_option maxRecDepth 100000 in
set_option maxHeartbeats 4000000 in
theorem last_any (L : LookV) (w : World) (h : LookAt w L) : Calls Tryz.prog 190 #[.agg (lookC L)] w fun ev w' => ev = .returned (.int .u32 (lastUid L.ms : Nat)) ∧ Below w.heap.size w w' := by
  obtain ⟨nm, ep, nx, A, c, ms, i, m⟩ := L
  have hlt := h.lt
  obtain ⟨hms, hat, hlen, -, -⟩ := h
  simp only at hms hat hlen hlt ⊢
  unfold lookC
  obtain ⟨y, hy⟩ : ∃ y, ms[ms.length - 1]? = some y := ⟨_, List.getElem?_eq_getElem (by omega)⟩
  have hlast : lastUid ms = y.uid := by unfold lastUid; rw [List.getLast?_eq_getElem?, hy]; rfl
  have HB := Below.refl w.heap.size w
  refine calls_at 14 Tryz.func190 rfl rfl (Nat.le_of_ble_eq_true rfl) ?_
  intro a hA; replace hA := hA.norm
  refine wS (wR ?_)
  refine wl_new hA rfl rfl (by decide) (fun ev h => by simp [go_sem, h.get 0 rfl]; try first | exact ⟨rfl, rfl⟩ | rfl) fun w1 a (K1 : Blk _ _ _ _) hz1 hb1 hA => ?_
  replace HB := HB.trans (hb1.mono HB.size)
  replace hms := hms.below hb1
  obtain ⟨ad, rfl, hadl, q0, -⟩ := hms.at_ hy
  obtain ⟨k, hk⟩ : ∃ k, ms.length = k + 1 := ⟨ms.length - 1, by omega⟩
  rw [hk] at K1 q0 hlt
  rw [Nat.add_sub_cancel] at q0
  have jj0 : (0 : Int) ≤ (k : Int) := by omega
  have jj1 : (k : Int) < (k : Int) + 1 := by omega
  have i1 : IntKind.i64.wrap (k : Int) = (k : Int) := by rw [IntWalk.i64_in _ (by omega)]
  revert a; refine wo rfl rfl (by decide) (fun ev e h => by simp [go_sem, h, K1.cell, q0, jj0, jj1, i1] <;> rfl) ?_; intro a hA
  replace hA := hA.keepN [1]
  refine wN (nT (wS (wR ?_)))
  revert a; (iterate 10 refine wo rfl rfl (by decide) (fun ev e h => by simp [go_sem, h, K1.cell, q0, jj0, jj1, i1] <;> rfl) ?_); intro a hA
  replace hA := hA.keepN [12]
  revert a; (iterate 2 refine wo rfl rfl (by decide) (fun ev e h => by simp [go_sem, h, K1.cell, q0, jj0, jj1, i1] <;> rfl) ?_); intro a hA
  replace hA := hA.keepN [2]
  refine wN (nT (wp_ret ?_))
  refine ret_1 hA 2 rfl rfl ?_
  exact ⟨by rw [hlast], HB⟩
/-- a call enters -/
def Enters (F : FuncId) : Prop := ∀ (args : Array Value) (w : World), (callFunc F args).run Tryz.prog w = .ok (.enter F args) w
theorem enters {F : FuncId} {fn : Func} (hf : Tryz.prog.funcs[F]? = some fn) (hc : callOk fn = true) : Enters F := fun args w => by
  unfold callOk at hc
  rw [Bool.and_eq_true, Bool.not_eq_true'] at hc
  have hn : ¬ fn.name = "runtime.NumGoroutine" := by simpa using hc.1
  have hb : ¬ fn.body = none := by
    have := hc.2
    cases h : fn.body with
    | none => rw [h] at this; cases this
    | some c => simp
  simp [callFunc, hf, hn, hb]
/-- a closure runs, and answers so -/
def RunK (L : LookV) (k : KeyA) (v : Value) (w : World) : Prop := ∃ F caps, v = .func (.func F) #[] caps ∧ Enters F ∧ Calls Tryz.prog F (#[.agg (lookC L)] ++ caps) w fun ev w' => ev = .returned (.bool (evalK k (lookF L))) ∧ Below w.heap.size w w'
theorem run_never (L : LookV) (w : World) : RunK L .never (.func (.func 134) #[] #[]) w := by
  refine ⟨_, _, rfl, enters Tryz.func134 (by kernel_rfl), ?_⟩
  show Calls Tryz.prog _ #[.agg (lookC L)] w _
  rw [evalK]
  have HB := Below.refl w.heap.size w
  unfold lookC
  refine calls_at 3 Tryz.func134 rfl rfl (Nat.le_of_ble_eq_true rfl) ?_
  intro a hA; replace hA := hA.norm
  refine wS (wR ?_)
  refine wl_new hA rfl rfl (by decide) (fun ev h => by simp [go_sem, h.get 0 rfl]; try first | exact ⟨rfl, rfl⟩ | rfl) fun w1 a (K1 : Blk _ _ _ _) hz1 hb1 hA => ?_
  replace HB := HB.trans (hb1.mono HB.size)
  revert a; refine wo rfl rfl (by decide) (fun ev e h => by simp [go_sem, h] <;> rfl) ?_; intro a hA
  replace hA := hA.keepN []
  refine wN (nT (wS (wR ?_)))
  revert a; refine wo rfl rfl (by decide) (fun ev e h => by simp [go_sem, h] <;> rfl) ?_; intro a hA
  replace hA := hA.keepN [2]
  refine wN (nT (wp_ret ?_))
  refine ret_1 hA 2 rfl rfl ?_
  exact ⟨rfl, HB⟩
theorem run_all (L : LookV) (w : World) : RunK L .all (.func (.func 177) #[] #[]) w := by
  refine ⟨_, _, rfl, enters Tryz.func177 (by kernel_rfl), ?_⟩
  show Calls Tryz.prog _ #[.agg (lookC L)] w _
  rw [evalK]
  have HB := Below.refl w.heap.size w
  unfold lookC
  refine calls_at 3 Tryz.func177 rfl rfl (Nat.le_of_ble_eq_true rfl) ?_
  intro a hA; replace hA := hA.norm
  refine wS (wR ?_)
  refine wl_new hA rfl rfl (by decide) (fun ev h => by simp [go_sem, h.get 0 rfl]; try first | exact ⟨rfl, rfl⟩ | rfl) fun w1 a (K1 : Blk _ _ _ _) hz1 hb1 hA => ?_
  replace HB := HB.trans (hb1.mono HB.size)
  revert a; refine wo rfl rfl (by decide) (fun ev e h => by simp [go_sem, h] <;> rfl) ?_; intro a hA
  replace hA := hA.keepN []
  refine wN (nT (wS (wR ?_)))
  revert a; refine wo rfl rfl (by decide) (fun ev e h => by simp [go_sem, h] <;> rfl) ?_; intro a hA
  replace hA := hA.keepN [2]
  refine wN (nT (wp_ret ?_))
  refine ret_1 hA 2 rfl rfl ?_
  exact ⟨rfl, HB⟩
theorem agg_look (L : LookV) : lookC L = #[.string L.nm, .int .u32 L.ep, .int .u32 L.nx, .slice L.A L.ms.length L.c, .int .i64 (L.i : Nat)] := rfl
set_option maxRecDepth 100000 in
set_option maxHeartbeats 4000000 in
theorem run_larger (L : LookV) (n : Int) (q : Nat) (w : World) (h : LookAt w L) (Kq : Blk w q 3 #[.int .i64 n]) : RunK L (.larger n) (.func (.func 185) #[] #[.pointer (some ⟨q, 0, none⟩)]) w := by
  refine ⟨_, _, rfl, enters Tryz.func185 (by kernel_rfl), ?_⟩
  show Calls Tryz.prog _ #[.agg (lookC L), .pointer (some ⟨q, 0, none⟩)] w _
  rw [evalK]
  have HB := Below.refl w.heap.size w
  refine calls_at 10 Tryz.func185 rfl rfl (Nat.le_of_ble_eq_true rfl) ?_
  intro a hA; replace hA := hA.norm
  rw [agg_look] at hA
  refine wS (wR ?_)
  refine wl_new hA rfl rfl (by decide) (fun ev h => by simp [go_sem, h.get 0 rfl]; try first | exact ⟨rfl, rfl⟩ | rfl) fun w1 a (K1 : Blk _ _ _ _) hz1 hb1 hA => ?_
  replace HB := HB.trans (hb1.mono HB.size)
  replace h := h.below hb1
  replace Kq := Kq.below hb1 Kq.lt
  revert a; refine wo rfl rfl (by decide) (fun ev e h => by simp [go_sem, h] <;> rfl) ?_; intro a hA
  replace hA := hA.keepN [1, 2]
  have pS := fun (wo : World) (hC : (fun wy => Below w1.heap.size w1 wy) wo) => have p1 := K1.below hC K1.lt; have p2 := Kq.below hC Kq.lt; And.intro (p1.cell) (p2.cell)
  refine wN (nT (wS ?_))
  refine wp_any_at hA [(.det ?dS0), (.det ?dS1), (.det ?dS2), (.det ?dS3), (.det ?dS4), (.det ?dS5), (.det ?dS6)] [] (fun wy => Below w1.heap.size w1 wy) (TSp [] Grows) (by kernel_rfl) rfl (by kernel_rfl) (by kernel_rfl) rfl ((Below.refl _ _).drew) (stab_sp [] [true, true, true, true, true, true, true] [true, true, true, true, true, true, true] [] rfl rfl rfl (by kernel_rfl) ⟨trivial, trivial, trivial, trivial, trivial, trivial, trivial, trivial⟩ trivial) (fun _ h => by cases h) (fun _ _ _ _ _ h => by cases h) (fun _ h => by cases h) ⟨?oS0, ?oS1, ?oS2, ?oS3, ?oS4, ?oS5, ?oS6, trivial⟩ (by kernel_rfl) ?fS
  case oS0 => intro ev wo hev hC hs hph; have x0 := se hA hs 2; exact od rfl rfl (by kernel_rfl) hC (TSp.of rfl (Grows.refl _)) (by simp [go_sem, x0, pS _ hC] <;> rfl)
  case oS1 =>
    intro ev wo hev hC hs hph
    have e4 := sd hs 4 0
    have p1 := K1.below hC K1.lt
    have p2 := Kq.below hC Kq.lt
    exact ob_dcall (wanted_none rfl) rfl (by kernel_rfl) (msg_any L wo (h.below hC)) (exec_call Tryz.func180 (by kernel_rfl) rfl (hev.func _) (by first | (simp only [mL, e4, hev.const] <;> rfl) | (simp [mL, e4, hev.const] <;> rfl))) (by rfl) (fun w3 hb3 => ⟨hC.trans (hb3.mono hC.size), TSp.of rfl hb3⟩)
  case oS2 => intro ev wo hev hC hs hph; have x0 := sd hs 5 1; exact od rfl rfl (by kernel_rfl) hC (TSp.of rfl (Grows.refl _)) (by simp [go_sem, x0] <;> rfl)
  case oS3 => intro ev wo hev hC hs hph; have x0 := sd hs 6 2; exact od rfl rfl (by kernel_rfl) hC (TSp.of rfl (Grows.refl _)) (by simp [go_sem, x0] <;> rfl)
  case oS4 => intro ev wo hev hC hs hph; have x0 := se hA hs 1; exact od rfl rfl (by kernel_rfl) hC (TSp.of rfl (Grows.refl _)) (by simp [go_sem, x0, pS _ hC] <;> rfl)
  case oS5 => intro ev wo hev hC hs hph; have x0 := sd hs 7 3; have x1 := sd hs 8 4; exact od rfl rfl (by kernel_rfl) hC (TSp.of rfl (Grows.refl _)) (by simp [go_sem, x0, x1] <;> rfl)
  case oS6 => intro ev wo hev hC hs hph; have x0 := sd hs 9 5; exact od rfl rfl (by kernel_rfl) hC (TSp.of rfl (Grows.refl _)) (by simp [go_sem, x0] <;> rfl)
  intro sg wf hC hph
  intro a hA
  replace hA := hA.keepN [3]
  refine nT (wp_ret ?_)
  refine ret_1 hA 3 rfl rfl ?_
  exact ⟨ret_bool (rfl), HB.trans (hC.mono HB.size)⟩
set_option maxRecDepth 100000 in
set_option maxHeartbeats 4000000 in
theorem run_smaller (L : LookV) (n : Int) (q : Nat) (w : World) (h : LookAt w L) (Kq : Blk w q 3 #[.int .i64 n]) : RunK L (.smaller n) (.func (.func 186) #[] #[.pointer (some ⟨q, 0, none⟩)]) w := by
  refine ⟨_, _, rfl, enters Tryz.func186 (by kernel_rfl), ?_⟩
  show Calls Tryz.prog _ #[.agg (lookC L), .pointer (some ⟨q, 0, none⟩)] w _
  rw [evalK]
  have HB := Below.refl w.heap.size w
  refine calls_at 10 Tryz.func186 rfl rfl (Nat.le_of_ble_eq_true rfl) ?_
  intro a hA; replace hA := hA.norm
  rw [agg_look] at hA
  refine wS (wR ?_)
  refine wl_new hA rfl rfl (by decide) (fun ev h => by simp [go_sem, h.get 0 rfl]; try first | exact ⟨rfl, rfl⟩ | rfl) fun w1 a (K1 : Blk _ _ _ _) hz1 hb1 hA => ?_
  replace HB := HB.trans (hb1.mono HB.size)
  replace h := h.below hb1
  replace Kq := Kq.below hb1 Kq.lt
  revert a; refine wo rfl rfl (by decide) (fun ev e h => by simp [go_sem, h] <;> rfl) ?_; intro a hA
  replace hA := hA.keepN [1, 2]
  have pS := fun (wo : World) (hC : (fun wy => Below w1.heap.size w1 wy) wo) => have p1 := K1.below hC K1.lt; have p2 := Kq.below hC Kq.lt; And.intro (p1.cell) (p2.cell)
  refine wN (nT (wS ?_))
  refine wp_any_at hA [(.det ?dS0), (.det ?dS1), (.det ?dS2), (.det ?dS3), (.det ?dS4), (.det ?dS5), (.det ?dS6)] [] (fun wy => Below w1.heap.size w1 wy) (TSp [] Grows) (by kernel_rfl) rfl (by kernel_rfl) (by kernel_rfl) rfl ((Below.refl _ _).drew) (stab_sp [] [true, true, true, true, true, true, true] [true, true, true, true, true, true, true] [] rfl rfl rfl (by kernel_rfl) ⟨trivial, trivial, trivial, trivial, trivial, trivial, trivial, trivial⟩ trivial) (fun _ h => by cases h) (fun _ _ _ _ _ h => by cases h) (fun _ h => by cases h) ⟨?oS0, ?oS1, ?oS2, ?oS3, ?oS4, ?oS5, ?oS6, trivial⟩ (by kernel_rfl) ?fS
  case oS0 => intro ev wo hev hC hs hph; have x0 := se hA hs 2; exact od rfl rfl (by kernel_rfl) hC (TSp.of rfl (Grows.refl _)) (by simp [go_sem, x0, pS _ hC] <;> rfl)
  case oS1 =>
    intro ev wo hev hC hs hph
    have e4 := sd hs 4 0
    have p1 := K1.below hC K1.lt
    have p2 := Kq.below hC Kq.lt
    exact ob_dcall (wanted_none rfl) rfl (by kernel_rfl) (msg_any L wo (h.below hC)) (exec_call Tryz.func180 (by kernel_rfl) rfl (hev.func _) (by first | (simp only [mL, e4, hev.const] <;> rfl) | (simp [mL, e4, hev.const] <;> rfl))) (by rfl) (fun w3 hb3 => ⟨hC.trans (hb3.mono hC.size), TSp.of rfl hb3⟩)
  case oS2 => intro ev wo hev hC hs hph; have x0 := sd hs 5 1; exact od rfl rfl (by kernel_rfl) hC (TSp.of rfl (Grows.refl _)) (by simp [go_sem, x0] <;> rfl)
  case oS3 => intro ev wo hev hC hs hph; have x0 := sd hs 6 2; exact od rfl rfl (by kernel_rfl) hC (TSp.of rfl (Grows.refl _)) (by simp [go_sem, x0] <;> rfl)
  case oS4 => intro ev wo hev hC hs hph; have x0 := se hA hs 1; exact od rfl rfl (by kernel_rfl) hC (TSp.of rfl (Grows.refl _)) (by simp [go_sem, x0, pS _ hC] <;> rfl)
  case oS5 => intro ev wo hev hC hs hph; have x0 := sd hs 7 3; have x1 := sd hs 8 4; exact od rfl rfl (by kernel_rfl) hC (TSp.of rfl (Grows.refl _)) (by simp [go_sem, x0, x1] <;> rfl)
  case oS6 => intro ev wo hev hC hs hph; have x0 := sd hs 9 5; exact od rfl rfl (by kernel_rfl) hC (TSp.of rfl (Grows.refl _)) (by simp [go_sem, x0] <;> rfl)
  intro sg wf hC hph
  intro a hA
  replace hA := hA.keepN [3]
  refine nT (wp_ret ?_)
  refine ret_1 hA 3 rfl rfl ?_
  exact ⟨ret_bool (rfl), HB.trans (hC.mono HB.size)⟩
set_option maxRecDepth 100000 in
set_option maxHeartbeats 4000000 in
theorem run_text (L : LookV) (x : List UInt8) (q : Nat) (w : World) (h : LookAt w L) (Kq : Blk w q 9 #[.string (St x)]) (hx : x.length ≤ 1048576) : RunK L (.text x) (.func (.func 183) #[] #[.pointer (some ⟨q, 0, none⟩)]) w := by
  refine ⟨_, _, rfl, enters Tryz.func183 (by kernel_rfl), ?_⟩
  show Calls Tryz.prog _ #[.agg (lookC L), .pointer (some ⟨q, 0, none⟩)] w _
  rw [evalK]
  have HB := Below.refl w.heap.size w
  obtain ⟨mm, hmm⟩ := h.one
  have hbig := h.big
  have hmlt := block_lt_of_cell hmm
  refine calls_at 10 Tryz.func183 rfl rfl (Nat.le_of_ble_eq_true rfl) ?_
  intro a hA; replace hA := hA.norm
  rw [agg_look] at hA
  refine wS (wR ?_)
  refine wl_new hA rfl rfl (by decide) (fun ev h => by simp [go_sem, h.get 0 rfl]; try first | exact ⟨rfl, rfl⟩ | rfl) fun w1 a (K1 : Blk _ _ _ _) hz1 hb1 hA => ?_
  replace HB := HB.trans (hb1.mono HB.size)
  replace h := h.below hb1
  replace Kq := Kq.below hb1 Kq.lt
  revert a; refine wo rfl rfl (by decide) (fun ev e h => by simp [go_sem, h] <;> rfl) ?_; intro a hA
  replace hA := hA.keepN [1, 2]
  have pS := fun (wo : World) (hC : (fun wy => Below w1.heap.size w1 wy) wo) => have p1 := K1.below hC K1.lt; have p2 := Kq.below hC Kq.lt; And.intro (p1.cell) (p2.cell)
  refine wN (nT (wS ?_))
  refine wp_any_at hA [(.det ?dS0), (.det ?dS1), (.det ?dS2), (.det ?dS3), (.det ?dS4), (.det ?dS5), (.det ?dS6)] [] (fun wy => Below w1.heap.size w1 wy) (TSp [] Grows) (by kernel_rfl) rfl (by kernel_rfl) (by kernel_rfl) rfl ((Below.refl _ _).drew) (stab_sp [] [true, true, true, true, true, true, true] [true, true, true, true, true, true, true] [] rfl rfl rfl (by kernel_rfl) ⟨trivial, trivial, trivial, trivial, trivial, trivial, trivial, trivial⟩ trivial) (fun _ h => by cases h) (fun _ _ _ _ _ h => by cases h) (fun _ h => by cases h) ⟨?oS0, ?oS1, ?oS2, ?oS3, ?oS4, ?oS5, ?oS6, trivial⟩ (by kernel_rfl) ?fS
  case oS0 => intro ev wo hev hC hs hph; have x0 := se hA hs 2; exact od rfl rfl (by kernel_rfl) hC (TSp.of rfl (Grows.refl _)) (by simp [go_sem, x0, pS _ hC] <;> rfl)
  case oS1 =>
    intro ev wo hev hC hs hph
    have e4 := sd hs 4 0
    have p1 := K1.below hC K1.lt
    have p2 := Kq.below hC Kq.lt
    exact ob_dcall (wanted_none rfl) rfl (by kernel_rfl) (msg_any L wo (h.below hC)) (exec_call Tryz.func180 (by kernel_rfl) rfl (hev.func _) (by first | (simp only [mL, e4, hev.const] <;> rfl) | (simp [mL, e4, hev.const] <;> rfl))) (by rfl) (fun w3 hb3 => ⟨hC.trans (hb3.mono hC.size), TSp.of rfl hb3⟩)
  case oS2 => intro ev wo hev hC hs hph; have x0 := sd hs 5 1; exact od rfl rfl (by kernel_rfl) hC (TSp.of rfl (Grows.refl _)) (by simp [go_sem, x0] <;> rfl)
  case oS3 => intro ev wo hev hC hs hph; have x0 := sd hs 6 2; exact od rfl rfl (by kernel_rfl) hC (TSp.of rfl (Grows.refl _)) (by simp [go_sem, x0, conv_reads (c := L.m.c) rfl (h.below hC).reads] <;> rfl)
  case oS4 => intro ev wo hev hC hs hph; have x0 := se hA hs 1; exact od rfl rfl (by kernel_rfl) hC (TSp.of rfl (Grows.refl _)) (by simp [go_sem, x0, pS _ hC] <;> rfl)
  case oS5 =>
    intro ev wo hev hC hs hph
    have e7 := sd hs 7 3
    have e8 := sd hs 8 4
    have p1 := K1.below hC K1.lt
    have p2 := Kq.below hC Kq.lt
    exact ob_dcall (wanted_none rfl) rfl (by kernel_rfl) (within_any L.m.b x mm wo (((HB.trans (hC.mono HB.size)).cell hmlt).trans hmm) (by omega) (by omega)) (exec_call Tryz.func181 (by kernel_rfl) rfl (hev.func _) (by first | (simp only [mL, e7, e8, hev.const] <;> rfl) | (simp [mL, e7, e8, hev.const] <;> rfl))) (by rfl) (fun w3 hb3 => ⟨hC.trans (hb3.mono hC.size), TSp.of rfl hb3⟩)
  case oS6 => intro ev wo hev hC hs hph; have x0 := sd hs 9 5; exact od rfl rfl (by kernel_rfl) hC (TSp.of rfl (Grows.refl _)) (by simp [go_sem, x0] <;> rfl)
  intro sg wf hC hph
  intro a hA
  replace hA := hA.keepN [3]
  refine nT (wp_ret ?_)
  refine ret_1 hA 3 rfl rfl ?_
  exact ⟨rfl, HB.trans (hC.mono HB.size)⟩
set_option maxRecDepth 100000 in
set_option maxHeartbeats 4000000 in
theorem run_body (L : LookV) (x : List UInt8) (q : Nat) (w : World) (h : LookAt w L) (Kq : Blk w q 9 #[.string (St x)]) (hx : x.length ≤ 1048576) : RunK L (.body x) (.func (.func 182) #[] #[.pointer (some ⟨q, 0, none⟩)]) w := by
  refine ⟨_, _, rfl, enters Tryz.func182 (by kernel_rfl), ?_⟩
  show Calls Tryz.prog _ #[.agg (lookC L), .pointer (some ⟨q, 0, none⟩)] w _
  rw [evalK]
  have HB := Below.refl w.heap.size w
  obtain ⟨mm, hmm⟩ := h.one
  have hbig := h.big
  have hmlt := block_lt_of_cell hmm
  refine calls_at 17 Tryz.func182 rfl rfl (Nat.le_of_ble_eq_true rfl) ?_
  intro a hA; replace hA := hA.norm
  rw [agg_look] at hA
  refine wS (wR ?_)
  refine wl_new hA rfl rfl (by decide) (fun ev h => by simp [go_sem, h.get 0 rfl]; try first | exact ⟨rfl, rfl⟩ | rfl) fun w1 a (K1 : Blk _ _ _ _) hz1 hb1 hA => ?_
  replace HB := HB.trans (hb1.mono HB.size)
  replace h := h.below hb1
  replace Kq := Kq.below hb1 Kq.lt
  revert a; refine wo rfl rfl (by decide) (fun ev e h => by simp [go_sem, h, K1.cell] <;> rfl) ?_; intro a hA
  replace hA := hA.keepN [1, 2]
  refine wN (nT (wS (wR ?_)))
  revert a; refine wo rfl rfl (by decide) (fun ev e h => by simp [go_sem, h, K1.cell] <;> rfl) ?_; intro a hA
  refine wl_call hA rfl rfl (by decide) (fun ev h => exec_call Tryz.func180 (by kernel_rfl) rfl (h.f _) (by first | (simp only [mL, h.get 7 rfl, h.c] <;> rfl) | (simp [mL, h.get 7 rfl, h.c, K1.cell] <;> rfl))) (msg_any L w1 h) ?_
  rintro e w2 ⟨rfl, hb2⟩
  refine ⟨_, rfl, fun a hA => ?_⟩
  replace HB := HB.trans (hb2.mono HB.size)
  replace h := h.below hb2
  replace Kq := Kq.below hb2 Kq.lt
  revert a; refine wo rfl rfl (by decide) (fun ev e h => by simp [go_sem, h, K1.cell] <;> rfl) ?_; intro a hA
  refine wl_call hA rfl rfl (by decide) (fun ev h => exec_call Tryz.func62 (by kernel_rfl) rfl (h.f _) (by first | (simp only [mL, h.get 9 rfl, h.c] <;> rfl) | (simp [mL, h.get 9 rfl, h.c, K1.cell] <;> rfl))) (cut_any L.m.a L.m.b.length L.m.c L.m.b _ rfl h.caps.1 (by have := h.caps.2; unfold maxLen; omega) (by omega) h.reads) ?_
  rintro e w3 ⟨v1, v2, rfl, ho1, ho2, hb3⟩
  refine ⟨_, rfl, fun a hA => ?_⟩
  replace HB := HB.trans (hb3.mono HB.size)
  replace h := h.below hb3
  replace Kq := Kq.below hb3 Kq.lt
  have hbl : (bodyH L.m.b).length ≤ 1048576 := by
    have := congrArg List.length (head_body L.m.b)
    rw [List.length_append] at this
    omega
  obtain ⟨A2, c2, rfl, hr2⟩ := ho2.took
  have hcv := conv_reads (c := c2) rfl hr2
  revert a; (iterate 5 refine wo rfl rfl (by decide) (fun ev e h => by simp [go_sem, h, Kq.cell, hcv] <;> rfl) ?_); intro a hA
  replace hA := hA.keepN [1, 5]
  refine wN (nT (wS (wR ?_)))
  revert a; refine wo rfl rfl (by decide) (fun ev e h => by simp [go_sem, h, Kq.cell, hcv] <;> rfl) ?_; intro a hA
  refine wl_op hA rfl rfl (by decide) (fun ev h => by simp [go_sem, h.get 13 rfl, Kq.cell, hcv]; try first | exact ⟨rfl, rfl⟩ | rfl) fun a hA => ?_
  revert a; refine wo rfl rfl (by decide) (fun ev e h => by simp [go_sem, h, Kq.cell, hcv] <;> rfl) ?_; intro a hA
  refine wl_call hA rfl rfl (by decide) (fun ev h => exec_call Tryz.func181 (by kernel_rfl) rfl (h.f _) (by first | (simp only [mL, h.get 14 rfl, h.get 15 rfl, h.c] <;> rfl) | (simp [mL, h.get 14 rfl, h.get 15 rfl, h.c, Kq.cell, hcv] <;> rfl))) (within_any (bodyH L.m.b) x mm _ ((HB.cell hmlt).trans hmm) (by omega) (by omega)) ?_
  rintro e w4 ⟨rfl, hb4⟩
  refine ⟨_, rfl, fun a hA => ?_⟩
  replace HB := HB.trans (hb4.mono HB.size)
  replace h := h.below hb4
  replace Kq := Kq.below hb4 Kq.lt
  revert a; refine wo rfl rfl (by decide) (fun ev e h => by simp [go_sem, h, Kq.cell, hcv] <;> rfl) ?_; intro a hA
  replace hA := hA.keepN [3]
  refine wN (nT (wp_ret ?_))
  refine ret_1 hA 3 rfl rfl ?_
  exact ⟨rfl, HB⟩
theorem and1_i64 (n : Int) : bits .and .i64 n 1 = n % 2 := by
  have h1 : (BitVec.ofInt 64 1).toNat = 2 ^ 1 - 1 := by decide
  have key : (BitVec.ofInt 64 n &&& BitVec.ofInt 64 1).toNat = (n % ((2 ^ 64 : Nat) : Int)).toNat % 2 ^ 1 := by
    rw [BitVec.toNat_and, BitVec.toNat_ofInt, h1, Nat.and_two_pow_sub_one_eq_mod]
  show IntKind.i64.wrap ((BitVec.ofInt 64 n &&& BitVec.ofInt 64 1).toNat : Nat) = n % 2
  rw [key, IntKind.wrap_i64]
  omega
theorem step_sum (st : List FieldS × Bool) (s : List UInt8) : sumV (stepF st s).1 ≤ sumV st.1 + s.length := by
  unfold stepF
  split
  · split
    · exact sumV_add _ _
    · exact Nat.le_add_right _ _
  · split
    · rw [sumV_app]
      have := (cut_len58 s).2
      show sumV st.1 + ((Lib.cut s [58]).2.1.length + 0) ≤ _
      omega
    · exact Nat.le_add_right _ _
theorem lines_sum : ∀ (f : Nat) (b : List UInt8) (st : List FieldS × Bool), sumV (linesF f b st).1 ≤ sumV st.1 + b.length
  | 0, b, st => Nat.le_add_right _ _
  | f + 1, b, st => by
    unfold linesF
    split
    · exact Nat.le_add_right _ _
    · have h1 := line_len b
      have h3 := bare_len (lineS b).1
      have h4 := lines_sum f (lineS b).2 (stepF st (bareS (lineS b).1))
      have h5 := step_sum st (bareS (lineS b).1)
      omega
theorem trimS_le (cut l : List UInt8) : (trimS cut l).length ≤ l.length := by
  unfold trimS trimL
  exact Nat.le_trans (List.dropWhile_sublist _).length_le (trimR_len cut l)
theorem field_len (b n : List UInt8) : ((fieldV b n).getD []).length ≤ b.length := by
  unfold fieldV
  cases hf : (fieldsS b).find? fun f => lowerS f.n == lowerS n with
  | none => exact Nat.zero_le _
  | some x =>
    have hx := List.mem_of_find?_eq_some hf
    unfold fieldsS at hx
    obtain ⟨y, hy, rfl⟩ := List.mem_map.1 hx
    have h1 := sumV_mem hy
    have h2 := lines_sum b.length (headS b) ([], false)
    have h3 : sumV ([] : List FieldS) = 0 := rfl
    have h4 := congrArg List.length (head_body b)
    rw [List.length_append] at h4
    have h5 := trimS_le [32, 9] y.v
    show (trimS [32, 9] y.v).length ≤ _
    simp only at h2
    omega
set_option maxRecDepth 100000 in
set_option maxHeartbeats 4000000 in
theorem run_flag (L : LookV) (i : Nat) (no : Bool) (p q : Nat) (w : World) (h : LookAt w L) (Kp : Blk w p 3 #[.int .i64 (i : Nat)]) (Kq : Blk w q 4 #[.bool no]) (hi : i < 5) : RunK L (.flag i no) (.func (.func 213) #[] #[.pointer (some ⟨p, 0, none⟩), .pointer (some ⟨q, 0, none⟩)]) w := by
  refine ⟨_, _, rfl, enters Tryz.func213 (by kernel_rfl), ?_⟩
  show Calls Tryz.prog _ #[.agg (lookC L), .pointer (some ⟨p, 0, none⟩), .pointer (some ⟨q, 0, none⟩)] w _
  rw [evalK]
  have HB := Below.refl w.heap.size w
  refine calls_at 14 Tryz.func213 rfl rfl (Nat.le_of_ble_eq_true rfl) ?_
  intro a hA; replace hA := hA.norm
  rw [agg_look] at hA
  refine wS (wR ?_)
  refine wl_new hA rfl rfl (by decide) (fun ev h => by simp [go_sem, h.get 0 rfl]; try first | exact ⟨rfl, rfl⟩ | rfl) fun w1 a (K1 : Blk _ _ _ _) hz1 hb1 hA => ?_
  replace HB := HB.trans (hb1.mono HB.size)
  replace h := h.below hb1
  replace Kp := Kp.below hb1 Kp.lt
  replace Kq := Kq.below hb1 Kq.lt
  revert a; refine wo rfl rfl (by decide) (fun ev e h => by simp [go_sem, h] <;> rfl) ?_; intro a hA
  replace hA := hA.keepN [1, 2, 3]
  have pS := fun (wo : World) (hC : (fun wy => Below w1.heap.size w1 wy) wo) => have p1 := K1.below hC K1.lt; have p2 := Kp.below hC Kp.lt; have p3 := Kq.below hC Kq.lt; And.intro (p1.cell) (And.intro (p2.cell) (p3.cell))
  refine wN (nT (wS ?_))
  refine wp_any_at hA [(.det ?dS0), (.det ?dS1), (.det ?dS2), (.det ?dS3), (.det ?dS4), (.det ?dS5), (.det ?dS6), (.det ?dS7), (.det ?dS8), (.det ?dS9)] [] (fun wy => Below w1.heap.size w1 wy) (TSp [] Grows) (by kernel_rfl) rfl (by kernel_rfl) (by kernel_rfl) rfl ((Below.refl _ _).drew) (stab_sp [] [true, true, true, true, true, true, true, true, true, true] [true, true, true, true, true, true, true, true, true, true] [] rfl rfl rfl (by kernel_rfl) ⟨trivial, trivial, trivial, trivial, trivial, trivial, trivial, trivial, trivial, trivial, trivial⟩ trivial) (fun _ h => by cases h) (fun _ _ _ _ _ h => by cases h) (fun _ h => by cases h) ⟨?oS0, ?oS1, ?oS2, ?oS3, ?oS4, ?oS5, ?oS6, ?oS7, ?oS8, ?oS9, trivial⟩ (by kernel_rfl) ?fS
  case oS0 => intro ev wo hev hC hs hph; have x0 := se hA hs 3; exact od rfl rfl (by kernel_rfl) hC (TSp.of rfl (Grows.refl _)) (by simp [go_sem, x0, pS _ hC] <;> rfl)
  case oS1 =>
    intro ev wo hev hC hs hph
    have e5 := sd hs 5 0
    have p1 := K1.below hC K1.lt
    have p2 := Kp.below hC Kp.lt
    have p3 := Kq.below hC Kq.lt
    exact ob_dcall (wanted_none rfl) rfl (by kernel_rfl) (msg_any L wo (h.below hC)) (exec_call Tryz.func180 (by kernel_rfl) rfl (hev.func _) (by first | (simp only [mL, e5, hev.const] <;> rfl) | (simp [mL, e5, hev.const] <;> rfl))) (by rfl) (fun w3 hb3 => ⟨hC.trans (hb3.mono hC.size), TSp.of rfl hb3⟩)
  case oS2 => intro ev wo hev hC hs hph; have x0 := sd hs 6 1; exact od rfl rfl (by kernel_rfl) hC (TSp.of rfl (Grows.refl _)) (by simp [go_sem, x0] <;> rfl)
  case oS3 => intro ev wo hev hC hs hph; have x0 := se hA hs 1; exact od rfl rfl (by kernel_rfl) hC (TSp.of rfl (Grows.refl _)) (by simp [go_sem, x0, pS _ hC] <;> rfl)
  case oS4 => intro ev wo hev hC hs hph; have x0 := sd hs 7 2; have x1 := sd hs 8 3; exact od rfl rfl (by kernel_rfl) hC (TSp.of rfl (Grows.refl _)) (by simp [go_sem, x0, x1] <;> rfl)
  case oS5 => intro ev wo hev hC hs hph; have x0 := sd hs 9 4; exact od rfl rfl (by kernel_rfl) hC (TSp.of rfl (Grows.refl _)) (by simp [go_sem, x0, hev.const] <;> rfl)
  case oS6 => intro ev wo hev hC hs hph; have x0 := sd hs 10 5; exact od rfl rfl (by kernel_rfl) hC (TSp.of rfl (Grows.refl _)) (by simp [go_sem, x0, hev.const] <;> rfl)
  case oS7 => intro ev wo hev hC hs hph; have x0 := se hA hs 2; exact od rfl rfl (by kernel_rfl) hC (TSp.of rfl (Grows.refl _)) (by simp [go_sem, x0, pS _ hC] <;> rfl)
  case oS8 => intro ev wo hev hC hs hph; have x0 := sd hs 11 6; have x1 := sd hs 12 7; exact od rfl rfl (by kernel_rfl) hC (TSp.of rfl (Grows.refl _)) (by simp [go_sem, x0, x1] <;> rfl)
  case oS9 => intro ev wo hev hC hs hph; have x0 := sd hs 13 8; exact od rfl rfl (by kernel_rfl) hC (TSp.of rfl (Grows.refl _)) (by simp [go_sem, x0] <;> rfl)
  intro sg wf hC hph
  intro a hA
  replace hA := hA.keepN [4]
  refine nT (wp_ret ?_)
  refine ret_1 hA 4 rfl rfl ?_
  refine ⟨ret_bool ?_, HB.trans (hC.mono HB.size)⟩
  rw [and1_i64]
  rfl
set_option maxRecDepth 100000 in
set_option maxHeartbeats 4000000 in
theorem run_field (L : LookV) (n x : List UInt8) (p q : Nat) (w : World) (h : LookAt w L) (Kp : Blk w p 9 #[.string (St n)]) (Kq : Blk w q 9 #[.string (St x)]) (hn : n.length ≤ 1048576) (hx : x.length ≤ 1048576) : RunK L (.field n x) (.func (.func 179) #[] #[.pointer (some ⟨p, 0, none⟩), .pointer (some ⟨q, 0, none⟩)]) w := by
  refine ⟨_, _, rfl, enters Tryz.func179 (by kernel_rfl), ?_⟩
  show Calls Tryz.prog _ #[.agg (lookC L), .pointer (some ⟨p, 0, none⟩), .pointer (some ⟨q, 0, none⟩)] w _
  rw [evalK]
  have HB := Below.refl w.heap.size w
  obtain ⟨mm, hmm⟩ := h.one
  have hbig := h.big
  have hcap := h.caps
  have hmlt := block_lt_of_cell hmm
  have hf : ∀ wo, Below w.heap.size w wo → LookAt wo L → Calls Tryz.prog 41 #[.slice L.m.a L.m.b.length L.m.c, .string (St n)] wo fun ev w' => ev = .returned (.tuple #[.string (St ((fieldV L.m.b n).getD [])), .bool (fieldV L.m.b n).isSome]) ∧ Below wo.heap.size wo w' := fun wo hb ho => by
    refine (field_any L.m.a L.m.b.length L.m.c L.m.b n mm wo ((hb.cell hmlt).trans hmm) rfl hcap.1 (by unfold maxLen; omega) (by omega) hn ho.reads).mono fun e w' hh => ⟨?_, hh.2⟩
    rw [hh.1]
    cases fieldV L.m.b n <;> rfl
  obtain ⟨o, ho⟩ : ∃ o, fieldV L.m.b n = o := ⟨_, rfl⟩
  have hol : (o.getD []).length ≤ 1048576 := by
    have := field_len L.m.b n
    rw [ho] at this
    omega
  rw [show (lookF L).octs = L.m.b from rfl, ho]
  rw [ho] at hf
  obtain ⟨q1, hq1⟩ : ∃ q1, o.isSome = q1 := ⟨_, rfl⟩
  obtain ⟨s1, hs1⟩ : ∃ s1, o.getD [] = s1 := ⟨_, rfl⟩
  rw [hs1] at hol hf
  rw [hq1] at hf
  refine calls_at 21 Tryz.func179 rfl rfl (Nat.le_of_ble_eq_true rfl) ?_
  intro a hA; replace hA := hA.norm
  rw [agg_look] at hA
  refine wS (wR ?_)
  refine wl_new hA rfl rfl (by decide) (fun ev h => by simp [go_sem, h.get 0 rfl]; try first | exact ⟨rfl, rfl⟩ | rfl) fun w1 a (K1 : Blk _ _ _ _) hz1 hb1 hA => ?_
  replace HB := HB.trans (hb1.mono HB.size)
  replace h := h.below hb1
  replace Kp := Kp.below hb1 Kp.lt
  replace Kq := Kq.below hb1 Kq.lt
  revert a; refine wo rfl rfl (by decide) (fun ev e h => by simp [go_sem, h] <;> rfl) ?_; intro a hA
  replace hA := hA.keepN [1, 2, 3]
  have pS := fun (wo : World) (hC : (fun wy => Below w1.heap.size w1 wy) wo) => have p1 := K1.below hC K1.lt; have p2 := Kp.below hC Kp.lt; have p3 := Kq.below hC Kq.lt; And.intro (p1.cell) (And.intro (p2.cell) (p3.cell))
  refine wN (nT (wS ?_))
  refine wp_any_at hA [(.det ?dS0), (.det ?dS1), (.det ?dS2), (.det ?dS3), (.det ?dS4), (.det ?dS5), (.det ?dS6), (.det ?dS7), (.det ?dS8), (.det ?dS9)] [] (fun wy => Below w1.heap.size w1 wy) (TSp [] Grows) (by kernel_rfl) rfl (by kernel_rfl) (by kernel_rfl) rfl ((Below.refl _ _).drew) (stab_sp [] [true, true, true, true, true, true, true, true, true, true] [true, true, true, true, true, true, true, true, true, true] [] rfl rfl rfl (by kernel_rfl) ⟨trivial, trivial, trivial, trivial, trivial, trivial, trivial, trivial, trivial, trivial, trivial⟩ trivial) (fun _ h => by cases h) (fun _ _ _ _ _ h => by cases h) (fun _ h => by cases h) ⟨?oS0, ?oS1, ?oS2, ?oS3, ?oS4, ?oS5, ?oS6, ?oS7, ?oS8, ?oS9, trivial⟩ (by kernel_rfl) ?fS
  case oS0 => intro ev wo hev hC hs hph; have x0 := se hA hs 3; exact od rfl rfl (by kernel_rfl) hC (TSp.of rfl (Grows.refl _)) (by simp [go_sem, x0, pS _ hC] <;> rfl)
  case oS1 =>
    intro ev wo hev hC hs hph
    have e8 := sd hs 8 0
    have p1 := K1.below hC K1.lt
    have p2 := Kp.below hC Kp.lt
    have p3 := Kq.below hC Kq.lt
    exact ob_dcall (wanted_none rfl) rfl (by kernel_rfl) (msg_any L wo (h.below hC)) (exec_call Tryz.func180 (by kernel_rfl) rfl (hev.func _) (by first | (simp only [mL, e8, hev.const] <;> rfl) | (simp [mL, e8, hev.const] <;> rfl))) (by rfl) (fun w3 hb3 => ⟨hC.trans (hb3.mono hC.size), TSp.of rfl hb3⟩)
  case oS2 => intro ev wo hev hC hs hph; have x0 := sd hs 9 1; exact od rfl rfl (by kernel_rfl) hC (TSp.of rfl (Grows.refl _)) (by simp [go_sem, x0] <;> rfl)
  case oS3 => intro ev wo hev hC hs hph; have x0 := se hA hs 1; exact od rfl rfl (by kernel_rfl) hC (TSp.of rfl (Grows.refl _)) (by simp [go_sem, x0, pS _ hC] <;> rfl)
  case oS4 =>
    intro ev wo hev hC hs hph
    have e10 := sd hs 10 2
    have e11 := sd hs 11 3
    have p1 := K1.below hC K1.lt
    have p2 := Kp.below hC Kp.lt
    have p3 := Kq.below hC Kq.lt
    exact ob_dcall (wanted_none rfl) rfl (by kernel_rfl) (hf wo (HB.trans (hC.mono HB.size)) (h.below hC)) (exec_call Tryz.func41 (by kernel_rfl) rfl (hev.func _) (by first | (simp only [mL, e10, e11, hev.const] <;> rfl) | (simp [mL, e10, e11, hev.const] <;> rfl))) (by rfl) (fun w3 hb3 => ⟨hC.trans (hb3.mono hC.size), TSp.of rfl hb3⟩)
  case oS5 => intro ev wo hev hC hs hph; have x0 := sd hs 12 4; exact od rfl rfl (by kernel_rfl) hC (TSp.of rfl (Grows.refl _)) (by simp [go_sem, x0] <;> rfl)
  case oS6 => intro ev wo hev hC hs hph; have x0 := sd hs 7 5; exact od rfl rfl (by kernel_rfl) hC (TSp.of rfl (Grows.refl _)) (by simp [go_sem, x0] <;> rfl)
  case oS7 => intro ev wo hev hC hs hph; have x0 := sd hs 7 5; exact od rfl rfl (by kernel_rfl) hC (TSp.of rfl (Grows.refl _)) (by simp [go_sem, x0] <;> rfl)
  case oS8 => intro ev wo hev hC hs hph; have x0 := sd hs 13 6; exact od rfl rfl (by kernel_rfl) hC (TSp.of rfl (Grows.refl _)) (by simp [go_sem, x0] <;> rfl)
  case oS9 => intro ev wo hev hC hs hph; have x0 := sd hs 14 7; exact od rfl rfl (by kernel_rfl) hC (TSp.of rfl (Grows.refl _)) (by simp [go_sem, x0] <;> rfl)
  intro sg wf hC hph
  intro a hA
  replace hA := hA.keepN [2, 5, 6]
  refine nT ?_
  replace h := h.below hC
  replace Kq := Kq.below hC Kq.lt
  replace HB := HB.trans (hC.mono HB.size)
  refine wS (wR ?_)
  revert a; (iterate 2 refine wo rfl rfl (by decide) (fun ev e h => by simp [go_sem, h, Kq.cell] <;> rfl) ?_); (iterate 2 refine wg _ rfl rfl rfl rfl (by decide) (fun hq ev e h => by simp [go_sem, h, ↓gw_t (beq_t hq), Kq.cell] <;> rfl) ?_); intro a hA
  refine wl_gcallv _ hA rfl rfl rfl rfl (by decide) (fun hq ev h => exec_call Tryz.func181 (by kernel_rfl) rfl (h.f _) (by first | (simp only [mL, ((h.get 17 rfl).trans (gw_t (beq_t hq))), ((h.get 18 rfl).trans (gw_t (beq_t hq))), h.c] <;> rfl) | (simp [mL, ((h.get 17 rfl).trans (gw_t (beq_t hq))), ((h.get 18 rfl).trans (gw_t (beq_t hq))), h.c, Kq.cell] <;> rfl))) (fun hq => within_any s1 x mm _ ((HB.cell hmlt).trans hmm) (by omega) (by omega)) fun a w2 hb2 hA => ?_
  replace HB := HB.trans (hb2.mono HB.size)
  replace h := h.below hb2
  replace Kq := Kq.below hb2 Kq.lt
  revert a; refine wka rfl rfl (by decide) rfl rfl rfl ?_; refine wo rfl rfl (by decide) (fun ev e h => by simp [go_sem, h, Kq.cell] <;> rfl) ?_; intro a hA
  replace hA := hA.keepN [4]
  refine wN (nT (wp_ret ?_))
  refine ret_1 hA 4 rfl rfl ?_
  refine ⟨ret_bool ?_, HB⟩
  subst hq1
  subst hs1
  cases o <;> rfl
set_option maxRecDepth 100000 in
set_option maxHeartbeats 4000000 in
theorem run_set (L : LookV) (l : List (Nat × Nat)) (u : Bool) (v : Value) (lo p q : Nat) (w : World) (h : LookAt w L) (Kp : Blk w p 4 #[.bool u]) (Kq : Blk w q 64 #[v]) (hv : w.ownsRow lo 193 2 v l.length (spanCells l)) (h3 : ∀ x ∈ l, x.1 ≤ 4294967295 ∧ x.2 ≤ 4294967295) (h4 : l.length ≤ 65536) : RunK L (.set l u) (.func (.func 188) #[] #[.pointer (some ⟨p, 0, none⟩), .pointer (some ⟨q, 0, none⟩)]) w := by
  refine ⟨_, _, rfl, enters Tryz.func188 (by kernel_rfl), ?_⟩
  show Calls Tryz.prog _ #[.agg (lookC L), .pointer (some ⟨p, 0, none⟩), .pointer (some ⟨q, 0, none⟩)] w _
  rw [evalK]
  have HB := Below.refl w.heap.size w
  have hlen := h.len
  have hlt := h.lt
  obtain ⟨A1, c1, rfl, hr1, -⟩ := own_reads hv
  refine calls_at 24 Tryz.func188 rfl rfl (Nat.le_of_ble_eq_true rfl) ?_
  intro a hA; replace hA := hA.norm
  rw [agg_look] at hA
  refine wS (wR ?_)
  refine wl_new hA rfl rfl (by decide) (fun ev h => by simp [go_sem, h.get 0 rfl]; try first | exact ⟨rfl, rfl⟩ | rfl) fun w1 a (K1 : Blk _ _ _ _) hz1 hb1 hA => ?_
  replace HB := HB.trans (hb1.mono HB.size)
  replace h := h.below hb1
  replace Kp := Kp.below hb1 Kp.lt
  replace Kq := Kq.below hb1 Kq.lt
  replace hr1 := (hr1.below hb1).more hb1.size
  revert a; refine wo rfl rfl (by decide) (fun ev e h => by simp [go_sem, h, Kp.cell] <;> rfl) ?_; intro a hA
  replace hA := hA.keepN [1, 2, 3]
  refine wN (nT (wS (wS (wR ?_))))
  revert a; refine wo rfl rfl (by decide) (fun ev e h => by simp [go_sem, h, Kp.cell] <;> rfl) ?_; intro a hA
  replace hA := hA.keepN [2, 3, 5]
  refine wN (nT ?_)
  refine wp_if hA 5 _ rfl (fun hq => ?yU) (fun hq => ?nU)
  case yU =>
    have pS := fun (wo : World) (hC : (fun wy => Below w1.heap.size w1 wy) wo) => have p1 := K1.below hC K1.lt; have p2 := Kq.below hC Kq.lt; And.intro (p1.cell) (p2.cell)
    refine wS ?_
    refine wp_any_at hA [(.det ?dS0), (.det ?dS1), (.det ?dS2), (.det ?dS3), (.det ?dS4), (.det ?dS5), (.det ?dS6), (.det ?dS7)] [] (fun wy => Below w1.heap.size w1 wy) (TSp [] Grows) (by kernel_rfl) rfl (by kernel_rfl) (by kernel_rfl) rfl ((Below.refl _ _).drew) (stab_sp [] [true, true, true, true, true, true, true, true] [true, true, true, true, true, true, true, true] [] rfl rfl rfl (by kernel_rfl) ⟨trivial, trivial, trivial, trivial, trivial, trivial, trivial, trivial, trivial⟩ trivial) (fun _ h => by cases h) (fun _ _ _ _ _ h => by cases h) (fun _ h => by cases h) ⟨?oS0, ?oS1, ?oS2, ?oS3, ?oS4, ?oS5, ?oS6, ?oS7, trivial⟩ (by kernel_rfl) ?fS
    case oS0 => intro ev wo hev hC hs hph; have x0 := se hA hs 2; exact od rfl rfl (by kernel_rfl) hC (TSp.of rfl (Grows.refl _)) (by simp [go_sem, x0, pS _ hC, Kp.cell] <;> rfl)
    case oS1 => intro ev wo hev hC hs hph; have x0 := se hA hs 3; exact od rfl rfl (by kernel_rfl) hC (TSp.of rfl (Grows.refl _)) (by simp [go_sem, x0, pS _ hC, Kp.cell] <;> rfl)
    case oS2 =>
      intro ev wo hev hC hs hph
      have e7 := sd hs 7 1
      have p1 := K1.below hC K1.lt
      have p2 := Kq.below hC Kq.lt
      exact ob_dcall (wanted_none rfl) rfl (by kernel_rfl) (msg_any L wo (h.below hC)) (exec_call Tryz.func180 (by kernel_rfl) rfl (hev.func _) (by first | (simp only [mL, e7, hev.const] <;> rfl) | (simp [mL, e7, hev.const] <;> rfl))) (by rfl) (fun w3 hb3 => ⟨hC.trans (hb3.mono hC.size), TSp.of rfl hb3⟩)
    case oS3 => intro ev wo hev hC hs hph; have x0 := sd hs 8 2; exact od rfl rfl (by kernel_rfl) hC (TSp.of rfl (Grows.refl _)) (by simp [go_sem, x0] <;> rfl)
    case oS4 => intro ev wo hev hC hs hph; have x0 := se hA hs 3; exact od rfl rfl (by kernel_rfl) hC (TSp.of rfl (Grows.refl _)) (by simp [go_sem, x0, pS _ hC, Kp.cell] <;> rfl)
    case oS5 =>
      intro ev wo hev hC hs hph
      have e10 := sd hs 10 4
      have p1 := K1.below hC K1.lt
      have p2 := Kq.below hC Kq.lt
      exact ob_dcall (wanted_none rfl) rfl (by kernel_rfl) (last_any L wo (h.below hC)) (exec_call Tryz.func190 (by kernel_rfl) rfl (hev.func _) (by first | (simp only [mL, e10, hev.const] <;> rfl) | (simp [mL, e10, hev.const] <;> rfl))) (by rfl) (fun w3 hb3 => ⟨hC.trans (hb3.mono hC.size), TSp.of rfl hb3⟩)
    case oS6 =>
      intro ev wo hev hC hs hph
      have e6 := sd hs 6 0
      have e9 := sd hs 9 3
      have e11 := sd hs 11 5
      have p1 := K1.below hC K1.lt
      have p2 := Kq.below hC Kq.lt
      exact ob_dcall (wanted_none rfl) rfl (by kernel_rfl) (has_any A1 c1 l L.m.uid (lastUid L.ms) h3 h4 wo ((hr1.below hC).more hC.size)) (exec_call Tryz.func189 (by kernel_rfl) rfl (hev.func _) (by first | (simp only [mL, e6, e9, e11, hev.const] <;> rfl) | (simp [mL, e6, e9, e11, hev.const] <;> rfl))) (by rfl) (fun w3 hb3 => ⟨hC.trans (hb3.mono hC.size), TSp.of rfl hb3⟩)
    case oS7 => intro ev wo hev hC hs hph; have x0 := sd hs 12 6; exact od rfl rfl (by kernel_rfl) hC (TSp.of rfl (Grows.refl _)) (by simp [go_sem, x0] <;> rfl)
    intro sg wf hC hph
    intro a hA
    replace hA := hA.keepN [4]
    refine nT (wp_ret (rT ?_))
    refine ret_1 hA 4 rfl rfl ?_
    exact ⟨by rw [if_pos hq]; rfl, HB.trans (hC.mono HB.size)⟩
  case nU =>
    have i1 : IntKind.u32.wrap ((L.i : Nat) : Int) = ((L.i : Nat) : Int) := IntWalk.u32_in _ (by omega)
    have i2 : IntKind.u32.wrap (((L.i : Nat) : Int) + 1) = ((L.i + 1 : Nat) : Int) := by rw [IntWalk.u32_in _ (by omega)]; omega
    have i3 : IntKind.u32.wrap ((L.ms.length : Nat) : Int) = ((L.ms.length : Nat) : Int) := IntWalk.u32_in _ (by omega)
    refine wp_skip (nT (wS (wR ?_)))
    revert a; (iterate 3 refine wo rfl rfl (by decide) (fun ev e h => by simp [go_sem, h, Kq.cell, K1.cell, i1, i2, i3] <;> rfl) ?_); intro a hA
    refine wl_op hA rfl rfl (by decide) (fun ev h => by simp [go_sem, h.get 15 rfl, Kq.cell, K1.cell, i1, i2, i3]; try first | exact ⟨rfl, rfl⟩ | rfl) fun a hA => ?_
    revert a; (iterate 5 refine wo rfl rfl (by decide) (fun ev e h => by simp [go_sem, h, Kq.cell, K1.cell, i1, i2, i3] <;> rfl) ?_); intro a hA
    refine wl_op hA rfl rfl (by decide) (fun ev h => by simp [go_sem, h.get 21 rfl, Kq.cell, K1.cell, i1, i2, i3]; try first | exact ⟨rfl, rfl⟩ | rfl) fun a hA => ?_
    replace hA := hA.keepN [13, 17, 22]
    refine wl_call hA rfl rfl (by decide) (fun ev h => exec_call Tryz.func189 (by kernel_rfl) rfl (h.f _) (by first | (simp only [mL, h.get 13 rfl, h.get 17 rfl, h.get 22 rfl, h.c] <;> rfl) | (simp [mL, h.get 13 rfl, h.get 17 rfl, h.get 22 rfl, h.c, Kq.cell, K1.cell, i1, i2, i3] <;> rfl))) (has_any A1 c1 l (L.i + 1) L.ms.length h3 h4 _ hr1) ?_
    rintro e w2 ⟨rfl, hb2⟩
    refine ⟨_, rfl, fun a hA => ?_⟩
    replace HB := HB.trans (hb2.mono HB.size)
    replace h := h.below hb2
    replace Kp := Kp.below hb2 Kp.lt
    replace Kq := Kq.below hb2 Kq.lt
    replace hr1 := (hr1.below hb2).more hb2.size
    revert a; refine wo rfl rfl (by decide) (fun ev e h => by simp [go_sem, h, Kq.cell, K1.cell, i1, i2, i3] <;> rfl) ?_; intro a hA
    replace hA := hA.keepN [4]
    refine wN (nT (wp_ret ?_))
    refine ret_1 hA 4 rfl rfl ?_
    exact ⟨by rw [if_neg (by rw [hq]; decide)]; rfl, HB⟩
end Go.Proofs.YtjhaccmcjlbllaaGreatDoor
/-
  Walks: a search's closures that call closures.
-/
namespace Go.Proofs.YtjhaccmcjlbllaaGreatDoor
open Go.RowKit
set_option linter.unusedSimpArgs false
set_option linter.unusedVariables false
theorem RunK.calls {L : LookV} {k : KeyA} {F : FuncId} {caps : Array Value} {w : World} (h : RunK L k (.func (.func F) #[] caps) w) : Calls Tryz.prog F (#[.agg (lookC L)] ++ caps) w fun ev w' => ev = .returned (.bool (evalK k (lookF L))) ∧ Below w.heap.size w w' := by
  obtain ⟨F', caps', e, -, hc⟩ := h
  injection e with e1 _ e2
  injection e1 with e1
  subst e1
  subst e2
  exact hc
set_option maxRecDepth 100000 in
set_option maxHeartbeats 4000000 in
theorem run_not (L : LookV) (k : KeyA) (v : Value) (q : Nat) (w : World) (h : LookAt w L) (Kq : Blk w q 87 #[v]) (hk : ∀ w', Below w.heap.size w w' → RunK L k v w') : RunK L (.not k) (.func (.func 136) #[] #[.pointer (some ⟨q, 0, none⟩)]) w := by
  refine ⟨_, _, rfl, enters Tryz.func136 (by kernel_rfl), ?_⟩
  show Calls Tryz.prog _ #[.agg (lookC L), .pointer (some ⟨q, 0, none⟩)] w _
  rw [evalK]
  have HB := Below.refl w.heap.size w
  obtain ⟨F, caps, rfl, hcf, -⟩ := hk w HB
  refine calls_at 8 Tryz.func136 rfl rfl (Nat.le_of_ble_eq_true rfl) ?_
  intro a hA; replace hA := hA.norm
  rw [agg_look] at hA
  refine wS (wR ?_)
  refine wl_new hA rfl rfl (by decide) (fun ev h => by simp [go_sem, h.get 0 rfl]; try first | exact ⟨rfl, rfl⟩ | rfl) fun w1 a (K1 : Blk _ _ _ _) hz1 hb1 hA => ?_
  replace HB := HB.trans (hb1.mono HB.size)
  replace h := h.below hb1
  replace Kq := Kq.below hb1 Kq.lt
  revert a; refine wo rfl rfl (by decide) (fun ev e h => by simp [go_sem, h, Kq.cell, K1.cell, hcf _ _] <;> rfl) ?_; intro a hA
  replace hA := hA.keepN [1, 2]
  refine wN (nT (wS (wR ?_)))
  revert a; (iterate 2 refine wo rfl rfl (by decide) (fun ev e h => by simp [go_sem, h, Kq.cell, K1.cell, hcf _ _] <;> rfl) ?_); intro a hA
  refine wl_call hA rfl rfl (by decide) (fun ev h => by simp [go_sem, h.get 4 rfl, h.get 5 rfl, Kq.cell, K1.cell, hcf _ _]; try first | exact ⟨rfl, rfl⟩ | rfl) ((hk _ HB).calls) ?_
  rintro e w2 ⟨rfl, hb2⟩
  refine ⟨_, rfl, fun a hA => ?_⟩
  replace HB := HB.trans (hb2.mono HB.size)
  replace h := h.below hb2
  replace Kq := Kq.below hb2 Kq.lt
  revert a; (iterate 2 refine wo rfl rfl (by decide) (fun ev e h => by simp [go_sem, h, Kq.cell, K1.cell, hcf _ _] <;> rfl) ?_); intro a hA
  replace hA := hA.keepN [3]
  refine wN (nT (wp_ret ?_))
  refine ret_1 hA 3 rfl rfl ?_
  exact ⟨rfl, HB⟩
set_option maxRecDepth 100000 in
set_option maxHeartbeats 4000000 in
theorem run_or (L : LookV) (ka kb : KeyA) (va vb : Value) (p q : Nat) (w : World) (h : LookAt w L) (Kp : Blk w p 87 #[va]) (Kq : Blk w q 87 #[vb]) (ha : ∀ w', Below w.heap.size w w' → RunK L ka va w') (hb : ∀ w', Below w.heap.size w w' → RunK L kb vb w') : RunK L (.or ka kb) (.func (.func 137) #[] #[.pointer (some ⟨p, 0, none⟩), .pointer (some ⟨q, 0, none⟩)]) w := by
  refine ⟨_, _, rfl, enters Tryz.func137 (by kernel_rfl), ?_⟩
  show Calls Tryz.prog _ #[.agg (lookC L), .pointer (some ⟨p, 0, none⟩), .pointer (some ⟨q, 0, none⟩)] w _
  rw [evalK]
  have HB := Below.refl w.heap.size w
  obtain ⟨F, caps, rfl, hcf, -⟩ := ha w HB
  obtain ⟨F2, caps2, rfl, hcf2, -⟩ := hb w HB
  refine calls_at 13 Tryz.func137 rfl rfl (Nat.le_of_ble_eq_true rfl) ?_
  intro a hA; replace hA := hA.norm
  rw [agg_look] at hA
  refine wS (wR ?_)
  refine wl_new hA rfl rfl (by decide) (fun ev h => by simp [go_sem, h.get 0 rfl]; try first | exact ⟨rfl, rfl⟩ | rfl) fun w1 a (K1 : Blk _ _ _ _) hz1 hb1 hA => ?_
  replace HB := HB.trans (hb1.mono HB.size)
  replace h := h.below hb1
  replace Kp := Kp.below hb1 Kp.lt
  replace Kq := Kq.below hb1 Kq.lt
  revert a; refine wo rfl rfl (by decide) (fun ev e h => by simp [go_sem, h, Kp.cell, K1.cell, hcf _ _] <;> rfl) ?_; intro a hA
  replace hA := hA.keepN [1, 2, 3]
  refine wN (nT (wS (wR ?_)))
  revert a; (iterate 2 refine wo rfl rfl (by decide) (fun ev e h => by simp [go_sem, h, Kp.cell, K1.cell, hcf _ _] <;> rfl) ?_); intro a hA
  refine wl_call hA rfl rfl (by decide) (fun ev h => by simp [go_sem, h.get 5 rfl, h.get 6 rfl, Kp.cell, K1.cell, hcf _ _]; try first | exact ⟨rfl, rfl⟩ | rfl) ((ha _ HB).calls) ?_
  rintro e w2 ⟨rfl, hb2⟩
  refine ⟨_, rfl, fun a hA => ?_⟩
  replace HB := HB.trans (hb2.mono HB.size)
  replace h := h.below hb2
  replace Kp := Kp.below hb2 Kp.lt
  replace Kq := Kq.below hb2 Kq.lt
  replace K1 := K1.below hb2 K1.lt
  revert a; refine wo rfl rfl (by decide) (fun ev e h => by simp [go_sem, h, Kq.cell, K1.cell, hcf2 _ _] <;> rfl) ?_; (iterate 2 refine wg _ rfl rfl rfl rfl (by decide) (fun hq ev e h => by simp [go_sem, h, ↓gw_t (beq_t hq), Kq.cell, K1.cell, hcf2 _ _] <;> rfl) ?_); intro a hA
  refine wl_gcallv _ hA rfl rfl rfl rfl (by decide) (fun hq ev h => by simp [go_sem, ((h.get 9 rfl).trans (gw_t (beq_t hq))), ((h.get 10 rfl).trans (gw_t (beq_t hq))), Kq.cell, K1.cell, hcf2 _ _]; try first | exact ⟨rfl, rfl⟩ | rfl) (fun hq => (hb _ HB).calls) fun a w3 hb3 hA => ?_
  replace HB := HB.trans (hb3.mono HB.size)
  replace h := h.below hb3
  replace Kp := Kp.below hb3 Kp.lt
  replace Kq := Kq.below hb3 Kq.lt
  replace K1 := K1.below hb3 K1.lt
  revert a; refine wko rfl rfl (by decide) rfl rfl rfl ?_; refine wo rfl rfl (by decide) (fun ev e h => by simp [go_sem, h, Kq.cell, K1.cell, hcf2 _ _] <;> rfl) ?_; intro a hA
  replace hA := hA.keepN [4]
  refine wN (nT (wp_ret ?_))
  refine ret_1 hA 4 rfl rfl ?_
  exact ⟨rfl, HB⟩
set_option maxRecDepth 100000 in
set_option maxHeartbeats 4000000 in
theorem bb_any (L : LookV) (k : KeyA) (v : Value) (pl : Nat) (w : World) (Kl : Blk w pl 90 (lookC L)) (hk : ∀ w', Below w.heap.size w w' → RunK L k v w') : Calls Tryz.prog 99 #[v, .pointer (some ⟨pl, 0, none⟩)] w fun ev w' => ev = .returned (.bool (!evalK k (lookF L))) ∧ Below w.heap.size w w' := by
  have HB := Below.refl w.heap.size w
  obtain ⟨F, caps, rfl, hcf, -⟩ := hk w HB
  rw [agg_look] at Kl
  refine calls_at 8 Tryz.func99 rfl rfl (Nat.le_of_ble_eq_true rfl) ?_
  intro a hA; replace hA := hA.norm
  refine wS (wR ?_)
  revert a; refine wo rfl rfl (by decide) (fun ev e h => by simp [go_sem, h, Kl.cell, hcf _ _] <;> rfl) ?_; intro a hA
  replace hA := hA.keepN [0, 1]
  refine wN (nT (wS (wR ?_)))
  revert a; (iterate 2 refine wo rfl rfl (by decide) (fun ev e h => by simp [go_sem, h, Kl.cell, hcf _ _] <;> rfl) ?_); intro a hA
  refine wl_call hA rfl rfl (by decide) (fun ev h => by simp [go_sem, h.get 4 rfl, h.get 5 rfl, Kl.cell, hcf _ _]; try first | exact ⟨rfl, rfl⟩ | rfl) ((hk _ HB).calls) ?_
  rintro e w2 ⟨rfl, hb2⟩
  refine ⟨_, rfl, fun a hA => ?_⟩
  replace HB := HB.trans (hb2.mono HB.size)
  revert a; (iterate 2 refine wo rfl rfl (by decide) (fun ev e h => by simp [go_sem, h, Kl.cell, hcf _ _] <;> rfl) ?_); intro a hA
  replace hA := hA.keepN [3]
  refine wN (nT (wp_ret ?_))
  refine ret_1 hA 3 rfl rfl ?_
  exact ⟨rfl, HB⟩
theorem evalL_cons (k : KeyA) (r : List KeyA) (x : LookS) : evalL (k :: r) x = (evalK k x && evalL r x) := by rw [evalL]
theorem evalL_nil (x : LookS) : evalL [] x = true := by rw [evalL]
set_option maxRecDepth 100000 in
set_option maxHeartbeats 4000000 in
theorem indexF_any (L : LookV) (ks : List KeyA) (vs : List Value) (A : Option Addr) (c pl : Nat) (w : World) (Kl : Blk w pl 90 (lookC L)) (hr : Reads w w.heap.size 1 A ks.length vs) (hvl : vs.length = ks.length) (hl : ks.length ≤ 9223372036854775807) (hk : ∀ (i : Nat) (k : KeyA) (v : Value), ks[i]? = some k → vs[i]? = some v → ∀ w', Below w.heap.size w w' → RunK L k v w') : Calls Tryz.prog 140 #[.slice A ks.length c, .func (.func 99) #[] #[.pointer (some ⟨pl, 0, none⟩)]] w fun ev w' => ∃ i : Int, ev = .returned (.int .i64 i) ∧ decide (0 ≤ i) = !evalL ks (lookF L) ∧ Below w.heap.size w w' := by
  refine calls_at 19 Tryz.func140 rfl rfl (Nat.le_of_ble_eq_true rfl) ?_
  intro a hA; replace hA := hA.norm
  refine wS (wR ?_)
  revert a; refine wo rfl rfl (by decide) (fun ev e h => by simp [go_sem, h] <;> rfl) ?_; intro a hA
  replace hA := hA.keepN [0, 1]
  refine wN (nT (wS (wS (wR ?_))))
  revert a; (iterate 3 refine wo rfl rfl (by decide) (fun ev e h => by simp [go_sem, h] <;> rfl) ?_); intro a hA
  replace hA := hA.keepN [0, 1, 7, 8]
  refine wN (nT (wB ?_))
  refine wp_loop_at (fun k a wx => ∃ j : Nat, j + k = ks.length ∧ evalL (ks.take j) (lookF L) = true ∧ Below w.heap.size w wx ∧ At 19 [(0, .slice A ks.length c), (1, .func (.func 99) #[] #[.pointer (some ⟨pl, 0, none⟩)]), (7, .int .i64 (ks.length : Nat)), (8, .int .i64 (j : Nat))] a) (ks.length) ?_ ?_
  · exact ⟨0, by omega, by rw [List.take_zero, evalL_nil], Below.refl _ _, hA⟩
  clear hA
  rintro k a wx ⟨j, hjk, hno, HB, hA⟩
  refine wS (wR ?_)
  revert a; refine wo rfl rfl (by decide) (fun ev e h => by simp [go_sem, h] <;> rfl) ?_; intro a hA
  replace hA := hA.keepN [0, 1, 7, 8, 9]
  refine wN (nT (wS ?_))
  refine wp_if hA 9 _ rfl (fun hq => ?yA) (fun hq => ?nA)
  case nA =>
    have hjn : ks.length ≤ j := by simp at hq; omega
    replace hA := hA.keepN []
    refine wp_exit (xT (xT (xB (nT (wS (wR ?_))))))
    revert a; refine wo rfl rfl (by decide) (fun ev e h => by simp [go_sem, h] <;> rfl) ?_; intro a hA
    replace hA := hA.keepN [4]
    refine wN (nT (wp_ret ?_))
    refine ret_1 hA 4 rfl rfl ?_
    rw [List.take_of_length_le hjn] at hno
    exact ⟨-1, rfl, by rw [hno]; rfl, HB⟩
  case yA =>
    have hjn : j < ks.length := by simp at hq; omega
    obtain ⟨x, hx⟩ : ∃ x, ks[j]? = some x := ⟨_, List.getElem?_eq_getElem hjn⟩
    obtain ⟨v, hv⟩ : ∃ v, vs[j]? = some v := ⟨_, List.getElem?_eq_getElem (by omega)⟩
    have hkv := hk j x v hx hv
    obtain ⟨ad, rfl, hadl, hc⟩ := hr.2 (by omega)
    have hcell : wx.cell? (ad.add j) = some v := (HB.cell (by rw [block_of_add]; exact hadl)).trans (hc j v hv)
    obtain ⟨F, caps, rfl, hcf, -⟩ := hkv wx HB
    have jj0 : (0 : Int) ≤ (j : Int) := by omega
    have jj1 : (j : Int) < (ks.length : Int) := by omega
    have i3 : IntKind.i64.wrap (((j : Nat) : Int) + 1) = ((j + 1 : Nat) : Int) := by rw [IntWalk.i64_in _ (by omega)]; omega
    have htake : ks.take (j + 1) = ks.take j ++ [x] := by
      rw [List.take_add_one, hx]
      rfl
    refine wp_skip (nT (wS (wB (wS (wR ?_)))))
    revert a; (iterate 2 refine wo rfl rfl (by decide) (fun ev e h => by simp [go_sem, h, hcell, jj0, jj1] <;> rfl) ?_); intro a hA
    replace hA := hA.keepN [0, 1, 5, 7, 8]
    refine wN (nT (wS (wR ?_)))
    revert a; (iterate 5 refine wo rfl rfl (by decide) (fun ev e h => by simp [go_sem, h, hcell, jj0, jj1] <;> rfl) ?_); intro a hA
    refine wl_call hA rfl rfl (by decide) (fun ev h => by simp [go_sem, h.get 11 rfl, h.get 15 rfl, hcell, jj0, jj1]; try first | exact ⟨rfl, rfl⟩ | rfl) (bb_any L x _ pl wx (Kl.below HB Kl.lt) (fun w' hb => hkv w' (HB.trans (hb.mono HB.size)))) ?_
    rintro e w2 ⟨rfl, hb2⟩
    refine ⟨_, rfl, fun a hA => ?_⟩
    replace HB := HB.trans (hb2.mono HB.size)
    obtain ⟨e, he⟩ : ∃ e, evalK x (lookF L) = e := ⟨_, rfl⟩
    rw [he] at hA
    replace hA := hA.keepN [0, 1, 5, 7, 8, 16]
    refine wN (nT ?_)
    refine wp_if hA 16 _ rfl (fun hq2 => ?yB) (fun hq2 => ?nB)
    case nB =>
      have he1 : e = true := by simpa using hq2
      subst he1
      refine wp_skip (nB (nT (wR ?_)))
      revert a; (iterate 2 refine wo rfl rfl (by decide) (fun ev e h => by simp [go_sem, h, i3] <;> rfl) ?_); intro a hA
      replace hA := hA.keepN [0, 1, 7, 8]
      refine wN (nT ?_)
      refine ⟨k - 1, by omega, j + 1, by omega, ?_, HB, hA⟩
      rw [htake, evalL_app, hno, evalL_cons, he, evalL_nil]
      rfl
    case yB =>
      have he1 : e = false := by simpa using hq2
      subst he1
      refine wS (wR ?_)
      revert a; (iterate 2 refine wo rfl rfl (by decide) (fun ev e h => by simp [go_sem, h, hcell, jj0, jj1] <;> rfl) ?_); intro a hA
      replace hA := hA.keepN [4]
      refine wN (nT (wp_ret (rB (rT (rT (rB (rT ?_)))))))
      refine ret_1 hA 4 rfl rfl ?_
      refine ⟨(j : Int), rfl, ?_, HB⟩
      have : evalL ks (lookF L) = false := by
        rw [← List.take_append_drop (j + 1) ks, evalL_app, htake, evalL_app, evalL_cons, he]
        simp
      rw [this, decide_eq_true jj0]
      rfl
set_option maxRecDepth 100000 in
set_option maxHeartbeats 4000000 in
theorem containsF_any (L : LookV) (ks : List KeyA) (vs : List Value) (A : Option Addr) (c pl : Nat) (w : World) (Kl : Blk w pl 90 (lookC L)) (hr : Reads w w.heap.size 1 A ks.length vs) (hvl : vs.length = ks.length) (hl : ks.length ≤ 9223372036854775807) (hk : ∀ (i : Nat) (k : KeyA) (v : Value), ks[i]? = some k → vs[i]? = some v → ∀ w', Below w.heap.size w w' → RunK L k v w') : Calls Tryz.prog 98 #[.slice A ks.length c, .func (.func 99) #[] #[.pointer (some ⟨pl, 0, none⟩)]] w fun ev w' => ev = .returned (.bool (!evalL ks (lookF L))) ∧ Below w.heap.size w w' := by
  refine calls_at 9 Tryz.func98 rfl rfl (Nat.le_of_ble_eq_true rfl) ?_
  intro a hA; replace hA := hA.norm
  refine wS (wR ?_)
  revert a; refine wo rfl rfl (by decide) (fun ev e h => by simp [go_sem, h] <;> rfl) ?_; intro a hA
  replace hA := hA.keepN [0, 1]
  refine wN (nT (wS (wR ?_)))
  revert a; (iterate 2 refine wo rfl rfl (by decide) (fun ev e h => by simp [go_sem, h] <;> rfl) ?_); intro a hA
  refine wl_call hA rfl rfl (by decide) (fun ev h => exec_call Tryz.func140 (by kernel_rfl) rfl (h.f _) (by first | (simp only [mL, h.get 5 rfl, h.get 6 rfl, h.c] <;> rfl) | (simp [mL, h.get 5 rfl, h.get 6 rfl, h.c] <;> rfl))) (indexF_any L ks vs A c pl w Kl hr hvl hl hk) ?_
  rintro e w2 ⟨i, rfl, hi, hb2⟩
  refine ⟨_, rfl, fun a hA => ?_⟩
  revert a; (iterate 2 refine wo rfl rfl (by decide) (fun ev e h => by simp [go_sem, h] <;> rfl) ?_); intro a hA
  replace hA := hA.keepN [4]
  refine wN (nT (wp_ret ?_))
  refine ret_1 hA 4 rfl rfl ?_
  refine ⟨ret_bool ?_, hb2⟩
  rw [← hi]
set_option maxRecDepth 100000 in
set_option maxHeartbeats 4000000 in
theorem run_both (L : LookV) (ks : List KeyA) (vs : List Value) (v : Value) (lo q : Nat) (w : World) (h : LookAt w L) (Kq : Blk w q 146 #[v]) (hv : w.ownsRow lo 87 1 v ks.length vs) (hk : ∀ (i : Nat) (k : KeyA) (v : Value), ks[i]? = some k → vs[i]? = some v → ∀ w', Below w.heap.size w w' → RunK L k v w') : RunK L (.both ks) (.func (.func 97) #[] #[.pointer (some ⟨q, 0, none⟩)]) w := by
  refine ⟨_, _, rfl, enters Tryz.func97 (by kernel_rfl), ?_⟩
  show Calls Tryz.prog _ #[.agg (lookC L), .pointer (some ⟨q, 0, none⟩)] w _
  rw [evalK]
  have HB := Below.refl w.heap.size w
  obtain ⟨A1, c1, rfl, hr1, hn1, hc1⟩ := own_readsM hv
  have hl : ks.length ≤ 9223372036854775807 := by unfold maxLen at hc1; omega
  have hvl : vs.length = ks.length := by have := hv.1; omega
  refine calls_at 8 Tryz.func97 rfl rfl (Nat.le_of_ble_eq_true rfl) ?_
  intro a hA; replace hA := hA.norm
  refine wS (wR ?_)
  refine wl_new hA rfl rfl (by decide) (fun ev h => by simp [go_sem, h.get 0 rfl]; try first | exact ⟨rfl, rfl⟩ | rfl) fun w1 a (K1 : Blk _ _ _ _) hz1 hb1 hA => ?_
  replace HB := HB.trans (hb1.mono HB.size)
  replace h := h.below hb1
  replace Kq := Kq.below hb1 Kq.lt
  replace hr1 := (hr1.below hb1).more hb1.size
  revert a; refine wo rfl rfl (by decide) (fun ev e h => by simp [go_sem, h, Kq.cell, K1.cell] <;> rfl) ?_; intro a hA
  replace hA := hA.keepN [1, 2]
  refine wN (nT (wS (wR ?_)))
  revert a; (iterate 2 refine wo rfl rfl (by decide) (fun ev e h => by simp [go_sem, h, Kq.cell, K1.cell] <;> rfl) ?_); intro a hA
  refine wl_call hA rfl rfl (by decide) (fun ev h => exec_call Tryz.func98 (by kernel_rfl) rfl (h.f _) (by first | (simp only [mL, h.get 4 rfl, h.get 5 rfl, h.c] <;> rfl) | (simp [mL, h.get 4 rfl, h.get 5 rfl, h.c, Kq.cell, K1.cell] <;> rfl))) (containsF_any L ks vs A1 c1 w.heap.size _ K1 hr1 hvl hl (fun i k v e1 e2 w' hb => hk i k v e1 e2 w' (HB.trans (hb.mono HB.size)))) ?_
  rintro e w2 ⟨rfl, hb2⟩
  refine ⟨_, rfl, fun a hA => ?_⟩
  replace HB := HB.trans (hb2.mono HB.size)
  replace h := h.below hb2
  replace Kq := Kq.below hb2 Kq.lt
  replace hr1 := (hr1.below hb2).more hb2.size
  revert a; (iterate 2 refine wo rfl rfl (by decide) (fun ev e h => by simp [go_sem, h, Kq.cell, K1.cell] <;> rfl) ?_); intro a hA
  replace hA := hA.keepN [3]
  refine wN (nT (wp_ret ?_))
  refine ret_1 hA 3 rfl rfl ?_
  exact ⟨ret_bool (by simp), HB⟩
/-- a key's closure answers what the key says -/
theorem run_key {lo hi : Nat} {w : World} {k : KeyA} {v : Value} (h : IsKey lo hi w k v) (L : LookV) : ∀ w', Below w.heap.size w w' → LookAt w' L → RunK L k v w' := by
  induction h with
  | never => exact fun w' _ _ => run_never L w'
  | all => exact fun w' _ _ => run_all L w'
  | field hp hq a b c d => exact fun w' hb hL => run_field L _ _ _ _ w' hL (hp.below hb hp.lt) (hq.below hb hq.lt) c d
  | body hq b d => exact fun w' hb hL => run_body L _ _ w' hL (hq.below hb hq.lt) d
  | text hq b d => exact fun w' hb hL => run_text L _ _ w' hL (hq.below hb hq.lt) d
  | larger hq b => exact fun w' hb hL => run_larger L _ _ w' hL (hq.below hb hq.lt)
  | smaller hq b => exact fun w' hb hL => run_smaller L _ _ w' hL (hq.below hb hq.lt)
  | set hp hq hv hl a b c d => exact fun w' hb hL => run_set L _ _ _ _ _ _ w' hL (hp.below hb hp.lt) (hq.below hb hq.lt) (own_below hv hb) c d
  | flag hp hq a b c => exact fun w' hb hL => run_flag L _ _ _ _ w' hL (hp.below hb hp.lt) (hq.below hb hq.lt) c
  | not hq b _ ih => exact fun w' hb hL => run_not L _ _ _ w' hL (hq.below hb hq.lt) fun w2 hb2 => ih w2 (hb.trans (hb2.mono hb.size)) (hL.below hb2)
  | or hp hq a b _ _ ih1 ih2 => exact fun w' hb hL => run_or L _ _ _ _ _ _ w' hL (hp.below hb hp.lt) (hq.below hb hq.lt) (fun w2 hb2 => ih1 w2 (hb.trans (hb2.mono hb.size)) (hL.below hb2)) (fun w2 hb2 => ih2 w2 (hb.trans (hb2.mono hb.size)) (hL.below hb2))
  | both hq b hv hl _ ih => exact fun w' hb hL => run_both L _ _ _ _ _ w' hL (hq.below hb hq.lt) (own_below hv hb) fun i k x e1 e2 w2 hb2 => ih i k x e1 e2 w2 (hb.trans (hb2.mono hb.size)) (hL.below hb2)
end Go.Proofs.YtjhaccmcjlbllaaGreatDoor
/-
  Walk: search.Find.
-/
namespace Go.Proofs.YtjhaccmcjlbllaaGreatDoor
open Go.RowKit
set_option linter.unusedSimpArgs false
set_option linter.unusedVariables false
/-- what is seen of a message -/
def seesM (ms : List MsgV) (i : Nat) (m : MsgV) : LookS := ⟨m.flags, m.b, m.uid, i, ms.length, lastUid ms⟩
def isSo (k : KeyA) (ms : List MsgV) (i : Nat) : Bool := match ms[i]? with
  | some m => evalK k (seesM ms i m)
  | none => false
/-- which messages are found -/
def findS (o : Option KeyA) (ms : List MsgV) : List Nat := match o with
  | none => []
  | some k => (List.range ms.length).filter (isSo k ms)
def natSh : Sh Nat := ⟨3, 53, 1, 8, .int .i64 0, fun x => [.int .i64 (x : Nat)], fun _ => [], fun _ => rfl, fun x u hu => by
  rw [List.mem_singleton.1 hu]
  rfl, Tryz.underlying53, by kernel_rfl, rfl, by decide, by decide⟩
set_option maxRecDepth 100000 in
set_option maxHeartbeats 4000000 in
theorem find_any (nm : ByteArray) (ep nx : Int) (A : Option Addr) (c : Nat) (ms : List MsgV) (A2 : Option Addr) (c2 : Nat) (l : List TokI) (w : World) (hms : Msgs w A ms.length ms) (hlen : ms.length ≤ 1000000) (hbig : ∀ m ∈ ms, m.b.length ≤ 1048576) (hr : RowR tokISh w A2 l) (hw : Fine w) (hl : l.length ≤ 50000000) (ht : ∀ t ∈ l, t.t.length ≤ 1048576) :
    Calls Tryz.prog 23 #[.agg #[.string nm, .int .u32 ep, .int .u32 nx, .slice A ms.length c], .slice A2 l.length c2] w fun ev w' => ∃ v, ev = .returned v ∧ OwnR natSh w.heap.size w' v (findS (readP l) ms) ∧ Below w.heap.size w w' := by
  have HB := Below.refl w.heap.size w
  refine calls_at 29 Tryz.func23 rfl rfl (Nat.le_of_ble_eq_true rfl) ?_
  intro a hA; replace hA := hA.norm
  refine wS (wR ?_)
  refine wl_new hA rfl rfl (by decide) (fun ev h => by simp [go_sem, h.get 0 rfl]; try first | exact ⟨rfl, rfl⟩ | rfl) fun w1 a (K1 : Blk _ _ _ _) hz1 hb1 hA => ?_
  replace HB := HB.trans (hb1.mono HB.size)
  replace hms := hms.below hb1
  replace hr := hr.below hb1
  replace hw := hw.below hb1
  revert a; refine wo rfl rfl (by decide) (fun ev e h => by simp [go_sem, h] <;> rfl) ?_; intro a hA
  replace hA := hA.keepN [1, 2]
  refine wN (nT (wS (wR ?_)))
  revert a; refine wo rfl rfl (by decide) (fun ev e h => by simp [go_sem, h] <;> rfl) ?_; intro a hA
  refine wl_call hA rfl rfl (by decide) (fun ev h => exec_call Tryz.func45 (by kernel_rfl) rfl (h.f _) (by first | (simp only [mL, h.get 8 rfl, h.c] <;> rfl) | (simp [mL, h.get 8 rfl, h.c] <;> rfl))) (read_any A2 c2 l _ hr hw hl ht) ?_
  rintro e w2 ⟨v, rfl, hb2, hP⟩
  refine ⟨_, rfl, fun a hA => ?_⟩
  replace HB := HB.trans (hb2.mono HB.size)
  replace hms := hms.below hb2
  replace hw := hw.below hb2
  replace K1 := K1.below hb2 K1.lt
  cases hk : readP l with
  | none =>
    rw [hk] at hP
    have hP : v = .nilFunc := hP
    subst hP
    revert a; refine wo rfl rfl (by decide) (fun ev e h => by simp [go_sem, h] <;> rfl) ?_; intro a hA
    replace hA := hA.keepN [2, 5]
    refine wN (nT (wS (wS (wR ?_))))
    revert a; (iterate 2 refine wo rfl rfl (by decide) (fun ev e h => by simp [go_sem, h] <;> rfl) ?_); intro a hA
    replace hA := hA.keepN [2, 5, 11]
    refine wN (nT ?_)
    refine wp_if hA 11 _ rfl (fun hq => ?yA) (fun hq => ?nA)
    case nA => cases hq
    case yA =>
      refine wS (wR ?_)
      revert a; refine wo rfl rfl (by decide) (fun ev e h => by simp [go_sem, h] <;> rfl) ?_; intro a hA
      replace hA := hA.keepN [4]
      refine wN (nT (wp_ret (rT ?_)))
      refine ret_1 hA 4 rfl rfl ?_
      exact ⟨_, rfl, OwnR.nil _ _, HB⟩
  | some k =>
    rw [hk] at hP
    obtain ⟨⟨f0, a0, c0, rfl⟩, hK⟩ := hP
    revert a; refine wo rfl rfl (by decide) (fun ev e h => by simp [go_sem, h] <;> rfl) ?_; intro a hA
    replace hA := hA.keepN [2, 5]
    refine wN (nT (wS (wS (wR ?_))))
    revert a; (iterate 2 refine wo rfl rfl (by decide) (fun ev e h => by simp [go_sem, h] <;> rfl) ?_); intro a hA
    replace hA := hA.keepN [2, 5, 11]
    refine wN (nT ?_)
    refine wp_if hA 11 _ rfl (fun hq => ?yA) (fun hq => ?nA)
    case yA => cases hq
    case nA =>
      refine wp_skip (nT (wS (wR ?_)))
      revert a; refine wo rfl rfl (by decide) (fun ev e h => by simp [go_sem, h, K1.cell] <;> rfl) ?_; intro a hA
      replace hA := hA.keepN [2, 5, 6]
      refine wN (nT (wS (wS (wR ?_))))
      revert a; (iterate 4 refine wo rfl rfl (by decide) (fun ev e h => by simp [go_sem, h, K1.cell] <;> rfl) ?_); intro a hA
      replace hA := hA.keepN [2, 5, 6, 14, 15]
      refine wN (nT (wB ?_))
      refine wp_loop_at (fun f a wx => ∃ (j : Nat) (V : Value), j + f = ms.length ∧ OwnR natSh w2.heap.size wx V ((List.range j).filter (isSo k ms)) ∧ Below w2.heap.size w2 wx ∧ At 29 [(2, .pointer (some ⟨w.heap.size, 0, none⟩)), (5, .func f0 a0 c0), (6, V), (14, .int .i64 (ms.length : Nat)), (15, .int .i64 (j : Nat))] a) (ms.length) ?_ ?_
      · exact ⟨0, _, by omega, OwnR.nil _ _, Below.refl _ _, hA⟩
      clear hA
      rintro f a wx ⟨j, V, hjf, ho, HB2, hA⟩
      refine wS (wR ?_)
      revert a; refine wo rfl rfl (by decide) (fun ev e h => by simp [go_sem, h] <;> rfl) ?_; intro a hA
      replace hA := hA.keepN [2, 5, 6, 14, 15, 16]
      refine wN (nT (wS ?_))
      refine wp_if hA 16 _ rfl (fun hq2 => ?yB) (fun hq2 => ?nB)
      case nB =>
        have hjn : j = ms.length := by simp at hq2; omega
        subst hjn
        replace hA := hA.keepN [6]
        refine wp_exit (xT (xT (xB (nT (wS (wR ?_))))))
        revert a; (iterate 2 refine wo rfl rfl (by decide) (fun ev e h => by simp [go_sem, h] <;> rfl) ?_); intro a hA
        replace hA := hA.keepN [4]
        refine wN (nT (wp_ret ?_))
        refine ret_1 hA 4 rfl rfl ?_
        exact ⟨V, rfl, ho.mono HB.size, HB.trans (HB2.mono HB.size)⟩
      case yB =>
        have hjn : j < ms.length := by simp at hq2; omega
        obtain ⟨m, hm⟩ : ∃ m, ms[j]? = some m := ⟨_, List.getElem?_eq_getElem hjn⟩
        have hLA : ∀ w', Below w2.heap.size w2 w' → LookAt w' ⟨nm, ep, nx, A, c, ms, j, m⟩ := fun w' hb => ⟨hms.below hb, hm, hlen, hbig m (List.mem_of_getElem? hm), (hw.below hb).len⟩
        have hRK := run_key hK ⟨nm, ep, nx, A, c, ms, j, m⟩
        obtain ⟨F, caps, hF, hcf, -⟩ := hRK wx HB2 (hLA wx HB2)
        injection hF with hF1 hF2 hF3
        subst hF1 hF2 hF3
        have Kx := K1.below HB2 K1.lt
        have i3 : IntKind.i64.wrap (((j : Nat) : Int) + 1) = ((j + 1 : Nat) : Int) := by rw [IntWalk.i64_in _ (by omega)]; omega
        refine wp_skip (nT (wS (wB (wS (wR ?_)))))
        revert a; (iterate 2 refine wo rfl rfl (by decide) (fun ev e h => by simp [go_sem, h, Kx.cell, hcf _ _] <;> rfl) ?_); intro a hA
        replace hA := hA.keepN [2, 5, 6, 7, 14, 15]
        refine wN (nT (wS (wR ?_)))
        revert a; (iterate 4 refine wo rfl rfl (by decide) (fun ev e h => by simp [go_sem, h, Kx.cell, hcf _ _] <;> rfl) ?_); intro a hA
        refine wl_call hA rfl rfl (by decide) (fun ev h => by simp [go_sem, h.get 18 rfl, h.get 21 rfl, Kx.cell, hcf _ _]; try first | exact ⟨rfl, rfl⟩ | rfl) ((hRK wx HB2 (hLA wx HB2)).calls) ?_
        rintro e w3 ⟨rfl, hb3⟩
        refine ⟨_, rfl, fun a hA => ?_⟩
        obtain ⟨e, he⟩ : ∃ e, evalK k (lookF ⟨nm, ep, nx, A, c, ms, j, m⟩) = e := ⟨_, rfl⟩
        rw [he] at hA
        have hso : isSo k ms j = e := by
          unfold isSo
          rw [hm]
          exact he
        have hz := HB.size
        have hz2 := HB2.size
        have HB3 := HB2.trans (hb3.mono HB2.size)
        have ho3 := ho.below hb3
        have hz3 := hb3.size
        have hfl : ((List.range j).filter (isSo k ms)).length ≤ j := by
          have := List.length_filter_le (isSo k ms) (List.range j)
          rw [List.length_range] at this
          exact this
        replace hA := hA.keepN [2, 5, 6, 7, 14, 15, 22]
        refine wN (nT ?_)
        refine wp_if hA 22 _ rfl (fun hq3 => ?yC) (fun hq3 => ?nC)
        case nC =>
          have he1 : e = false := by simpa using hq3
          subst he1
          refine wp_skip (nB (nT (wR ?_)))
          revert a; (iterate 2 refine wo rfl rfl (by decide) (fun ev e h => by simp [go_sem, h, i3] <;> rfl) ?_); intro a hA
          replace hA := hA.keepN [2, 5, 6, 14, 15]
          refine wN (nT ?_)
          refine ⟨f - 1, by omega, j + 1, V, by omega, ?_, HB3, hA⟩
          rw [List.range_succ, List.filter_append]
          simpa [hso] using ho3
        case yC =>
          have he1 : e = true := by simpa using hq3
          subst he1
          refine wR ?_
          revert a; (iterate 2 refine wo rfl rfl (by decide) (fun ev e h => by simp [go_sem, h, Kx.cell, hcf _ _] <;> rfl) ?_); intro a hA
          refine wl_new hA rfl rfl (by decide) (fun ev h => by simp [go_sem, h.get 24 rfl, Kx.cell, hcf _ _]; try first | exact ⟨rfl, rfl⟩ | rfl) fun w4 a (K4 : Blk _ _ _ _) hz4 hb4 hA => ?_
          have hrow : RowR natSh w4 _ [j] := rowR_blk (s := natSh) (x := j) K4 (fun p hp => (by cases hp))
          obtain ⟨r, w5, hrun, ho5, hg5, -⟩ := run_appR (c := 1) (ho3.below hb4) hrow (fun _ _ m _ p hp => (by cases hp)) (by simp; omega) (by omega)
          refine wl_op hA rfl rfl (by decide) (fun ev h => exec_append rfl (h.get 23 rfl) (h.get 25 rfl) hrun) fun a hA => ?_
          revert a; refine wo rfl rfl (by decide) (fun ev e h => by simp [go_sem, h, i3] <;> rfl) ?_; intro a hA
          replace hA := hA.keepN [2, 5, 6, 14, 15]
          refine wN (nB (nT (wR ?_)))
          revert a; (iterate 2 refine wo rfl rfl (by decide) (fun ev e h => by simp [go_sem, h, i3] <;> rfl) ?_); intro a hA
          replace hA := hA.keepN [2, 5, 6, 14, 15]
          refine wN (nT ?_)
          refine ⟨f - 1, by omega, j + 1, r, by omega, ?_, ?_, hA⟩
          · rw [List.range_succ, List.filter_append]
            simpa [hso] using ho5
          · exact (HB3.trans (hb4.mono HB3.size)).grown hg5 (by omega) fun g e => (ho3.row.lt g e).1
end Go.Proofs.YtjhaccmcjlbllaaGreatDoor
/-
  New memory, under a guard that is known.
-/
namespace Go.Proofs.YtjhaccmcjlbllaaGreatDoor
open Go Go.RowKit
/-- new memory, under a guard that is so -/
theorem wl_gnew {P : Program} {Q : Exit → Act → World → Prop} {a : Act} {w : World} {n : Nat} {Γ : Env} {l rest : List Oper} {o : Oper} {t gi gt : Nat} {b : Bool} {v : Value} {x : Obj} (hA : At n Γ a) (hg : o.guard = some (gi, b)) (hgd : (l[gi]?).bind (·.dst) = some gt) (hl : look Γ gt = some (.bool b)) (hd : o.dst = some t) (ht : t < n)
    (hrun : ∀ ev, EvIn Γ ev → (execOp ev o).run P w = .ok (.value v) (w.alloc x))
    (hk : ∀ w1 a', w1.heap[w.heap.size]? = some x → w1.heap.size = w.heap.size + 1 → Below w.heap.size w w1 → At n ((t, v) :: Γ) a' → wpList P l.toArray Q rest a' w1) : wpList P l.toArray Q (o :: rest) a w := by
  have hw : Region.wanted o (yielded l.toArray a.tmps) = true := by
    rw [wanted_eq]
    exact wanted_bool (r := true) hg hgd (hA.evin.get gt hl) (by cases b <;> rfl)
  refine wpList_step fun K hK => ?_
  rw [hw, if_pos rfl]
  unfold Oper.wp
  rw [hrun _ hA.evin, Oper.upon_value, hd]
  exact hK _ _ (hk _ _ (heap_alloc_new w x) (by simp) ((Below.refl _ _).alloc (Nat.le_refl _) x) (hA.put ht v))
/-- a call under a guard that is so -/
theorem wl_kcall {P : Program} {Q : Exit → Act → World → Prop} {a : Act} {w : World} {n : Nat} {Γ : Env} {l rest : List Oper} {o : Oper} {t gi gt : Nat} {b : Bool} {f : FuncId} {args : Array Value} {R : Ending → World → Prop} (hA : At n Γ a) (hg : o.guard = some (gi, b)) (hgd : (l[gi]?).bind (·.dst) = some gt) (hl : look Γ gt = some (.bool b)) (hd : o.dst = some t) (ht : t < n)
    (hrun : ∀ ev, EvIn Γ ev → (execOp ev o).run P w = .ok (.enter f args) w) (hc : Calls P f args w R)
    (hk : ∀ e w', R e w' → ∃ v, e = .returned v ∧ ∀ a', At n ((t, v) :: Γ) a' → wpList P l.toArray Q rest a' w') : wpList P l.toArray Q (o :: rest) a w := by
  have hw : Region.wanted o (yielded l.toArray a.tmps) = true := by
    rw [wanted_eq]
    exact wanted_bool (r := true) hg hgd (hA.evin.get gt hl) (by cases b <;> rfl)
  refine wpList_step fun K hK => ?_
  rw [hw, if_pos rfl]
  unfold Oper.wp
  rw [hrun _ hA.evin, Oper.upon_enter]
  refine Calls.mono hc fun e w' hR => ?_
  obtain ⟨v, rfl, h⟩ := hk e w' hR
  rw [hd]
  exact hK _ _ (h _ (hA.put ht v))
end Go.Proofs.YtjhaccmcjlbllaaGreatDoor
/-
  Walks: what the statements on searches ask first.
-/
namespace Go.Proofs.YtjhaccmcjlbllaaGreatDoor
open Go.RowKit
set_option linter.unusedSimpArgs false
set_option linter.unusedVariables false
def tALL : TokI := ⟨1, [97, 108, 108]⟩
theorem read_all : readP [tALL] = some (.both [.all]) := by kernel_rfl
def zMsg : MsgV := ⟨0, 0, 0, none, 0, []⟩
theorem find_all : findS (some (.both [.all])) [zMsg, zMsg] = [0, 1] := by
  have e : ∀ i, isSo (.both [.all]) [zMsg, zMsg] i = (([zMsg, zMsg] : List MsgV)[i]?).isSome := fun i => by
    unfold isSo
    cases ([zMsg, zMsg] : List MsgV)[i]? with
    | none => rfl
    | some m => show evalK _ _ = true; rw [evalK, evalL, evalK, evalL]; rfl
  unfold findS
  simp only
  rw [show (List.range ([zMsg, zMsg] : List MsgV).length) = [0, 1] from rfl]
  simp [e]
theorem reads_none8 (w : World) : Reads w w.heap.size 1 none 0 (u8s []) := Reads.none8
set_option maxRecDepth 100000 in
set_option maxHeartbeats 4000000 in
theorem awake17_any (w : World) (hw : Fine w) : Calls Tryz.prog 19 #[] w fun ev w' => ev = .returned (.bool true) ∧ Below w.heap.size w w' := by
  have HB := Below.refl w.heap.size w
  refine calls_at 14 Tryz.func19 rfl rfl (Nat.le_of_ble_eq_true rfl) ?_
  intro a hA; replace hA := hA.norm
  refine wS (wR ?_)
  revert a; refine wo rfl rfl (by decide) (fun ev e h => by simp [go_sem, h] <;> rfl) ?_; intro a hA
  replace hA := hA.keepN []
  refine wN (nT (wS (wR ?_)))
  revert a; refine wo rfl rfl (by decide) (fun ev e h => by simp [go_sem, h] <;> rfl) ?_; intro a hA
  refine wl_new hA rfl rfl (by decide) (fun ev h => by simp [go_sem, h.get 2 rfl]; try first | exact ⟨rfl, rfl⟩ | rfl) fun w1 a (K1 : Blk _ _ _ _) hz1 hb1 hA => ?_
  replace HB := HB.trans (hb1.mono HB.size)
  replace hw := hw.below hb1
  have hrow : RowR tokISh w1 _ [tALL] := rowR_blk (s := tokISh) (x := tALL) K1 (fun p hp => (by cases hp))
  revert a; refine wo rfl rfl (by decide) (fun ev e h => by simp [go_sem, h] <;> rfl) ?_; intro a hA
  replace hA := hA.keepN [1]
  refine wN (nT (wS (wR ?_)))
  revert a; refine wo rfl rfl (by decide) (fun ev e h => by simp [go_sem, h] <;> rfl) ?_; intro a hA
  refine wl_call hA rfl rfl (by decide) (fun ev h => exec_call Tryz.func25 (by kernel_rfl) rfl (h.f _) (by first | (simp only [mL, h.get 4 rfl, h.c] <;> rfl) | (simp [mL, h.get 4 rfl, h.c] <;> rfl))) (right_any _ 1 [tALL] _ hrow hw (by decide) (by intro t h; rw [List.mem_singleton.1 h]; decide)) ?_
  rintro e w2 ⟨rfl, hb2⟩
  refine ⟨_, rfl, fun a hA => ?_⟩
  replace HB := HB.trans (hb2.mono HB.size)
  replace hw := hw.below hb2
  replace hrow := hrow.below hb2
  rw [read_all] at hA
  revert a; refine wo rfl rfl (by decide) (fun ev e h => by simp [go_sem, h] <;> rfl) ?_; intro a hA
  refine wl_gnew hA rfl rfl rfl rfl (by decide) (fun ev h => by simp [go_sem, h.c]; try first | exact ⟨rfl, rfl⟩ | rfl) fun w3 a (K3 : Blk _ _ _ _) hz3 hb3 hA => ?_
  replace HB := HB.trans (hb3.mono HB.size)
  replace hw := hw.below hb3
  replace hrow := hrow.below hb3
  have hms : Msgs w3 (some ⟨w2.heap.size, 0, none⟩) 2 [zMsg, zMsg] := by
    have K3' : Blk w3 w2.heap.size 25 ([zMsg, zMsg].flatMap msgC).toArray := (show (_ : Array Value) = _ from by kernel_rfl : Array.map _ _ = ([zMsg, zMsg].flatMap msgC).toArray) ▸ K3
    refine ⟨rfl, ⟨rfl, fun _ => ⟨_, rfl, K3'.lt, fun j u hu => ?_⟩⟩, fun m hm => ?_, fun m hm => ?_, fun m hm => ?_⟩
    · rw [add0]
      exact (K3'.cell j).trans (by simpa using hu)
    · have : m = zMsg := by simpa using hm
      subst this
      exact Reads.none8
    · have : m = zMsg := by simpa using hm
      subst this
      decide
    · have : m = zMsg := by simpa using hm
      subst this
      decide
  have hzb : ∀ m ∈ [zMsg, zMsg], m.b.length ≤ 1048576 := by
    intro m hm
    have : m = zMsg := by simpa using hm
    subst this
    decide
  revert a; (iterate 2 refine wg _ rfl rfl rfl rfl (by decide) (fun hq ev e h => by simp [go_sem, h, ↓gw_t (beq_t hq)] <;> rfl) ?_); intro a hA
  refine wl_kcall hA rfl rfl rfl rfl (by decide) (fun ev h => exec_call Tryz.func23 (by kernel_rfl) rfl (h.f _) (by first | (simp only [mL, h.get 8 rfl, h.get 9 rfl, h.c] <;> rfl) | (simp [mL, h.get 8 rfl, h.get 9 rfl, h.c] <;> rfl))) (find_any ⟨#[]⟩ 0 0 (some ⟨w2.heap.size, 0, none⟩) 2 [zMsg, zMsg] _ 1 [tALL] _ hms (by decide) hzb hrow hw (by decide) (by intro t h; rw [List.mem_singleton.1 h]; decide)) ?_
  rintro e w4 ⟨v, rfl, ho, hb4⟩
  refine ⟨_, rfl, fun a hA => ?_⟩
  replace HB := HB.trans (hb4.mono HB.size)
  replace hw := hw.below hb4
  replace hrow := hrow.below hb4
  rw [read_all, find_all] at ho
  obtain ⟨A4, c4, rfl, -, -⟩ := ho.reads
  revert a; (iterate 2 refine wg _ rfl rfl rfl rfl (by decide) (fun hq ev e h => by simp [go_sem, h, ↓gw_t (beq_t hq)] <;> rfl) ?_); refine wka rfl rfl (by decide) rfl rfl rfl ?_; refine wo rfl rfl (by decide) (fun ev e h => by simp [go_sem, h] <;> rfl) ?_; intro a hA
  replace hA := hA.keepN [0]
  refine wN (nT (wp_ret ?_))
  refine ret_1 hA 0 rfl rfl ?_
  exact ⟨rfl, HB⟩
end Go.Proofs.YtjhaccmcjlbllaaGreatDoor
/-
  Walk: the statement on deep keys.
-/
namespace Go.Proofs.YtjhaccmcjlbllaaGreatDoor
open Go.RowKit
set_option linter.unusedSimpArgs false
set_option linter.unusedVariables false
set_option maxRecDepth 100000 in
set_option maxHeartbeats 4000000 in
theorem atom_any (s : ByteArray) (w : World) : Calls Tryz.prog 26 #[.string s] w fun ev w' => ev = .returned (.agg #[.int .i64 1, .string s]) ∧ Below w.heap.size w w' := by
  have HB := Below.refl w.heap.size w
  refine calls_at 5 Tryz.func26 rfl rfl (Nat.le_of_ble_eq_true rfl) ?_
  intro a hA; replace hA := hA.norm
  refine wS (wR ?_)
  refine wl_new hA rfl rfl (by decide) (fun ev h => by simp [go_sem]; try first | exact ⟨rfl, rfl⟩ | rfl) fun w1 a (K1 : Blk _ _ _ _) hz1 hb1 hA => ?_
  replace HB := HB.trans (hb1.mono HB.size)
  replace hA := hA.keepN [0, 2]
  refine wN (nT (wS (wR ?_)))
  revert a; (iterate 2 refine wo rfl rfl (by decide) (fun ev e h => by simp [go_sem, h] <;> rfl) ?_); intro a hA
  refine wl_set [.int .i64 1, .string s] hA rfl rfl K1 (by rfl) (fun ev h => by simp [go_sem, h.get 2 rfl, h.get 4 rfl, setAll, K1.cell, K1.frozen]) fun w2 (K1 : Blk _ _ _ _) hs2 => ?_
  replace HB := hs2.below HB (by omega)
  replace hA := hA.keepN [2]
  refine wN (nT (wp_ret ?_))
  refine bodyPost_ret (by simp [results, Tryz.results26, go_sem, hA.env 2 _ rfl, K1.cell]; try first | exact ⟨rfl, rfl⟩ | rfl) hA.defers ?_
  exact ⟨rfl, HB⟩
def tNOT : TokI := ⟨1, [78, 79, 84]⟩
def tAll : TokI := ⟨1, [65, 76, 76]⟩
def nots (m : Nat) : List TokI := List.replicate m tNOT
theorem deep_all : ∀ m : Fin 20, (readP (nots m.1 ++ [tAll])).isSome = decide (m.1 < 10) := by decide +kernel
theorem read_nil : readP [] = none := by kernel_rfl
theorem nots_succ (m : Nat) : nots (m + 1) = nots m ++ [tNOT] := List.replicate_succ'
theorem nots_tok (m : Nat) : ∀ t ∈ nots m ++ [tAll], t.t.length ≤ 1048576 := by
  intro t h
  rcases List.mem_append.1 h with h | h
  · rw [(List.mem_replicate.1 h).2]; decide
  · rw [List.mem_singleton.1 h]; decide
set_option maxRecDepth 100000 in
set_option maxHeartbeats 4000000 in
theorem deep_law (n : Nat) (hn : n < 256) (w : World) (hw : Fine w) : Calls Tryz.prog 6 #[.int .u8 (n : Nat)] w fun ev w' => ev = .returned (.bool true) ∧ Below w.heap.size w w' := by
  obtain ⟨m, hm⟩ : ∃ m, n % 20 = m := ⟨_, rfl⟩
  have hm20 : m < 20 := by omega
  have hrem : (n : Int).tmod 20 = ((m : Nat) : Int) := by rw [Int.tmod_eq_emod_of_nonneg (by omega)]; omega
  have i8 : IntKind.u8.wrap ((m : Nat) : Int) = ((m : Nat) : Int) := by rw [IntWalk.u8_in _ (by omega)]
  have i64 : IntKind.i64.wrap ((m : Nat) : Int) = ((m : Nat) : Int) := by rw [IntWalk.i64_in _ (by omega)]
  have HB := Below.refl w.heap.size w
  have hw0 := hw
  refine calls_at 29 Tryz.func6 rfl rfl (Nat.le_of_ble_eq_true rfl) ?_
  intro a hA; replace hA := hA.norm
  refine wS (wR ?_)
  revert a; refine wo rfl rfl (by decide) (fun ev e h => by simp [go_sem, h] <;> rfl) ?_; intro a hA
  replace hA := hA.keepN [0]
  refine wN (nT (wS (wS (wR ?_))))
  refine wl_call hA rfl rfl (by decide) (fun ev h => exec_call Tryz.func19 (by kernel_rfl) rfl (h.f _) (by first | (simp only [mL, h.c] <;> rfl) | (simp [mL, h.c] <;> rfl))) (awake17_any w hw) ?_
  rintro e w1 ⟨rfl, hb1⟩
  refine ⟨_, rfl, fun a hA => ?_⟩
  replace HB := HB.trans (hb1.mono HB.size)
  replace hw := hw.below hb1
  revert a; refine wo rfl rfl (by decide) (fun ev e h => by simp [go_sem, h] <;> rfl) ?_; intro a hA
  replace hA := hA.keepN [0, 5]
  refine wN (nT ?_)
  refine wp_if hA 5 _ rfl (fun hq => ?yA) (fun hq => ?nA)
  case yA => cases hq
  case nA =>
    refine wp_skip (nT (wS (wR ?_)))
    revert a; refine wo rfl rfl (by decide) (fun ev e h => by simp [go_sem, h, hrem, i8, i64] <;> rfl) ?_; intro a hA
    replace hA := hA.keepN [0, 3]
    refine wN (nT (wS (wS (wR ?_))))
    revert a; (iterate 2 refine wo rfl rfl (by decide) (fun ev e h => by simp [go_sem, h, hrem, i8, i64] <;> rfl) ?_); intro a hA
    refine wl_op hA rfl rfl (by decide) (fun ev h => by simp [go_sem, h.get 7 rfl, hrem, i8, i64]; try first | exact ⟨rfl, rfl⟩ | rfl) fun a hA => ?_
    revert a; refine wo rfl rfl (by decide) (fun ev e h => by simp [go_sem, h, hrem, i8, i64] <;> rfl) ?_; intro a hA
    replace hA := hA.keepN [0, 3, 8, 9]
    refine wN (nT (wB ?_))
    refine wp_loop_at (fun f a wx => ∃ (j : Nat) (V : Value), j + f = m ∧ OwnR tokISh w.heap.size wx V (nots j) ∧ Below w.heap.size w wx ∧ At 29 [(0, .int .u8 (n : Nat)), (3, V), (8, .int .i64 (m : Nat)), (9, .int .i64 (j : Nat))] a) (m) ?_ ?_
    · exact ⟨0, _, by omega, OwnR.nil _ _, HB, hA⟩
    clear hA HB
    rintro f a wx ⟨j, V, hjf, ho, HB, hA⟩
    refine wS (wR ?_)
    revert a; refine wo rfl rfl (by decide) (fun ev e h => by simp [go_sem, h] <;> rfl) ?_; intro a hA
    replace hA := hA.keepN [0, 3, 8, 9, 10]
    refine wN (nT (wS ?_))
    refine wp_if hA 10 _ rfl (fun hq2 => ?yB) (fun hq2 => ?nB)
    case nB =>
      have hjm : j = m := by simp at hq2; omega
      subst hjm
      replace hA := hA.keepN [0, 3]
      refine wp_exit (xT (xT (xB (nT (wS (wR ?_))))))
      revert a; refine wo rfl rfl (by decide) (fun ev e h => by simp [go_sem, h] <;> rfl) ?_; intro a hA
      refine wl_call hA rfl rfl (by decide) (fun ev h => exec_call Tryz.func26 (by kernel_rfl) rfl (h.f _) (by first | (simp only [mL, h.c] <;> rfl) | (simp [mL, h.c] <;> rfl))) (atom_any _ _) ?_
      rintro e w2 ⟨rfl, hb2⟩
      refine ⟨_, rfl, fun a hA => ?_⟩
      replace HB := HB.trans (hb2.mono HB.size)
      replace ho := ho.below hb2
      refine wl_new hA rfl rfl (by decide) (fun ev h => by simp [go_sem, h.get 17 rfl]; try first | exact ⟨rfl, rfl⟩ | rfl) fun w3 a (K3 : Blk _ _ _ _) hz3 hb3 hA => ?_
      replace HB := HB.trans (hb3.mono HB.size)
      replace ho := ho.below hb3
      have hrow : RowR tokISh w3 _ [tAll] := rowR_blk (s := tokISh) (x := tAll) K3 (fun p hp => (by cases hp))
      obtain ⟨r, w4, hrun, ho4, hg4, -⟩ := run_appR (c := 1) ho hrow (fun _ _ m _ p hp => (by cases hp)) (by simp [nots]; omega) HB.size
      refine wl_op hA rfl rfl (by decide) (fun ev h => exec_append rfl (h.get 16 rfl) (h.get 18 rfl) hrun) fun a hA => ?_
      obtain ⟨A4, c4, rfl, hr4, -⟩ := ho4.reads
      replace HB := HB.grown hg4 HB.size fun g e => (ho.row.lt g e).1
      have hl4 : (nots j ++ [tAll]).length ≤ 50000000 := by simp [nots]; omega
      have hd := deep_all ⟨j, hm20⟩
      simp only at hd
      obtain ⟨q, hq9⟩ : ∃ q, (readP (nots j ++ [tAll])).isSome = q := ⟨_, rfl⟩
      refine wl_call hA rfl rfl (by decide) (fun ev h => exec_call Tryz.func25 (by kernel_rfl) rfl (h.f _) (by first | (simp only [mL, h.get 19 rfl, h.c] <;> rfl) | (simp [mL, h.get 19 rfl, h.c] <;> rfl))) (right_any A4 c4 (nots j ++ [tAll]) _ hr4 (hw0.below HB) hl4 (nots_tok j)) ?_
      rintro e w5 ⟨rfl, hb5⟩
      refine ⟨_, rfl, fun a hA => ?_⟩
      replace HB := HB.trans (hb5.mono HB.size)
      rw [hq9] at hA hd
      revert a; (iterate 5 refine wo rfl rfl (by decide) (fun ev e h => by simp [go_sem, h, hrem, i8] <;> rfl) ?_); intro a hA
      refine wl_gcallv _ hA rfl rfl rfl rfl (by decide) (fun hq ev h => exec_call Tryz.func25 (by kernel_rfl) rfl (h.f _) (by first | (simp only [mL, h.c] <;> rfl) | (simp [mL, h.c, hrem, i8] <;> rfl))) (fun hq => right_any none 0 [] _ (RowR.nil none) (hw0.below HB) (by decide) (by intro t h; cases h)) fun a w6 hb6 hA => ?_
      replace HB := HB.trans (hb6.mono HB.size)
      rw [read_nil] at hA
      revert a; refine wg _ rfl rfl rfl rfl (by decide) (fun hq ev e h => by simp [go_sem, h, ↓gw_t (beq_t hq), hrem, i8] <;> rfl) ?_; refine wka rfl rfl (by decide) rfl rfl rfl ?_; refine wo rfl rfl (by decide) (fun ev e h => by simp [go_sem, h, hrem, i8] <;> rfl) ?_; intro a hA
      replace hA := hA.keepN [2]
      refine wN (nT (wp_ret ?_))
      refine ret_1 hA 2 rfl rfl ?_
      refine ⟨ret_bool ?_, HB⟩
      rw [hd, show decide ((j : Int) < 10) = decide (j < 10) from decide_eq_decide.2 (by omega)]
      simp
    case yB =>
      have hjm : j < m := by simp at hq2; omega
      have i3 : IntKind.i64.wrap (((j : Nat) : Int) + 1) = ((j + 1 : Nat) : Int) := by rw [IntWalk.i64_in _ (by omega)]; omega
      refine wp_skip (nT (wS (wB (wR ?_))))
      revert a; refine wo rfl rfl (by decide) (fun ev e h => by simp [go_sem, h] <;> rfl) ?_; intro a hA
      refine wl_call hA rfl rfl (by decide) (fun ev h => exec_call Tryz.func26 (by kernel_rfl) rfl (h.f _) (by first | (simp only [mL, h.c] <;> rfl) | (simp [mL, h.c] <;> rfl))) (atom_any _ _) ?_
      rintro e w2 ⟨rfl, hb2⟩
      refine ⟨_, rfl, fun a hA => ?_⟩
      replace HB := HB.trans (hb2.mono HB.size)
      replace ho := ho.below hb2
      refine wl_new hA rfl rfl (by decide) (fun ev h => by simp [go_sem, h.get 12 rfl]; try first | exact ⟨rfl, rfl⟩ | rfl) fun w3 a (K3 : Blk _ _ _ _) hz3 hb3 hA => ?_
      replace HB := HB.trans (hb3.mono HB.size)
      replace ho := ho.below hb3
      have hrow : RowR tokISh w3 _ [tNOT] := rowR_blk (s := tokISh) (x := tNOT) K3 (fun p hp => (by cases hp))
      obtain ⟨r, w4, hrun, ho4, hg4, -⟩ := run_appR (c := 1) ho hrow (fun _ _ m _ p hp => (by cases hp)) (by simp [nots]; omega) HB.size
      refine wl_op hA rfl rfl (by decide) (fun ev h => exec_append rfl (h.get 11 rfl) (h.get 13 rfl) hrun) fun a hA => ?_
      have HB4 := HB.grown hg4 HB.size fun g e => (ho.row.lt g e).1
      revert a; refine wo rfl rfl (by decide) (fun ev e h => by simp [go_sem, h, i3] <;> rfl) ?_; intro a hA
      replace hA := hA.keepN [0, 3, 8, 9]
      refine wN (nB (nT (wR ?_)))
      revert a; (iterate 2 refine wo rfl rfl (by decide) (fun ev e h => by simp [go_sem, h, i3] <;> rfl) ?_); intro a hA
      replace hA := hA.keepN [0, 3, 8, 9]
      refine wN (nT ?_)
      refine ⟨f - 1, by omega, j + 1, r, by omega, by rw [nots_succ]; exact ho4, HB4, hA⟩
end Go.Proofs.YtjhaccmcjlbllaaGreatDoor
/-
  Plainly: keys, written as tokens, are read as they are meant.
-/
namespace Go.Proofs.YtjhaccmcjlbllaaGreatDoor
open Go.RowKit
inductive KeyV where
  | mk (kind : Nat) (word : List UInt8) (n fr up : Nat) (A : Option Addr) (len c : Nat) (l : List KeyV)
namespace KeyV
def kind : KeyV → Nat | mk k _ _ _ _ _ _ _ _ => k
def word : KeyV → List UInt8 | mk _ w _ _ _ _ _ _ _ => w
def n : KeyV → Nat | mk _ _ n _ _ _ _ _ _ => n
def fr : KeyV → Nat | mk _ _ _ f _ _ _ _ _ => f
def up : KeyV → Nat | mk _ _ _ _ t _ _ _ _ => t
def A : KeyV → Option Addr | mk _ _ _ _ _ a _ _ _ => a
def len : KeyV → Nat | mk _ _ _ _ _ _ m _ _ => m
def c : KeyV → Nat | mk _ _ _ _ _ _ _ c _ => c
def l : KeyV → List KeyV | mk _ _ _ _ _ _ _ _ l => l
end KeyV
/-- a key's numbers are of their sizes, so deep -/
def KeyFits : Nat → KeyV → Prop
  | 0, _ => True
  | d + 1, k => k.l.length = k.len ∧ k.kind < 256 ∧ k.n < 65536 ∧ k.fr < 4294967296 ∧ k.up < 4294967296 ∧ ∀ x ∈ k.l, KeyFits d x
def kNames : List (List UInt8) := [[65, 76, 76], [83, 101, 101, 110], [65, 78, 83, 87, 69, 82, 69, 68], [102, 108, 97, 103, 103, 101, 100], [68, 69, 76, 69, 84, 69, 68], [68, 82, 65, 70, 84], [85, 78, 83, 69, 69, 78], [117, 110, 97, 110, 115, 119, 101, 114, 101, 100], [85, 78, 70, 76, 65, 71, 71, 69, 68], [85, 78, 68, 69, 76, 69, 84, 69, 68], [85, 78, 68, 82, 65, 70, 84], [83, 85, 66, 74, 69, 67, 84], [102, 114, 111, 109], [84, 79], [66, 79, 68, 89], [84, 101, 120, 116], [76, 65, 82, 71, 69, 82], [83, 77, 65, 76, 76, 69, 82], [85, 73, 68], []]
def digS (n : Nat) : List UInt8 := if n = 0 then [42] else Lib.decDigits n
def numS (n : Nat) : List UInt8 := if n = 0 then [48] else digS n
def spanS (a b : Nat) : List UInt8 := digS a ++ [58] ++ digS b
def needK (k : Nat) : Nat := if k = 21 then 2 else 1
def headK (k : Nat) : List TokI := if k = 20 then [⟨1, [78, 111, 116]⟩] else if k = 21 then [⟨1, [79, 82]⟩] else [⟨3, []⟩]
def allK (f : KeyV → Option (List TokI)) : List KeyV → Option (List TokI)
  | [] => some []
  | x :: r => match f x with
    | none => none
    | some a => (allK f r).map (a ++ ·)
def tailK (k : Nat) : List TokI := if 21 < k then [⟨4, []⟩] else []
/-- a key's tokens -/
def toksK : Nat → KeyV → Option (List TokI)
  | 0, _ => none
  | d + 1, k => if 100 < k.word.length then none
    else if k.kind < 11 then some [⟨1, kNames[k.kind]?.getD []⟩]
    else if k.kind < 16 then some [⟨1, kNames[k.kind]?.getD []⟩, ⟨2, k.word⟩]
    else if k.kind < 18 then some [⟨1, kNames[k.kind]?.getD []⟩, ⟨1, numS k.n⟩]
    else if k.kind = 18 then some [⟨1, [117, 105, 100]⟩, ⟨1, spanS k.fr k.up⟩]
    else if k.kind = 19 then some [⟨1, spanS k.fr k.up⟩]
    else if k.len < needK k.kind ∨ (k.kind < 22 ∧ k.len ≠ needK k.kind) ∨ 5 < k.len then none
    else (allK (toksK d) k.l).map fun ts => headK k.kind ++ ts ++ tailK k.kind
/-- what a key means -/
def keyOf : Nat → KeyV → KeyA
  | 0, _ => .never
  | d + 1, k => if k.kind = 0 then .all
    else if k.kind < 6 then .flag (k.kind - 1) false
    else if k.kind < 11 then .flag (k.kind - 6) true
    else if k.kind = 11 then .field sSUBJECT k.word
    else if k.kind = 12 then .field sFROM k.word
    else if k.kind = 13 then .field sTO k.word
    else if k.kind = 14 then .body k.word
    else if k.kind = 15 then .text k.word
    else if k.kind = 16 then .larger (k.n : Nat)
    else if k.kind = 17 then .smaller (k.n : Nat)
    else if k.kind = 18 then .set [(k.fr, k.up)] true
    else if k.kind = 19 then .set [(k.fr, k.up)] false
    else if k.kind = 20 then (match k.l with | a :: _ => .not (keyOf d a) | _ => .never)
    else if k.kind = 21 then (match k.l with | a :: b :: _ => .or (keyOf d a) (keyOf d b) | _ => .never)
    else .both (k.l.map (keyOf d))
theorem digs_said (u : Nat) : (Lib.decDigits u).all dgB = true ∧ decN (Lib.decDigits u) = u := by
  induction u using Nat.strongRecOn with
  | ind u ih =>
    rw [Lib.decDigits]
    by_cases hu : u < 10
    · rw [dif_pos hu]
      have h1 : (UInt8.ofNat (48 + u)).toNat = 48 + u := by simp; omega
      refine ⟨?_, ?_⟩
      · rw [List.all_cons, (dgB_iff _).2 (by rw [h1]; omega)]; rfl
      · show 0 * 10 + ((UInt8.ofNat (48 + u)).toNat - 48) = u
        rw [h1]; omega
    · rw [dif_neg hu]
      obtain ⟨h2, h3⟩ := ih (u / 10) (by omega)
      have h1 : (UInt8.ofNat (48 + u % 10)).toNat = 48 + u % 10 := by simp; omega
      refine ⟨?_, ?_⟩
      · rw [List.all_append, h2, List.all_cons, (dgB_iff _).2 (by rw [h1]; omega)]; rfl
      · rw [decN_snoc, h3, h1]; omega
theorem digs_ne (u : Nat) : Lib.decDigits u ≠ [] := by
  rw [Lib.decDigits]
  split <;> simp
theorem digs_mem {u : Nat} {x : UInt8} (h : x ∈ Lib.decDigits u) : 48 ≤ x.toNat ∧ x.toNat ≤ 57 := (dgB_iff x).1 (List.all_eq_true.1 (digs_said u).1 x h)
theorem digS_mem {u : Nat} {x : UInt8} (h : x ∈ digS u) : x = 42 ∨ (48 ≤ x.toNat ∧ x.toNat ≤ 57) := by
  unfold digS at h
  split at h
  · left; simpa using h
  · exact .inr (digs_mem h)
theorem digS_ne (u : Nat) : digS u ≠ [] := by
  unfold digS
  split
  · simp
  · exact digs_ne u
theorem digS_no58 (u : Nat) : (58 : UInt8) ∉ digS u := fun h => by
  rcases digS_mem h with h | h
  · revert h; decide
  · revert h; decide
theorem digS_ok {u : Nat} (h : u < 4294967296) : numOk (digS u) = true ∧ numVal (digS u) = u := by
  unfold digS
  by_cases h0 : u = 0
  · rw [if_pos h0, h0]; exact ⟨rfl, rfl⟩
  · rw [if_neg h0]
    obtain ⟨h1, h2⟩ := digs_said u
    have hne : Lib.decDigits u ≠ [42] := fun e => by
      have := digs_mem (u := u) (x := 42) (by rw [e]; simp)
      revert this; decide
    refine ⟨?_, ?_⟩
    · unfold numOk spellsB
      rw [h2, h1]
      have : (Lib.decDigits u).isEmpty = false := by
        cases hd : Lib.decDigits u with
        | nil => exact absurd hd (digs_ne u)
        | cons a b => rfl
      rw [this]
      simp
      right
      omega
    · unfold numVal
      rw [if_neg hne, h2]
theorem split_uniq {c : UInt8} : ∀ {a a' b b' : List UInt8}, a ++ c :: b = a' ++ c :: b' → c ∉ a → c ∉ a' → a = a' ∧ b = b'
  | [], [], b, b', h, _, _ => by injection h with _ h; exact ⟨rfl, h⟩
  | [], x :: a', b, b', h, _, h2 => by
    injection h with h1 h3
    exact absurd (by rw [h1]; simp) h2
  | x :: a, [], b, b', h, h1, _ => by
    injection h with h2 h3
    exact absurd (by rw [← h2]; simp) h1
  | x :: a, y :: a', b, b', h, h1, h2 => by
    injection h with h3 h4
    obtain ⟨h5, h6⟩ := split_uniq h4 (fun e => h1 (List.mem_cons_of_mem _ e)) (fun e => h2 (List.mem_cons_of_mem _ e))
    exact ⟨by rw [h3, h5], h6⟩
theorem span_mem {a b : Nat} {x : UInt8} (h : x ∈ spanS a b) : x = 42 ∨ x = 58 ∨ (48 ≤ x.toNat ∧ x.toNat ≤ 57) := by
  unfold spanS at h
  rcases List.mem_append.1 h with h | h
  · rcases List.mem_append.1 h with h | h
    · rcases digS_mem h with h | h
      · exact .inl h
      · exact .inr (.inr h)
    · exact .inr (.inl (by simpa using h))
  · rcases digS_mem h with h | h
    · exact .inl h
    · exact .inr (.inr h)
theorem span_cut (a b : Nat) : Lib.cut (spanS a b) [58] = (digS a, digS b, true) := by
  have e : spanS a b = digS a ++ 58 :: digS b := by simp [spanS]
  rcases cut_spec 58 (spanS a b) with ⟨h1, _, _⟩ | ⟨x, y, h1, h2, h3, _⟩
  · exact absurd (by rw [e]; simp) h1
  · have h5 : digS a ++ 58 :: digS b = x ++ 58 :: y := by rw [← e, h1]
    obtain ⟨h6, h7⟩ := split_uniq h5 (digS_no58 a) h2
    rw [h3, h6, h7]
theorem span_set {a b : Nat} (ha : a < 4294967296) (hb : b < 4294967296) (u : Bool) : setP (spanS a b) u = some (.set [(a, b)] u) := by
  have h44 : (44 : UInt8) ∉ spanS a b := fun h => by
    rcases span_mem h with h | h | h <;> (revert h; decide)
  have hs : splitC 44 (spanS a b) = [spanS a b] := by
    rcases cut_spec 44 (spanS a b) with ⟨_, _, h3⟩ | ⟨x, y, h1, _⟩
    · exact h3
    · exact absurd (by rw [h1]; simp) h44
  have hA : partA (spanS a b) = digS a := by unfold partA; rw [span_cut]
  have hB : partB (spanS a b) = digS b := by unfold partB; rw [span_cut]; rfl
  have hok : setOk (spanS a b) = true := by
    unfold setOk
    rw [hs]
    simp [partOk, hA, hB, (digS_ok ha).1, (digS_ok hb).1]
  unfold setP
  rw [if_pos hok]
  unfold setVals
  rw [hs]
  simp [partVal, hA, hB, (digS_ok ha).2, (digS_ok hb).2]
end Go.Proofs.YtjhaccmcjlbllaaGreatDoor
/-
  Plainly: a key's tokens are read as the key.
-/
namespace Go.Proofs.YtjhaccmcjlbllaaGreatDoor
open Go.RowKit
def Stops (z : List TokI) : Prop := z = [] ∨ ∃ x r, z = x :: r ∧ x.k = 4
def Reads1 (f : List TokI → Option (KeyA × List TokI)) (k : KeyA) (ts : List TokI) : Prop := (∀ r, f (ts ++ r) = some (k, r)) ∧ ∃ t q, ts = t :: q ∧ t.k ≠ 4
theorem more_stops {f : List TokI → Option (KeyA × List TokI)} {z : List TokI} (hz : Stops z) (n : Nat) (acc : List KeyA) : moreP f n acc z = some (acc, z) := by
  cases n with
  | zero => rfl
  | succ n =>
    rcases hz with rfl | ⟨x, r, rfl, hx⟩
    · rfl
    · show (if x.k = 4 then _ else _) = _
      rw [if_pos hx]
theorem all_cons {tok : KeyV → Option (List TokI)} {x : KeyV} {r : List KeyV} {ts : List TokI} (h : allK tok (x :: r) = some ts) : ∃ a b, tok x = some a ∧ allK tok r = some b ∧ ts = a ++ b := by
  unfold allK at h
  cases ha : tok x with
  | none => rw [ha] at h; cases h
  | some a =>
    rw [ha] at h
    simp only [] at h
    cases hb : allK tok r with
    | none => rw [hb] at h; cases h
    | some b =>
      rw [hb] at h
      injection h with h
      exact ⟨a, b, rfl, rfl, h.symm⟩
theorem all_len {f : List TokI → Option (KeyA × List TokI)} {key : KeyV → KeyA} {tok : KeyV → Option (List TokI)} : ∀ (L : List KeyV) (ts : List TokI), (∀ x ∈ L, ∀ a, tok x = some a → Reads1 f (key x) a) → allK tok L = some ts → L.length ≤ ts.length
  | [], ts, _, _ => Nat.zero_le _
  | x :: L, ts, hf, h => by
    obtain ⟨a, b, ha, hb, rfl⟩ := all_cons h
    obtain ⟨-, t, q, e, -⟩ := hf x List.mem_cons_self a ha
    have := all_len L b (fun y hy => hf y (List.mem_cons_of_mem _ hy)) hb
    rw [e]
    simp
    omega
theorem more_keys {f : List TokI → Option (KeyA × List TokI)} {key : KeyV → KeyA} {tok : KeyV → Option (List TokI)} {z : List TokI} (hz : Stops z) : ∀ (L : List KeyV) (ts : List TokI) (n : Nat) (acc : List KeyA), (∀ x ∈ L, ∀ a, tok x = some a → Reads1 f (key x) a) → allK tok L = some ts → L.length ≤ n → moreP f n acc (ts ++ z) = some (acc ++ L.map key, z)
  | [], ts, n, acc, _, h, _ => by
    injection h with h
    subst h
    rw [List.nil_append, List.map_nil, List.append_nil]
    exact more_stops hz n acc
  | x :: L, ts, n, acc, hf, h, hn => by
    obtain ⟨a, b, ha, hb, rfl⟩ := all_cons h
    obtain ⟨h1, t, q, e, h4⟩ := hf x List.mem_cons_self a ha
    obtain ⟨n, rfl⟩ : ∃ m, n = m + 1 := ⟨n - 1, by rw [List.length_cons] at hn; omega⟩
    have h5 := h1 (b ++ z)
    rw [List.append_assoc]
    rw [e] at h5 ⊢
    show (if t.k = 4 then _ else match f (t :: q ++ (b ++ z)) with
      | none => none
      | some (k, l') => moreP f n (acc ++ [k]) l') = _
    rw [if_neg h4, h5]
    show moreP f n (acc ++ [key x]) (b ++ z) = _
    rw [more_keys hz L b n (acc ++ [key x]) (fun y hy => hf y (List.mem_cons_of_mem _ hy)) hb (by rw [List.length_cons] at hn; omega)]
    simp
theorem both_keys {f : List TokI → Option (KeyA × List TokI)} {key : KeyV → KeyA} {tok : KeyV → Option (List TokI)} {z : List TokI} (hz : Stops z) {L : List KeyV} {ts : List TokI} (hL : L ≠ []) (hf : ∀ x ∈ L, ∀ a, tok x = some a → Reads1 f (key x) a) (h : allK tok L = some ts) : bothP f (ts ++ z) = some (L.map key, z) := by
  match L, hL with
  | x :: L, _ =>
    obtain ⟨a, b, ha, hb, rfl⟩ := all_cons h
    obtain ⟨h1, t, q, e, h4⟩ := hf x List.mem_cons_self a ha
    have hf2 : ∀ y ∈ L, ∀ a, tok y = some a → Reads1 f (key y) a := fun y hy => hf y (List.mem_cons_of_mem _ hy)
    have hl := all_len L b hf2 hb
    unfold bothP
    rw [List.append_assoc, h1 (b ++ z)]
    show moreP f (b ++ z).length [key x] (b ++ z) = _
    rw [more_keys hz L b _ [key x] hf2 hb (by rw [List.length_append]; omega)]
    rfl
theorem numS_ok {n : Nat} (h : n < 65536) (r : List TokI) : numP (⟨1, numS n⟩ :: r) = some (((n : Nat) : Int), r) := by
  have hdig : ∀ c : UInt8, dig8 c = dgB c := fun c => rfl
  have hval : ∀ l : List UInt8, val8 l = decN l := fun l => rfl
  have key : 1 ≤ (numS n).length ∧ (numS n).length ≤ 9 ∧ (numS n).all dig8 = true ∧ val8 (numS n) = n := by
    unfold numS
    by_cases h0 : n = 0
    · rw [if_pos h0, h0]; decide
    · rw [if_neg h0]
      unfold digS
      rw [if_neg h0]
      obtain ⟨h1, h2⟩ := digs_said n
      refine ⟨?_, ?_, h1, h2⟩
      · have := digs_ne n
        cases hd : Lib.decDigits n with
        | nil => exact absurd hd this
        | cons a b => simp
      · have hh : (Lib.decDigits n).head? ≠ some 48 := by
          obtain ⟨c, l, e, hc⟩ := decDigits_head n (by omega)
          rw [e]
          intro e2
          injection e2 with e2
          exact hc e2
        have hlen : (Lib.decDigits n).length ≠ 0 := fun e => digs_ne n (List.eq_nil_of_length_eq_zero e)
        have h5 := decN_back ((Lib.decDigits n).length - 1) (Lib.decDigits n) (by omega) h1 hh
        rw [h2] at h5
        rcases Nat.lt_or_ge 9 (Lib.decDigits n).length with h6 | h6
        · have : 10 ^ 9 ≤ 10 ^ ((Lib.decDigits n).length - 1) := Nat.pow_le_pow_right (by decide) (by omega)
          omega
        · exact h6
  unfold numP
  show (if 1 ≤ (numS n).length ∧ (numS n).length ≤ 9 ∧ (numS n).all dig8 = true then some (((val8 (numS n) : Nat) : Int), r) else none) = _
  rw [if_pos ⟨key.1, key.2.1, key.2.2.1⟩, key.2.2.2]
theorem lett_span (a b : Nat) : lettS 97 (spanS a b) = spanS a b := by
  unfold lettS
  conv => rhs; rw [← List.map_id (spanS a b)]
  refine List.map_congr_left fun c hc => ?_
  have h : ¬ (97 ≤ c ∧ c < 97 + 26) := by
    rintro ⟨h, _⟩
    have h : 97 ≤ c.toNat := h
    rcases span_mem hc with h1 | h1 | h1
    · rw [h1] at h; revert h; decide
    · rw [h1] at h; revert h; decide
    · omega
  rw [if_neg h]
  rfl
theorem span_head (a b : Nat) : ∃ x q, spanS a b = x :: q ∧ (x = 42 ∨ (48 ≤ x.toNat ∧ x.toNat ≤ 57)) := by
  cases h : digS a with
  | nil => exact absurd h (digS_ne a)
  | cons x q =>
    refine ⟨x, q ++ [58] ++ digS b, by unfold spanS; rw [h]; simp, ?_⟩
    exact digS_mem (u := a) (by rw [h]; simp)
theorem span_other {a b : Nat} {y : UInt8} {l : List UInt8} (hy : 65 ≤ y.toNat) : spanS a b ≠ y :: l := fun e => by
  obtain ⟨x, q, h, hx⟩ := span_head a b
  rw [h] at e
  injection e with e _
  subst e
  rcases hx with h1 | h1
  · rw [h1] at hy; revert hy; decide
  · omega
theorem span_neq (a b : Nat) (s : List UInt8) (h : s.head?.any (fun y => decide (65 ≤ y.toNat)) = true) : spanS a b ≠ s := by
  cases s with
  | nil => cases h
  | cons y l => exact span_other (by simpa using h)
theorem span_noflag (a b : Nat) : flagP (spanS a b) = none := by
  obtain ⟨x, q, h, hx⟩ := span_head a b
  have hu : Lib.trimPrefix (spanS a b) [85, 78] = spanS a b := by
    unfold Lib.trimPrefix Lib.hasPrefix
    rw [h]
    have : ([85, 78] : List UInt8).isPrefixOf (x :: q) = false := by
      have hx85 : ((85 : UInt8) == x) = false := by
        rw [beq_eq_false_iff_ne]
        rintro rfl
        rcases hx with h1 | h1
        · revert h1; decide
        · revert h1; decide
      simp [List.isPrefixOf, hx85]
    simp [this]
  unfold flagP
  rw [hu]
  have : flagNames.findIdx? (· == spanS a b) = none := by
    rw [List.findIdx?_eq_none_iff]
    intro y hy
    rw [beq_eq_false_iff_ne]
    rintro rfl
    simp only [flagNames, List.mem_cons, List.not_mem_nil, or_false] at hy
    rcases hy with e | e | e | e | e <;> exact span_other (by decide) e
  rw [this]
theorem span_named (a b : Nat) (r : List TokI) : namedP (spanS a b) r = none := by
  unfold namedP
  rw [if_neg (span_neq a b sALL (by decide)), if_neg (by
    rintro (e | e | e)
    · exact span_neq a b _ (by decide) e
    · exact span_neq a b _ (by decide) e
    · exact span_neq a b _ (by decide) e), if_neg (span_neq a b sBODY (by decide)), if_neg (span_neq a b sTEXT (by decide)), if_neg (span_neq a b sLARGER (by decide)), if_neg (span_neq a b sSMALLER (by decide)), if_neg (span_neq a b sUID (by decide)), span_noflag]
  rfl
theorem key_span {a b : Nat} (ha : a < 4294967296) (hb : b < 4294967296) (d : Nat) (r : List TokI) : keyP (d + 1) (⟨1, spanS a b⟩ :: r) = some (.set [(a, b)] false, r) := by
  unfold keyP
  show (if lettS 97 (spanS a b) = sNOT then _ else _) = _
  rw [lett_span, if_neg (span_neq a b sNOT (by decide)), if_neg (span_neq a b sOR (by decide)), span_named, span_set ha hb]
  rfl
end Go.Proofs.YtjhaccmcjlbllaaGreatDoor
/-
  A text, as it is told: plainly (fetch.String).
-/
namespace Go.Proofs.YtjhaccmcjlbllaaGreatDoor
open Go.RowKit
theorem index_ne {b c : UInt8} (l : List UInt8) (h : b ≠ c) : Lib.index (b :: l) [c] = if Lib.index l [c] = -1 then -1 else Lib.index l [c] + 1 := by
  conv => lhs; unfold Lib.index
  have : ([c] : List UInt8).isPrefixOf (b :: l) = false := by
    simp [List.isPrefixOf]
    exact fun e => h e.symm
  rw [this]
  simp only [Bool.false_eq_true, if_false, beq_iff_eq]
theorem repK_ne {b c : UInt8} (new : List UInt8) (h : b ≠ c) : ∀ (k : Nat) (l : List UInt8), Lib.replaceK [c] new k (b :: l) = b :: Lib.replaceK [c] new k l
  | 0, l => rfl
  | k + 1, l => by
    unfold Lib.replaceK
    rw [index_ne l h]
    by_cases hi : Lib.index l [c] = -1
    · rw [if_pos hi, hi]
      rfl
    · have hge := Lib.index_ge l [c]
      obtain ⟨i, hi2⟩ : ∃ i : Nat, Lib.index l [c] = i := ⟨(Lib.index l [c]).toNat, by omega⟩
      rw [hi2]
      have e1 : ¬ (((i : Nat) : Int) = -1) := by omega
      have e2 : ¬ ((((i : Nat) : Int) + 1 == -1) = true) := by rw [beq_iff_eq]; omega
      have e3 : ¬ ((((i : Nat) : Int) == -1) = true) := by rw [beq_iff_eq]; omega
      have e4 : (((i : Nat) : Int) + 1).toNat = i + 1 := by omega
      rw [if_neg e1, if_neg e2, if_neg e3, e4, Int.toNat_natCast]
      rfl
theorem repK_all (c : UInt8) (new : List UInt8) : ∀ (s : List UInt8) (k : Nat), s.count c ≤ k → Lib.replaceK [c] new k s = s.flatMap fun x => if x = c then new else [x]
  | [], k, _ => by
    cases k with
    | zero => rfl
    | succ k => rfl
  | b :: l, k, hk => by
    rw [List.flatMap_cons]
    by_cases h : b = c
    · subst h
      rw [List.count_cons_self] at hk
      obtain ⟨k, rfl⟩ : ∃ j, k = j + 1 := ⟨k - 1, by omega⟩
      rw [if_pos rfl, ← repK_all b new l k (by omega)]
      have hi : Lib.index (b :: l) [b] = 0 := by
        unfold Lib.index
        simp [List.isPrefixOf]
      unfold Lib.replaceK
      rw [hi]
      cases k <;> rfl
    · rw [if_neg h, repK_ne new h, ← repK_all c new l k (by rw [List.count_cons_of_ne h] at hk; exact hk)]
      rfl
theorem repAll_one (c : UInt8) {new : List UInt8} (hn : new ≠ [c]) (s : List UInt8) : Lib.replaceAll s [c] new = s.flatMap fun x => if x = c then new else [x] := by
  unfold Lib.replaceAll Lib.replace Lib.replaceNum
  rw [if_neg (by rw [beq_iff_eq]; exact fun e => hn e.symm), if_pos (.inl (by decide)), Lib.count_one]
  exact repK_all c new s _ (Nat.le_refl _)
/-- both signs are marked -/
theorem rep_esc (s : List UInt8) : Lib.replaceAll (Lib.replaceAll s [92] [92, 92]) [34] [92, 34] = s.flatMap escB := by
  rw [repAll_one 92 (by decide), repAll_one 34 (by decide), List.flatMap_assoc]
  congr 1
  funext x
  unfold escB
  by_cases h1 : x = 92
  · subst h1; rfl
  · by_cases h2 : x = 34
    · subst h2; rfl
    · rw [if_neg h1, if_neg (by rintro (h | h); exact h2 h; exact h1 h)]
      show (if x = 34 then _ else _) ++ [] = _
      rw [if_neg h2]
      rfl
theorem digits_count : ∀ (f n : Nat), n < 10 ^ f → 1 ≤ f → Lib.decDigits n = countB f n
  | 0, _, _, h => by omega
  | f + 1, n, h, _ => by
    rw [Lib.decDigits]
    unfold countB
    by_cases hn : n < 10
    · rw [dif_pos hn, if_pos hn]
    · rw [dif_neg hn, if_neg hn]
      have hf : 1 ≤ f := by
        rcases Nat.eq_zero_or_pos f with e | e
        · subst e; rw [Nat.zero_add, Nat.pow_one] at h; omega
        · exact e
      rw [digits_count f (n / 10) (by rw [Nat.pow_succ] at h; omega) hf]
def plainT (c : UInt8) : Bool := decide (32 ≤ c.toNat) && decide (c.toNat ≤ 126)
/-- a text as it is told -/
def strF (s : List UInt8) : List UInt8 := bodyS (!s.all plainT) ⟨2, s⟩
theorem strF_plain {s : List UInt8} (h : s.all plainT = true) : strF s = [34] ++ s.flatMap escB ++ [34] := by
  unfold strF
  rw [h]
  rfl
theorem strF_lit {s : List UInt8} (h : s.all plainT = false) : strF s = [123] ++ countB 7 s.length ++ [125] ++ [13, 10] ++ s := by
  unfold strF
  rw [h]
  rfl
theorem strF_tok {s : List UInt8} (h : s.length ≤ 100000) : tokS 202 0 0 (strF s) = some [⟨2, s⟩] := by
  have hok : okTok (!s.all plainT) ⟨2, s⟩ := by
    refine .inr (.inl ⟨rfl, by show s.length < _; omega, ?_⟩)
    cases hp : s.all plainT with
    | false => exact .inl rfl
    | true =>
      refine .inr fun c hc => ?_
      have := List.all_eq_true.1 hp c hc
      unfold plainT at this
      simp at this
      constructor
      · rintro rfl; revert this; decide
      · rintro rfl; revert this; decide
  have := tok_back (!s.all plainT) [⟨2, s⟩] 202 (fun t ht => by rw [List.mem_singleton.1 ht]; exact hok) ⟨(by decide : (0 : Int) ≤ deepS 0 2), rfl⟩ (Nat.le_of_ble_eq_true rfl) (Nat.le_of_ble_eq_true rfl)
  have e : writtenS (!s.all plainT) [⟨2, s⟩] = strF s := by
    show bodyS _ _ ++ [] = _
    rw [List.append_nil]
    rfl
  rw [e] at this
  exact this
end Go.Proofs.YtjhaccmcjlbllaaGreatDoor
/-
  Plainly: a key's tokens are read as the key, all kinds.
-/
namespace Go.Proofs.YtjhaccmcjlbllaaGreatDoor
open Go.RowKit
theorem both_reads {d : Nat} {l : List KeyV} {ts : List TokI} (hl : l ≠ []) (hf : ∀ x ∈ l, ∀ a, toksK d x = some a → Reads1 (keyP d) (keyOf d x) a) (h : allK (toksK d) l = some ts) : Reads1 (keyP (d + 1)) (.both (l.map (keyOf d))) ([⟨3, []⟩] ++ ts ++ [⟨4, []⟩]) := by
  refine ⟨fun r => ?_, ⟨3, []⟩, ts ++ [⟨4, []⟩], rfl, by decide⟩
  have hb := both_keys (z := ⟨4, []⟩ :: r) (.inr ⟨_, _, rfl, rfl⟩) hl hf h
  have e : [⟨3, []⟩] ++ ts ++ [⟨4, []⟩] ++ r = (⟨3, []⟩ : TokI) :: (ts ++ ⟨4, []⟩ :: r) := by simp
  rw [e]
  unfold keyP
  rw [if_pos rfl, hb]
  rfl
theorem not_reads {d : Nat} {x : KeyV} {a : List TokI} (hf : Reads1 (keyP d) (keyOf d x) a) : Reads1 (keyP (d + 1)) (.not (keyOf d x)) ([⟨1, [78, 111, 116]⟩] ++ a) := by
  refine ⟨fun r => ?_, ⟨1, [78, 111, 116]⟩, a, rfl, by decide⟩
  have e : [⟨1, [78, 111, 116]⟩] ++ a ++ r = (⟨1, [78, 111, 116]⟩ : TokI) :: (a ++ r) := by simp
  rw [e]
  unfold keyP
  rw [if_neg (by decide), if_pos rfl, if_pos (by decide), hf.1 r]
  rfl
theorem or_reads {d : Nat} {x y : KeyV} {a b : List TokI} (hf : Reads1 (keyP d) (keyOf d x) a) (hg : Reads1 (keyP d) (keyOf d y) b) : Reads1 (keyP (d + 1)) (.or (keyOf d x) (keyOf d y)) ([⟨1, [79, 82]⟩] ++ (a ++ b)) := by
  refine ⟨fun r => ?_, ⟨1, [79, 82]⟩, a ++ b, rfl, by decide⟩
  have e : [⟨1, [79, 82]⟩] ++ (a ++ b) ++ r = (⟨1, [79, 82]⟩ : TokI) :: (a ++ (b ++ r)) := by simp
  rw [e]
  unfold keyP
  rw [if_neg (by decide), if_pos rfl, if_neg (by decide), if_pos (by decide), hf.1 (b ++ r)]
  simp only []
  rw [hg.1 r]
  rfl
theorem toks_eq (d kind : Nat) (word : List UInt8) (n fr up : Nat) (A : Option Addr) (len c : Nat) (l : List KeyV) : toksK (d + 1) ⟨kind, word, n, fr, up, A, len, c, l⟩ = if 100 < word.length then none
    else if kind < 11 then some [⟨1, kNames[kind]?.getD []⟩]
    else if kind < 16 then some [⟨1, kNames[kind]?.getD []⟩, ⟨2, word⟩]
    else if kind < 18 then some [⟨1, kNames[kind]?.getD []⟩, ⟨1, numS n⟩]
    else if kind = 18 then some [⟨1, [117, 105, 100]⟩, ⟨1, spanS fr up⟩]
    else if kind = 19 then some [⟨1, spanS fr up⟩]
    else if len < needK kind ∨ (kind < 22 ∧ len ≠ needK kind) ∨ 5 < len then none
    else (allK (toksK d) l).map fun ts => headK kind ++ ts ++ tailK kind := rfl
theorem keyOf_eq (d kind : Nat) (word : List UInt8) (n fr up : Nat) (A : Option Addr) (len c : Nat) (l : List KeyV) : keyOf (d + 1) ⟨kind, word, n, fr, up, A, len, c, l⟩ = if kind = 0 then .all
    else if kind < 6 then .flag (kind - 1) false
    else if kind < 11 then .flag (kind - 6) true
    else if kind = 11 then .field sSUBJECT word
    else if kind = 12 then .field sFROM word
    else if kind = 13 then .field sTO word
    else if kind = 14 then .body word
    else if kind = 15 then .text word
    else if kind = 16 then .larger (n : Nat)
    else if kind = 17 then .smaller (n : Nat)
    else if kind = 18 then .set [(fr, up)] true
    else if kind = 19 then .set [(fr, up)] false
    else if kind = 20 then (match l with | a :: _ => .not (keyOf d a) | _ => .never)
    else if kind = 21 then (match l with | a :: b :: _ => .or (keyOf d a) (keyOf d b) | _ => .never)
    else .both (l.map (keyOf d)) := rfl
set_option maxRecDepth 10000 in
set_option maxHeartbeats 4000000 in
theorem key_toks : ∀ (d : Nat) (k : KeyV) (ts : List TokI), KeyFits d k → toksK d k = some ts → Reads1 (keyP d) (keyOf d k) ts
  | 0, k, ts, _, h => by cases h
  | d + 1, ⟨kind, word, n, fr, up, A, len, c, l⟩, ts, hfit, h => by
    obtain ⟨hlen, hk, hn, hfr, hup, hsub⟩ := hfit
    simp only [KeyV.kind, KeyV.n, KeyV.fr, KeyV.up, KeyV.l, KeyV.len] at hlen hk hn hfr hup hsub
    have h := (toks_eq d kind word n fr up A len c l).symm.trans h
    by_cases hw : 100 < word.length
    · rw [if_pos hw] at h; cases h
    rw [if_neg hw] at h
    split at h
    · injection h with h
      subst h
      rcases (by omega : kind = 0 ∨ kind = 1 ∨ kind = 2 ∨ kind = 3 ∨ kind = 4 ∨ kind = 5 ∨ kind = 6 ∨ kind = 7 ∨ kind = 8 ∨ kind = 9 ∨ kind = 10) with rfl | rfl | rfl | rfl | rfl | rfl | rfl | rfl | rfl | rfl | rfl <;> exact ⟨fun r => rfl, _, _, rfl, by decide⟩
    split at h
    · injection h with h
      subst h
      rcases (by omega : kind = 11 ∨ kind = 12 ∨ kind = 13 ∨ kind = 14 ∨ kind = 15) with rfl | rfl | rfl | rfl | rfl <;> exact ⟨fun r => rfl, _, _, rfl, by decide⟩
    split at h
    · injection h with h
      subst h
      rcases (by omega : kind = 16 ∨ kind = 17) with rfl | rfl
      · refine ⟨fun r => ?_, _, _, rfl, by decide⟩
        show ((numP (⟨1, numS n⟩ :: r)).map fun p => (KeyA.larger p.1, p.2)) = _
        rw [numS_ok hn]
        rfl
      · refine ⟨fun r => ?_, _, _, rfl, by decide⟩
        show ((numP (⟨1, numS n⟩ :: r)).map fun p => (KeyA.smaller p.1, p.2)) = _
        rw [numS_ok hn]
        rfl
    split at h
    · rename_i hk18
      injection h with h
      subst h hk18
      refine ⟨fun r => ?_, _, _, rfl, by decide⟩
      show ((setP (spanS fr up) true).map fun k => (k, r)) = _
      rw [span_set hfr hup]
      rfl
    split at h
    · rename_i hk19
      injection h with h
      subst h hk19
      exact ⟨fun r => key_span hfr hup d r, _, _, rfl, (by decide : (1 : Int) ≠ 4)⟩
    split at h
    · cases h
    rename_i hneed
    cases hall : allK (toksK d) l with
    | none => rw [hall] at h; cases h
    | some us =>
      rw [hall] at h
      injection h with h
      subst h
      show Reads1 _ _ (headK kind ++ us ++ tailK kind)
      have hf : ∀ x ∈ l, ∀ a, toksK d x = some a → Reads1 (keyP d) (keyOf d x) a := fun x hx a ha => key_toks d x a (hsub x hx) ha
      by_cases h20 : kind = 20
      · subst h20
        have hl1 : l.length = 1 := by
          rw [hlen]
          unfold needK at hneed
          simp at hneed
          omega
        match l, hl1 with
        | [x], _ =>
          obtain ⟨a, b, ha, hb, rfl⟩ := all_cons hall
          injection hb with hb
          subst hb
          have := not_reads (hf x List.mem_cons_self a ha)
          have e : headK 20 ++ (a ++ []) ++ tailK 20 = [⟨1, [78, 111, 116]⟩] ++ a := by simp [headK, tailK]
          rw [e]
          exact this
      · by_cases h21 : kind = 21
        · subst h21
          have hl2 : l.length = 2 := by
            rw [hlen]
            unfold needK at hneed
            simp at hneed
            omega
          match l, hl2 with
          | [x, y], _ =>
            obtain ⟨a, b, ha, hb, rfl⟩ := all_cons hall
            obtain ⟨b1, b2, hb1, hb2, rfl⟩ := all_cons hb
            injection hb2 with hb2
            subst hb2
            have := or_reads (hf x List.mem_cons_self a ha) (hf y (by simp) b1 hb1)
            have e : headK 21 ++ (a ++ (b1 ++ [])) ++ tailK 21 = [⟨1, [79, 82]⟩] ++ (a ++ b1) := by simp [headK, tailK]
            rw [e]
            exact this
        · have hne : l ≠ [] := by
            rintro rfl
            unfold needK at hneed
            rw [if_neg h21] at hneed
            simp at hlen
            omega
          have := both_reads hne hf hall
          have e1 : headK kind = [⟨3, []⟩] := by unfold headK; rw [if_neg h20, if_neg h21]
          have e2 : tailK kind = [⟨4, []⟩] := by unfold tailK; rw [if_pos (by omega)]
          have e3 : keyOf (d + 1) ⟨kind, word, n, fr, up, A, len, c, l⟩ = .both (l.map (keyOf d)) := by
            rw [keyOf_eq, if_neg (by omega), if_neg (by omega), if_neg (by omega), if_neg (by omega), if_neg (by omega), if_neg (by omega), if_neg (by omega), if_neg (by omega), if_neg (by omega), if_neg (by omega), if_neg (by omega), if_neg (by omega), if_neg h20, if_neg h21]
          rw [e1, e2, e3]
          exact this
/-- so many tokens at most -/
def mostT : Nat → Nat
  | 0 => 0
  | d + 1 => 2 + 5 * mostT d
theorem all_most {tok : KeyV → Option (List TokI)} {m : Nat} : ∀ (L : List KeyV) (ts : List TokI), (∀ x ∈ L, ∀ a, tok x = some a → a.length ≤ m) → allK tok L = some ts → ts.length ≤ m * L.length
  | [], ts, _, h => by injection h with h; subst h; simp
  | x :: L, ts, hf, h => by
    obtain ⟨a, b, ha, hb, rfl⟩ := all_cons h
    have h1 := hf x List.mem_cons_self a ha
    have h2 := all_most L b (fun y hy => hf y (List.mem_cons_of_mem _ hy)) hb
    rw [List.length_append, List.length_cons, Nat.mul_succ]
    omega
theorem all_mem {tok : KeyV → Option (List TokI)} {P : TokI → Prop} : ∀ (L : List KeyV) (ts : List TokI), (∀ x ∈ L, ∀ a, tok x = some a → ∀ t ∈ a, P t) → allK tok L = some ts → ∀ t ∈ ts, P t
  | [], ts, _, h => by injection h with h; subst h; intro t ht; cases ht
  | x :: L, ts, hf, h => by
    obtain ⟨a, b, ha, hb, rfl⟩ := all_cons h
    intro t ht
    rcases List.mem_append.1 ht with ht | ht
    · exact hf x List.mem_cons_self a ha t ht
    · exact all_mem L b (fun y hy => hf y (List.mem_cons_of_mem _ hy)) hb t ht
theorem headK_len (k : Nat) : (headK k).length = 1 := by
  unfold headK
  split
  · rfl
  · split <;> rfl
theorem toks_most : ∀ (d : Nat) (k : KeyV) (ts : List TokI), KeyFits d k → toksK d k = some ts → ts.length ≤ mostT d ∧ ∀ t ∈ ts, t.t.length ≤ 100
  | 0, k, ts, _, h => by cases h
  | d + 1, ⟨kind, word, n, fr, up, A, len, c, l⟩, ts, hfit, h => by
    obtain ⟨hlen, hk, hn, hfr, hup, hsub⟩ := hfit
    simp only [KeyV.kind, KeyV.n, KeyV.fr, KeyV.up, KeyV.l, KeyV.len] at hlen hk hn hfr hup hsub
    have h := (toks_eq d kind word n fr up A len c l).symm.trans h
    have hm : 2 ≤ mostT (d + 1) := by unfold mostT; omega
    have hd : ∀ u : Nat, u < 4294967296 → (digS u).length ≤ 10 := fun u hu => by
      unfold digS
      split
      · decide
      · rw [digits_count 10 u (by omega) (by decide)]
        exact countB_len 10 u
    have hsp : (spanS fr up).length ≤ 100 := by
      unfold spanS
      have h1 := hd fr hfr
      have h2 := hd up hup
      simp only [List.length_append, List.length_cons, List.length_nil]
      omega
    have hnm : (numS n).length ≤ 100 := by
      unfold numS
      split
      · decide
      · have := hd n (by omega); omega
    have hkn : (kNames[kind]?.getD []).length ≤ 100 := by
      cases hx : kNames[kind]? with
      | none => decide
      | some x => exact (by decide : ∀ x ∈ kNames, x.length ≤ 100) x (List.mem_of_getElem? hx)
    by_cases hw : 100 < word.length
    · rw [if_pos hw] at h; cases h
    rw [if_neg hw] at h
    split at h
    · injection h with h
      subst h
      refine ⟨by simp; omega, fun t ht => ?_⟩
      rw [List.mem_singleton.1 ht]; exact hkn
    split at h
    · injection h with h
      subst h
      refine ⟨hm, fun t ht => ?_⟩
      simp only [List.mem_cons, List.not_mem_nil, or_false] at ht
      rcases ht with rfl | rfl
      · exact hkn
      · show word.length ≤ 100
        omega
    split at h
    · injection h with h
      subst h
      refine ⟨hm, fun t ht => ?_⟩
      simp only [List.mem_cons, List.not_mem_nil, or_false] at ht
      rcases ht with rfl | rfl
      · exact hkn
      · exact hnm
    split at h
    · injection h with h
      subst h
      refine ⟨hm, fun t ht => ?_⟩
      simp only [List.mem_cons, List.not_mem_nil, or_false] at ht
      rcases ht with rfl | rfl
      · show 3 ≤ 100; omega
      · exact hsp
    split at h
    · injection h with h
      subst h
      refine ⟨by simp; omega, fun t ht => ?_⟩
      rw [List.mem_singleton.1 ht]; exact hsp
    split at h
    · cases h
    rename_i hneed
    cases hall : allK (toksK d) l with
    | none => rw [hall] at h; cases h
    | some us =>
      rw [hall] at h
      injection h with h
      subst h
      have h1 := all_most l us (m := mostT d) (fun x hx a ha => (toks_most d x a (hsub x hx) ha).1) hall
      have h2 : mostT d * l.length ≤ mostT d * 5 := Nat.mul_le_mul_left _ (by omega)
      have e1 : (headK kind).length = 1 := headK_len kind
      have e2 : (tailK kind).length ≤ 1 := by unfold tailK; split <;> simp
      refine ⟨by show (headK kind ++ us ++ tailK kind).length ≤ _; rw [List.length_append, List.length_append]; unfold mostT; omega, fun t ht => ?_⟩
      replace ht : t ∈ headK kind ++ us ++ tailK kind := ht
      rcases List.mem_append.1 ht with ht | ht
      · rcases List.mem_append.1 ht with ht | ht
        · unfold headK at ht
          repeat' split at ht
          all_goals (rw [List.mem_singleton.1 ht]; decide)
        · exact all_mem l us (fun x hx a ha => (toks_most d x a (hsub x hx) ha).2) hall t ht
      · unfold tailK at ht
        split at ht
        · rw [List.mem_singleton.1 ht]; decide
        · cases ht
end Go.Proofs.YtjhaccmcjlbllaaGreatDoor
/-
  Whole variables of many cells: stored, and loaded.
-/
namespace Go.Proofs.YtjhaccmcjlbllaaGreatDoor
open Go Go.RowKit
set_option linter.unusedSimpArgs false
set_option linter.unusedVariables false
section
variable {P : Program} {w : World} {g : Nat} {T : TypeId} {ev : Operand → Value} {o : Oper} {a x : Operand} {cs cur : List Value}
theorem run_setAll : ∀ (cs : List Value) (i : Nat) (cur : List Value) (w : World), Blk w g T cur.toArray → i + cs.length ≤ cur.length → (∀ v ∈ cs, v.oneCell' = true) → (storeCells ⟨g, 0, none⟩ cs i).run P w = .ok () (setAll w g i cs)
  | [], i, cur, w, _, _, _ => by simp [storeCells, setAll]
  | c :: r, i, cur, w, K, h, h1 => by
    rw [List.length_cons] at h
    have hst := run_store P w ⟨g, i, none⟩ c .plain (h1 c List.mem_cons_self)
    have hc : cur.toArray[i]? = some (cur[i]'(by omega)) := by
      rw [List.getElem?_toArray]
      exact List.getElem?_eq_getElem (by omega)
    rw [K.cell, hc] at hst
    simp only [K.frozen] at hst
    have h2 := K.set_ i c
    rw [List.setIfInBounds_toArray] at h2
    have ih := run_setAll r (i + 1) _ _ h2 (by rw [List.length_set]; omega) (fun v hv => h1 v (List.mem_cons_of_mem _ hv))
    have e0 : (⟨g, 0, none⟩ : Addr).add i = ⟨g, i, none⟩ := add0 g i
    rw [storeCells]
    simp [Sem.run_bind, e0, hst, ih, setAll]
theorem exec_storeW (ho : o.op = .store T a x) (ha : ev a = .pointer (some ⟨g, 0, none⟩)) (hx : ev x = .agg cs.toArray) (hi : (P.info? T).map (·.size) = some cs.length) (K : Blk w g T cur.toArray) (hl : cs.length = cur.length) (h1 : cs.all (·.oneCell') = true) : (execOp ev o).run P w = .ok .skip (setAll w g 0 cs) := by
  have hs := run_setAll (P := P) cs 0 cur w K (by omega) (fun v hv => List.all_eq_true.1 h1 v hv)
  cases hq : P.info? T with
  | none => simp [hq] at hi
  | some i =>
    have hsz : i.size = cs.length := by simpa [hq] using hi
    unfold execOp
    simp [ho, ha, hx, Instr.storeAt, Instr.sureAddr, storeVar, sizeOf, typeInfo, hq, Value.cells, hsz, hs]
theorem exec_loadW (ho : o.op = .load T a) (ha : ev a = .pointer (some ⟨g, 0, none⟩)) (hi : (P.info? T).map (·.size) = some cs.length) (hg : ∀ w, (isAgg T).run P w = .ok true w) (K : Blk w g T cs.toArray) : (execOp ev o).run P w = .ok (.value (.agg cs.toArray)) w := by
  have hs := run_loadCells_list (P := P) w ⟨g, 0, none⟩ cs (fun j v hv => by
    rw [show (⟨g, 0, none⟩ : Addr).add j = ⟨g, j, none⟩ from add0 g j, K.cell]
    rw [List.getElem?_toArray]; exact hv)
  cases hq : P.info? T with
  | none => simp [hq] at hi
  | some i =>
    have hsz : i.size = cs.length := by simpa [hq] using hi
    unfold execOp
    simp [ho, ha, Instr.loadAt, Instr.sureAddr, loadVar, hg w, sizeOf, typeInfo, hq, hsz, hs]
theorem run_loadVarW (hi : (P.info? T).map (·.size) = some cs.length) (hg : ∀ w, (isAgg T).run P w = .ok true w) (K : Blk w g T cs.toArray) : (loadVar T ⟨g, 0, none⟩).run P w = .ok (.agg cs.toArray) w := by
  have hs := run_loadCells_list (P := P) w ⟨g, 0, none⟩ cs (fun j v hv => by
    rw [show (⟨g, 0, none⟩ : Addr).add j = ⟨g, j, none⟩ from add0 g j, K.cell]
    rw [List.getElem?_toArray]; exact hv)
  cases hq : P.info? T with
  | none => simp [hq] at hi
  | some i =>
    have hsz : i.size = cs.length := by simpa [hq] using hi
    simp [loadVar, hg w, sizeOf, typeInfo, hq, hsz, hs]
theorem ret_cellW {n : Nat} {Γ : List (Nat × Value)} {act : Act} {fn : Func} {R : Ending → World → Prop} {t u : Nat} {y : Value} (hA : At n Γ act) (hr : fn.results = #[.cell t T, .tmp u]) (hl : look Γ t = some (.pointer (some ⟨g, 0, none⟩))) (hl2 : look Γ u = some y) (hi : (P.info? T).map (·.size) = some cs.length) (hg : ∀ w, (isAgg T).run P w = .ok true w) (K : Blk w g T cs.toArray) (hR : R (.returned (.tuple #[.agg cs.toArray, y])) w) : bodyPost P fn R .ret act w :=
  bodyPost_ret (by
    have h1 := run_loadVarW (P := P) hi hg K
    have e1 : act.tmps[t]?.getD undef = _ := (Array.getD_eq_getD_getElem? ..).symm.trans (hA.getD t hl)
    have e2 : act.tmps[u]?.getD undef = _ := (Array.getD_eq_getD_getElem? ..).symm.trans (hA.getD u hl2)
    simp [results, hr, e1, e2, asAddr, h1]) hA.defers hR
end
end Go.Proofs.YtjhaccmcjlbllaaGreatDoor
/-
  Walks: a text as it is told (fetch.String), and the statement's own count.
-/
namespace Go.Proofs.YtjhaccmcjlbllaaGreatDoor
open Go.RowKit
set_option linter.unusedSimpArgs false
set_option linter.unusedVariables false
theorem countB_small {f n : Nat} (h : n < 10) : countB (f + 1) n = [UInt8.ofNat (48 + n)] := by
  show (if n < 10 then _ else _) = _
  rw [if_pos h]
theorem countB_great {f n : Nat} (h : ¬ n < 10) : countB (f + 1) n = countB f (n / 10) ++ [UInt8.ofNat (48 + n % 10)] := by
  show (if n < 10 then _ else _) = _
  rw [if_neg h]
set_option maxRecDepth 100000 in
set_option maxHeartbeats 4000000 in
theorem digits_any (q f0 : Nat) (w : World) (hf0 : 1 ≤ f0) (hf1 : f0 ≤ 19) (hq1 : q < 10 ^ f0) (hq2 : q < 10000000000000000000) : Calls Tryz.prog 11 #[.int .u64 (q : Nat)] w fun ev w' => ev = .returned (.string (St (countB f0 q))) ∧ Below w.heap.size w w' := by
  refine calls_at 21 Tryz.func11 rfl rfl (Nat.le_of_ble_eq_true rfl) ?_
  intro a hA; replace hA := hA.norm
  refine wS (wR ?_)
  revert a; refine wo rfl rfl (by decide) (fun ev e h => by simp [go_sem, h] <;> rfl) ?_; intro a hA
  replace hA := hA.keepN [0]
  refine wN (nT (wS (wR ?_)))
  revert a; refine wo rfl rfl (by decide) (fun ev e h => by simp [go_sem, h] <;> rfl) ?_; intro a hA
  replace hA := hA.keepN [0, 3]
  refine wN (nT (wS (wB ?_)))
  refine wp_loop_at (fun k a wx => ∃ (f n : Nat) (s : List UInt8), (s = [] ∨ 0 < n → countB f0 q = countB f n ++ s ∧ n < 10 ^ f ∧ 1 ≤ f) ∧ (s ≠ [] → n = 0 → countB f0 q = s) ∧ n ≤ q ∧ s.length ≤ 100 ∧ s.length + f ≤ 20 ∧ n + (if s = [] then 1 else 0) ≤ k ∧ Below w.heap.size w wx ∧ At 21 [(0, .int .u64 (n : Nat)), (3, .string (St s))] a) (q + 1) ?_ ?_
  · exact ⟨f0, q, [], fun _ => ⟨by simp, hq1, hf0⟩, fun h => absurd rfl h, Nat.le_refl _, Nat.zero_le _, by simp; omega, by simp, Below.refl _ _, hA⟩
  clear hA
  rintro k a wx ⟨f, n, s, h1, h2, hnq, hsl, hsf, hk, HB, hA⟩
  refine wS (wS (wR ?_))
  revert a; (iterate 3 refine wo rfl rfl (by decide) (fun ev e h => by simp [go_sem, h] <;> rfl) ?_); (iterate 2 refine wg _ rfl rfl rfl rfl (by decide) (fun hq ev e h => by simp [go_sem, h, ↓gw_t (beq_t hq)] <;> rfl) ?_); refine wko rfl rfl (by decide) rfl rfl rfl ?_; intro a hA
  replace hA := hA.keepN [0, 3, 9]
  refine wN (nT ?_)
  refine wp_if hA 9 _ rfl (fun hq => ?yL) (fun hq => ?nL)
  case nL =>
    have hc : n = 0 ∧ ¬ s = [] := by simpa using hq
    have hs := hc.2
    replace hA := hA.keepN [3]
    refine wp_exit (xT (xT (xB (nT (wS (wR ?_))))))
    revert a; (iterate 2 refine wo rfl rfl (by decide) (fun ev e h => by simp [go_sem, h] <;> rfl) ?_); intro a hA
    replace hA := hA.keepN [2]
    refine wN (nT (wp_ret ?_))
    refine ret_1 hA 2 rfl rfl ?_
    exact ⟨by rw [h2 hs (by omega)], HB⟩
  case yL =>
    have hc : s = [] ∨ 0 < n := by
      rcases Nat.eq_zero_or_pos n with e | e
      · left
        subst e
        simpa using hq
      · exact .inr e
    obtain ⟨h3, h4, h5⟩ := h1 hc
    obtain ⟨f, rfl⟩ : ∃ g, f = g + 1 := ⟨f - 1, by omega⟩
    obtain ⟨dg, hdg⟩ : ∃ dg : UInt8, UInt8.ofNat (48 + n % 10) = dg := ⟨_, rfl⟩
    have hdn : dg.toNat = 48 + n % 10 := by rw [← hdg, UInt8.toNat_ofNat']; omega
    have j1 : ((n : Nat) : Int).tmod 10 = ((n % 10 : Nat) : Int) := by rw [Int.tmod_eq_emod_of_nonneg (by omega)]; rfl
    have j2 : IntKind.u64.wrap (48 + ((n % 10 : Nat) : Int)) = ((dg.toNat : Nat) : Int) := by rw [IntWalk.u64_in _ (by omega)]; omega
    have j3 : IntKind.u8.wrap ((dg.toNat : Nat) : Int) = ((dg.toNat : Nat) : Int) := by
      have := dg.toNat_lt
      unfold IntKind.wrap
      simp [IntKind.bits, IntKind.signed]
      omega
    have j4 : ((n : Nat) : Int).tdiv 10 = ((n / 10 : Nat) : Int) := rfl
    have j5 : IntKind.u64.wrap ((n / 10 : Nat) : Int) = ((n / 10 : Nat) : Int) := IntWalk.u64_in _ (by omega)
    obtain ⟨n2, hn2⟩ : ∃ n2, n / 10 = n2 := ⟨_, rfl⟩
    obtain ⟨n3, hn3⟩ : ∃ n3, n % 10 = n3 := ⟨_, rfl⟩
    rw [hn2] at j4 j5
    rw [hn3] at j1 j2 hdn
    refine wp_skip (nT (wB (wS (wR ?_))))
    revert a; (iterate 3 refine wo rfl rfl (by decide) (fun ev e h => by simp [go_sem, h, j1, j2, j3, j4, j5] <;> rfl) ?_); intro a hA
    refine wl_op hA rfl rfl (by decide) (fun ev h => by simp [go_sem, h.get 12 rfl, j1, j2, j3, j4, j5]; try first | exact ⟨rfl, rfl⟩ | rfl) fun a hA => ?_
    refine wl_new hA rfl rfl (by decide) (fun ev h => by simp [go_sem, h.get 13 rfl, j1, j2, j3, j4, j5]; try first | exact ⟨rfl, rfl⟩ | rfl) fun w1 a (K : Blk _ _ _ _) hz1' hb1 hA => ?_
    replace HB := HB.trans (hb1.mono HB.size)
    have hrd : Reads w1 w1.heap.size 1 (some ⟨wx.heap.size, 0, none⟩) 1 (u8s [dg]) := (blk_x (B := 0) (l := [dg]) K (Nat.zero_le _) rfl (by simp)).reads
    have hcv := conv_reads (n := 1) (c := 1) (l := [dg]) rfl hrd
    have ka : (⟨[dg].toArray⟩ : ByteArray) ++ St s = St (dg :: s) := st_app [dg] s
    have kz : ¬ 9223372036854775807 < 1 + s.length := by omega
    refine wl_op hA rfl rfl (by decide) (fun ev h => by simp [go_sem, h.get 14 rfl, j1, j2, j3, j4, j5, hcv, ka, kz]; try first | exact ⟨rfl, rfl⟩ | rfl) fun a hA => ?_
    revert a; (iterate 3 refine wo rfl rfl (by decide) (fun ev e h => by simp [go_sem, h, j1, j2, j3, j4, j5, hcv, ka, kz] <;> rfl) ?_); intro a hA
    replace hA := hA.keepN [0, 3]
    refine wN (nT (wR ?_))
    revert a; (iterate 3 refine wo rfl rfl (by decide) (fun ev e h => by simp [go_sem, h, j1, j2, j3, j4, j5, hcv, ka, kz] <;> rfl) ?_); intro a hA
    replace hA := hA.keepN [0, 3]
    refine wN (nB (nT ?_))
    refine ⟨k - 1, ?_, f, n2, dg :: s, fun hd => ?_, fun _ hn0 => ?_, by omega, by simp; omega, by simp; omega, ?_, HB, hA⟩
    · split at hk <;> rename_i hs
      · omega
      · rcases hc with h | h
        · exact absurd h hs
        · omega
    · have hp : 0 < n2 := by
        rcases hd with h | h
        · cases h
        · exact h
      have hg : ¬ n < 10 := by omega
      refine ⟨by rw [h3, countB_great hg, hn2, hn3, List.append_assoc, ← hdg, hn3]; rfl, by rw [Nat.pow_succ] at h4; omega, ?_⟩
      rcases Nat.eq_zero_or_pos f with e | e
      · subst e; rw [Nat.zero_add, Nat.pow_one] at h4; omega
      · exact e
    · have hg : n < 10 := by omega
      rw [h3, countB_small hg, ← hdg, hn3, show n3 = n by omega]
      rfl
    · rw [if_neg (by simp)]
      split at hk <;> rename_i hs
      · omega
      · rcases hc with h | h
        · exact absurd h hs
        · omega
/-- a text with its length ahead -/
def litB (s : List UInt8) : List UInt8 := [123] ++ countB 7 s.length ++ [125] ++ [13, 10] ++ s
theorem itoa_count {n : Nat} (h : n < 10000000) : Lib.itoa ((n : Nat) : Int) = countB 7 n := by
  unfold Lib.itoa
  rw [if_neg (by omega), Int.toNat_natCast, digits_count 7 n (by omega) (by decide)]
theorem itoa_any (n : Nat) (w : World) (h : n < 10000000) (htab : Lib.TabIs Tryz.prog w "internal/strconv.uint64pow10" .u64 Lib.pow10Tab) : Calls Tryz.prog 61 #[.int .i64 (n : Nat)] w fun e w' => e = .returned (.string (St (countB 7 n))) ∧ Below w.heap.size w w' :=
  (Tryz.strconv_Itoa ((n : Nat) : Int) (by omega) (by omega) w htab).mono fun e w' ⟨h1, k, os, h2⟩ => ⟨by rw [h1, itoa_count h], h2 ▸ Lib.below_grow _ w (Nat.le_refl _) k os⟩
set_option maxRecDepth 100000 in
set_option maxHeartbeats 4000000 in
theorem fcounted_any (s : List UInt8) (w : World) (hs : s.length < 1000000) (htab : Lib.TabIs Tryz.prog w "internal/strconv.uint64pow10" .u64 Lib.pow10Tab) : Calls Tryz.prog 54 #[.string (St s)] w fun ev w' => ev = .returned (.string (St (litB s))) ∧ Below w.heap.size w w' := by
  have hcl := countB_len 7 s.length
  obtain ⟨D, hD⟩ : ∃ D, countB 7 s.length = D := ⟨_, rfl⟩
  obtain ⟨A2, hA2⟩ : ∃ A2, [123] ++ D = A2 := ⟨_, rfl⟩
  obtain ⟨A3, hA3⟩ : ∃ A3, A2 ++ [125, 13, 10] = A3 := ⟨_, rfl⟩
  obtain ⟨A4, hA4⟩ : ∃ A4, A3 ++ s = A4 := ⟨_, rfl⟩
  have hL : litB s = A4 := by unfold litB; rw [← hA4, ← hA3, ← hA2, hD]; simp
  rw [hD] at hcl
  have l2 : A2.length = 1 + D.length := by rw [← hA2]; simp; omega
  have l3 : A3.length = A2.length + 3 := by rw [← hA3]; simp
  have c2 : (⟨#[123]⟩ : ByteArray) ++ St D = St A2 := by rw [← hA2]; exact st_app [123] D
  have c3 : St A2 ++ (⟨#[125, 13, 10]⟩ : ByteArray) = St A3 := by rw [← hA3]; exact st_app A2 [125, 13, 10]
  have c4 : St A3 ++ St s = St A4 := by rw [← hA4]; exact st_app _ _
  have d2 : ¬ 9223372036854775807 < 1 + D.length := by omega
  have d3 : ¬ 9223372036854775807 < A2.length + 3 := by omega
  have d4 : ¬ 9223372036854775807 < A3.length + s.length := by omega
  have hsz : (St s).size = s.length := rfl
  have HB := Below.refl w.heap.size w
  rw [hL]
  refine calls_at 10 Tryz.func54 rfl rfl (Nat.le_of_ble_eq_true rfl) ?_
  intro a hA; replace hA := hA.norm
  refine wS (wR ?_)
  revert a; refine wo rfl rfl (by decide) (fun ev e h => by simp [go_sem, h, hsz, c2, c3, c4, d2, d3, d4] <;> rfl) ?_; intro a hA
  replace hA := hA.keepN [0]
  refine wN (nT (wS (wR ?_)))
  revert a; (iterate 2 refine wo rfl rfl (by decide) (fun ev e h => by simp [go_sem, h, hsz, c2, c3, c4, d2, d3, d4] <;> rfl) ?_); intro a hA
  refine wl_call hA rfl rfl (by decide) (fun ev h => exec_call Tryz.func61 (by kernel_rfl) rfl (h.f _) (by first | (simp only [mL, h.get 4 rfl, h.c] <;> rfl) | (simp [mL, h.get 4 rfl, h.c, hsz, c2, c3, c4, d2, d3, d4] <;> rfl))) (itoa_any s.length w (by omega) htab) ?_
  rintro e w1 ⟨rfl, hb1⟩
  refine ⟨_, rfl, fun a hA => ?_⟩
  replace HB := HB.trans (hb1.mono HB.size)
  rw [hD] at hA
  revert a; (iterate 5 refine wo rfl rfl (by decide) (fun ev e h => by simp [go_sem, h, hsz, c2, c3, c4, d2, d3, d4] <;> rfl) ?_); intro a hA
  replace hA := hA.keepN [2]
  refine wN (nT (wp_ret ?_))
  refine ret_1 hA 2 rfl rfl ?_
  exact ⟨rfl, HB⟩
set_option maxRecDepth 100000 in
set_option maxHeartbeats 4000000 in
theorem lcounted_any (s : List UInt8) (w : World) (hs : s.length < 1000000) : Calls Tryz.prog 15 #[.string (St s)] w fun ev w' => ev = .returned (.string (St (litB s))) ∧ Below w.heap.size w w' := by
  have hcl := countB_len 7 s.length
  obtain ⟨D, hD⟩ : ∃ D, countB 7 s.length = D := ⟨_, rfl⟩
  obtain ⟨A2, hA2⟩ : ∃ A2, [123] ++ D = A2 := ⟨_, rfl⟩
  obtain ⟨A3, hA3⟩ : ∃ A3, A2 ++ [125, 13, 10] = A3 := ⟨_, rfl⟩
  obtain ⟨A4, hA4⟩ : ∃ A4, A3 ++ s = A4 := ⟨_, rfl⟩
  have hL : litB s = A4 := by unfold litB; rw [← hA4, ← hA3, ← hA2, hD]; simp
  rw [hD] at hcl
  have l2 : A2.length = 1 + D.length := by rw [← hA2]; simp; omega
  have l3 : A3.length = A2.length + 3 := by rw [← hA3]; simp
  have c2 : (⟨#[123]⟩ : ByteArray) ++ St D = St A2 := by rw [← hA2]; exact st_app [123] D
  have c3 : St A2 ++ (⟨#[125, 13, 10]⟩ : ByteArray) = St A3 := by rw [← hA3]; exact st_app A2 [125, 13, 10]
  have c4 : St A3 ++ St s = St A4 := by rw [← hA4]; exact st_app _ _
  have d2 : ¬ 9223372036854775807 < 1 + D.length := by omega
  have d3 : ¬ 9223372036854775807 < A2.length + 3 := by omega
  have d4 : ¬ 9223372036854775807 < A3.length + s.length := by omega
  have hsz : (St s).size = s.length := rfl
  have hw : IntKind.u64.wrap ((s.length : Nat) : Int) = ((s.length : Nat) : Int) := IntWalk.u64_in _ (by omega)
  have HB := Below.refl w.heap.size w
  rw [hL]
  refine calls_at 11 Tryz.func15 rfl rfl (Nat.le_of_ble_eq_true rfl) ?_
  intro a hA; replace hA := hA.norm
  refine wS (wR ?_)
  revert a; refine wo rfl rfl (by decide) (fun ev e h => by simp [go_sem, h, hsz, hw, c2, c3, c4, d2, d3, d4] <;> rfl) ?_; intro a hA
  replace hA := hA.keepN [0]
  refine wN (nT (wS (wR ?_)))
  revert a; (iterate 2 refine wo rfl rfl (by decide) (fun ev e h => by simp [go_sem, h, hsz, hw, c2, c3, c4, d2, d3, d4] <;> rfl) ?_); intro a hA
  refine wl_op hA rfl rfl (by decide) (fun ev h => by simp [go_sem, h.get 4 rfl, hsz, hw, c2, c3, c4, d2, d3, d4]; try first | exact ⟨rfl, rfl⟩ | rfl) fun a hA => ?_
  refine wl_call hA rfl rfl (by decide) (fun ev h => exec_call Tryz.func11 (by kernel_rfl) rfl (h.f _) (by first | (simp only [mL, h.get 5 rfl, h.c] <;> rfl) | (simp [mL, h.get 5 rfl, h.c, hsz, hw, c2, c3, c4, d2, d3, d4] <;> rfl))) (digits_any s.length 7 w (by decide) (by decide) (by omega) (by omega)) ?_
  rintro e w1 ⟨rfl, hb1⟩
  refine ⟨_, rfl, fun a hA => ?_⟩
  replace HB := HB.trans (hb1.mono HB.size)
  rw [hD] at hA
  revert a; (iterate 5 refine wo rfl rfl (by decide) (fun ev e h => by simp [go_sem, h, hsz, hw, c2, c3, c4, d2, d3, d4] <;> rfl) ?_); intro a hA
  replace hA := hA.keepN [2]
  refine wN (nT (wp_ret ?_))
  refine ret_1 hA 2 rfl rfl ?_
  exact ⟨rfl, HB⟩
theorem strF_litB {s : List UInt8} (h : s.all plainT = false) : strF s = litB s := strF_lit h
theorem plain_at {s : List UInt8} {j : Nat} {x : UInt8} (hx : s[j]? = some x) (h : plainT x = false) : s.all plainT = false := by
  refine Bool.eq_false_iff.2 fun ha => ?_
  rw [List.all_eq_true.1 ha x (List.mem_of_getElem? hx)] at h
  cases h
theorem plainT_int (x : UInt8) : (decide (((x.toNat : Nat) : Int) < 32) || decide ((126 : Int) < ((x.toNat : Nat) : Int))) = !plainT x := by
  unfold plainT
  rw [show decide (((x.toNat : Nat) : Int) < 32) = !decide (32 ≤ x.toNat) by rw [Bool.eq_iff_iff]; simp; omega, show decide ((126 : Int) < ((x.toNat : Nat) : Int)) = !decide (x.toNat ≤ 126) by rw [Bool.eq_iff_iff]; simp; omega]
  cases decide (32 ≤ x.toNat) <;> cases decide (x.toNat ≤ 126) <;> rfl
theorem count_le' (c : UInt8) (s : List UInt8) : Lib.countB (St s) (St [c]) ≤ s.length := by
  show Lib.count s [c] ≤ _
  rw [Lib.count_one]
  exact List.count_le_length
theorem rep_len (c : UInt8) {new : List UInt8} (hn : new ≠ [c]) (h2 : new.length ≤ 2) (s : List UInt8) : (Lib.replaceAll s [c] new).length ≤ 2 * s.length := by
  rw [repAll_one c hn]
  induction s with
  | nil => simp
  | cons x s ih =>
    rw [List.flatMap_cons, List.length_append, List.length_cons]
    have : (if x = c then new else [x]).length ≤ 2 := by
      split
      · exact h2
      · simp
    omega
set_option maxRecDepth 100000 in
set_option maxHeartbeats 4000000 in
theorem string_any (s : List UInt8) (m : Int) (w : World) (hm : w.cell? ⟨0, 0, none⟩ = some (.int .i64 m)) (hs : s.length < 900000) (htab : Lib.TabIs Tryz.prog w "internal/strconv.uint64pow10" .u64 Lib.pow10Tab) : Calls Tryz.prog 31 #[.string (St s)] w fun ev w' => ev = .returned (.string (St (strF s))) ∧ Below w.heap.size w w' := by
  have hm0 : 0 < w.heap.size := block_lt_of_cell hm
  have hsz : (St s).size = s.length := rfl
  refine calls_at 27 Tryz.func31 rfl rfl (Nat.le_of_ble_eq_true rfl) ?_
  intro a hA; replace hA := hA.norm
  refine wS (wR ?_)
  revert a; refine wo rfl rfl (by decide) (fun ev e h => by simp [go_sem, h, hsz] <;> rfl) ?_; intro a hA
  replace hA := hA.keepN [0]
  refine wN (nT (wS (wS (wR ?_))))
  revert a; (iterate 3 refine wo rfl rfl (by decide) (fun ev e h => by simp [go_sem, h, hsz] <;> rfl) ?_); intro a hA
  replace hA := hA.keepN [0, 5, 6]
  refine wN (nT (wB ?_))
  refine wp_loop_at (fun f a wx => ∃ j : Nat, j + f = s.length ∧ (∀ x ∈ s.take j, plainT x = true) ∧ wx = w ∧ At 27 [(0, .string (St s)), (5, .int .i64 (s.length : Nat)), (6, .int .i64 (j : Nat))] a) (s.length) ?_ ?_
  · exact ⟨0, by omega, fun _ h => (by cases h), rfl, hA⟩
  clear hA
  rintro f a wx ⟨j, hjf, hpl, rfl, hA⟩
  refine wS (wR ?_)
  revert a; refine wo rfl rfl (by decide) (fun ev e h => by simp [go_sem, h, hsz] <;> rfl) ?_; intro a hA
  replace hA := hA.keepN [0, 5, 6, 7]
  refine wN (nT (wS ?_))
  refine wp_if hA 7 _ rfl (fun hq => ?yA) (fun hq => ?nA)
  case yA =>
    have hjn : j < s.length := by simp at hq; omega
    obtain ⟨x, hx⟩ : ∃ x, s[j]? = some x := ⟨_, List.getElem?_eq_getElem hjn⟩
    have g1 : ∀ h : j < (St s).size, (St s)[j] = x := fun h => (List.getElem?_eq_some_iff.1 hx).2
    have i1 : IntKind.i64.wrap ((j : Nat) : Int) = ((j : Nat) : Int) := IntWalk.i64_in _ (by omega)
    have i3 : IntKind.i64.wrap (((j : Nat) : Int) + 1) = ((j + 1 : Nat) : Int) := by rw [IntWalk.i64_in _ (by omega)]; omega
    refine wp_skip (nT (wS (wB (wS (wR ?_)))))
    revert a; (iterate 2 refine wo rfl rfl (by decide) (fun ev e h => by simp [go_sem, h, hsz, g1, i1, hjn] <;> rfl) ?_); intro a hA
    replace hA := hA.keepN [0, 3, 5, 6]
    refine wN (nT (wS (wR ?_)))
    revert a; (iterate 5 refine wo rfl rfl (by decide) (fun ev e h => by simp [go_sem, h, hsz, g1, i1, hjn] <;> rfl) ?_); (iterate 4 refine wg _ rfl rfl rfl rfl (by decide) (fun hq ev e h => by simp [go_sem, h, ↓gw_t (beq_t hq), hsz, g1, i1, hjn] <;> rfl) ?_); refine wko rfl rfl (by decide) rfl rfl rfl ?_; intro a hA
    replace hA := hA.keepN [0, 5, 6, 18]
    refine wN (nT ?_)
    refine wp_if hA 18 _ rfl (fun hq2 => ?yB) (fun hq2 => ?nB)
    case yB =>
      rw [plainT_int] at hq2
      have hp := plain_at hx (by simpa using hq2)
      rw [strF_litB hp]
      have HB := Below.refl wx.heap.size wx
      refine wS (wR ?_)
      revert a; refine wo rfl rfl (by decide) (fun ev e h => by simp [go_sem, h, hsz, g1, i1, hjn] <;> rfl) ?_; intro a hA
      refine wl_call hA rfl rfl (by decide) (fun ev h => exec_call Tryz.func54 (by kernel_rfl) rfl (h.f _) (by first | (simp only [mL, h.get 19 rfl, h.c] <;> rfl) | (simp [mL, h.get 19 rfl, h.c, hsz, g1, i1, hjn] <;> rfl))) (fcounted_any s wx (by omega) htab) ?_
      rintro e w1 ⟨rfl, hb1⟩
      refine ⟨_, rfl, fun a hA => ?_⟩
      replace HB := HB.trans (hb1.mono HB.size)
      revert a; refine wo rfl rfl (by decide) (fun ev e h => by simp [go_sem, h, hsz, g1, i1, hjn] <;> rfl) ?_; intro a hA
      replace hA := hA.keepN [2]
      refine wN (nT (wp_ret (rB (rT (rT (rB (rT ?_)))))))
      refine ret_1 hA 2 rfl rfl ?_
      exact ⟨rfl, HB⟩
    case nB =>
      rw [plainT_int] at hq2
      have hp : plainT x = true := by simpa using hq2
      refine wp_skip (nB (nT (wR ?_)))
      revert a; (iterate 2 refine wo rfl rfl (by decide) (fun ev e h => by simp [go_sem, h, i3] <;> rfl) ?_); intro a hA
      replace hA := hA.keepN [0, 5, 6]
      refine wN (nT ?_)
      refine ⟨f - 1, by omega, j + 1, by omega, fun y hy => ?_, rfl, hA⟩
      rw [List.take_add_one, hx] at hy
      rcases List.mem_append.1 hy with h | h
      · exact hpl y h
      · rw [List.mem_singleton.1 h]; exact hp
  case nA =>
    have hjn : s.length ≤ j := by simp at hq; omega
    rw [List.take_of_length_le hjn] at hpl
    rw [strF_plain (List.all_eq_true.2 hpl)]
    have HB := Below.refl wx.heap.size wx
    have hl1 := rep_len 92 (new := [92, 92]) (by decide) (by decide) s
    have hl2 := rep_len 34 (new := [92, 34]) (by decide) (by decide) (Lib.replaceAll s [92] [92, 92])
    have hrep := rep_esc s
    obtain ⟨R1, hR1⟩ : ∃ R1, Lib.replaceAll s [92] [92, 92] = R1 := ⟨_, rfl⟩
    rw [hR1] at hl1 hl2 hrep
    obtain ⟨R2, hR2⟩ : ∃ R2, Lib.replaceAll R1 [34] [92, 34] = R2 := ⟨_, rfl⟩
    rw [hR2] at hl2 hrep
    have hc1 := count_le' 92 s
    have hc2 := count_le' 34 R1
    obtain ⟨R3, hR3⟩ : ∃ R3, [34] ++ R2 = R3 := ⟨_, rfl⟩
    have l3 : R3.length = 1 + R2.length := by rw [← hR3]; simp; omega
    have c2 : (⟨#[34]⟩ : ByteArray) ++ St R2 = St R3 := by rw [← hR3]; exact st_app [34] R2
    have c3 : St R3 ++ (⟨#[34]⟩ : ByteArray) = St (R3 ++ [34]) := st_app R3 [34]
    have d2 : ¬ 9223372036854775807 < 1 + R2.length := by omega
    have d3 : ¬ 9223372036854775807 < R3.length + 1 := by omega
    replace hA := hA.keepN [0]
    refine wp_exit (xT (xT (xB (nT (wS (wR ?_))))))
    revert a; refine wo rfl rfl (by decide) (fun ev e h => by simp [go_sem, h, hsz] <;> rfl) ?_; intro a hA
    refine wl_call hA rfl rfl (by decide) (fun ev h => exec_call Tryz.func55 (by kernel_rfl) rfl (h.f _) (by first | (simp only [mL, h.get 22 rfl, h.c] <;> rfl) | (simp [mL, h.get 22 rfl, h.c, hsz] <;> rfl))) (Tryz.strings_ReplaceAll (St s) (St [92]) (St [92, 92]) m wx (by show s.length < _; omega) hm (by decide) (by show s.length + _ * 2 ≤ _; omega)) ?_
    rintro e w1 ⟨rfl, hb1⟩
    refine ⟨_, rfl, fun a hA => ?_⟩
    replace HB := HB.trans (hb1.mono HB.size)
    rw [show (⟨(Lib.replaceAll (St s).data.toList (St [92]).data.toList (St [92, 92]).data.toList).toArray⟩ : ByteArray) = St R1 by rw [← hR1]] at hA
    refine wl_call hA rfl rfl (by decide) (fun ev h => exec_call Tryz.func55 (by kernel_rfl) rfl (h.f _) (by first | (simp only [mL, h.get 23 rfl, h.c] <;> rfl) | (simp [mL, h.get 23 rfl, h.c, hsz] <;> rfl))) (Tryz.strings_ReplaceAll (St R1) (St [34]) (St [92, 34]) m w1 (by show R1.length < _; omega) ((HB.cell hm0).trans hm) (by decide) (by show R1.length + _ * 2 ≤ _; omega)) ?_
    rintro e w2 ⟨rfl, hb2⟩
    refine ⟨_, rfl, fun a hA => ?_⟩
    replace HB := HB.trans (hb2.mono HB.size)
    rw [show (⟨(Lib.replaceAll (St R1).data.toList (St [34]).data.toList (St [92, 34]).data.toList).toArray⟩ : ByteArray) = St R2 by rw [← hR2]] at hA
    revert a; (iterate 3 refine wo rfl rfl (by decide) (fun ev e h => by simp [go_sem, h, c2, c3, d2, d3] <;> rfl) ?_); intro a hA
    replace hA := hA.keepN [2]
    refine wN (nT (wp_ret ?_))
    refine ret_1 hA 2 rfl rfl ?_
    exact ⟨ret_str (by rw [← hrep, hR3]), HB⟩
end Go.Proofs.YtjhaccmcjlbllaaGreatDoor
/-
  Walks of the statement's own text: digits, tokens (of keys of one or two tokens).
-/
namespace Go.Proofs.YtjhaccmcjlbllaaGreatDoor
open Go.RowKit
set_option linter.unusedSimpArgs false
set_option linter.unusedVariables false
set_option linter.unusedSimpArgs false
set_option linter.unusedVariables false
/-- a row in a block -/
theorem rowR_blkL {M : Type} {s : Sh M} {w : World} {g : Nat} {l : List M} (K : Blk w g s.T (l.flatMap s.f).toArray) (hp : ∀ m ∈ l, ∀ p ∈ s.parts m, ReadsP w p) : RowR s w (some ⟨g, 0, none⟩) l := by
  refine ⟨⟨?_, fun _ => ⟨⟨g, 0, none⟩, rfl, K.lt, fun j u hu => ?_⟩⟩, hp⟩
  · exact flatK_len s.len l
  · rw [add0, K.cell]
    simpa using hu
/-- a key's cells -/
def keyC (k : KeyV) : List Value := [.int .u8 (k.kind : Nat), .string (St k.word), .int .u16 (k.n : Nat), .int .u32 (k.fr : Nat), .int .u32 (k.up : Nat), .slice k.A k.len k.c]
/-- a key in memory, so deep -/
def KeyMem (w : World) : Nat → KeyV → Prop
  | 0, _ => True
  | d + 1, k => Reads w w.heap.size 6 k.A k.len (k.l.flatMap keyC) ∧ ∀ x ∈ k.l, KeyMem w d x
theorem KeyMem.below {w w' : World} (hb : Below w.heap.size w w') : ∀ (d : Nat) (k : KeyV), KeyMem w d k → KeyMem w' d k
  | 0, _, _ => trivial
  | d + 1, k, h => ⟨(h.1.below hb).more hb.size, fun x hx => KeyMem.below hb d x (h.2 x hx)⟩
def TokSpec (d : Nat) : Prop := ∀ (k : KeyV) (w : World), KeyFits d k → KeyMem w d k → Calls Tryz.prog 22 #[.agg (keyC k).toArray, .int .i64 (d : Nat)] w fun ev w' => ∃ V ok, ev = .returned (.tuple #[V, .bool ok]) ∧ ok = (toksK d k).isSome ∧ (∀ ts, toksK d k = some ts → ∃ A c, V = .slice A ts.length c ∧ RowR tokISh w' A ts) ∧ Below w.heap.size w w'
set_option maxRecDepth 100000 in
set_option maxHeartbeats 4000000 in
theorem digits17_any (q : Nat) (w : World) (hq1 : q < 4294967296) : Calls Tryz.prog 44 #[.int .u32 (q : Nat)] w fun ev w' => ev = .returned (.string (St (digS q))) ∧ Below w.heap.size w w' := by
  have hcl := countB_len 10 q
  refine calls_at 19 Tryz.func44 rfl rfl (Nat.le_of_ble_eq_true rfl) ?_
  intro a hA; replace hA := hA.norm
  refine wS (wR ?_)
  revert a; refine wo rfl rfl (by decide) (fun ev e h => by simp [go_sem, h] <;> rfl) ?_; intro a hA
  replace hA := hA.keepN [0]
  refine wN (nT (wS (wS (wR ?_))))
  revert a; (iterate 2 refine wo rfl rfl (by decide) (fun ev e h => by simp [go_sem, h] <;> rfl) ?_); intro a hA
  replace hA := hA.keepN [0, 5]
  refine wN (nT ?_)
  refine wp_if hA 5 _ rfl (fun hq => ?yA) (fun hq => ?nA)
  case yA =>
    have h0 : q = 0 := by simpa using hq
    refine wS (wR ?_)
    revert a; refine wo rfl rfl (by decide) (fun ev e h => by simp [go_sem, h] <;> rfl) ?_; intro a hA
    replace hA := hA.keepN [2]
    refine wN (nT (wp_ret (rT ?_)))
    refine ret_1 hA 2 rfl rfl ?_
    exact ⟨by rw [h0]; rfl, Below.refl _ _⟩
  case nA =>
    have h0 : 0 < q := by simp at hq; omega
    have hdg : digS q = countB 10 q := by
      unfold digS
      rw [if_neg (by omega), digits_count 10 q (by omega) (by decide)]
    rw [hdg]
    refine wp_skip (nT (wS (wR ?_)))
    revert a; refine wo rfl rfl (by decide) (fun ev e h => by simp [go_sem, h] <;> rfl) ?_; intro a hA
    replace hA := hA.keepN [0, 3]
    refine wN (nT (wS (wB ?_)))
    refine wp_loop_at (fun k a wx => ∃ (f n : Nat) (s : List UInt8), (0 < n → countB 10 q = countB f n ++ s ∧ n < 10 ^ f ∧ 1 ≤ f) ∧ (n = 0 → countB 10 q = s) ∧ n ≤ k ∧ n ≤ q ∧ s.length ≤ 100 ∧ s.length + f ≤ 20 ∧ Below w.heap.size w wx ∧ At 19 [(0, .int .u32 (n : Nat)), (3, .string (St s))] a) (q) ?_ ?_
    · exact ⟨10, q, [], fun _ => ⟨by simp, by omega, by decide⟩, fun h => absurd h (by omega), Nat.le_refl _, Nat.le_refl _, Nat.zero_le _, by simp, Below.refl _ _, hA⟩
    clear hA
    rintro k a wx ⟨f, n, s, h1, h2, hk, hnq, hsl, hsf, HB, hA⟩
    refine wS (wS (wR ?_))
    revert a; (iterate 2 refine wo rfl rfl (by decide) (fun ev e h => by simp [go_sem, h] <;> rfl) ?_); intro a hA
    replace hA := hA.keepN [0, 3, 7]
    refine wN (nT ?_)
    refine wp_if hA 7 _ rfl (fun hq2 => ?yL) (fun hq2 => ?nL)
    case nL =>
      have hn0 : n = 0 := by simp at hq2; omega
      replace hA := hA.keepN [3]
      refine wp_exit (xT (xT (xB (nT (wS (wR ?_))))))
      revert a; (iterate 2 refine wo rfl rfl (by decide) (fun ev e h => by simp [go_sem, h] <;> rfl) ?_); intro a hA
      replace hA := hA.keepN [2]
      refine wN (nT (wp_ret ?_))
      refine ret_1 hA 2 rfl rfl ?_
      exact ⟨by rw [h2 hn0], HB⟩
    case yL =>
      have hn0 : 0 < n := by simp at hq2; omega
      obtain ⟨h3, h4, h5⟩ := h1 hn0
      obtain ⟨f, rfl⟩ : ∃ g, f = g + 1 := ⟨f - 1, by omega⟩
      obtain ⟨dg, hdg⟩ : ∃ dg : UInt8, UInt8.ofNat (48 + n % 10) = dg := ⟨_, rfl⟩
      have hdn : dg.toNat = 48 + n % 10 := by rw [← hdg, UInt8.toNat_ofNat']; omega
      have j1 : ((n : Nat) : Int).tmod 10 = ((n % 10 : Nat) : Int) := by rw [Int.tmod_eq_emod_of_nonneg (by omega)]; rfl
      have j2 : IntKind.u32.wrap (48 + ((n % 10 : Nat) : Int)) = ((dg.toNat : Nat) : Int) := by rw [IntWalk.u32_in _ (by omega)]; omega
      have j3 : IntKind.u8.wrap ((dg.toNat : Nat) : Int) = ((dg.toNat : Nat) : Int) := by
        have := dg.toNat_lt
        unfold IntKind.wrap
        simp [IntKind.bits, IntKind.signed]
        omega
      have j4 : ((n : Nat) : Int).tdiv 10 = ((n / 10 : Nat) : Int) := rfl
      have j5 : IntKind.u32.wrap ((n / 10 : Nat) : Int) = ((n / 10 : Nat) : Int) := IntWalk.u32_in _ (by omega)
      have j6 : IntKind.u32.wrap ((n % 10 : Nat) : Int) = ((n % 10 : Nat) : Int) := IntWalk.u32_in _ (by omega)
      obtain ⟨n2, hn2⟩ : ∃ n2, n / 10 = n2 := ⟨_, rfl⟩
      obtain ⟨n3, hn3⟩ : ∃ n3, n % 10 = n3 := ⟨_, rfl⟩
      rw [hn2] at j4 j5
      rw [hn3] at j1 j2 j6 hdn
      refine wp_skip (nT (wB (wS (wR ?_))))
      revert a; (iterate 3 refine wo rfl rfl (by decide) (fun ev e h => by simp [go_sem, h, j1, j2, j3, j4, j5, j6] <;> rfl) ?_); intro a hA
      refine wl_op hA rfl rfl (by decide) (fun ev h => by simp [go_sem, h.get 10 rfl, j1, j2, j3, j4, j5, j6]; try first | exact ⟨rfl, rfl⟩ | rfl) fun a hA => ?_
      refine wl_new hA rfl rfl (by decide) (fun ev h => by simp [go_sem, h.get 11 rfl, j1, j2, j3, j4, j5, j6]; try first | exact ⟨rfl, rfl⟩ | rfl) fun w1 a (K : Blk _ _ _ _) hz1' hb1 hA => ?_
      replace HB := HB.trans (hb1.mono HB.size)
      have hrd : Reads w1 w1.heap.size 1 (some ⟨wx.heap.size, 0, none⟩) 1 (u8s [dg]) := (blk_x (B := 0) (l := [dg]) K (Nat.zero_le _) rfl (by simp)).reads
      have hcv := conv_reads (n := 1) (c := 1) (l := [dg]) rfl hrd
      have ka : (⟨[dg].toArray⟩ : ByteArray) ++ St s = St (dg :: s) := st_app [dg] s
      have kz : ¬ 9223372036854775807 < 1 + s.length := by omega
      refine wl_op hA rfl rfl (by decide) (fun ev h => by simp [go_sem, h.get 12 rfl, j1, j2, j3, j4, j5, j6, hcv, ka, kz]; try first | exact ⟨rfl, rfl⟩ | rfl) fun a hA => ?_
      revert a; (iterate 3 refine wo rfl rfl (by decide) (fun ev e h => by simp [go_sem, h, j1, j2, j3, j4, j5, j6, hcv, ka, kz] <;> rfl) ?_); intro a hA
      replace hA := hA.keepN [0, 3]
      refine wN (nT (wR ?_))
      revert a; (iterate 3 refine wo rfl rfl (by decide) (fun ev e h => by simp [go_sem, h, j1, j2, j3, j4, j5, j6, hcv, ka, kz] <;> rfl) ?_); intro a hA
      replace hA := hA.keepN [0, 3]
      refine wN (nB (nT ?_))
      refine ⟨k - 1, by omega, f, n2, dg :: s, fun hd => ?_, fun hd => ?_, by omega, by omega, by simp; omega, by simp; omega, HB, hA⟩
      · have hg : ¬ n < 10 := by omega
        refine ⟨by rw [h3, countB_great hg, hn2, hn3, List.append_assoc, ← hdg, hn3]; rfl, by rw [Nat.pow_succ] at h4; omega, ?_⟩
        rcases Nat.eq_zero_or_pos f with e | e
        · subst e; rw [Nat.zero_add, Nat.pow_one] at h4; omega
        · exact e
      · have hg : n < 10 := by omega
        rw [h3, countB_small hg, ← hdg, hn3, show n3 = n by omega]
        rfl
theorem names_size : (Tryz.prog.info? 84).map (·.size) = some 20 := by kernel_rfl
def nameCells : List Value := [.string ⟨#[65, 76, 76]⟩, .string ⟨#[83, 101, 101, 110]⟩, .string ⟨#[65, 78, 83, 87, 69, 82, 69, 68]⟩, .string ⟨#[102, 108, 97, 103, 103, 101, 100]⟩, .string ⟨#[68, 69, 76, 69, 84, 69, 68]⟩, .string ⟨#[68, 82, 65, 70, 84]⟩, .string ⟨#[85, 78, 83, 69, 69, 78]⟩, .string ⟨#[117, 110, 97, 110, 115, 119, 101, 114, 101, 100]⟩, .string ⟨#[85, 78, 70, 76, 65, 71, 71, 69, 68]⟩, .string ⟨#[85, 78, 68, 69, 76, 69, 84, 69, 68]⟩, .string ⟨#[85, 78, 68, 82, 65, 70, 84]⟩, .string ⟨#[83, 85, 66, 74, 69, 67, 84]⟩, .string ⟨#[102, 114, 111, 109]⟩, .string ⟨#[84, 79]⟩, .string ⟨#[66, 79, 68, 89]⟩, .string ⟨#[84, 101, 120, 116]⟩, .string ⟨#[76, 65, 82, 71, 69, 82]⟩, .string ⟨#[83, 77, 65, 76, 76, 69, 82]⟩, .string ⟨#[85, 73, 68]⟩, .string ⟨#[]⟩]
theorem name_at {w : World} {g : Nat} (K : Blk w g 84 nameCells.toArray) {k : Nat} (h : k < 20) : w.cell? ⟨g, k, none⟩ = some (.string (St (kNames[k]?.getD []))) := by
  refine (K.cell k).trans ?_
  rcases (by omega : k = 0 ∨ k = 1 ∨ k = 2 ∨ k = 3 ∨ k = 4 ∨ k = 5 ∨ k = 6 ∨ k = 7 ∨ k = 8 ∨ k = 9 ∨ k = 10 ∨ k = 11 ∨ k = 12 ∨ k = 13 ∨ k = 14 ∨ k = 15 ∨ k = 16 ∨ k = 17 ∨ k = 18 ∨ k = 19) with rfl | rfl | rfl | rfl | rfl | rfl | rfl | rfl | rfl | rfl | rfl | rfl | rfl | rfl | rfl | rfl | rfl | rfl | rfl | rfl <;> rfl
end Go.Proofs.YtjhaccmcjlbllaaGreatDoor
/-
  Walk: tokens (of every key).
-/
namespace Go.Proofs.YtjhaccmcjlbllaaGreatDoor
open Go.RowKit
set_option linter.unusedSimpArgs false
set_option linter.unusedVariables false
set_option linter.unusedSimpArgs false
set_option linter.unusedVariables false
def keySh : Sh KeyV := ⟨52, 45, 6, 64, .agg #[.int .u8 0, .string ⟨#[]⟩, .int .u16 0, .int .u32 0, .int .u32 0, .slice none 0 0], keyC, fun _ => [], fun _ => rfl, fun x u hu => by
  unfold keyC at hu
  simp only [List.mem_cons, List.not_mem_nil, or_false] at hu
  rcases hu with rfl | rfl | rfl | rfl | rfl | rfl <;> rfl, Tryz.underlying45, by kernel_rfl, rfl, by decide, by decide⟩
theorem most_10 {e : Nat} (h : e ≤ 10) : mostT e ≤ 4882812 := by
  have : ∀ e : Fin 11, mostT e.1 ≤ 4882812 := by decide +kernel
  exact this ⟨e, by omega⟩
theorem all_none {tok : KeyV → Option (List TokI)} : ∀ {L : List KeyV} {x : KeyV}, x ∈ L → tok x = none → allK tok L = none
  | [], x, h, _ => by cases h
  | y :: L, x, h, hx => by
    unfold allK
    cases hy : tok y with
    | none => rfl
    | some a =>
      rcases List.mem_cons.1 h with e | h
      · rw [← e, hx] at hy; cases hy
      · simp only []
        rw [all_none h hx]
        rfl
theorem all_app {tok : KeyV → Option (List TokI)} {b : List KeyV} {tb : List TokI} (hb : allK tok b = some tb) : ∀ {a : List KeyV} {ta : List TokI}, allK tok a = some ta → allK tok (a ++ b) = some (ta ++ tb)
  | [], ta, h => by injection h with h; subst h; exact hb
  | x :: a, ta, h => by
    obtain ⟨t1, t2, h1, h2, rfl⟩ := all_cons h
    rw [List.cons_append]
    unfold allK
    rw [h1]
    simp only []
    rw [all_app hb h2, List.append_assoc]
    rfl
theorem all_take {tok : KeyV → Option (List TokI)} {L : List KeyV} {j : Nat} {x : KeyV} {ts t : List TokI} (hx : L[j]? = some x) (h : allK tok (L.take j) = some ts) (ht : tok x = some t) : allK tok (L.take (j + 1)) = some (ts ++ t) := by
  rw [List.take_add_one, hx]
  refine all_app ?_ h
  show allK tok [x] = _
  unfold allK
  rw [ht]
  show some (t ++ []) = _
  rw [List.append_nil]
set_option maxRecDepth 100000 in
set_option maxHeartbeats 16000000 in
theorem tok_step (d : Nat) (hd : d ≤ 10) (ih : ∀ e, d = e + 1 → TokSpec e) : TokSpec d := by
  intro k w hfit hmem
  have HB := Below.refl w.heap.size w
  obtain ⟨o, ho⟩ : ∃ o, toksK d k = o := ⟨_, rfl⟩
  rw [ho]
  have key : Calls Tryz.prog 22 #[.agg (keyC k).toArray, .int .i64 (d : Nat)] w fun ev w' => ∃ V ok, ev = .returned (.tuple #[V, .bool ok]) ∧ ok = o.isSome ∧ (∀ ts, o = some ts → ∃ A c, V = .slice A ts.length c ∧ RowR tokISh w' A ts) ∧ Below w.heap.size w w' := by
    obtain ⟨kind, word, n, fr, up, A, len, c, l⟩ := k
    show Calls Tryz.prog _ #[.agg #[.int .u8 (kind : Nat), .string (St word), .int .u16 (n : Nat), .int .u32 (fr : Nat), .int .u32 (up : Nat), .slice A len c], .int .i64 (d : Nat)] _ _
    refine calls_at 166 Tryz.func22 rfl rfl (Nat.le_of_ble_eq_true rfl) ?_
    intro a hA; replace hA := hA.norm
    refine wS (wR ?_)
    refine wl_new hA rfl rfl (by decide) (fun ev h => by simp [go_sem, h.get 0 rfl]; try first | exact ⟨rfl, rfl⟩ | rfl) fun w1 a (K1 : Blk _ _ _ _) hz1 hb1 hA => ?_
    replace HB := HB.trans (hb1.mono HB.size)
    revert a; (iterate 2 refine wo rfl rfl (by decide) (fun ev e h => by simp [go_sem, h] <;> rfl) ?_); intro a hA
    replace hA := hA.keepN [1, 2]
    refine wN (nT (wS (wR ?_)))
    revert a; refine wo rfl rfl (by decide) (fun ev e h => by simp [go_sem, h] <;> rfl) ?_; intro a hA
    refine wl_local [.string ⟨#[65, 76, 76]⟩, .string ⟨#[83, 101, 101, 110]⟩, .string ⟨#[65, 78, 83, 87, 69, 82, 69, 68]⟩, .string ⟨#[102, 108, 97, 103, 103, 101, 100]⟩, .string ⟨#[68, 69, 76, 69, 84, 69, 68]⟩, .string ⟨#[68, 82, 65, 70, 84]⟩, .string ⟨#[85, 78, 83, 69, 69, 78]⟩, .string ⟨#[117, 110, 97, 110, 115, 119, 101, 114, 101, 100]⟩, .string ⟨#[85, 78, 70, 76, 65, 71, 71, 69, 68]⟩, .string ⟨#[85, 78, 68, 69, 76, 69, 84, 69, 68]⟩, .string ⟨#[85, 78, 68, 82, 65, 70, 84]⟩, .string ⟨#[83, 85, 66, 74, 69, 67, 84]⟩, .string ⟨#[102, 114, 111, 109]⟩, .string ⟨#[84, 79]⟩, .string ⟨#[66, 79, 68, 89]⟩, .string ⟨#[84, 101, 120, 116]⟩, .string ⟨#[76, 65, 82, 71, 69, 82]⟩, .string ⟨#[83, 77, 65, 76, 76, 69, 82]⟩, .string ⟨#[85, 73, 68]⟩, .string ⟨#[]⟩] hA rfl rfl (by decide) (fun ev h => by simp [go_sem]; try first | exact ⟨rfl, rfl⟩ | rfl) rfl rfl (by rfl) (fun w1 g ev hb h => exec_storeW rfl (h.get 6 rfl) (h.get 13 rfl) names_size hb (by rfl) (by rfl)) fun w2 a (K2 : Blk _ _ _ _) hz2 hb2 hA => ?_
    replace K2 : Blk w2 w1.heap.size 84 nameCells.toArray := K2
    replace K1 := K1.below hb2 K1.lt
    replace HB := HB.trans (hb2.mono HB.size)
    replace hA := hA.keepN [1, 2, 6]
    refine wN (nT (wS (wS (wR ?_))))
    revert a; (iterate 3 refine wo rfl rfl (by decide) (fun ev e h => by simp [go_sem, h, K1.cell] <;> rfl) ?_); (iterate 4 refine wg _ rfl rfl rfl rfl (by decide) (fun hq ev e h => by simp [go_sem, h, ↓gw_t (beq_t hq), K1.cell] <;> rfl) ?_); refine wko rfl rfl (by decide) rfl rfl rfl ?_; intro a hA
    replace hA := hA.keepN [1, 2, 6, 21]
    refine wN (nT ?_)
    refine wp_if hA 21 _ rfl (fun hq => ?yA) (fun hq => ?nA)
    case yA =>
      have h0 : d = 0 ∨ 100 < word.length := by simp at hq; omega
      have hno : o = none := by
        rcases h0 with rfl | h0
        · exact ho.symm
        · cases d with
          | zero => exact ho.symm
          | succ e => rw [← ho, toks_eq, if_pos h0]
      refine wS (wR ?_)
      revert a; (iterate 2 refine wo rfl rfl (by decide) (fun ev e h => by simp [go_sem, h, K1.cell] <;> rfl) ?_); intro a hA
      replace hA := hA.keepN [4, 5]
      refine wN (nT (wp_ret (rT ?_)))
      refine ret_2 hA 4 5 rfl rfl rfl ?_
      exact ⟨_, _, rfl, by rw [hno]; rfl, fun ts h => (by rw [hno] at h; cases h), HB⟩
    case nA =>
      have h0 : ¬ d = 0 ∧ ¬ 100 < word.length := by simp at hq; omega
      obtain ⟨e, rfl⟩ : ∃ e, d = e + 1 := ⟨d - 1, by omega⟩
      rw [toks_eq, if_neg h0.2] at ho
      obtain ⟨hlen, hk, hn, hfr, hup, hsub⟩ := hfit
      obtain ⟨hrow, hmems⟩ := hmem
      simp only [KeyV.kind, KeyV.n, KeyV.fr, KeyV.up, KeyV.l, KeyV.len, KeyV.A] at hlen hk hn hfr hup hsub hrow hmems
      have kk0 : (0 : Int) ≤ (kind : Int) := by omega
      refine wp_skip (nT (wS (wB (wS (wR ?_)))))
      revert a; (iterate 4 refine wo rfl rfl (by decide) (fun ev e h => by simp [go_sem, h, K1.cell] <;> rfl) ?_); intro a hA
      replace hA := hA.keepN [1, 2, 6, 22]
      refine wN (nT ?_)
      refine wp_if hA 22 _ rfl (fun hq1 => ?yB) (fun hq1 => ?nB)
      case yB =>
        have h1 : kind < 11 := by simp at hq1; omega
        rw [if_pos h1] at ho
        have kk1 : (kind : Int) < 20 := by omega
        have kk2 : kind < 20 := by omega
        have zk := name_at K2 kk2
        obtain ⟨nm, hnm⟩ : ∃ nm, kNames[kind]?.getD [] = nm := ⟨_, rfl⟩
        rw [hnm] at zk ho
        refine wS (wR ?_)
        revert a; (iterate 4 refine wo rfl rfl (by decide) (fun ev e h => by simp [go_sem, h, K1.cell, zk, kk0, kk1, kk2, add0] <;> rfl) ?_); intro a hA
        refine wl_call hA rfl rfl (by decide) (fun ev h => exec_call Tryz.func26 (by kernel_rfl) rfl (h.f _) (by first | (simp only [mL, h.get 29 rfl, h.c] <;> rfl) | (simp [mL, h.get 29 rfl, h.c, K1.cell, zk, kk0, kk1, kk2, add0] <;> rfl))) (atom_any (St nm) _) ?_
        rintro e w3 ⟨rfl, hb3⟩
        refine ⟨_, rfl, fun a hA => ?_⟩
        refine wl_new hA rfl rfl (by decide) (fun ev h => by simp [go_sem, h.get 30 rfl, K1.cell, zk, kk0, kk1, kk2, add0]; try first | exact ⟨rfl, rfl⟩ | rfl) fun w4 a (K4 : Blk _ _ _ _) hz4 hb4 hA => ?_
        revert a; (iterate 2 refine wo rfl rfl (by decide) (fun ev e h => by simp [go_sem, h, K1.cell, zk, kk0, kk1, kk2, add0] <;> rfl) ?_); intro a hA
        replace hA := hA.keepN [4, 5]
        refine wN (nT (wp_ret (rB (rT ?_))))
        refine ret_2 hA 4 5 rfl rfl rfl ?_
        refine ⟨_, _, rfl, by rw [← ho]; rfl, fun ts h => ?_, (HB.trans (hb3.mono HB.size)).trans (hb4.mono (by have := HB.size; have := hb3.size; omega))⟩
        rw [← ho] at h
        injection h with h
        subst h
        exact ⟨_, 1, rfl, rowR_blkL (s := tokISh) (l := [⟨1, nm⟩]) K4 fun _ _ p hp => by cases hp⟩
      case nB =>
        have h1 : ¬ kind < 11 := by simp at hq1; omega
        rw [if_neg h1] at ho
        refine wS (wR ?_)
        revert a; (iterate 4 refine wo rfl rfl (by decide) (fun ev e h => by simp [go_sem, h, K1.cell] <;> rfl) ?_); intro a hA
        replace hA := hA.keepN [1, 2, 6, 32]
        refine wN (nT ?_)
        refine wp_if hA 32 _ rfl (fun hq2 => ?yC) (fun hq2 => ?nC)
        case yC =>
          have h2 : kind < 16 := by simp at hq2; omega
          rw [if_pos h2] at ho
          have kk1 : (kind : Int) < 20 := by omega
          have kk2 : kind < 20 := by omega
          have zk := name_at K2 kk2
          obtain ⟨nm, hnm⟩ : ∃ nm, kNames[kind]?.getD [] = nm := ⟨_, rfl⟩
          rw [hnm] at zk ho
          have zlt : w1.heap.size < w2.heap.size := K2.lt
          have pR7 := fun (wo : World) (hC : (fun wy => Below w2.heap.size w2 wy) wo) => have Kx := K1.below hC K1.lt; have zx := (hC.cell (p := ⟨w1.heap.size, kind, none⟩) zlt).trans zk; And.intro (Kx.cell) (And.intro (zx) (add0))
          refine wS ?_
          refine wp_region_split 8 ?_
          simp only [List.take_succ_cons, List.take_zero, List.drop_succ_cons, List.drop_zero]
          refine wp_any_split_at hA [(.det ?dR70), (.det ?dR71), (.det ?dR72), (.det ?dR73), (.det ?dR74), (.det ?dR75), (.det ?dR76), (.det ?dR77)] [] (fun wy => Below w2.heap.size w2 wy) (TSp [] Grows) (by kernel_rfl) rfl (by kernel_rfl) (by kernel_rfl) rfl (by kernel_rfl) (by kernel_rfl) (by kernel_rfl) (by kernel_rfl) ((Below.refl _ _).drew) (stab_sp [] [true, true, true, true, true, true, true, true] [true, true, true, true, true, true, true, true] [] rfl rfl rfl (by kernel_rfl) ⟨trivial, trivial, trivial, trivial, trivial, trivial, trivial, trivial, trivial⟩ trivial) (fun _ h => by cases h) (fun _ _ _ _ _ h => by cases h) (fun _ h => by cases h) ⟨?oR70, ?oR71, ?oR72, ?oR73, ?oR74, ?oR75, ?oR76, ?oR77, trivial⟩ (by kernel_rfl) ?fR7
          case oR70 => intro ev wo hev hC hs hph; have x0 := se hA hs 2; exact od rfl rfl (by kernel_rfl) hC (TSp.of rfl (Grows.refl _)) (by simp [go_sem, x0] <;> rfl)
          case oR71 => intro ev wo hev hC hs hph; have x0 := sd hs 36 0; exact od rfl rfl (by kernel_rfl) hC (TSp.of rfl (Grows.refl _)) (by simp [go_sem, x0, pR7 _ hC, K1.cell] <;> rfl)
          case oR72 => intro ev wo hev hC hs hph; have x0 := se hA hs 6; have x1 := sd hs 37 1; exact od rfl rfl (by kernel_rfl) hC (TSp.of rfl (Grows.refl _)) (by simp [go_sem, x0, x1, kk0, kk1, kk2, add0] <;> rfl)
          case oR73 => intro ev wo hev hC hs hph; have x0 := sd hs 38 2; exact od rfl rfl (by kernel_rfl) hC (TSp.of rfl (Grows.refl _)) (by simp [go_sem, x0, pR7 _ hC, K1.cell] <;> rfl)
          case oR74 =>
            intro ev wo hev hC hs hph
            have e39 := sd hs 39 3
            have Kx := K1.below hC K1.lt
            have zx := (hC.cell (p := ⟨w1.heap.size, kind, none⟩) zlt).trans zk
            exact ob_dcall (wanted_none rfl) rfl (by kernel_rfl) (atom_any (St nm) wo) (exec_call Tryz.func26 (by kernel_rfl) rfl (hev.func _) (by first | (simp only [mL, e39, hev.const] <;> rfl) | (simp [mL, e39, hev.const] <;> rfl))) (by rfl) (fun w3 hb3 => ⟨hC.trans (hb3.mono hC.size), TSp.of rfl hb3⟩)
          case oR75 => intro ev wo hev hC hs hph; have x0 := se hA hs 2; exact od rfl rfl (by kernel_rfl) hC (TSp.of rfl (Grows.refl _)) (by simp [go_sem, x0] <;> rfl)
          case oR76 => intro ev wo hev hC hs hph; have x0 := sd hs 41 5; exact od rfl rfl (by kernel_rfl) hC (TSp.of rfl (Grows.refl _)) (by simp [go_sem, x0, pR7 _ hC, K1.cell] <;> rfl)
          case oR77 => intro ev wo hev hC hs hph; have x0 := sd hs 42 6; exact od rfl rfl (by kernel_rfl) hC (TSp.of rfl (Grows.refl _)) (by simp [go_sem, x0, hev.const] <;> rfl)
          intro sg wf hC hph
          intro a hA
          replace hA := hA.keepN [40, 43]
          have HB0 := HB
          replace HB := HB.trans (hC.mono HB.size)
          refine wl_new hA rfl rfl (by decide) (fun ev h => by simp [go_sem, h.get 40 rfl, h.get 43 rfl, K1.cell]; try first | exact ⟨rfl, rfl⟩ | rfl) fun w4 a (K4 : Blk _ _ _ _) hz4 hb4 hA => ?_
          revert a; (iterate 2 refine wo rfl rfl (by decide) (fun ev e h => by simp [go_sem, h, K1.cell] <;> rfl) ?_); intro a hA
          replace hA := hA.keepN [4, 5]
          refine wN (nT (wp_ret (rB (rT ?_))))
          refine ret_2 hA 4 5 rfl rfl rfl ?_
          refine ⟨_, _, rfl, by rw [← ho]; rfl, fun ts h => ?_, HB.trans (hb4.mono HB.size)⟩
          rw [← ho] at h
          injection h with h
          subst h
          exact ⟨_, 2, rfl, rowR_blkL (s := tokISh) (l := [⟨1, nm⟩, ⟨2, word⟩]) K4 fun _ _ p hp => by cases hp⟩
        case nC =>
          have h2 : ¬ kind < 16 := by simp at hq2; omega
          rw [if_neg h2] at ho
          refine wS (wR ?_)
          revert a; (iterate 4 refine wo rfl rfl (by decide) (fun ev e h => by simp [go_sem, h, K1.cell] <;> rfl) ?_); intro a hA
          replace hA := hA.keepN [1, 2, 6, 45]
          refine wN (nT ?_)
          refine wp_if hA 45 _ rfl (fun hq3 => ?yD) (fun hq3 => ?nD)
          case yD =>
            have h3 : kind < 18 := by simp at hq3; omega
            rw [if_pos h3] at ho
            have kk1 : (kind : Int) < 20 := by omega
            have kk2 : kind < 20 := by omega
            have zk := name_at K2 kk2
            have zlt : w1.heap.size < w2.heap.size := K2.lt
            obtain ⟨nm, hnm⟩ : ∃ nm, kNames[kind]?.getD [] = nm := ⟨_, rfl⟩
            rw [hnm] at zk ho
            have nw : IntKind.u32.wrap ((n : Nat) : Int) = ((n : Nat) : Int) := IntWalk.u32_in _ (by omega)
            refine wS (wR ?_)
            revert a; (iterate 2 refine wo rfl rfl (by decide) (fun ev e h => by simp [go_sem, h, K1.cell, nw] <;> rfl) ?_); intro a hA
            refine wl_op hA rfl rfl (by decide) (fun ev h => by simp [go_sem, h.get 50 rfl, K1.cell, nw]; try first | exact ⟨rfl, rfl⟩ | rfl) fun a hA => ?_
            refine wl_call hA rfl rfl (by decide) (fun ev h => exec_call Tryz.func44 (by kernel_rfl) rfl (h.f _) (by first | (simp only [mL, h.get 51 rfl, h.c] <;> rfl) | (simp [mL, h.get 51 rfl, h.c, K1.cell, nw] <;> rfl))) (digits17_any n _ (by omega)) ?_
            rintro e w3 ⟨rfl, hb3⟩
            refine ⟨_, rfl, fun a hA => ?_⟩
            replace K1 := K1.below hb3 K1.lt
            have zk3 := (hb3.cell (p := ⟨w1.heap.size, kind, none⟩) zlt).trans zk
            replace HB := HB.trans (hb3.mono HB.size)
            revert a; refine wo rfl rfl (by decide) (fun ev e h => by simp [go_sem, h, K1.cell] <;> rfl) ?_; intro a hA
            replace hA := hA.keepN [2, 6, 7]
            refine wN (nT (wS (wS (wR ?_))))
            revert a; (iterate 3 refine wo rfl rfl (by decide) (fun ev e h => by simp [go_sem, h, K1.cell] <;> rfl) ?_); intro a hA
            replace hA := hA.keepN [2, 6, 7, 55]
            refine wN (nT ?_)
            refine wp_join (fun a wx => w3 = wx ∧ At 166 [(2, .pointer (some ⟨w.heap.size, 0, none⟩)), (6, .pointer (some ⟨w1.heap.size, 0, none⟩)), (7, .string (St (numS n)))] a) ?jfJ ?jrJ
            refine wp_if hA 55 _ rfl (fun hq4 => ?yE) (fun hq4 => ?nE)
            case yE =>
              have hn0 : n = 0 := by simp at hq4; omega
              refine wR ?_
              revert a; refine wo rfl rfl (by decide) (fun ev e h => by simp [go_sem, h, K1.cell] <;> rfl) ?_; intro a hA
              replace hA := hA.keepN [2, 6, 7]
              refine wN (nT ?_)
              refine ⟨rfl, ?_⟩
              have e : numS n = [48] := by unfold numS; rw [if_pos hn0]
              rw [e]
              exact hA
            case nE =>
              have hn0 : ¬ n = 0 := by simp at hq4; omega
              replace hA := hA.keepN [2, 6, 7]
              refine wp_skip (nT ?_)
              refine ⟨rfl, ?_⟩
              have e : numS n = digS n := by unfold numS; rw [if_neg hn0]
              rw [e]
              exact hA
            clear hA
            rintro a wx ⟨rfl, hA⟩
            refine wS (wR ?_)
            revert a; (iterate 4 refine wo rfl rfl (by decide) (fun ev e h => by simp [go_sem, h, K1.cell, zk3, kk0, kk1, kk2, add0] <;> rfl) ?_); intro a hA
            refine wl_call hA rfl rfl (by decide) (fun ev h => exec_call Tryz.func26 (by kernel_rfl) rfl (h.f _) (by first | (simp only [mL, h.get 59 rfl, h.c] <;> rfl) | (simp [mL, h.get 59 rfl, h.c, K1.cell, zk3, kk0, kk1, kk2, add0] <;> rfl))) (atom_any (St nm) _) ?_
            rintro e w5 ⟨rfl, hb5⟩
            refine ⟨_, rfl, fun a hA => ?_⟩
            replace HB := HB.trans (hb5.mono HB.size)
            revert a; refine wo rfl rfl (by decide) (fun ev e h => by simp [go_sem, h, K1.cell, zk3, kk0, kk1, kk2, add0] <;> rfl) ?_; intro a hA
            refine wl_call hA rfl rfl (by decide) (fun ev h => exec_call Tryz.func26 (by kernel_rfl) rfl (h.f _) (by first | (simp only [mL, h.get 61 rfl, h.c] <;> rfl) | (simp [mL, h.get 61 rfl, h.c, K1.cell, zk3, kk0, kk1, kk2, add0] <;> rfl))) (atom_any (St (numS n)) _) ?_
            rintro e w6 ⟨rfl, hb6⟩
            refine ⟨_, rfl, fun a hA => ?_⟩
            replace HB := HB.trans (hb6.mono HB.size)
            refine wl_new hA rfl rfl (by decide) (fun ev h => by simp [go_sem, h.get 60 rfl, h.get 62 rfl, K1.cell, zk3, kk0, kk1, kk2, add0]; try first | exact ⟨rfl, rfl⟩ | rfl) fun w4 a (K4 : Blk _ _ _ _) hz4 hb4 hA => ?_
            revert a; (iterate 2 refine wo rfl rfl (by decide) (fun ev e h => by simp [go_sem, h, K1.cell, zk3, kk0, kk1, kk2, add0] <;> rfl) ?_); intro a hA
            replace hA := hA.keepN [4, 5]
            refine wN (nT (wp_ret (rB (rT ?_))))
            refine ret_2 hA 4 5 rfl rfl rfl ?_
            refine ⟨_, _, rfl, by rw [← ho]; rfl, fun ts h => ?_, HB.trans (hb4.mono HB.size)⟩
            rw [← ho] at h
            injection h with h
            subst h
            exact ⟨_, 2, rfl, rowR_blkL (s := tokISh) (l := [⟨1, nm⟩, ⟨1, numS n⟩]) K4 fun _ _ p hp => by cases hp⟩
          case nD =>
            have h3 : ¬ kind < 18 := by simp at hq3; omega
            rw [if_neg h3] at ho
            have hdl : ∀ u : Nat, u < 4294967296 → (digS u).length ≤ 10 := fun u hu => by
              unfold digS
              split
              · decide
              · rw [digits_count 10 u (by omega) (by decide)]
                exact countB_len 10 u
            have hd1 := hdl fr hfr
            have hd2 := hdl up hup
            obtain ⟨D1, hD1⟩ : ∃ D1, digS fr = D1 := ⟨_, rfl⟩
            obtain ⟨D2, hD2⟩ : ∃ D2, digS up = D2 := ⟨_, rfl⟩
            have hspan : spanS fr up = D1 ++ [58] ++ D2 := by unfold spanS; rw [hD1, hD2]
            rw [hD1] at hd1
            rw [hD2] at hd2
            obtain ⟨P1, hP1⟩ : ∃ P1, D1 ++ [58] = P1 := ⟨_, rfl⟩
            have lP1 : P1.length = D1.length + 1 := by rw [← hP1]; simp
            rw [hP1] at hspan
            have ka : St D1 ++ (⟨#[58]⟩ : ByteArray) = St P1 := by rw [← hP1]; exact st_app D1 [58]
            have kb : St P1 ++ St D2 = St (P1 ++ D2) := st_app P1 D2
            have kz1 : ¬ 9223372036854775807 < D1.length + 1 := by omega
            have kz2 : ¬ 9223372036854775807 < P1.length + D2.length := by omega
            have hc1 : ∀ wo, Calls Tryz.prog 44 #[.int .u32 (fr : Nat)] wo fun ev w' => ev = .returned (.string (St D1)) ∧ Below wo.heap.size wo w' := fun wo => by rw [← hD1]; exact digits17_any fr wo hfr
            have hc2 : ∀ wo, Calls Tryz.prog 44 #[.int .u32 (up : Nat)] wo fun ev w' => ev = .returned (.string (St D2)) ∧ Below wo.heap.size wo w' := fun wo => by rw [← hD2]; exact digits17_any up wo hup
            refine wS (wR ?_)
            revert a; (iterate 4 refine wo rfl rfl (by decide) (fun ev e h => by simp [go_sem, h, K1.cell] <;> rfl) ?_); intro a hA
            replace hA := hA.keepN [1, 2, 64]
            refine wN (nT ?_)
            refine wp_if hA 64 _ rfl (fun hq4 => ?yE) (fun hq4 => ?nE)
            case yE =>
              have h4 : kind = 18 := by simp at hq4; omega
              rw [if_pos h4, hspan] at ho
              have pR14 := fun (wo : World) (hC : (fun wy => Below w2.heap.size w2 wy) wo) => have Kx := K1.below hC K1.lt; (Kx.cell)
              refine wS ?_
              refine wp_region_split 10 ?_
              simp only [List.take_succ_cons, List.take_zero, List.drop_succ_cons, List.drop_zero]
              refine wp_any_split_at hA [(.det ?dR140), (.det ?dR141), (.det ?dR142), (.det ?dR143), (.det ?dR144), (.det ?dR145), (.det ?dR146), (.det ?dR147), (.det ?dR148), (.det ?dR149)] [] (fun wy => Below w2.heap.size w2 wy) (TSp [] Grows) (by kernel_rfl) rfl (by kernel_rfl) (by kernel_rfl) rfl (by kernel_rfl) (by kernel_rfl) (by kernel_rfl) (by kernel_rfl) ((Below.refl _ _).drew) (stab_sp [] [true, true, true, true, true, true, true, true, true, true] [true, true, true, true, true, true, true, true, true, true] [] rfl rfl rfl (by kernel_rfl) ⟨trivial, trivial, trivial, trivial, trivial, trivial, trivial, trivial, trivial, trivial, trivial⟩ trivial) (fun _ h => by cases h) (fun _ _ _ _ _ h => by cases h) (fun _ h => by cases h) ⟨?oR140, ?oR141, ?oR142, ?oR143, ?oR144, ?oR145, ?oR146, ?oR147, ?oR148, ?oR149, trivial⟩ (by kernel_rfl) ?fR14
              case oR140 =>
                intro ev wo hev hC hs hph
                have Kx := K1.below hC K1.lt
                exact ob_dcall (wanted_none rfl) rfl (by kernel_rfl) (atom_any (St [117, 105, 100]) wo) (exec_call Tryz.func26 (by kernel_rfl) rfl (hev.func _) (by first | (simp only [mL, hev.const] <;> rfl) | (simp [mL, hev.const] <;> rfl))) (by rfl) (fun w3 hb3 => ⟨hC.trans (hb3.mono hC.size), TSp.of rfl hb3⟩)
              case oR141 => intro ev wo hev hC hs hph; have x0 := se hA hs 2; exact od rfl rfl (by kernel_rfl) hC (TSp.of rfl (Grows.refl _)) (by simp [go_sem, x0] <;> rfl)
              case oR142 => intro ev wo hev hC hs hph; have x0 := sd hs 69 1; exact od rfl rfl (by kernel_rfl) hC (TSp.of rfl (Grows.refl _)) (by simp [go_sem, x0, pR14 _ hC, K1.cell] <;> rfl)
              case oR143 =>
                intro ev wo hev hC hs hph
                have e70 := sd hs 70 2
                have Kx := K1.below hC K1.lt
                exact ob_dcall (wanted_none rfl) rfl (by kernel_rfl) (hc1 wo) (exec_call Tryz.func44 (by kernel_rfl) rfl (hev.func _) (by first | (simp only [mL, e70, hev.const] <;> rfl) | (simp [mL, e70, hev.const] <;> rfl))) (by rfl) (fun w3 hb3 => ⟨hC.trans (hb3.mono hC.size), TSp.of rfl hb3⟩)
              case oR144 => intro ev wo hev hC hs hph; have x0 := sd hs 71 3; exact od rfl rfl (by kernel_rfl) hC (TSp.of rfl (Grows.refl _)) (by simp [go_sem, x0, hev.const, ka, kz1] <;> rfl)
              case oR145 => intro ev wo hev hC hs hph; have x0 := se hA hs 2; exact od rfl rfl (by kernel_rfl) hC (TSp.of rfl (Grows.refl _)) (by simp [go_sem, x0] <;> rfl)
              case oR146 => intro ev wo hev hC hs hph; have x0 := sd hs 73 5; exact od rfl rfl (by kernel_rfl) hC (TSp.of rfl (Grows.refl _)) (by simp [go_sem, x0, pR14 _ hC, K1.cell] <;> rfl)
              case oR147 =>
                intro ev wo hev hC hs hph
                have e74 := sd hs 74 6
                have Kx := K1.below hC K1.lt
                exact ob_dcall (wanted_none rfl) rfl (by kernel_rfl) (hc2 wo) (exec_call Tryz.func44 (by kernel_rfl) rfl (hev.func _) (by first | (simp only [mL, e74, hev.const] <;> rfl) | (simp [mL, e74, hev.const] <;> rfl))) (by rfl) (fun w3 hb3 => ⟨hC.trans (hb3.mono hC.size), TSp.of rfl hb3⟩)
              case oR148 => intro ev wo hev hC hs hph; have x0 := sd hs 72 4; have x1 := sd hs 75 7; exact od rfl rfl (by kernel_rfl) hC (TSp.of rfl (Grows.refl _)) (by simp [go_sem, x0, x1, kb, kz2] <;> rfl)
              case oR149 =>
                intro ev wo hev hC hs hph
                have e76 := sd hs 76 8
                have Kx := K1.below hC K1.lt
                exact ob_dcall (wanted_none rfl) rfl (by kernel_rfl) (atom_any (St (P1 ++ D2)) wo) (exec_call Tryz.func26 (by kernel_rfl) rfl (hev.func _) (by first | (simp only [mL, e76, hev.const] <;> rfl) | (simp [mL, e76, hev.const] <;> rfl))) (by rfl) (fun w3 hb3 => ⟨hC.trans (hb3.mono hC.size), TSp.of rfl hb3⟩)
              intro sg wf hC hph
              intro a hA
              replace hA := hA.keepN [68, 77]
              replace HB := HB.trans (hC.mono HB.size)
              refine wl_new hA rfl rfl (by decide) (fun ev h => by simp [go_sem, h.get 68 rfl, h.get 77 rfl, K1.cell]; try first | exact ⟨rfl, rfl⟩ | rfl) fun w4 a (K4 : Blk _ _ _ _) hz4 hb4 hA => ?_
              revert a; (iterate 2 refine wo rfl rfl (by decide) (fun ev e h => by simp [go_sem, h, K1.cell] <;> rfl) ?_); intro a hA
              replace hA := hA.keepN [4, 5]
              refine wN (nT (wp_ret (rB (rT ?_))))
              refine ret_2 hA 4 5 rfl rfl rfl ?_
              refine ⟨_, _, rfl, by rw [← ho]; rfl, fun ts h => ?_, HB.trans (hb4.mono HB.size)⟩
              rw [← ho] at h
              injection h with h
              subst h
              exact ⟨_, 2, rfl, rowR_blkL (s := tokISh) (l := [⟨1, [117, 105, 100]⟩, ⟨1, P1 ++ D2⟩]) K4 fun _ _ p hp => by cases hp⟩
            case nE =>
              have h4 : ¬ kind = 18 := by simp at hq4; omega
              rw [if_neg h4] at ho
              refine wS (wR ?_)
              revert a; (iterate 4 refine wo rfl rfl (by decide) (fun ev e h => by simp [go_sem, h, K1.cell] <;> rfl) ?_); intro a hA
              replace hA := hA.keepN [1, 2, 79]
              refine wN (nT ?_)
              refine wp_if hA 79 _ rfl (fun hq5 => ?yF) (fun hq5 => ?nF)
              case yF =>
                have h5 : kind = 19 := by simp at hq5; omega
                rw [if_pos h5, hspan] at ho
                have pR16 := fun (wo : World) (hC : (fun wy => Below w2.heap.size w2 wy) wo) => have Kx := K1.below hC K1.lt; (Kx.cell)
                refine wS ?_
                refine wp_region_split 9 ?_
                simp only [List.take_succ_cons, List.take_zero, List.drop_succ_cons, List.drop_zero]
                refine wp_any_split_at hA [(.det ?dR160), (.det ?dR161), (.det ?dR162), (.det ?dR163), (.det ?dR164), (.det ?dR165), (.det ?dR166), (.det ?dR167), (.det ?dR168)] [] (fun wy => Below w2.heap.size w2 wy) (TSp [] Grows) (by kernel_rfl) rfl (by kernel_rfl) (by kernel_rfl) rfl (by kernel_rfl) (by kernel_rfl) (by kernel_rfl) (by kernel_rfl) ((Below.refl _ _).drew) (stab_sp [] [true, true, true, true, true, true, true, true, true] [true, true, true, true, true, true, true, true, true] [] rfl rfl rfl (by kernel_rfl) ⟨trivial, trivial, trivial, trivial, trivial, trivial, trivial, trivial, trivial, trivial⟩ trivial) (fun _ h => by cases h) (fun _ _ _ _ _ h => by cases h) (fun _ h => by cases h) ⟨?oR160, ?oR161, ?oR162, ?oR163, ?oR164, ?oR165, ?oR166, ?oR167, ?oR168, trivial⟩ (by kernel_rfl) ?fR16
                case oR160 => intro ev wo hev hC hs hph; have x0 := se hA hs 2; exact od rfl rfl (by kernel_rfl) hC (TSp.of rfl (Grows.refl _)) (by simp [go_sem, x0] <;> rfl)
                case oR161 => intro ev wo hev hC hs hph; have x0 := sd hs 83 0; exact od rfl rfl (by kernel_rfl) hC (TSp.of rfl (Grows.refl _)) (by simp [go_sem, x0, pR16 _ hC, K1.cell] <;> rfl)
                case oR162 =>
                  intro ev wo hev hC hs hph
                  have e84 := sd hs 84 1
                  have Kx := K1.below hC K1.lt
                  exact ob_dcall (wanted_none rfl) rfl (by kernel_rfl) (hc1 wo) (exec_call Tryz.func44 (by kernel_rfl) rfl (hev.func _) (by first | (simp only [mL, e84, hev.const] <;> rfl) | (simp [mL, e84, hev.const] <;> rfl))) (by rfl) (fun w3 hb3 => ⟨hC.trans (hb3.mono hC.size), TSp.of rfl hb3⟩)
                case oR163 => intro ev wo hev hC hs hph; have x0 := sd hs 85 2; exact od rfl rfl (by kernel_rfl) hC (TSp.of rfl (Grows.refl _)) (by simp [go_sem, x0, hev.const, ka, kz1] <;> rfl)
                case oR164 => intro ev wo hev hC hs hph; have x0 := se hA hs 2; exact od rfl rfl (by kernel_rfl) hC (TSp.of rfl (Grows.refl _)) (by simp [go_sem, x0] <;> rfl)
                case oR165 => intro ev wo hev hC hs hph; have x0 := sd hs 87 4; exact od rfl rfl (by kernel_rfl) hC (TSp.of rfl (Grows.refl _)) (by simp [go_sem, x0, pR16 _ hC, K1.cell] <;> rfl)
                case oR166 =>
                  intro ev wo hev hC hs hph
                  have e88 := sd hs 88 5
                  have Kx := K1.below hC K1.lt
                  exact ob_dcall (wanted_none rfl) rfl (by kernel_rfl) (hc2 wo) (exec_call Tryz.func44 (by kernel_rfl) rfl (hev.func _) (by first | (simp only [mL, e88, hev.const] <;> rfl) | (simp [mL, e88, hev.const] <;> rfl))) (by rfl) (fun w3 hb3 => ⟨hC.trans (hb3.mono hC.size), TSp.of rfl hb3⟩)
                case oR167 => intro ev wo hev hC hs hph; have x0 := sd hs 86 3; have x1 := sd hs 89 6; exact od rfl rfl (by kernel_rfl) hC (TSp.of rfl (Grows.refl _)) (by simp [go_sem, x0, x1, kb, kz2] <;> rfl)
                case oR168 =>
                  intro ev wo hev hC hs hph
                  have e90 := sd hs 90 7
                  have Kx := K1.below hC K1.lt
                  exact ob_dcall (wanted_none rfl) rfl (by kernel_rfl) (atom_any (St (P1 ++ D2)) wo) (exec_call Tryz.func26 (by kernel_rfl) rfl (hev.func _) (by first | (simp only [mL, e90, hev.const] <;> rfl) | (simp [mL, e90, hev.const] <;> rfl))) (by rfl) (fun w3 hb3 => ⟨hC.trans (hb3.mono hC.size), TSp.of rfl hb3⟩)
                intro sg wf hC hph
                intro a hA
                replace hA := hA.keepN [91]
                replace HB := HB.trans (hC.mono HB.size)
                refine wl_new hA rfl rfl (by decide) (fun ev h => by simp [go_sem, h.get 91 rfl, K1.cell]; try first | exact ⟨rfl, rfl⟩ | rfl) fun w4 a (K4 : Blk _ _ _ _) hz4 hb4 hA => ?_
                revert a; (iterate 2 refine wo rfl rfl (by decide) (fun ev e h => by simp [go_sem, h, K1.cell] <;> rfl) ?_); intro a hA
                replace hA := hA.keepN [4, 5]
                refine wN (nT (wp_ret (rB (rT ?_))))
                refine ret_2 hA 4 5 rfl rfl rfl ?_
                refine ⟨_, _, rfl, by rw [← ho]; rfl, fun ts h => ?_, HB.trans (hb4.mono HB.size)⟩
                rw [← ho] at h
                injection h with h
                subst h
                exact ⟨_, 1, rfl, rowR_blkL (s := tokISh) (l := [⟨1, P1 ++ D2⟩]) K4 fun _ _ p hp => by cases hp⟩
              case nF =>
                have h5 : ¬ kind = 19 := by simp at hq5; omega
                rw [if_neg h5] at ho
                refine wp_skip (nB (nT (wS (wR ?_))))
                have h20 : 20 ≤ kind := by omega
                refine wl_new hA rfl rfl (by decide) (fun ev h => by simp [go_sem, K1.cell]; try first | exact ⟨rfl, rfl⟩ | rfl) fun w3 a (K3 : Blk _ _ _ _) hz3 hb3 hA => ?_
                have HX := hb3
                have K10 := K1
                have ho1 : OwnR tokISh w2.heap.size w3 _ [] := OwnR.empty K3 (Nat.le_refl _)
                replace K1 := K1.below hb3 K1.lt
                revert a; refine wo rfl rfl (by decide) (fun ev e h => by simp [go_sem, h, K1.cell] <;> rfl) ?_; intro a hA
                replace hA := hA.keepN [1, 2, 8]
                refine wN (nT (wS (wR ?_)))
                revert a; refine wo rfl rfl (by decide) (fun ev e h => by simp [go_sem, h, K1.cell] <;> rfl) ?_; intro a hA
                replace hA := hA.keepN [1, 2, 8, 9]
                refine wN (nT (wS (wS (wR ?_))))
                revert a; (iterate 2 refine wo rfl rfl (by decide) (fun ev e h => by simp [go_sem, h, K1.cell] <;> rfl) ?_); intro a hA
                replace hA := hA.keepN [1, 2, 8, 9, 95]
                refine wN (nT ?_)
                refine wp_join (fun a wx => ∃ V, OwnR tokISh w2.heap.size wx V (headK kind) ∧ Below w2.heap.size w2 wx ∧ At 166 [(1, .int .i64 ((e + 1 : Nat) : Int)), (2, .pointer (some ⟨w.heap.size, 0, none⟩)), (8, V), (9, .int .i64 (needK kind : Nat))] a) ?jfH ?jrH
                refine wB (wS (wR ?_))
                revert a; (iterate 2 refine wo rfl rfl (by decide) (fun ev e h => by simp [go_sem, h, K1.cell] <;> rfl) ?_); intro a hA
                replace hA := hA.keepN [1, 2, 8, 9, 95, 100]
                refine wN (nT ?_)
                refine wp_if hA 100 _ rfl (fun hq6 => ?yG) (fun hq6 => ?nG)
                case yG =>
                  have h6 : kind = 20 := by simp at hq6; omega
                  have e1 : headK kind = [⟨1, [78, 111, 116]⟩] := by unfold headK; rw [if_pos h6]
                  have e2 : needK kind = 1 := by unfold needK; rw [if_neg (by omega)]
                  rw [e1, e2]
                  refine wR ?_
                  revert a; refine wo rfl rfl (by decide) (fun ev e h => by simp [go_sem, h, K1.cell] <;> rfl) ?_; intro a hA
                  refine wl_call hA rfl rfl (by decide) (fun ev h => exec_call Tryz.func26 (by kernel_rfl) rfl (h.f _) (by first | (simp only [mL, h.c] <;> rfl) | (simp [mL, h.c, K1.cell] <;> rfl))) (atom_any (St [78, 111, 116]) _) ?_
                  rintro e w4 ⟨rfl, hb4⟩
                  refine ⟨_, rfl, fun a hA => ?_⟩
                  replace ho1 := ho1.below hb4
                  replace HX := HX.trans (hb4.mono HX.size)
                  refine wl_new hA rfl rfl (by decide) (fun ev h => by simp [go_sem, h.get 103 rfl, K1.cell]; try first | exact ⟨rfl, rfl⟩ | rfl) fun w5 a (K5 : Blk _ _ _ _) hz5 hb5 hA => ?_
                  replace ho1 := ho1.below hb5
                  replace HX := HX.trans (hb5.mono HX.size)
                  have hrow5 : RowR tokISh w5 _ [⟨1, [78, 111, 116]⟩] := rowR_blk (s := tokISh) (x := ⟨1, [78, 111, 116]⟩) K5 (fun p hp => (by cases hp))
                  obtain ⟨r6, w6, hrun, ho6, hg6, -⟩ := run_appR (s := tokISh) (c := 1) ho1 hrow5 (fun _ _ m _ p hp => (by cases hp)) (by decide) HX.size
                  refine wl_op hA rfl rfl (by decide) (fun ev h => exec_append rfl (h.get 102 rfl) (h.get 104 rfl) hrun) fun a hA => ?_
                  have HX6 := below_appR HX ho1 hg6 (Nat.le_refl _) HX.size
                  revert a; refine wo rfl rfl (by decide) (fun ev e h => by simp [go_sem, h, K1.cell] <;> rfl) ?_; intro a hA
                  replace hA := hA.keepN [1, 2, 8, 9]
                  refine wN (nB (nT ?_))
                  exact ⟨_, ho6, HX6, hA⟩
                case nG =>
                  have h6 : ¬ kind = 20 := by simp at hq6; omega
                  refine wS (wR ?_)
                  revert a; (iterate 2 refine wo rfl rfl (by decide) (fun ev e h => by simp [go_sem, h, K1.cell] <;> rfl) ?_); intro a hA
                  replace hA := hA.keepN [1, 2, 8, 9, 106]
                  refine wN (nT ?_)
                  refine wp_if hA 106 _ rfl (fun hq7 => ?yG2) (fun hq7 => ?nG2)
                  case yG2 =>
                    have h7 : kind = 21 := by simp at hq7; omega
                    have e1 : headK kind = [⟨1, [79, 82]⟩] := by unfold headK; rw [if_neg h6, if_pos h7]
                    have e2 : needK kind = 2 := by unfold needK; rw [if_pos h7]
                    rw [e1, e2]
                    refine wR ?_
                    revert a; refine wo rfl rfl (by decide) (fun ev e h => by simp [go_sem, h, K1.cell] <;> rfl) ?_; intro a hA
                    refine wl_call hA rfl rfl (by decide) (fun ev h => exec_call Tryz.func26 (by kernel_rfl) rfl (h.f _) (by first | (simp only [mL, h.c] <;> rfl) | (simp [mL, h.c, K1.cell] <;> rfl))) (atom_any (St [79, 82]) _) ?_
                    rintro e w4 ⟨rfl, hb4⟩
                    refine ⟨_, rfl, fun a hA => ?_⟩
                    replace ho1 := ho1.below hb4
                    replace HX := HX.trans (hb4.mono HX.size)
                    refine wl_new hA rfl rfl (by decide) (fun ev h => by simp [go_sem, h.get 109 rfl, K1.cell]; try first | exact ⟨rfl, rfl⟩ | rfl) fun w5 a (K5 : Blk _ _ _ _) hz5 hb5 hA => ?_
                    replace ho1 := ho1.below hb5
                    replace HX := HX.trans (hb5.mono HX.size)
                    have hrow5 : RowR tokISh w5 _ [⟨1, [79, 82]⟩] := rowR_blk (s := tokISh) (x := ⟨1, [79, 82]⟩) K5 (fun p hp => (by cases hp))
                    obtain ⟨r6, w6, hrun, ho6, hg6, -⟩ := run_appR (s := tokISh) (c := 1) ho1 hrow5 (fun _ _ m _ p hp => (by cases hp)) (by decide) HX.size
                    refine wl_op hA rfl rfl (by decide) (fun ev h => exec_append rfl (h.get 108 rfl) (h.get 110 rfl) hrun) fun a hA => ?_
                    have HX6 := below_appR HX ho1 hg6 (Nat.le_refl _) HX.size
                    revert a; (iterate 2 refine wo rfl rfl (by decide) (fun ev e h => by simp [go_sem, h, K1.cell] <;> rfl) ?_); intro a hA
                    replace hA := hA.keepN [1, 2, 8, 9]
                    refine wN (nB (nT ?_))
                    exact ⟨_, ho6, HX6, hA⟩
                  case nG2 =>
                    have h7 : ¬ kind = 21 := by simp at hq7; omega
                    have e1 : headK kind = [⟨3, []⟩] := by unfold headK; rw [if_neg h6, if_neg h7]
                    have e2 : needK kind = 1 := by unfold needK; rw [if_neg h7]
                    rw [e1, e2]
                    refine wR ?_
                    revert a; (iterate 2 refine wo rfl rfl (by decide) (fun ev e h => by simp [go_sem, h, K1.cell] <;> rfl) ?_); intro a hA
                    refine wl_new hA rfl rfl (by decide) (fun ev h => by simp [go_sem, h.get 97 rfl, K1.cell]; try first | exact ⟨rfl, rfl⟩ | rfl) fun w5 a (K5 : Blk _ _ _ _) hz5 hb5 hA => ?_
                    replace ho1 := ho1.below hb5
                    replace HX := HX.trans (hb5.mono HX.size)
                    have hrow5 : RowR tokISh w5 _ [⟨3, []⟩] := rowR_blk (s := tokISh) (x := ⟨3, []⟩) K5 (fun p hp => (by cases hp))
                    obtain ⟨r6, w6, hrun, ho6, hg6, -⟩ := run_appR (s := tokISh) (c := 1) ho1 hrow5 (fun _ _ m _ p hp => (by cases hp)) (by decide) HX.size
                    refine wl_op hA rfl rfl (by decide) (fun ev h => exec_append rfl (h.get 96 rfl) (h.get 98 rfl) hrun) fun a hA => ?_
                    have HX6 := below_appR HX ho1 hg6 (Nat.le_refl _) HX.size
                    revert a; refine wo rfl rfl (by decide) (fun ev e h => by simp [go_sem, h, K1.cell] <;> rfl) ?_; intro a hA
                    replace hA := hA.keepN [1, 2, 8, 9]
                    refine wN (nB (nT ?_))
                    exact ⟨_, ho6, HX6, hA⟩
                clear hA ho1 HX
                rintro a wx ⟨V, ho1, HX, hA⟩
                have K1x := K10.below HX K10.lt
                obtain ⟨need, hneed⟩ : ∃ x, needK kind = x := ⟨_, rfl⟩
                rw [hneed] at hA ho
                have hn2 : need ≤ 2 := by rw [← hneed]; unfold needK; split <;> omega
                refine wS (wS (wR ?_))
                revert a; (iterate 6 refine wo rfl rfl (by decide) (fun ev e h => by simp [go_sem, h, K1x.cell] <;> rfl) ?_); (iterate 4 refine wg _ rfl rfl rfl rfl (by decide) (fun hq ev e h => by simp [go_sem, h, ↓gw_t (beq_t hq), K1x.cell] <;> rfl) ?_); intro a hA
                replace hA := hA.keepN [1, 2, 8, 9, 117, 121]
                revert a; (iterate 5 refine wg2 _ _ rfl rfl rfl rfl (by decide) (fun hq hr ev e h => by simp [go_sem, h, ↓gw_t (and_beq hq hr), ↓gw_t hq, K1x.cell] <;> rfl) ?_); intro a hA
                refine wl_guard _ hA rfl rfl rfl rfl (by decide) (fun hq ev h => by exact pick_and rfl (((h.get 121 rfl).trans (gw_t (beq_t hq)))) (((h.get 126 rfl).trans (gw_a (beq_t hq)))) (h.c _)) fun a hA => ?_
                revert a; refine wko rfl rfl (by decide) rfl rfl rfl ?_; refine wo rfl rfl (by decide) (fun ev e h => by simp [go_sem, h, K1x.cell] <;> rfl) ?_; (iterate 2 refine wg _ rfl rfl rfl rfl (by decide) (fun hq ev e h => by simp [go_sem, h, ↓gw_t (beq_t hq), K1x.cell] <;> rfl) ?_); intro a hA
                replace hA := hA.keepN [1, 2, 8, 129, 131]
                revert a; (iterate 2 refine wg _ rfl rfl rfl rfl (by decide) (fun hq ev e h => by simp [go_sem, h, ↓gw_t (beq_t hq), K1x.cell] <;> rfl) ?_); refine wko rfl rfl (by decide) rfl rfl rfl ?_; intro a hA
                replace hA := hA.keepN [1, 2, 8, 134]
                refine wN (nT ?_)
                refine wp_if hA 134 _ rfl (fun hq8 => ?yJ2) (fun hq8 => ?nJ2)
                case yJ2 =>
                  have hbad : len < need ∨ (kind < 22 ∧ len ≠ need) ∨ 5 < len := by
                    simp at hq8
                    omega
                  rw [if_pos hbad] at ho
                  refine wS (wR ?_)
                  revert a; (iterate 2 refine wo rfl rfl (by decide) (fun ev e h => by simp [go_sem, h, K1x.cell] <;> rfl) ?_); intro a hA
                  replace hA := hA.keepN [4, 5]
                  refine wN (nT (wp_ret (rT ?_)))
                  refine ret_2 hA 4 5 rfl rfl rfl ?_
                  exact ⟨_, _, rfl, by rw [← ho]; rfl, fun ts h => (by rw [← ho] at h; cases h), HB.trans (HX.mono HB.size)⟩
                case nJ2 =>
                  have hgood : ¬ (len < need ∨ (kind < 22 ∧ len ≠ need) ∨ 5 < len) := by
                    simp at hq8
                    omega
                  rw [if_neg hgood] at ho
                  have hl5 : len ≤ 5 := by omega
                  refine wp_skip (nT (wS (wS (wR ?_))))
                  revert a; (iterate 4 refine wo rfl rfl (by decide) (fun ev e h => by simp [go_sem, h, K1x.cell] <;> rfl) ?_); intro a hA
                  replace hA := hA.keepN [1, 2, 8, 137, 138]
                  refine wN (nT (wB ?_))
                  obtain ⟨Hk, hHk⟩ : ∃ x, headK kind = x := ⟨_, rfl⟩
                  have hHl : Hk.length = 1 := by rw [← hHk]; exact headK_len kind
                  rw [hHk] at ho1 ho
                  refine wp_loop_at (fun g a wy => ∃ (j : Nat) (V : Value) (ts : List TokI), j + g = len ∧ allK (toksK e) (l.take j) = some ts ∧ OwnR tokISh w2.heap.size wy V (Hk ++ ts) ∧ Below w2.heap.size w2 wy ∧ At 166 [(1, .int .i64 ((e + 1 : Nat) : Int)), (2, .pointer (some ⟨w.heap.size, 0, none⟩)), (8, V), (137, .int .i64 (len : Nat)), (138, .int .i64 (j : Nat))] a) (len) ?_ ?_
                  · exact ⟨0, V, [], by omega, rfl, by rw [List.append_nil]; exact ho1, HX, hA⟩
                  clear hA ho1 HX K1x
                  rintro g a wy ⟨j, V, ts, hjg, hts, ho1, HX, hA⟩
                  have HW := HB.trans (HX.mono HB.size)
                  have K1x := K10.below HX K10.lt
                  have htl := all_most (l.take j) ts (m := mostT e) (fun x hx a ha => (toks_most e x a (hsub x (List.mem_of_mem_take hx)) ha).1) hts
                  have hm10 := most_10 (e := e) (by omega)
                  have hmul : mostT e * (l.take j).length ≤ 4882812 * 5 := Nat.mul_le_mul hm10 (by rw [List.length_take]; omega)
                  refine wS (wR ?_)
                  revert a; refine wo rfl rfl (by decide) (fun ev e h => by simp [go_sem, h] <;> rfl) ?_; intro a hA
                  replace hA := hA.keepN [1, 2, 8, 137, 138, 139]
                  refine wN (nT (wS ?_))
                  refine wp_if hA 139 _ rfl (fun hq9 => ?yL) (fun hq9 => ?nL)
                  case yL =>
                    have hj5 : j < len := by simp at hq9; omega
                    have jj0 : (0 : Int) ≤ (j : Int) := by omega
                    have jj1 : (j : Int) < (len : Int) := by omega
                    obtain ⟨x, hx⟩ : ∃ x, l[j]? = some x := ⟨_, List.getElem?_eq_getElem (by omega)⟩
                    have hxm := List.mem_of_getElem? hx
                    have jw : IntKind.i64.wrap ((j : Int) + 1) = ((j + 1 : Nat) : Int) := IntWalk.i64_in _ (by omega)
                    have ew : IntKind.i64.wrap ((e : Nat) : Int) = ((e : Nat) : Int) := IntWalk.i64_in _ (by omega)
                    have hrowx : RowR keySh w A l := ⟨by rw [hlen]; exact hrow, fun m hm p hp => by cases hp⟩
                    obtain ⟨ad, rfl, hadb, hc0, hc1⟩ := (hrowx.below HW).cell hx
                    have z0 : wy.cell? (ad.add (j * 6)) = some (.int .u8 (x.kind : Nat)) := hc0 _ rfl
                    have z1 : wy.cell? ⟨(ad.add (j * 6)).block, (ad.add (j * 6)).off + 1, none⟩ = some (.string (St x.word)) := hc1 1 _ (by decide) rfl
                    have z2 : wy.cell? ⟨(ad.add (j * 6)).block, (ad.add (j * 6)).off + 2, none⟩ = some (.int .u16 (x.n : Nat)) := hc1 2 _ (by decide) rfl
                    have z3 : wy.cell? ⟨(ad.add (j * 6)).block, (ad.add (j * 6)).off + 3, none⟩ = some (.int .u32 (x.fr : Nat)) := hc1 3 _ (by decide) rfl
                    have z4 : wy.cell? ⟨(ad.add (j * 6)).block, (ad.add (j * 6)).off + 4, none⟩ = some (.int .u32 (x.up : Nat)) := hc1 4 _ (by decide) rfl
                    have z5 : wy.cell? ⟨(ad.add (j * 6)).block, (ad.add (j * 6)).off + 5, none⟩ = some (.slice x.A x.len x.c) := hc1 5 _ (by decide) rfl
                    have hct : Calls Tryz.prog 22 #[.agg #[.int .u8 (x.kind : Nat), .string (St x.word), .int .u16 (x.n : Nat), .int .u32 (x.fr : Nat), .int .u32 (x.up : Nat), .slice x.A x.len x.c], .int .i64 (e : Nat)] wy _ := ih e rfl x wy (hsub x hxm) ((hmems x hxm).below HW)
                    refine wp_skip (nT (wS (wB (wS (wR ?_)))))
                    revert a; (iterate 2 refine wo rfl rfl (by decide) (fun ev e h => by simp [go_sem, h, z0, z1, z2, z3, z4, z5, jj0, jj1, jw, ew, K1x.cell] <;> rfl) ?_); intro a hA
                    replace hA := hA.keepN [1, 2, 8, 10, 137, 138]
                    refine wN (nT (wS (wR ?_)))
                    revert a; (iterate 7 refine wo rfl rfl (by decide) (fun ev e h => by simp [go_sem, h, z0, z1, z2, z3, z4, z5, jj0, jj1, jw, ew, K1x.cell] <;> rfl) ?_); intro a hA
                    refine wl_call hA rfl rfl (by decide) (fun ev h => exec_call Tryz.func22 (by kernel_rfl) rfl (h.f _) (by first | (simp only [mL, h.get 146 rfl, h.get 148 rfl, h.c] <;> rfl) | (simp [mL, h.get 146 rfl, h.get 148 rfl, h.c, z0, z1, z2, z3, z4, z5, jj0, jj1, jw, ew, K1x.cell] <;> rfl))) (hct) ?_
                    rintro e w4 ⟨V2, ok, rfl, hok, hts2, hb4⟩
                    refine ⟨_, rfl, fun a hA => ?_⟩
                    replace ho1 := ho1.below hb4
                    replace HX := HX.trans (hb4.mono HX.size)
                    replace HW := HW.trans (hb4.mono HW.size)
                    revert a; (iterate 3 refine wo rfl rfl (by decide) (fun ev e h => by simp [go_sem, h, z0, z1, z2, z3, z4, z5, jj0, jj1, jw, ew, K1x.cell] <;> rfl) ?_); intro a hA
                    replace hA := hA.keepN [1, 2, 8, 137, 138, 150, 151]
                    revert a; (iterate 2 refine wo rfl rfl (by decide) (fun ev e h => by simp [go_sem, h, z0, z1, z2, z3, z4, z5, jj0, jj1, jw, ew, K1x.cell] <;> rfl) ?_); intro a hA
                    replace hA := hA.keepN [1, 2, 8, 11, 12, 137, 138]
                    refine wN (nT (wS (wS (wR ?_))))
                    revert a; (iterate 2 refine wo rfl rfl (by decide) (fun ev e h => by simp [go_sem, h, z0, z1, z2, z3, z4, z5, jj0, jj1, jw, ew, K1x.cell] <;> rfl) ?_); intro a hA
                    replace hA := hA.keepN [1, 2, 8, 11, 137, 138, 153]
                    refine wN (nT ?_)
                    refine wp_if hA 153 _ rfl (fun hqa => ?yM) (fun hqa => ?nM)
                    case yM =>
                      have hok2 : ok = false := by simpa using hqa
                      have hno : toksK e x = none := by
                        rw [hok2] at hok
                        cases hh : toksK e x with
                        | none => rfl
                        | some t => rw [hh] at hok; cases hok
                      have ho2 : o = none := by rw [← ho, all_none hxm hno]; rfl
                      refine wS (wR ?_)
                      revert a; (iterate 2 refine wo rfl rfl (by decide) (fun ev e h => by simp [go_sem, h, z0, z1, z2, z3, z4, z5, jj0, jj1, jw, ew, K1x.cell] <;> rfl) ?_); intro a hA
                      replace hA := hA.keepN [4, 5]
                      refine wN (nT (wp_ret (rT (rB (rT (rT (rB (rT ?_))))))))
                      refine ret_2 hA 4 5 rfl rfl rfl ?_
                      exact ⟨_, _, rfl, by rw [ho2]; rfl, fun ts h => (by rw [ho2] at h; cases h), HW⟩
                    case nM =>
                      have hok2 : ok = true := by simpa using hqa
                      obtain ⟨t2, ht2⟩ : ∃ t2, toksK e x = some t2 := by
                        rw [hok2] at hok
                        cases hh : toksK e x with
                        | none => rw [hh] at hok; cases hok
                        | some t => exact ⟨t, rfl⟩
                      obtain ⟨A2, c2, rfl, hr2⟩ := hts2 t2 ht2
                      have h2l := (toks_most e x t2 (hsub x hxm) ht2).1
                      obtain ⟨r6, w6, hrun, ho6, hg6, -⟩ := run_appR (s := tokISh) (c := c2) ho1 hr2 (fun _ _ m _ p hp => (by cases hp)) (by rw [List.length_append]; omega) HX.size
                      refine wp_skip (nT (wR ?_))
                      revert a; (iterate 2 refine wo rfl rfl (by decide) (fun ev e h => by simp [go_sem, h, z0, z1, z2, z3, z4, z5, jj0, jj1, jw, ew, K1x.cell] <;> rfl) ?_); intro a hA
                      refine wl_op hA rfl rfl (by decide) (fun ev h => exec_append rfl (h.get 154 rfl) (h.get 155 rfl) hrun) fun a hA => ?_
                      have HX6 := below_appR HX ho1 hg6 (Nat.le_refl _) HX.size
                      revert a; refine wo rfl rfl (by decide) (fun ev e h => by simp [go_sem, h, z0, z1, z2, z3, z4, z5, jj0, jj1, jw, ew, K1x.cell] <;> rfl) ?_; intro a hA
                      replace hA := hA.keepN [1, 2, 8, 137, 138]
                      refine wN (nB (nT (wR ?_)))
                      revert a; (iterate 2 refine wo rfl rfl (by decide) (fun ev e h => by simp [go_sem, h, z0, z1, z2, z3, z4, z5, jj0, jj1, jw, ew, K1x.cell] <;> rfl) ?_); intro a hA
                      replace hA := hA.keepN [1, 2, 8, 137, 138]
                      refine wN (nT ?_)
                      exact ⟨g - 1, by omega, j + 1, _, ts ++ t2, by omega, all_take hx hts ht2, by rw [← List.append_assoc]; exact ho6, HX6, hA⟩
                  case nL =>
                    have hj5 : j = len := by simp at hq9; omega
                    rw [hj5, ← hlen, List.take_length] at hts
                    rw [hts] at ho
                    replace ho : some (Hk ++ ts ++ tailK kind) = o := ho
                    replace hA := hA.keepN [2, 8]
                    refine wp_exit (xT (xT (xB (nT (wS (wS (wR ?_)))))))
                    revert a; (iterate 3 refine wo rfl rfl (by decide) (fun ev e h => by simp [go_sem, h, K1x.cell] <;> rfl) ?_); intro a hA
                    replace hA := hA.keepN [8, 160]
                    refine wN (nT ?_)
                    refine wp_join (fun a wz => ∃ V, OwnR tokISh w2.heap.size wz V (Hk ++ ts ++ tailK kind) ∧ Below w2.heap.size w2 wz ∧ At 166 [(8, V)] a) ?jfT ?jrT
                    refine wp_if hA 160 _ rfl (fun hqb => ?yN) (fun hqb => ?nN)
                    case yN =>
                      have h22 : 21 < kind := by simp at hqb; omega
                      have e1 : tailK kind = [⟨4, []⟩] := by unfold tailK; rw [if_pos h22]
                      rw [e1]
                      refine wR ?_
                      revert a; (iterate 2 refine wo rfl rfl (by decide) (fun ev e h => by simp [go_sem, h, K1x.cell] <;> rfl) ?_); intro a hA
                      refine wl_new hA rfl rfl (by decide) (fun ev h => by simp [go_sem, h.get 162 rfl, K1x.cell]; try first | exact ⟨rfl, rfl⟩ | rfl) fun w5 a (K5 : Blk _ _ _ _) hz5 hb5 hA => ?_
                      replace ho1 := ho1.below hb5
                      replace HX := HX.trans (hb5.mono HX.size)
                      have hrow5 : RowR tokISh w5 _ [⟨4, []⟩] := rowR_blk (s := tokISh) (x := ⟨4, []⟩) K5 (fun p hp => (by cases hp))
                      obtain ⟨r6, w6, hrun, ho6, hg6, -⟩ := run_appR (s := tokISh) (c := 1) ho1 hrow5 (fun _ _ m _ p hp => (by cases hp)) (by rw [List.length_append, List.length_singleton]; omega) HX.size
                      refine wl_op hA rfl rfl (by decide) (fun ev h => exec_append rfl (h.get 161 rfl) (h.get 163 rfl) hrun) fun a hA => ?_
                      have HX6 := below_appR HX ho1 hg6 (Nat.le_refl _) HX.size
                      revert a; refine wo rfl rfl (by decide) (fun ev e h => by simp [go_sem, h, K1x.cell] <;> rfl) ?_; intro a hA
                      replace hA := hA.keepN [8]
                      refine wN (nT ?_)
                      exact ⟨_, ho6, HX6, hA⟩
                    case nN =>
                      have h22 : ¬ 21 < kind := by simp at hqb; omega
                      have e1 : tailK kind = [] := by unfold tailK; rw [if_neg h22]
                      rw [e1, List.append_nil]
                      replace hA := hA.keepN [8]
                      refine wp_skip (nT ?_)
                      exact ⟨_, ho1, HX, hA⟩
                    clear hA ho1 HX
                    rintro a wz ⟨V, ho1, HX, hA⟩
                    obtain ⟨A9, c9, rfl, hr9, -⟩ := ho1.reads
                    refine wS (wR ?_)
                    revert a; (iterate 3 refine wo rfl rfl (by decide) (fun ev e h => by simp [go_sem, h] <;> rfl) ?_); intro a hA
                    replace hA := hA.keepN [4, 5]
                    refine wN (nT (wp_ret ?_))
                    refine ret_2 hA 4 5 rfl rfl rfl ?_
                    refine ⟨_, _, rfl, by rw [← ho]; rfl, fun us h => ?_, HB.trans (HX.mono HB.size)⟩
                    rw [← ho] at h
                    injection h with h
                    subst h
                    exact ⟨A9, c9, by rw [List.length_append, List.length_append, Nat.add_assoc], hr9⟩
  exact key
theorem tokens_any : ∀ d : Nat, d ≤ 10 → TokSpec d
  | 0, _ => tok_step 0 (by omega) fun e h => by cases h
  | d + 1, h => tok_step (d + 1) h fun e he => by
    injection he with he
    subst he
    exact tokens_any d (by omega)
end Go.Proofs.YtjhaccmcjlbllaaGreatDoor
/-
  cubbyref06.small, Alike, Norm, walked.
-/
namespace Go.Proofs.YtjhaccmcjlbllaaGreatDoor
open Go.RowKit
def plainNI (c : Int) : Bool := decide (97 ≤ c ∧ c ≤ 122 ∨ 65 ≤ c ∧ c ≤ 90 ∨ 48 ≤ c ∧ c ≤ 57 ∨ c = 46 ∨ c = 95 ∨ c = 45)
def plainNB (c : UInt8) : Bool := plainNI (c.toNat : Int)
def slash : ByteArray := ⟨#[47]⟩
def inboxS : ByteArray := ⟨#[73, 78, 66, 79, 88]⟩
theorem toList_take (s : ByteArray) (k : Nat) (h : k = s.size) : s.data.toList.take k = s.data.toList := List.take_of_length_le (by simp [h])
def smallI (c : Int) : Int := if 65 ≤ c ∧ c ≤ 90 then c + 32 else c
theorem smallI_lo (c : Int) (h : 0 ≤ c) : 0 ≤ smallI c := by unfold smallI; split <;> omega
theorem smallI_hi (c : Int) (h : c ≤ 255) : smallI c ≤ 255 := by unfold smallI; split <;> omega
set_option maxHeartbeats 400000 in
theorem small_any (c : Int) (h0 : 0 ≤ c) (h1 : c ≤ 255) (w : World) :
    Calls Tryz.prog 57 #[.int .u8 c] w fun e w' => e = .returned (.int .u8 (smallI c)) ∧ w' = w := by
  go_enter Tryz.func57, Tryz.ntmps57
  go_wp2
  all_goals go_ret
  all_goals exact ⟨ret_int (by unfold smallI; split <;> omega), rfl⟩
def smallB (c : UInt8) : Int := smallI (c.toNat : Int)
def alikeL (a b : List UInt8) : Bool := a.map smallB == b.map smallB
theorem map_take_snoc (s : ByteArray) (k : Nat) (h : k < s.size) (f : UInt8 → Int) : (s.data.toList.take (k + 1)).map f = (s.data.toList.take k).map f ++ [f s[k]] := by
  rw [take_snoc s k h]; simp
theorem alike_diff (a b : ByteArray) (k : Nat) (h : k < a.size) (h' : k < b.size) (hne : smallB a[k] ≠ smallB b[k]) : alikeL a.data.toList b.data.toList = false := by
  unfold alikeL
  rw [beq_eq_false_iff_ne]
  intro e
  have := congrArg (fun l => l[k]?) e
  simp only [List.getElem?_map, List.getElem?_eq_getElem (l := a.data.toList) (i := k) (by simpa using h), List.getElem?_eq_getElem (l := b.data.toList) (i := k) (by simpa using h')] at this
  simp at this; exact hne this
set_option maxHeartbeats 400000 in
theorem alike_any (a b : ByteArray) (ha : a.size ≤ 9223372036854775807) (_hb : b.size ≤ 9223372036854775807) (w : World) :
    Calls Tryz.prog 38 #[.string a, .string b] w fun e w' => e = .returned (.bool (alikeL a.data.toList b.data.toList)) ∧ ∃ n, w' = w.drewN n := by
  by_cases hl : a.size = b.size
  · go_enter Tryz.func38, Tryz.ntmps38
    have hl' : ((a.size : Int) != (b.size : Int)) = false := by simp [hl]
    have HL := Lib.hid hl; clear hl
    go_wp2
    go_loopw [13] (fun i wr => ∃ (k n : Nat), i = .int .i64 k ∧ k ≤ a.size ∧ Hid ((a.data.toList.take k).map smallB = (b.data.toList.take k).map smallB) ∧ Hid (wr = w.drewN n)) (fun i _ => a.size - (intOf i).toNat)
    case atStart => exact ⟨0, 0, rfl, by omega, rfl, rfl⟩
    case round =>
      obtain ⟨k, n, rfl, hk, hm, hw⟩ := hrel
      by_cases hlt : k < a.size
      · have hlb : k < b.size := by have := HL.out; omega
        have a0 := smallI_lo (a[k].toNat : Int) (by omega)
        rcases Bool.eq_false_or_eq_true (smallI (a[k].toNat : Int) != smallI (b[k].toNat : Int)) with he | he
        · have Hf := Lib.hid (alike_diff a b k hlt hlb (by simpa [smallB] using he))
          go_wp2
          go_quiet ((go_at_call 57; exact Calls.quiet_of_same (small_any _ (by omega) (by first | (have := a[k].toNat_lt; omega) | (have := b[k].toNat_lt; omega)) _)))
          go_wp2
          go_ret
          exact ⟨ret_bool Hf.out.symm, _, by rw [hw.out, World.drewN_drewN]⟩
        · go_wp2
          go_quiet ((go_at_call 57; exact Calls.quiet_of_same (small_any _ (by omega) (by first | (have := a[k].toNat_lt; omega) | (have := b[k].toNat_lt; omega)) _)))
          go_wp2
          go_roundw
          case rel =>
            refine ⟨k + 1, _, by go_num, by omega, ?_, by show _ = _; rw [hw.out, World.drewN_drewN]⟩
            show List.map smallB _ = List.map smallB _
            rw [map_take_snoc a k hlt, map_take_snoc b k hlb, hm.out]
            congr 2
            simpa [smallB] using he
          case measure => simp [intOf] <;> omega
      · obtain rfl : k = a.size := by omega
        go_wp2
        go_ret
        refine ⟨ret_bool ?_, _, hw.out⟩
        have h1 := hm.out
        rw [toList_take a _ rfl, toList_take b _ HL.out] at h1
        unfold alikeL
        simp [h1]
  · have hl' : ((a.size : Int) != (b.size : Int)) = true := by simp; omega
    have Hf : Hid (alikeL a.data.toList b.data.toList = false) := by
      show alikeL _ _ = false
      unfold alikeL
      rw [beq_eq_false_iff_ne]
      intro e
      have := congrArg List.length e
      simp at this
      exact hl this
    clear hl
    go_enter Tryz.func38, Tryz.ntmps38
    go_wp2
    go_ret
    exact ⟨ret_bool Hf.out.symm, 0, rfl⟩
/-- the reference's scan: at a part's beginning, or inside one -/
def nameScan : Bool → List UInt8 → Bool
  | st, [] => !st
  | st, c :: l => if c = 47 then !st && nameScan true l else plainNB c && nameScan false l
def refNormV (s : ByteArray) : ByteArray × Bool :=
  if nameScan true s.data.toList && decide (s.size ≤ 60) then (if alikeL s.data.toList [105, 110, 98, 111, 120] = true then (inboxS, true) else (s, true)) else (⟨#[]⟩, false)
theorem scan_slash (st : Bool) (c : UInt8) (l : List UInt8) (h : c = 47) : nameScan st (c :: l) = (!st && nameScan true l) := by rw [nameScan, if_pos h]
theorem scan_other (st : Bool) (c : UInt8) (l : List UInt8) (h : c ≠ 47) : nameScan st (c :: l) = (plainNB c && nameScan false l) := by rw [nameScan, if_neg h]
theorem drop_cons (p : ByteArray) (i : Nat) (h : i < p.size) : p.data.toList.drop i = p[i] :: p.data.toList.drop (i + 1) := by
  rw [List.drop_eq_getElem_cons (by simpa using h)]; rfl
theorem u8_of_intN (c : UInt8) (n : Nat) (hn : n < 256) (h : (c.toNat : Int) = n) : c = UInt8.ofNat n := by
  apply UInt8.toNat_inj.1; simp; omega
set_option maxHeartbeats 1000000 in
theorem refNorm_any (s : ByteArray) (hs : s.size ≤ 9223372036854775807) (w : World) :
    Calls Tryz.prog 68 #[.string s] w fun e w' => e = .returned (.tuple #[.string (refNormV s).1, .bool (refNormV s).2]) ∧ ∃ n, w' = w.drewN n := by
  go_enter Tryz.func68, Tryz.ntmps68
  go_wp2
  go_loop [4, 9] (fun last i => ∃ (k : Nat) (c : Int), last = .int .u8 c ∧ 0 ≤ c ∧ c ≤ 255 ∧ i = .int .i64 k ∧ k ≤ s.size ∧ Hid (nameScan true s.data.toList = nameScan (c == 47) (s.data.toList.drop k))) (fun _ i => s.size - (intOf i).toNat)
  case atStart => exact ⟨0, 47, rfl, by omega, by omega, rfl, by omega, rfl⟩
  case round =>
    obtain ⟨k, c, rfl, hc0, hc1, rfl, hk, hsc⟩ := hrel
    by_cases hlt : k < s.size
    · have hb := s[k].toNat_lt
      have hd := drop_cons s k hlt
      have Hd := Lib.hid hd; clear hd
      rcases Bool.eq_false_or_eq_true ((s[k].toNat : Int) == 47) with h47 | h47
      · rcases Bool.eq_false_or_eq_true (c == 47) with hl | hl
        · have hv : refNormV s = (⟨#[]⟩, false) := by
            unfold refNormV
            rw [hsc.out, Hd.out, scan_slash _ _ _ (u8_of_intN _ 47 (by omega) (by simpa using h47)), hl]; rfl
          have Hv := Lib.hid hv; clear hv
          go_wp2
          go_ret2
          exact ⟨by rw [Hv.out]; rfl, 0, rfl⟩
        · have hv : nameScan true s.data.toList = nameScan true (s.data.toList.drop (k + 1)) := by
            rw [hsc.out, Hd.out, scan_slash _ _ _ (u8_of_intN _ 47 (by omega) (by simpa using h47)), hl]; rfl
          have Hv := Lib.hid hv; clear hv
          have h47' : ((s[k].toNat : Int) != 47) = false := by rw [bne, h47]; rfl
          go_wp2
          go_round
          case rel => exact ⟨k + 1, _, rfl, by omega, by omega, by go_num, by omega, Hv.out.trans (by congr 1; first | rfl | (exact h47.symm))⟩
          case measure => simp [intOf] <;> omega
      · have hs47 : s[k] ≠ 47 := fun e => by rw [e] at h47; exact absurd h47 (by decide)
        have h47' : ((s[k].toNat : Int) != 47) = true := by rw [bne, h47]; rfl
        have Kg : Hid (plainNB s[k] = true → nameScan true s.data.toList = nameScan false (s.data.toList.drop (k + 1))) := fun hp => by
          rw [hsc.out, Hd.out, scan_other _ _ _ hs47, hp]; rfl
        have Kb : Hid (plainNB s[k] = false → refNormV s = (⟨#[]⟩, false)) := fun hp => by
          unfold refNormV
          rw [hsc.out, Hd.out, scan_other _ _ _ hs47, hp]; rfl
        unfold plainNB at Kg Kb
        clear hs47 Hd
        have key : (plainNI (s[k].toNat : Int) = true ∧ (
             (((s[k].toNat : Int) != 46) = false) ∨ (((s[k].toNat : Int) != 46) = true ∧ ((s[k].toNat : Int) != 95) = false) ∨ (((s[k].toNat : Int) != 46) = true ∧ ((s[k].toNat : Int) != 95) = true ∧ ((s[k].toNat : Int) != 45) = false) ∨
             (((s[k].toNat : Int) != 46) = true ∧ ((s[k].toNat : Int) != 95) = true ∧ ((s[k].toNat : Int) != 45) = true ∧ 48 ≤ (s[k].toNat : Int) ∧ (s[k].toNat : Int) ≤ 57) ∨
             (((s[k].toNat : Int) != 46) = true ∧ ((s[k].toNat : Int) != 95) = true ∧ ((s[k].toNat : Int) != 45) = true ∧ (s[k].toNat : Int) < 48 ∧ 97 ≤ smallI (s[k].toNat : Int) ∧ smallI (s[k].toNat : Int) ≤ 122) ∨
             (((s[k].toNat : Int) != 46) = true ∧ ((s[k].toNat : Int) != 95) = true ∧ ((s[k].toNat : Int) != 45) = true ∧ 57 < (s[k].toNat : Int) ∧ 97 ≤ smallI (s[k].toNat : Int) ∧ smallI (s[k].toNat : Int) ≤ 122))) ∨
            (plainNI (s[k].toNat : Int) = false ∧ ((s[k].toNat : Int) != 46) = true ∧ ((s[k].toNat : Int) != 95) = true ∧ ((s[k].toNat : Int) != 45) = true ∧ ((s[k].toNat : Int) < 48 ∨ 57 < (s[k].toNat : Int)) ∧ (smallI (s[k].toNat : Int) < 97 ∨ 122 < smallI (s[k].toNat : Int))) := by
          unfold plainNI smallI; simp only [bne_iff_ne, bne_eq_false_iff_eq, decide_eq_true_eq, decide_eq_false_iff_not]
          split <;> omega
        rcases key with ⟨hp, hk⟩ | ⟨hp, k1, k2, k3, hk, hk2⟩
        · have hv := Kg.out hp
          have Hv := Lib.hid hv; clear hv Kg Kb
          have Hp := Lib.hid hp; clear hp
          rcases hk with k1 | ⟨k1, k2⟩ | ⟨k1, k2, k3⟩ | ⟨k1, k2, k3, k4, k5⟩ | ⟨k1, k2, k3, k4, k5, k6⟩ | ⟨k1, k2, k3, k4, k5, k6⟩
          all_goals
            go_wp2_with (go_at_call 57; refine (small_any _ (by omega) (by omega) _).mono ?_; rintro e w' ⟨rfl, rfl⟩)
          all_goals
            go_round
            case rel => exact ⟨k + 1, _, rfl, by omega, by omega, by go_num, by omega, Hv.out.trans (by congr 1; first | rfl | (exact h47.symm))⟩
            case measure => simp [intOf] <;> omega
        · have hv := Kb.out hp
          have Hv := Lib.hid hv; clear hv Kg Kb
          have Hp := Lib.hid hp; clear hp
          have hk4 : ((s[k].toNat : Int) < 48 ∧ decide (48 ≤ (s[k].toNat : Int)) = false) ∨ (57 < (s[k].toNat : Int) ∧ decide ((s[k].toNat : Int) ≤ 57) = false) := by simp only [decide_eq_false_iff_not]; omega
          have hk5 : (smallI (s[k].toNat : Int) < 97 ∧ decide (97 ≤ smallI (s[k].toNat : Int)) = false) ∨ (122 < smallI (s[k].toNat : Int) ∧ decide (smallI (s[k].toNat : Int) ≤ 122) = false) := by simp only [decide_eq_false_iff_not]; omega
          clear hk hk2
          rcases hk4 with ⟨k4, k6⟩ | ⟨k4, k6⟩ <;> rcases hk5 with ⟨k5, k7⟩ | ⟨k5, k7⟩
          all_goals
            go_wp2_with (go_at_call 57; refine (small_any _ (by omega) (by omega) _).mono ?_; rintro e w' ⟨rfl, rfl⟩)
          all_goals
            go_ret2
            exact ⟨by rw [Hv.out]; rfl, 0, rfl⟩
    · obtain rfl : k = s.size := by omega
      have hnil : s.data.toList.drop s.size = [] := List.drop_eq_nil_of_le (by simp)
      have hsc' := hsc.out
      rw [hnil] at hsc'
      clear hsc hnil
      rcases Bool.eq_false_or_eq_true (c == 47) with hl | hl
      · have hv : refNormV s = (⟨#[]⟩, false) := by
          unfold refNormV
          rw [hsc', hl]; rfl
        have Hv := Lib.hid hv; clear hv hsc'
        go_wp2
        go_ret2
        exact ⟨by rw [Hv.out]; rfl, 0, rfl⟩
      · by_cases h60 : 60 < s.size
        · have hv : refNormV s = (⟨#[]⟩, false) := by
            unfold refNormV
            rw [hsc', hl, show decide (s.size ≤ 60) = false from by simp; omega]; rfl
          have Hv := Lib.hid hv; clear hv hsc'
          go_wp2
          go_ret2
          exact ⟨by rw [Hv.out]; rfl, 0, rfl⟩
        · have hok : (nameScan true s.data.toList && decide (s.size ≤ 60)) = true := by
            rw [hsc', hl, show decide (s.size ≤ 60) = true from by simp; omega]; rfl
          have Hok := Lib.hid hok; clear hok hsc'
          rcases Bool.eq_false_or_eq_true (alikeL s.data.toList [105, 110, 98, 111, 120]) with ha | ha
          · have Hv : Hid (refNormV s = (inboxS, true)) := by show refNormV s = _; unfold refNormV; rw [Hok.out, if_pos rfl, if_pos ha]
            go_wp2_with fail
            refine (alike_any s ⟨#[105, 110, 98, 111, 120]⟩ (by omega) (by decide) _).mono ?_
            rintro e w1 ⟨rfl, n, hw1⟩
            have Hw := Lib.hid hw1; clear hw1
            rw [ha]
            have Ha := Lib.hid ha; clear ha
            go_wp2
            go_ret2
            exact ⟨by rw [Hv.out]; rfl, n, Hw.out⟩
          · have Hv : Hid (refNormV s = (s, true)) := by show refNormV s = _; unfold refNormV; rw [Hok.out, if_pos rfl, if_neg (by rw [ha]; decide)]
            go_wp2_with fail
            refine (alike_any s ⟨#[105, 110, 98, 111, 120]⟩ (by omega) (by decide) _).mono ?_
            rintro e w1 ⟨rfl, n, hw1⟩
            have Hw := Lib.hid hw1; clear hw1
            rw [ha]
            have Ha := Lib.hid ha; clear ha
            go_wp2
            go_ret2
            exact ⟨by rw [Hv.out]; rfl, n, Hw.out⟩
end Go.Proofs.YtjhaccmcjlbllaaGreatDoor
/-
  Plainly: a word is within a text, in any letters, byte by byte.
-/
namespace Go.Proofs.YtjhaccmcjlbllaaGreatDoor
open Go.RowKit
theorem lett_low (l : List UInt8) : lettS 65 l = lowerS l := by
  unfold lettS lowerS
  refine List.map_congr_left fun c _ => ?_
  have : ∀ k : Fin 256, (if (65 : UInt8) ≤ UInt8.ofNat k.1 ∧ UInt8.ofNat k.1 < 65 + 26 then UInt8.ofNat k.1 ^^^ 32 else UInt8.ofNat k.1) = (if (65 : UInt8) ≤ UInt8.ofNat k.1 ∧ UInt8.ofNat k.1 ≤ 90 then UInt8.ofNat k.1 + 32 else UInt8.ofNat k.1) := by decide +kernel
  have h := this ⟨c.toNat, c.toNat_lt⟩
  simpa using h
theorem small_low (l : List UInt8) : l.map smallB = (lowerS l).map fun c => ((c.toNat : Nat) : Int) := by
  unfold lowerS
  rw [List.map_map]
  refine List.map_congr_left fun c _ => ?_
  have : ∀ k : Fin 256, smallB (UInt8.ofNat k.1) = ((((if (65 : UInt8) ≤ UInt8.ofNat k.1 ∧ UInt8.ofNat k.1 ≤ 90 then UInt8.ofNat k.1 + 32 else UInt8.ofNat k.1) : UInt8).toNat : Nat) : Int) := by decide +kernel
  have h := this ⟨c.toNat, c.toNat_lt⟩
  simpa using h
theorem alike_lowK (a b : List UInt8) : alikeL a b = (lowerS a == lowerS b) := by
  unfold alikeL
  rw [small_low, small_low]
  by_cases h : lowerS a = lowerS b
  · rw [h]; simp
  · have h2 : ¬ (lowerS a).map (fun c => ((c.toNat : Nat) : Int)) = (lowerS b).map fun c => ((c.toNat : Nat) : Int) := fun e => h (List.map_inj_right (fun x y e => UInt8.toNat_inj.1 (by exact_mod_cast e)) |>.1 e)
    rw [beq_eq_false_iff_ne.2 h, beq_eq_false_iff_ne.2 h2]
theorem lalikeK_any (a b : List UInt8) (w : World) (ha : a.length ≤ 100000000) (hb : b.length ≤ 100000000) : Calls Tryz.prog 38 #[.string (St a), .string (St b)] w fun ev w' => ev = .returned (.bool (lowerS a == lowerS b)) ∧ Below w.heap.size w w' :=
  (alike_any (St a) (St b) (by show a.length ≤ _; omega) (by show b.length ≤ _; omega) w).mono fun ev w' ⟨h1, n4, h2⟩ => ⟨by rw [h1, ← alike_lowK], h2 ▸ below_drewN (Below.refl _ _) n4⟩
theorem lowerS_len (l : List UInt8) : (lowerS l).length = l.length := List.length_map ..
/-- what stands in a text from a place on, in small letters -/
theorem piece_low (s w : List UInt8) (i : Nat) (h : i + w.length ≤ s.length) : (lowerS ((s.drop i).take w.length) == lowerS w) = Lib.occAt (lettS 65 s) (lettS 65 w) i := by
  rw [lett_low, lett_low, Lib.occAt_iff_take _ _ _ (by rw [lowerS_len, lowerS_len]; exact h), lowerS_len]
  unfold lowerS
  rw [List.map_take, List.map_drop]
theorem extract_mid (l : List UInt8) (a b : Nat) : (St l).extract a (a + b) = St ((l.drop a).take b) := by
  apply ByteArray.ext
  apply Array.ext'
  rw [ByteArray.data_extract, Array.toList_extract, List.extract_eq_take_drop]
  show (l.drop a).take (a + b - a) = _
  rw [Nat.add_sub_cancel_left]
theorem within_yes {s w : List UInt8} {i : Nat} (h : i + w.length ≤ s.length) (ho : (lowerS ((s.drop i).take w.length) == lowerS w) = true) : withinS s w = true := by
  rw [piece_low s w i h] at ho
  unfold withinS Lib.contains
  rcases Lib.index_spec (lettS 65 s) (lettS 65 w) with ⟨h1, h2⟩ | ⟨j, h1, _⟩
  · have := h2 i (by rw [lett_low, lowerS_len]; omega)
    rw [ho] at this
    cases this
  · rw [h1]; simp
theorem within_no {s w : List UInt8} (h : ∀ i, i + w.length ≤ s.length → (lowerS ((s.drop i).take w.length) == lowerS w) = false) : withinS s w = false := by
  unfold withinS Lib.contains
  rcases Lib.index_spec (lettS 65 s) (lettS 65 w) with ⟨h1, h2⟩ | ⟨j, h1, h2, h3, h4⟩
  · rw [h1]; rfl
  · exfalso
    have hr := Lib.index_room (lettS 65 s) (lettS 65 w) (by rw [h1]; omega)
    rw [h1, lett_low, lett_low, lowerS_len, lowerS_len] at hr
    have hj : j + w.length ≤ s.length := by omega
    have := h j hj
    rw [piece_low s w j hj, h3] at this
    cases this
end Go.Proofs.YtjhaccmcjlbllaaGreatDoor
