/-
  Walks: what a search's closures ask of a message.
-/
import Derived.Test.YtjhaccmcjlbllaaGreatDoorXfc
import Derived.Test.YtjhaccmcjlbllaaGreatDoorProg
import Derived.Shelf.Strings.Builder1
import Derived.Shelf.Strings.Builder2
import Derived.Shelf.Strings.OnBuilder
import Derived.Shelf.Strings.Trim
import Derived.Shelf.Small.Utf8
import Derived.Shelf.Small.Strs
import Derived.Shelf.Small.Wraps
import Derived.Shelf.Strings.BuilderF
import Derived.Shelf.Strings.BuilderK
import Derived.Shelf.Strings.BuilderRune
import Derived.Shelf.Utf8.RuneCount
import Derived.Shelf.Strings.Builder2Cap
import Derived.Shelf.Strconv.Atoi
import Derived.Shelf.Strconv.Itoa0
import Derived.Shelf.Strconv.Itoa1
import Derived.Shelf.LaysM
import Derived.Shelf.Strconv.Itoa2
import Derived.Shelf.Strconv.Itoa3
import Derived.Shelf.Strconv.Itoa4
import Derived.Shelf.Strconv.AtoiErrFast
import Derived.Shelf.Strconv.ParseIntEmpty
import Derived.Shelf.Strconv.AtoiFail
import Derived.Shelf.Strconv.Clone
import Derived.Shelf.Strconv.SyntaxError
import Derived.Shelf.LaysC
import Derived.Shelf.Strconv.ToError
import Derived.Shelf.Strconv.Lower
import Derived.Shelf.Strconv.ParseUint10
import Derived.Shelf.Strconv.ParseUint10Empty
import Derived.Shelf.Strconv.ParseUint10Any
import Derived.Shelf.Strconv.ParseInt10
import Derived.Shelf.Strconv.AtoiLong
import Derived.Shelf.Strconv.AtoiInnerAll
import Derived.Shelf.Strconv.RangeError
import Derived.Shelf.Strconv.ToErrorRange
import Derived.Shelf.Strconv.AtoiAll
import Derived.Shelf.Strconv.ParseUintEmpty
import Derived.Shelf.Strconv.ParseUint10b64
import Derived.Shelf.Strconv.ParseUint10b32
import Derived.Shelf.Strconv.ParseUint10b16
import Derived.Shelf.Strconv.ParseUint10b8
import Derived.Ground.MpProg
import Derived.Shelf.Pu.ParseUintPublic10
import Derived.Shelf.Pu.ErrVarParseUint
import Derived.Shelf.Strings.Search1
import Derived.Shelf.Strings.Search2
import Derived.Shelf.Strings.Search3
import Derived.Shelf.Strings.Cut
import Derived.Shelf.Strings.Count
import Derived.Shelf.Strings.Shaped
import Derived.Shelf.Strings.LastIndex
import Derived.Shelf.Strings.Prefix
import Derived.Shelf.Strings.Split
import Derived.Shelf.Strings.Replace
import Derived.Shelf.Strings.SplitShaped
import Derived.Shelf.Unicode.Latin
import Derived.Shelf.Unicode.Decode
import Derived.Shelf.Strings.Runes
import Derived.Shelf.Strings.RuneCount
import Derived.Shelf.Strings.AsciiSet
import Derived.Shelf.Strings.Explode
import Derived.Shelf.Unicode.DecodeSlow
import Derived.Shelf.Unicode.DecodeAny
import Derived.Shelf.Unicode.DecodeLast
import Derived.Shelf.Unicode.CaseLookup
import Derived.Shelf.Unicode.CaseConvert
import Derived.Shelf.Unicode.CaseTo
import Derived.Shelf.Unicode.CaseLaid
import Derived.Shelf.Strings.MapAny
import Derived.Shelf.Strings.CaseAny
import Derived.Shelf.Slices.Turned
import Derived.Shelf.Bytes.SlIndexAt
import Derived.Shelf.Bytes.SlSearch0
import Derived.Ground.SlbCloneProg
import Derived.Shelf.Bytes.SlClone
import Derived.Shelf.Bytes.IndexByte
import Derived.Deep.Cut
import Derived.Lib.AppendIntMem
import Derived.Test.YtjhaccmcjlbllaaGreatDoorChecked
namespace Go.Proofs.YtjhaccmcjlbllaaGreatDoor
open Go.RowKit
set_option linter.unusedSimpArgs false
set_option linter.unusedVariables false
/-- a mailbox, and one of its messages -/
structure LookV where
  nm : ByteArray
  ep : Int
  nx : Int
  A : Option Addr
  c : Nat
  ms : List MsgV
  i : Nat
  m : MsgV
/-- the last UID -/
def lastUid (ms : List MsgV) : Nat := (ms.getLast?.map (·.uid)).getD 0
def lookBx (L : LookV) : Value := .agg #[.string L.nm, .int .u32 L.ep, .int .u32 L.nx, .slice L.A L.ms.length L.c]
def lookC (L : LookV) : Array Value := #[.string L.nm, .int .u32 L.ep, .int .u32 L.nx, .slice L.A L.ms.length L.c, .int .i64 (L.i : Nat)]
def lookF (L : LookV) : LookS := ⟨L.m.flags, L.m.b, L.m.uid, L.i, L.ms.length, lastUid L.ms⟩
structure LookAt (w : World) (L : LookV) : Prop where
  ms : Msgs w L.A L.ms.length L.ms
  at_ : L.ms[L.i]? = some L.m
  len : L.ms.length ≤ 1000000
  big : L.m.b.length ≤ 1048576
  one : ∃ m, w.cell? ⟨0, 0, none⟩ = some (.int .i64 m)
theorem LookAt.lt {w : World} {L : LookV} (h : LookAt w L) : L.i < L.ms.length := (List.getElem?_eq_some_iff.1 h.at_).1
theorem LookAt.below {w w' : World} {L : LookV} (h : LookAt w L) (hb : Below w.heap.size w w') : LookAt w' L := by
  refine ⟨h.ms.below hb, h.at_, h.len, h.big, ?_⟩
  obtain ⟨m, hm⟩ := h.one
  exact ⟨m, (hb.cell (block_lt_of_cell hm)).trans hm⟩
theorem LookAt.reads {w : World} {L : LookV} (h : LookAt w L) : Reads w w.heap.size 1 L.m.a L.m.b.length (u8s L.m.b) := h.ms.octs _ (List.mem_of_getElem? h.at_)
theorem LookAt.caps {w : World} {L : LookV} (h : LookAt w L) : L.m.b.length ≤ L.m.c ∧ L.m.c ≤ 9223372036854775807 := h.ms.caps _ (List.mem_of_getElem? h.at_)
set_option maxRecDepth 100000 in
set_option maxHeartbeats 4000000 in
theorem msg_any (L : LookV) (w : World) (h : LookAt w L) : Calls Tryz.prog 180 #[.agg (lookC L)] w fun ev w' => ev = .returned (.agg #[.int .u32 (L.m.uid : Nat), .int .i64 L.m.date, .int .i64 L.m.flags, .slice L.m.a L.m.b.length L.m.c]) ∧ Below w.heap.size w w' := by
  obtain ⟨nm, ep, nx, A, c, ms, i, m⟩ := L
  have hlt := h.lt
  obtain ⟨hms, hat, hlen, -, -⟩ := h
  obtain ⟨uid, date, flags, a8, c8, b8⟩ := m
  simp only at hms hat hlen hlt ⊢
  unfold lookC
  have HB := Below.refl w.heap.size w
  refine calls_at 10 Tryz.func180 rfl rfl (Nat.le_of_ble_eq_true rfl) ?_
  intro a hA; replace hA := hA.norm
  refine wS (wR ?_)
  refine wl_new hA rfl rfl (by decide) (fun ev h => by simp [go_sem, h.get 0 rfl]; try first | exact ⟨rfl, rfl⟩ | rfl) fun w1 a (K1 : Blk _ _ _ _) hz1 hb1 hA => ?_
  replace HB := HB.trans (hb1.mono HB.size)
  replace hms := hms.below hb1
  refine wl_new hA rfl rfl (by decide) (fun ev h => by simp [go_sem]; try first | exact ⟨rfl, rfl⟩ | rfl) fun w2 a (K2 : Blk _ _ _ _) hz2 hb2 hA => ?_
  replace HB := HB.trans (hb2.mono HB.size)
  replace hms := hms.below hb2
  replace K1 := K1.below hb2 K1.lt
  obtain ⟨ad, rfl, hadl, q0, q1, q2, q3⟩ := hms.at_ hat
  simp only at q0 q1 q2 q3
  have jj0 : (0 : Int) ≤ (i : Int) := by omega
  have jj1 : (i : Int) < (ms.length : Int) := by omega
  replace hA := hA.keepN [1, 2]
  refine wN (nT (wS (wR ?_)))
  revert a; (iterate 7 refine wo rfl rfl (by decide) (fun ev e h => by simp [go_sem, h, K1.cell, q0, q1, q2, q3, jj0, jj1] <;> rfl) ?_); intro a hA
  refine wl_set [.int .u32 (uid : Nat), .int .i64 date, .int .i64 flags, .slice a8 b8.length c8] hA rfl rfl K2 (by rfl) (fun ev h => by simp [go_sem, h.get 2 rfl, h.get 9 rfl, K1.cell, q0, q1, q2, q3, jj0, jj1, setAll, K2.cell, K2.frozen]) fun w3 (K2 : Blk _ _ _ _) hs3 => ?_
  replace HB := hs3.below HB (by omega)
  replace hA := hA.keepN [2]
  refine wN (nT (wp_ret ?_))
  refine bodyPost_ret (by simp [results, Tryz.results180, go_sem, hA.env 2 _ rfl, K2.cell]; try first | exact ⟨rfl, rfl⟩ | rfl) hA.defers ?_
  exact ⟨rfl, HB⟩
set_option maxRecDepth 100000 in
set_option maxHeartbeats 4000000 in
theorem last_any (L : LookV) (w : World) (h : LookAt w L) : Calls Tryz.prog 190 #[.agg (lookC L)] w fun ev w' => ev = .returned (.int .u32 (lastUid L.ms : Nat)) ∧ Below w.heap.size w w' := by
  obtain ⟨nm, ep, nx, A, c, ms, i, m⟩ := L
  have hlt := h.lt
  obtain ⟨hms, hat, hlen, -, -⟩ := h
  simp only at hms hat hlen hlt ⊢
  unfold lookC
  obtain ⟨y, hy⟩ : ∃ y, ms[ms.length - 1]? = some y := ⟨_, List.getElem?_eq_getElem (by omega)⟩
  have hlast : lastUid ms = y.uid := by unfold lastUid; rw [List.getLast?_eq_getElem?, hy]; rfl
  have HB := Below.refl w.heap.size w
  refine calls_at 14 Tryz.func190 rfl rfl (Nat.le_of_ble_eq_true rfl) ?_
  intro a hA; replace hA := hA.norm
  refine wS (wR ?_)
  refine wl_new hA rfl rfl (by decide) (fun ev h => by simp [go_sem, h.get 0 rfl]; try first | exact ⟨rfl, rfl⟩ | rfl) fun w1 a (K1 : Blk _ _ _ _) hz1 hb1 hA => ?_
  replace HB := HB.trans (hb1.mono HB.size)
  replace hms := hms.below hb1
  obtain ⟨ad, rfl, hadl, q0, -⟩ := hms.at_ hy
  obtain ⟨k, hk⟩ : ∃ k, ms.length = k + 1 := ⟨ms.length - 1, by omega⟩
  rw [hk] at K1 q0 hlt
  rw [Nat.add_sub_cancel] at q0
  have jj0 : (0 : Int) ≤ (k : Int) := by omega
  have jj1 : (k : Int) < (k : Int) + 1 := by omega
  have i1 : IntKind.i64.wrap (k : Int) = (k : Int) := by rw [IntWalk.i64_in _ (by omega)]
  revert a; refine wo rfl rfl (by decide) (fun ev e h => by simp [go_sem, h, K1.cell, q0, jj0, jj1, i1] <;> rfl) ?_; intro a hA
  replace hA := hA.keepN [1]
  refine wN (nT (wS (wR ?_)))
  revert a; (iterate 10 refine wo rfl rfl (by decide) (fun ev e h => by simp [go_sem, h, K1.cell, q0, jj0, jj1, i1] <;> rfl) ?_); intro a hA
  replace hA := hA.keepN [12]
  revert a; (iterate 2 refine wo rfl rfl (by decide) (fun ev e h => by simp [go_sem, h, K1.cell, q0, jj0, jj1, i1] <;> rfl) ?_); intro a hA
  replace hA := hA.keepN [2]
  refine wN (nT (wp_ret ?_))
  refine ret_1 hA 2 rfl rfl ?_
  exact ⟨by rw [hlast], HB⟩
/-- a call enters -/
def Enters (F : FuncId) : Prop := ∀ (args : Array Value) (w : World), (callFunc F args).run Tryz.prog w = .ok (.enter F args) w
theorem enters {F : FuncId} {fn : Func} (hf : Tryz.prog.funcs[F]? = some fn) (hc : callOk fn = true) : Enters F := fun args w => by
  unfold callOk at hc
  rw [Bool.and_eq_true, Bool.not_eq_true'] at hc
  have hn : ¬ fn.name = "runtime.NumGoroutine" := by simpa using hc.1
  have hb : ¬ fn.body = none := by
    have := hc.2
    cases h : fn.body with
    | none => rw [h] at this; cases this
    | some c => simp
  simp [callFunc, hf, hn, hb]
/-- a closure runs, and answers so -/
def RunK (L : LookV) (k : KeyA) (v : Value) (w : World) : Prop := ∃ F caps, v = .func (.func F) #[] caps ∧ Enters F ∧ Calls Tryz.prog F (#[.agg (lookC L)] ++ caps) w fun ev w' => ev = .returned (.bool (evalK k (lookF L))) ∧ Below w.heap.size w w'
theorem run_never (L : LookV) (w : World) : RunK L .never (.func (.func 134) #[] #[]) w := by
  refine ⟨_, _, rfl, enters Tryz.func134 (by kernel_rfl), ?_⟩
  show Calls Tryz.prog _ #[.agg (lookC L)] w _
  rw [evalK]
  have HB := Below.refl w.heap.size w
  unfold lookC
  refine calls_at 3 Tryz.func134 rfl rfl (Nat.le_of_ble_eq_true rfl) ?_
  intro a hA; replace hA := hA.norm
  refine wS (wR ?_)
  refine wl_new hA rfl rfl (by decide) (fun ev h => by simp [go_sem, h.get 0 rfl]; try first | exact ⟨rfl, rfl⟩ | rfl) fun w1 a (K1 : Blk _ _ _ _) hz1 hb1 hA => ?_
  replace HB := HB.trans (hb1.mono HB.size)
  revert a; refine wo rfl rfl (by decide) (fun ev e h => by simp [go_sem, h] <;> rfl) ?_; intro a hA
  replace hA := hA.keepN []
  refine wN (nT (wS (wR ?_)))
  revert a; refine wo rfl rfl (by decide) (fun ev e h => by simp [go_sem, h] <;> rfl) ?_; intro a hA
  replace hA := hA.keepN [2]
  refine wN (nT (wp_ret ?_))
  refine ret_1 hA 2 rfl rfl ?_
  exact ⟨rfl, HB⟩
theorem run_all (L : LookV) (w : World) : RunK L .all (.func (.func 177) #[] #[]) w := by
  refine ⟨_, _, rfl, enters Tryz.func177 (by kernel_rfl), ?_⟩
  show Calls Tryz.prog _ #[.agg (lookC L)] w _
  rw [evalK]
  have HB := Below.refl w.heap.size w
  unfold lookC
  refine calls_at 3 Tryz.func177 rfl rfl (Nat.le_of_ble_eq_true rfl) ?_
  intro a hA; replace hA := hA.norm
  refine wS (wR ?_)
  refine wl_new hA rfl rfl (by decide) (fun ev h => by simp [go_sem, h.get 0 rfl]; try first | exact ⟨rfl, rfl⟩ | rfl) fun w1 a (K1 : Blk _ _ _ _) hz1 hb1 hA => ?_
  replace HB := HB.trans (hb1.mono HB.size)
  revert a; refine wo rfl rfl (by decide) (fun ev e h => by simp [go_sem, h] <;> rfl) ?_; intro a hA
  replace hA := hA.keepN []
  refine wN (nT (wS (wR ?_)))
  revert a; refine wo rfl rfl (by decide) (fun ev e h => by simp [go_sem, h] <;> rfl) ?_; intro a hA
  replace hA := hA.keepN [2]
  refine wN (nT (wp_ret ?_))
  refine ret_1 hA 2 rfl rfl ?_
  exact ⟨rfl, HB⟩
theorem agg_look (L : LookV) : lookC L = #[.string L.nm, .int .u32 L.ep, .int .u32 L.nx, .slice L.A L.ms.length L.c, .int .i64 (L.i : Nat)] := rfl
set_option maxRecDepth 100000 in
set_option maxHeartbeats 4000000 in
theorem run_larger (L : LookV) (n : Int) (q : Nat) (w : World) (h : LookAt w L) (Kq : Blk w q 3 #[.int .i64 n]) : RunK L (.larger n) (.func (.func 185) #[] #[.pointer (some ⟨q, 0, none⟩)]) w := by
  refine ⟨_, _, rfl, enters Tryz.func185 (by kernel_rfl), ?_⟩
  show Calls Tryz.prog _ #[.agg (lookC L), .pointer (some ⟨q, 0, none⟩)] w _
  rw [evalK]
  have HB := Below.refl w.heap.size w
  refine calls_at 10 Tryz.func185 rfl rfl (Nat.le_of_ble_eq_true rfl) ?_
  intro a hA; replace hA := hA.norm
  rw [agg_look] at hA
  refine wS (wR ?_)
  refine wl_new hA rfl rfl (by decide) (fun ev h => by simp [go_sem, h.get 0 rfl]; try first | exact ⟨rfl, rfl⟩ | rfl) fun w1 a (K1 : Blk _ _ _ _) hz1 hb1 hA => ?_
  replace HB := HB.trans (hb1.mono HB.size)
  replace h := h.below hb1
  replace Kq := Kq.below hb1 Kq.lt
  revert a; refine wo rfl rfl (by decide) (fun ev e h => by simp [go_sem, h] <;> rfl) ?_; intro a hA
  replace hA := hA.keepN [1, 2]
  have pS := fun (wo : World) (hC : (fun wy => Below w1.heap.size w1 wy) wo) => have p1 := K1.below hC K1.lt; have p2 := Kq.below hC Kq.lt; And.intro (p1.cell) (p2.cell)
  refine wN (nT (wS ?_))
  refine wp_any_at hA [(.det ?dS0), (.det ?dS1), (.det ?dS2), (.det ?dS3), (.det ?dS4), (.det ?dS5), (.det ?dS6)] [] (fun wy => Below w1.heap.size w1 wy) (TSp [] Grows) (by kernel_rfl) rfl (by kernel_rfl) (by kernel_rfl) rfl ((Below.refl _ _).drew) (stab_sp [] [true, true, true, true, true, true, true] [true, true, true, true, true, true, true] [] rfl rfl rfl (by kernel_rfl) ⟨trivial, trivial, trivial, trivial, trivial, trivial, trivial, trivial⟩ trivial) (fun _ h => by cases h) (fun _ _ _ _ _ h => by cases h) (fun _ h => by cases h) ⟨?oS0, ?oS1, ?oS2, ?oS3, ?oS4, ?oS5, ?oS6, trivial⟩ (by kernel_rfl) ?fS
  case oS0 => intro ev wo hev hC hs hph; have x0 := se hA hs 2; exact od rfl rfl (by kernel_rfl) hC (TSp.of rfl (Grows.refl _)) (by simp [go_sem, x0, pS _ hC] <;> rfl)
  case oS1 =>
    intro ev wo hev hC hs hph
    have e4 := sd hs 4 0
    have p1 := K1.below hC K1.lt
    have p2 := Kq.below hC Kq.lt
    exact ob_dcall (wanted_none rfl) rfl (by kernel_rfl) (msg_any L wo (h.below hC)) (exec_call Tryz.func180 (by kernel_rfl) rfl (hev.func _) (by first | (simp only [mL, e4, hev.const] <;> rfl) | (simp [mL, e4, hev.const] <;> rfl))) (by rfl) (fun w3 hb3 => ⟨hC.trans (hb3.mono hC.size), TSp.of rfl hb3⟩)
  case oS2 => intro ev wo hev hC hs hph; have x0 := sd hs 5 1; exact od rfl rfl (by kernel_rfl) hC (TSp.of rfl (Grows.refl _)) (by simp [go_sem, x0] <;> rfl)
  case oS3 => intro ev wo hev hC hs hph; have x0 := sd hs 6 2; exact od rfl rfl (by kernel_rfl) hC (TSp.of rfl (Grows.refl _)) (by simp [go_sem, x0] <;> rfl)
  case oS4 => intro ev wo hev hC hs hph; have x0 := se hA hs 1; exact od rfl rfl (by kernel_rfl) hC (TSp.of rfl (Grows.refl _)) (by simp [go_sem, x0, pS _ hC] <;> rfl)
  case oS5 => intro ev wo hev hC hs hph; have x0 := sd hs 7 3; have x1 := sd hs 8 4; exact od rfl rfl (by kernel_rfl) hC (TSp.of rfl (Grows.refl _)) (by simp [go_sem, x0, x1] <;> rfl)
  case oS6 => intro ev wo hev hC hs hph; have x0 := sd hs 9 5; exact od rfl rfl (by kernel_rfl) hC (TSp.of rfl (Grows.refl _)) (by simp [go_sem, x0] <;> rfl)
  intro sg wf hC hph
  intro a hA
  replace hA := hA.keepN [3]
  refine nT (wp_ret ?_)
  refine ret_1 hA 3 rfl rfl ?_
  exact ⟨ret_bool (rfl), HB.trans (hC.mono HB.size)⟩
set_option maxRecDepth 100000 in
set_option maxHeartbeats 4000000 in
theorem run_smaller (L : LookV) (n : Int) (q : Nat) (w : World) (h : LookAt w L) (Kq : Blk w q 3 #[.int .i64 n]) : RunK L (.smaller n) (.func (.func 186) #[] #[.pointer (some ⟨q, 0, none⟩)]) w := by
  refine ⟨_, _, rfl, enters Tryz.func186 (by kernel_rfl), ?_⟩
  show Calls Tryz.prog _ #[.agg (lookC L), .pointer (some ⟨q, 0, none⟩)] w _
  rw [evalK]
  have HB := Below.refl w.heap.size w
  refine calls_at 10 Tryz.func186 rfl rfl (Nat.le_of_ble_eq_true rfl) ?_
  intro a hA; replace hA := hA.norm
  rw [agg_look] at hA
  refine wS (wR ?_)
  refine wl_new hA rfl rfl (by decide) (fun ev h => by simp [go_sem, h.get 0 rfl]; try first | exact ⟨rfl, rfl⟩ | rfl) fun w1 a (K1 : Blk _ _ _ _) hz1 hb1 hA => ?_
  replace HB := HB.trans (hb1.mono HB.size)
  replace h := h.below hb1
  replace Kq := Kq.below hb1 Kq.lt
  revert a; refine wo rfl rfl (by decide) (fun ev e h => by simp [go_sem, h] <;> rfl) ?_; intro a hA
  replace hA := hA.keepN [1, 2]
  have pS := fun (wo : World) (hC : (fun wy => Below w1.heap.size w1 wy) wo) => have p1 := K1.below hC K1.lt; have p2 := Kq.below hC Kq.lt; And.intro (p1.cell) (p2.cell)
  refine wN (nT (wS ?_))
  refine wp_any_at hA [(.det ?dS0), (.det ?dS1), (.det ?dS2), (.det ?dS3), (.det ?dS4), (.det ?dS5), (.det ?dS6)] [] (fun wy => Below w1.heap.size w1 wy) (TSp [] Grows) (by kernel_rfl) rfl (by kernel_rfl) (by kernel_rfl) rfl ((Below.refl _ _).drew) (stab_sp [] [true, true, true, true, true, true, true] [true, true, true, true, true, true, true] [] rfl rfl rfl (by kernel_rfl) ⟨trivial, trivial, trivial, trivial, trivial, trivial, trivial, trivial⟩ trivial) (fun _ h => by cases h) (fun _ _ _ _ _ h => by cases h) (fun _ h => by cases h) ⟨?oS0, ?oS1, ?oS2, ?oS3, ?oS4, ?oS5, ?oS6, trivial⟩ (by kernel_rfl) ?fS
  case oS0 => intro ev wo hev hC hs hph; have x0 := se hA hs 2; exact od rfl rfl (by kernel_rfl) hC (TSp.of rfl (Grows.refl _)) (by simp [go_sem, x0, pS _ hC] <;> rfl)
  case oS1 =>
    intro ev wo hev hC hs hph
    have e4 := sd hs 4 0
    have p1 := K1.below hC K1.lt
    have p2 := Kq.below hC Kq.lt
    exact ob_dcall (wanted_none rfl) rfl (by kernel_rfl) (msg_any L wo (h.below hC)) (exec_call Tryz.func180 (by kernel_rfl) rfl (hev.func _) (by first | (simp only [mL, e4, hev.const] <;> rfl) | (simp [mL, e4, hev.const] <;> rfl))) (by rfl) (fun w3 hb3 => ⟨hC.trans (hb3.mono hC.size), TSp.of rfl hb3⟩)
  case oS2 => intro ev wo hev hC hs hph; have x0 := sd hs 5 1; exact od rfl rfl (by kernel_rfl) hC (TSp.of rfl (Grows.refl _)) (by simp [go_sem, x0] <;> rfl)
  case oS3 => intro ev wo hev hC hs hph; have x0 := sd hs 6 2; exact od rfl rfl (by kernel_rfl) hC (TSp.of rfl (Grows.refl _)) (by simp [go_sem, x0] <;> rfl)
  case oS4 => intro ev wo hev hC hs hph; have x0 := se hA hs 1; exact od rfl rfl (by kernel_rfl) hC (TSp.of rfl (Grows.refl _)) (by simp [go_sem, x0, pS _ hC] <;> rfl)
  case oS5 => intro ev wo hev hC hs hph; have x0 := sd hs 7 3; have x1 := sd hs 8 4; exact od rfl rfl (by kernel_rfl) hC (TSp.of rfl (Grows.refl _)) (by simp [go_sem, x0, x1] <;> rfl)
  case oS6 => intro ev wo hev hC hs hph; have x0 := sd hs 9 5; exact od rfl rfl (by kernel_rfl) hC (TSp.of rfl (Grows.refl _)) (by simp [go_sem, x0] <;> rfl)
  intro sg wf hC hph
  intro a hA
  replace hA := hA.keepN [3]
  refine nT (wp_ret ?_)
  refine ret_1 hA 3 rfl rfl ?_
  exact ⟨ret_bool (rfl), HB.trans (hC.mono HB.size)⟩
set_option maxRecDepth 100000 in
set_option maxHeartbeats 4000000 in
theorem run_text (L : LookV) (x : List UInt8) (q : Nat) (w : World) (h : LookAt w L) (Kq : Blk w q 9 #[.string (St x)]) (hx : x.length ≤ 1048576) : RunK L (.text x) (.func (.func 183) #[] #[.pointer (some ⟨q, 0, none⟩)]) w := by
  refine ⟨_, _, rfl, enters Tryz.func183 (by kernel_rfl), ?_⟩
  show Calls Tryz.prog _ #[.agg (lookC L), .pointer (some ⟨q, 0, none⟩)] w _
  rw [evalK]
  have HB := Below.refl w.heap.size w
  obtain ⟨mm, hmm⟩ := h.one
  have hbig := h.big
  have hmlt := block_lt_of_cell hmm
  refine calls_at 10 Tryz.func183 rfl rfl (Nat.le_of_ble_eq_true rfl) ?_
  intro a hA; replace hA := hA.norm
  rw [agg_look] at hA
  refine wS (wR ?_)
  refine wl_new hA rfl rfl (by decide) (fun ev h => by simp [go_sem, h.get 0 rfl]; try first | exact ⟨rfl, rfl⟩ | rfl) fun w1 a (K1 : Blk _ _ _ _) hz1 hb1 hA => ?_
  replace HB := HB.trans (hb1.mono HB.size)
  replace h := h.below hb1
  replace Kq := Kq.below hb1 Kq.lt
  revert a; refine wo rfl rfl (by decide) (fun ev e h => by simp [go_sem, h] <;> rfl) ?_; intro a hA
  replace hA := hA.keepN [1, 2]
  have pS := fun (wo : World) (hC : (fun wy => Below w1.heap.size w1 wy) wo) => have p1 := K1.below hC K1.lt; have p2 := Kq.below hC Kq.lt; And.intro (p1.cell) (p2.cell)
  refine wN (nT (wS ?_))
  refine wp_any_at hA [(.det ?dS0), (.det ?dS1), (.det ?dS2), (.det ?dS3), (.det ?dS4), (.det ?dS5), (.det ?dS6)] [] (fun wy => Below w1.heap.size w1 wy) (TSp [] Grows) (by kernel_rfl) rfl (by kernel_rfl) (by kernel_rfl) rfl ((Below.refl _ _).drew) (stab_sp [] [true, true, true, true, true, true, true] [true, true, true, true, true, true, true] [] rfl rfl rfl (by kernel_rfl) ⟨trivial, trivial, trivial, trivial, trivial, trivial, trivial, trivial⟩ trivial) (fun _ h => by cases h) (fun _ _ _ _ _ h => by cases h) (fun _ h => by cases h) ⟨?oS0, ?oS1, ?oS2, ?oS3, ?oS4, ?oS5, ?oS6, trivial⟩ (by kernel_rfl) ?fS
  case oS0 => intro ev wo hev hC hs hph; have x0 := se hA hs 2; exact od rfl rfl (by kernel_rfl) hC (TSp.of rfl (Grows.refl _)) (by simp [go_sem, x0, pS _ hC] <;> rfl)
  case oS1 =>
    intro ev wo hev hC hs hph
    have e4 := sd hs 4 0
    have p1 := K1.below hC K1.lt
    have p2 := Kq.below hC Kq.lt
    exact ob_dcall (wanted_none rfl) rfl (by kernel_rfl) (msg_any L wo (h.below hC)) (exec_call Tryz.func180 (by kernel_rfl) rfl (hev.func _) (by first | (simp only [mL, e4, hev.const] <;> rfl) | (simp [mL, e4, hev.const] <;> rfl))) (by rfl) (fun w3 hb3 => ⟨hC.trans (hb3.mono hC.size), TSp.of rfl hb3⟩)
  case oS2 => intro ev wo hev hC hs hph; have x0 := sd hs 5 1; exact od rfl rfl (by kernel_rfl) hC (TSp.of rfl (Grows.refl _)) (by simp [go_sem, x0] <;> rfl)
  case oS3 => intro ev wo hev hC hs hph; have x0 := sd hs 6 2; exact od rfl rfl (by kernel_rfl) hC (TSp.of rfl (Grows.refl _)) (by simp [go_sem, x0, conv_reads (c := L.m.c) rfl (h.below hC).reads] <;> rfl)
  case oS4 => intro ev wo hev hC hs hph; have x0 := se hA hs 1; exact od rfl rfl (by kernel_rfl) hC (TSp.of rfl (Grows.refl _)) (by simp [go_sem, x0, pS _ hC] <;> rfl)
  case oS5 =>
    intro ev wo hev hC hs hph
    have e7 := sd hs 7 3
    have e8 := sd hs 8 4
    have p1 := K1.below hC K1.lt
    have p2 := Kq.below hC Kq.lt
    exact ob_dcall (wanted_none rfl) rfl (by kernel_rfl) (within_any L.m.b x mm wo (((HB.trans (hC.mono HB.size)).cell hmlt).trans hmm) (by omega) (by omega)) (exec_call Tryz.func181 (by kernel_rfl) rfl (hev.func _) (by first | (simp only [mL, e7, e8, hev.const] <;> rfl) | (simp [mL, e7, e8, hev.const] <;> rfl))) (by rfl) (fun w3 hb3 => ⟨hC.trans (hb3.mono hC.size), TSp.of rfl hb3⟩)
  case oS6 => intro ev wo hev hC hs hph; have x0 := sd hs 9 5; exact od rfl rfl (by kernel_rfl) hC (TSp.of rfl (Grows.refl _)) (by simp [go_sem, x0] <;> rfl)
  intro sg wf hC hph
  intro a hA
  replace hA := hA.keepN [3]
  refine nT (wp_ret ?_)
  refine ret_1 hA 3 rfl rfl ?_
  exact ⟨rfl, HB.trans (hC.mono HB.size)⟩
set_option maxRecDepth 100000 in
set_option maxHeartbeats 4000000 in
theorem run_body (L : LookV) (x : List UInt8) (q : Nat) (w : World) (h : LookAt w L) (Kq : Blk w q 9 #[.string (St x)]) (hx : x.length ≤ 1048576) : RunK L (.body x) (.func (.func 182) #[] #[.pointer (some ⟨q, 0, none⟩)]) w := by
  refine ⟨_, _, rfl, enters Tryz.func182 (by kernel_rfl), ?_⟩
  show Calls Tryz.prog _ #[.agg (lookC L), .pointer (some ⟨q, 0, none⟩)] w _
  rw [evalK]
  have HB := Below.refl w.heap.size w
  obtain ⟨mm, hmm⟩ := h.one
  have hbig := h.big
  have hmlt := block_lt_of_cell hmm
  refine calls_at 17 Tryz.func182 rfl rfl (Nat.le_of_ble_eq_true rfl) ?_
  intro a hA; replace hA := hA.norm
  rw [agg_look] at hA
  refine wS (wR ?_)
  refine wl_new hA rfl rfl (by decide) (fun ev h => by simp [go_sem, h.get 0 rfl]; try first | exact ⟨rfl, rfl⟩ | rfl) fun w1 a (K1 : Blk _ _ _ _) hz1 hb1 hA => ?_
  replace HB := HB.trans (hb1.mono HB.size)
  replace h := h.below hb1
  replace Kq := Kq.below hb1 Kq.lt
  revert a; refine wo rfl rfl (by decide) (fun ev e h => by simp [go_sem, h, K1.cell] <;> rfl) ?_; intro a hA
  replace hA := hA.keepN [1, 2]
  refine wN (nT (wS (wR ?_)))
  revert a; refine wo rfl rfl (by decide) (fun ev e h => by simp [go_sem, h, K1.cell] <;> rfl) ?_; intro a hA
  refine wl_call hA rfl rfl (by decide) (fun ev h => exec_call Tryz.func180 (by kernel_rfl) rfl (h.f _) (by first | (simp only [mL, h.get 7 rfl, h.c] <;> rfl) | (simp [mL, h.get 7 rfl, h.c, K1.cell] <;> rfl))) (msg_any L w1 h) ?_
  rintro e w2 ⟨rfl, hb2⟩
  refine ⟨_, rfl, fun a hA => ?_⟩
  replace HB := HB.trans (hb2.mono HB.size)
  replace h := h.below hb2
  replace Kq := Kq.below hb2 Kq.lt
  revert a; refine wo rfl rfl (by decide) (fun ev e h => by simp [go_sem, h, K1.cell] <;> rfl) ?_; intro a hA
  refine wl_call hA rfl rfl (by decide) (fun ev h => exec_call Tryz.func62 (by kernel_rfl) rfl (h.f _) (by first | (simp only [mL, h.get 9 rfl, h.c] <;> rfl) | (simp [mL, h.get 9 rfl, h.c, K1.cell] <;> rfl))) (cut_any L.m.a L.m.b.length L.m.c L.m.b _ rfl h.caps.1 (by have := h.caps.2; unfold maxLen; omega) (by omega) h.reads) ?_
  rintro e w3 ⟨v1, v2, rfl, ho1, ho2, hb3⟩
  refine ⟨_, rfl, fun a hA => ?_⟩
  replace HB := HB.trans (hb3.mono HB.size)
  replace h := h.below hb3
  replace Kq := Kq.below hb3 Kq.lt
  have hbl : (bodyH L.m.b).length ≤ 1048576 := by
    have := congrArg List.length (head_body L.m.b)
    rw [List.length_append] at this
    omega
  obtain ⟨A2, c2, rfl, hr2⟩ := ho2.took
  have hcv := conv_reads (c := c2) rfl hr2
  revert a; (iterate 5 refine wo rfl rfl (by decide) (fun ev e h => by simp [go_sem, h, Kq.cell, hcv] <;> rfl) ?_); intro a hA
  replace hA := hA.keepN [1, 5]
  refine wN (nT (wS (wR ?_)))
  revert a; refine wo rfl rfl (by decide) (fun ev e h => by simp [go_sem, h, Kq.cell, hcv] <;> rfl) ?_; intro a hA
  refine wl_op hA rfl rfl (by decide) (fun ev h => by simp [go_sem, h.get 13 rfl, Kq.cell, hcv]; try first | exact ⟨rfl, rfl⟩ | rfl) fun a hA => ?_
  revert a; refine wo rfl rfl (by decide) (fun ev e h => by simp [go_sem, h, Kq.cell, hcv] <;> rfl) ?_; intro a hA
  refine wl_call hA rfl rfl (by decide) (fun ev h => exec_call Tryz.func181 (by kernel_rfl) rfl (h.f _) (by first | (simp only [mL, h.get 14 rfl, h.get 15 rfl, h.c] <;> rfl) | (simp [mL, h.get 14 rfl, h.get 15 rfl, h.c, Kq.cell, hcv] <;> rfl))) (within_any (bodyH L.m.b) x mm _ ((HB.cell hmlt).trans hmm) (by omega) (by omega)) ?_
  rintro e w4 ⟨rfl, hb4⟩
  refine ⟨_, rfl, fun a hA => ?_⟩
  replace HB := HB.trans (hb4.mono HB.size)
  replace h := h.below hb4
  replace Kq := Kq.below hb4 Kq.lt
  revert a; refine wo rfl rfl (by decide) (fun ev e h => by simp [go_sem, h, Kq.cell, hcv] <;> rfl) ?_; intro a hA
  replace hA := hA.keepN [3]
  refine wN (nT (wp_ret ?_))
  refine ret_1 hA 3 rfl rfl ?_
  exact ⟨rfl, HB⟩
theorem and1_i64 (n : Int) : bits .and .i64 n 1 = n % 2 := by
  have h1 : (BitVec.ofInt 64 1).toNat = 2 ^ 1 - 1 := by decide
  have key : (BitVec.ofInt 64 n &&& BitVec.ofInt 64 1).toNat = (n % ((2 ^ 64 : Nat) : Int)).toNat % 2 ^ 1 := by
    rw [BitVec.toNat_and, BitVec.toNat_ofInt, h1, Nat.and_two_pow_sub_one_eq_mod]
  show IntKind.i64.wrap ((BitVec.ofInt 64 n &&& BitVec.ofInt 64 1).toNat : Nat) = n % 2
  rw [key, IntKind.wrap_i64]
  omega
theorem step_sum (st : List FieldS × Bool) (s : List UInt8) : sumV (stepF st s).1 ≤ sumV st.1 + s.length := by
  unfold stepF
  split
  · split
    · exact sumV_add _ _
    · exact Nat.le_add_right _ _
  · split
    · rw [sumV_app]
      have := (cut_len58 s).2
      show sumV st.1 + ((Lib.cut s [58]).2.1.length + 0) ≤ _
      omega
    · exact Nat.le_add_right _ _
theorem lines_sum : ∀ (f : Nat) (b : List UInt8) (st : List FieldS × Bool), sumV (linesF f b st).1 ≤ sumV st.1 + b.length
  | 0, b, st => Nat.le_add_right _ _
  | f + 1, b, st => by
    unfold linesF
    split
    · exact Nat.le_add_right _ _
    · have h1 := line_len b
      have h3 := bare_len (lineS b).1
      have h4 := lines_sum f (lineS b).2 (stepF st (bareS (lineS b).1))
      have h5 := step_sum st (bareS (lineS b).1)
      omega
theorem trimS_le (cut l : List UInt8) : (trimS cut l).length ≤ l.length := by
  unfold trimS trimL
  exact Nat.le_trans (List.dropWhile_sublist _).length_le (trimR_len cut l)
theorem field_len (b n : List UInt8) : ((fieldV b n).getD []).length ≤ b.length := by
  unfold fieldV
  cases hf : (fieldsS b).find? fun f => lowerS f.n == lowerS n with
  | none => exact Nat.zero_le _
  | some x =>
    have hx := List.mem_of_find?_eq_some hf
    unfold fieldsS at hx
    obtain ⟨y, hy, rfl⟩ := List.mem_map.1 hx
    have h1 := sumV_mem hy
    have h2 := lines_sum b.length (headS b) ([], false)
    have h3 : sumV ([] : List FieldS) = 0 := rfl
    have h4 := congrArg List.length (head_body b)
    rw [List.length_append] at h4
    have h5 := trimS_le [32, 9] y.v
    show (trimS [32, 9] y.v).length ≤ _
    simp only at h2
    omega
set_option maxRecDepth 100000 in
set_option maxHeartbeats 4000000 in
theorem run_flag (L : LookV) (i : Nat) (no : Bool) (p q : Nat) (w : World) (h : LookAt w L) (Kp : Blk w p 3 #[.int .i64 (i : Nat)]) (Kq : Blk w q 4 #[.bool no]) (hi : i < 5) : RunK L (.flag i no) (.func (.func 213) #[] #[.pointer (some ⟨p, 0, none⟩), .pointer (some ⟨q, 0, none⟩)]) w := by
  refine ⟨_, _, rfl, enters Tryz.func213 (by kernel_rfl), ?_⟩
  show Calls Tryz.prog _ #[.agg (lookC L), .pointer (some ⟨p, 0, none⟩), .pointer (some ⟨q, 0, none⟩)] w _
  rw [evalK]
  have HB := Below.refl w.heap.size w
  refine calls_at 14 Tryz.func213 rfl rfl (Nat.le_of_ble_eq_true rfl) ?_
  intro a hA; replace hA := hA.norm
  rw [agg_look] at hA
  refine wS (wR ?_)
  refine wl_new hA rfl rfl (by decide) (fun ev h => by simp [go_sem, h.get 0 rfl]; try first | exact ⟨rfl, rfl⟩ | rfl) fun w1 a (K1 : Blk _ _ _ _) hz1 hb1 hA => ?_
  replace HB := HB.trans (hb1.mono HB.size)
  replace h := h.below hb1
  replace Kp := Kp.below hb1 Kp.lt
  replace Kq := Kq.below hb1 Kq.lt
  revert a; refine wo rfl rfl (by decide) (fun ev e h => by simp [go_sem, h] <;> rfl) ?_; intro a hA
  replace hA := hA.keepN [1, 2, 3]
  have pS := fun (wo : World) (hC : (fun wy => Below w1.heap.size w1 wy) wo) => have p1 := K1.below hC K1.lt; have p2 := Kp.below hC Kp.lt; have p3 := Kq.below hC Kq.lt; And.intro (p1.cell) (And.intro (p2.cell) (p3.cell))
  refine wN (nT (wS ?_))
  refine wp_any_at hA [(.det ?dS0), (.det ?dS1), (.det ?dS2), (.det ?dS3), (.det ?dS4), (.det ?dS5), (.det ?dS6), (.det ?dS7), (.det ?dS8), (.det ?dS9)] [] (fun wy => Below w1.heap.size w1 wy) (TSp [] Grows) (by kernel_rfl) rfl (by kernel_rfl) (by kernel_rfl) rfl ((Below.refl _ _).drew) (stab_sp [] [true, true, true, true, true, true, true, true, true, true] [true, true, true, true, true, true, true, true, true, true] [] rfl rfl rfl (by kernel_rfl) ⟨trivial, trivial, trivial, trivial, trivial, trivial, trivial, trivial, trivial, trivial, trivial⟩ trivial) (fun _ h => by cases h) (fun _ _ _ _ _ h => by cases h) (fun _ h => by cases h) ⟨?oS0, ?oS1, ?oS2, ?oS3, ?oS4, ?oS5, ?oS6, ?oS7, ?oS8, ?oS9, trivial⟩ (by kernel_rfl) ?fS
  case oS0 => intro ev wo hev hC hs hph; have x0 := se hA hs 3; exact od rfl rfl (by kernel_rfl) hC (TSp.of rfl (Grows.refl _)) (by simp [go_sem, x0, pS _ hC] <;> rfl)
  case oS1 =>
    intro ev wo hev hC hs hph
    have e5 := sd hs 5 0
    have p1 := K1.below hC K1.lt
    have p2 := Kp.below hC Kp.lt
    have p3 := Kq.below hC Kq.lt
    exact ob_dcall (wanted_none rfl) rfl (by kernel_rfl) (msg_any L wo (h.below hC)) (exec_call Tryz.func180 (by kernel_rfl) rfl (hev.func _) (by first | (simp only [mL, e5, hev.const] <;> rfl) | (simp [mL, e5, hev.const] <;> rfl))) (by rfl) (fun w3 hb3 => ⟨hC.trans (hb3.mono hC.size), TSp.of rfl hb3⟩)
  case oS2 => intro ev wo hev hC hs hph; have x0 := sd hs 6 1; exact od rfl rfl (by kernel_rfl) hC (TSp.of rfl (Grows.refl _)) (by simp [go_sem, x0] <;> rfl)
  case oS3 => intro ev wo hev hC hs hph; have x0 := se hA hs 1; exact od rfl rfl (by kernel_rfl) hC (TSp.of rfl (Grows.refl _)) (by simp [go_sem, x0, pS _ hC] <;> rfl)
  case oS4 => intro ev wo hev hC hs hph; have x0 := sd hs 7 2; have x1 := sd hs 8 3; exact od rfl rfl (by kernel_rfl) hC (TSp.of rfl (Grows.refl _)) (by simp [go_sem, x0, x1] <;> rfl)
  case oS5 => intro ev wo hev hC hs hph; have x0 := sd hs 9 4; exact od rfl rfl (by kernel_rfl) hC (TSp.of rfl (Grows.refl _)) (by simp [go_sem, x0, hev.const] <;> rfl)
  case oS6 => intro ev wo hev hC hs hph; have x0 := sd hs 10 5; exact od rfl rfl (by kernel_rfl) hC (TSp.of rfl (Grows.refl _)) (by simp [go_sem, x0, hev.const] <;> rfl)
  case oS7 => intro ev wo hev hC hs hph; have x0 := se hA hs 2; exact od rfl rfl (by kernel_rfl) hC (TSp.of rfl (Grows.refl _)) (by simp [go_sem, x0, pS _ hC] <;> rfl)
  case oS8 => intro ev wo hev hC hs hph; have x0 := sd hs 11 6; have x1 := sd hs 12 7; exact od rfl rfl (by kernel_rfl) hC (TSp.of rfl (Grows.refl _)) (by simp [go_sem, x0, x1] <;> rfl)
  case oS9 => intro ev wo hev hC hs hph; have x0 := sd hs 13 8; exact od rfl rfl (by kernel_rfl) hC (TSp.of rfl (Grows.refl _)) (by simp [go_sem, x0] <;> rfl)
  intro sg wf hC hph
  intro a hA
  replace hA := hA.keepN [4]
  refine nT (wp_ret ?_)
  refine ret_1 hA 4 rfl rfl ?_
  refine ⟨ret_bool ?_, HB.trans (hC.mono HB.size)⟩
  rw [and1_i64]
  rfl
set_option maxRecDepth 100000 in
set_option maxHeartbeats 4000000 in
theorem run_field (L : LookV) (n x : List UInt8) (p q : Nat) (w : World) (h : LookAt w L) (Kp : Blk w p 9 #[.string (St n)]) (Kq : Blk w q 9 #[.string (St x)]) (hn : n.length ≤ 1048576) (hx : x.length ≤ 1048576) : RunK L (.field n x) (.func (.func 179) #[] #[.pointer (some ⟨p, 0, none⟩), .pointer (some ⟨q, 0, none⟩)]) w := by
  refine ⟨_, _, rfl, enters Tryz.func179 (by kernel_rfl), ?_⟩
  show Calls Tryz.prog _ #[.agg (lookC L), .pointer (some ⟨p, 0, none⟩), .pointer (some ⟨q, 0, none⟩)] w _
  rw [evalK]
  have HB := Below.refl w.heap.size w
  obtain ⟨mm, hmm⟩ := h.one
  have hbig := h.big
  have hcap := h.caps
  have hmlt := block_lt_of_cell hmm
  have hf : ∀ wo, Below w.heap.size w wo → LookAt wo L → Calls Tryz.prog 41 #[.slice L.m.a L.m.b.length L.m.c, .string (St n)] wo fun ev w' => ev = .returned (.tuple #[.string (St ((fieldV L.m.b n).getD [])), .bool (fieldV L.m.b n).isSome]) ∧ Below wo.heap.size wo w' := fun wo hb ho => by
    refine (field_any L.m.a L.m.b.length L.m.c L.m.b n mm wo ((hb.cell hmlt).trans hmm) rfl hcap.1 (by unfold maxLen; omega) (by omega) hn ho.reads).mono fun e w' hh => ⟨?_, hh.2⟩
    rw [hh.1]
    cases fieldV L.m.b n <;> rfl
  obtain ⟨o, ho⟩ : ∃ o, fieldV L.m.b n = o := ⟨_, rfl⟩
  have hol : (o.getD []).length ≤ 1048576 := by
    have := field_len L.m.b n
    rw [ho] at this
    omega
  rw [show (lookF L).octs = L.m.b from rfl, ho]
  rw [ho] at hf
  obtain ⟨q1, hq1⟩ : ∃ q1, o.isSome = q1 := ⟨_, rfl⟩
  obtain ⟨s1, hs1⟩ : ∃ s1, o.getD [] = s1 := ⟨_, rfl⟩
  rw [hs1] at hol hf
  rw [hq1] at hf
  refine calls_at 21 Tryz.func179 rfl rfl (Nat.le_of_ble_eq_true rfl) ?_
  intro a hA; replace hA := hA.norm
  rw [agg_look] at hA
  refine wS (wR ?_)
  refine wl_new hA rfl rfl (by decide) (fun ev h => by simp [go_sem, h.get 0 rfl]; try first | exact ⟨rfl, rfl⟩ | rfl) fun w1 a (K1 : Blk _ _ _ _) hz1 hb1 hA => ?_
  replace HB := HB.trans (hb1.mono HB.size)
  replace h := h.below hb1
  replace Kp := Kp.below hb1 Kp.lt
  replace Kq := Kq.below hb1 Kq.lt
  revert a; refine wo rfl rfl (by decide) (fun ev e h => by simp [go_sem, h] <;> rfl) ?_; intro a hA
  replace hA := hA.keepN [1, 2, 3]
  have pS := fun (wo : World) (hC : (fun wy => Below w1.heap.size w1 wy) wo) => have p1 := K1.below hC K1.lt; have p2 := Kp.below hC Kp.lt; have p3 := Kq.below hC Kq.lt; And.intro (p1.cell) (And.intro (p2.cell) (p3.cell))
  refine wN (nT (wS ?_))
  refine wp_any_at hA [(.det ?dS0), (.det ?dS1), (.det ?dS2), (.det ?dS3), (.det ?dS4), (.det ?dS5), (.det ?dS6), (.det ?dS7), (.det ?dS8), (.det ?dS9)] [] (fun wy => Below w1.heap.size w1 wy) (TSp [] Grows) (by kernel_rfl) rfl (by kernel_rfl) (by kernel_rfl) rfl ((Below.refl _ _).drew) (stab_sp [] [true, true, true, true, true, true, true, true, true, true] [true, true, true, true, true, true, true, true, true, true] [] rfl rfl rfl (by kernel_rfl) ⟨trivial, trivial, trivial, trivial, trivial, trivial, trivial, trivial, trivial, trivial, trivial⟩ trivial) (fun _ h => by cases h) (fun _ _ _ _ _ h => by cases h) (fun _ h => by cases h) ⟨?oS0, ?oS1, ?oS2, ?oS3, ?oS4, ?oS5, ?oS6, ?oS7, ?oS8, ?oS9, trivial⟩ (by kernel_rfl) ?fS
  case oS0 => intro ev wo hev hC hs hph; have x0 := se hA hs 3; exact od rfl rfl (by kernel_rfl) hC (TSp.of rfl (Grows.refl _)) (by simp [go_sem, x0, pS _ hC] <;> rfl)
  case oS1 =>
    intro ev wo hev hC hs hph
    have e8 := sd hs 8 0
    have p1 := K1.below hC K1.lt
    have p2 := Kp.below hC Kp.lt
    have p3 := Kq.below hC Kq.lt
    exact ob_dcall (wanted_none rfl) rfl (by kernel_rfl) (msg_any L wo (h.below hC)) (exec_call Tryz.func180 (by kernel_rfl) rfl (hev.func _) (by first | (simp only [mL, e8, hev.const] <;> rfl) | (simp [mL, e8, hev.const] <;> rfl))) (by rfl) (fun w3 hb3 => ⟨hC.trans (hb3.mono hC.size), TSp.of rfl hb3⟩)
  case oS2 => intro ev wo hev hC hs hph; have x0 := sd hs 9 1; exact od rfl rfl (by kernel_rfl) hC (TSp.of rfl (Grows.refl _)) (by simp [go_sem, x0] <;> rfl)
  case oS3 => intro ev wo hev hC hs hph; have x0 := se hA hs 1; exact od rfl rfl (by kernel_rfl) hC (TSp.of rfl (Grows.refl _)) (by simp [go_sem, x0, pS _ hC] <;> rfl)
  case oS4 =>
    intro ev wo hev hC hs hph
    have e10 := sd hs 10 2
    have e11 := sd hs 11 3
    have p1 := K1.below hC K1.lt
    have p2 := Kp.below hC Kp.lt
    have p3 := Kq.below hC Kq.lt
    exact ob_dcall (wanted_none rfl) rfl (by kernel_rfl) (hf wo (HB.trans (hC.mono HB.size)) (h.below hC)) (exec_call Tryz.func41 (by kernel_rfl) rfl (hev.func _) (by first | (simp only [mL, e10, e11, hev.const] <;> rfl) | (simp [mL, e10, e11, hev.const] <;> rfl))) (by rfl) (fun w3 hb3 => ⟨hC.trans (hb3.mono hC.size), TSp.of rfl hb3⟩)
  case oS5 => intro ev wo hev hC hs hph; have x0 := sd hs 12 4; exact od rfl rfl (by kernel_rfl) hC (TSp.of rfl (Grows.refl _)) (by simp [go_sem, x0] <;> rfl)
  case oS6 => intro ev wo hev hC hs hph; have x0 := sd hs 7 5; exact od rfl rfl (by kernel_rfl) hC (TSp.of rfl (Grows.refl _)) (by simp [go_sem, x0] <;> rfl)
  case oS7 => intro ev wo hev hC hs hph; have x0 := sd hs 7 5; exact od rfl rfl (by kernel_rfl) hC (TSp.of rfl (Grows.refl _)) (by simp [go_sem, x0] <;> rfl)
  case oS8 => intro ev wo hev hC hs hph; have x0 := sd hs 13 6; exact od rfl rfl (by kernel_rfl) hC (TSp.of rfl (Grows.refl _)) (by simp [go_sem, x0] <;> rfl)
  case oS9 => intro ev wo hev hC hs hph; have x0 := sd hs 14 7; exact od rfl rfl (by kernel_rfl) hC (TSp.of rfl (Grows.refl _)) (by simp [go_sem, x0] <;> rfl)
  intro sg wf hC hph
  intro a hA
  replace hA := hA.keepN [2, 5, 6]
  refine nT ?_
  replace h := h.below hC
  replace Kq := Kq.below hC Kq.lt
  replace HB := HB.trans (hC.mono HB.size)
  refine wS (wR ?_)
  revert a; (iterate 2 refine wo rfl rfl (by decide) (fun ev e h => by simp [go_sem, h, Kq.cell] <;> rfl) ?_); (iterate 2 refine wg _ rfl rfl rfl rfl (by decide) (fun hq ev e h => by simp [go_sem, h, ↓gw_t (beq_t hq), Kq.cell] <;> rfl) ?_); intro a hA
  refine wl_gcallv _ hA rfl rfl rfl rfl (by decide) (fun hq ev h => exec_call Tryz.func181 (by kernel_rfl) rfl (h.f _) (by first | (simp only [mL, ((h.get 17 rfl).trans (gw_t (beq_t hq))), ((h.get 18 rfl).trans (gw_t (beq_t hq))), h.c] <;> rfl) | (simp [mL, ((h.get 17 rfl).trans (gw_t (beq_t hq))), ((h.get 18 rfl).trans (gw_t (beq_t hq))), h.c, Kq.cell] <;> rfl))) (fun hq => within_any s1 x mm _ ((HB.cell hmlt).trans hmm) (by omega) (by omega)) fun a w2 hb2 hA => ?_
  replace HB := HB.trans (hb2.mono HB.size)
  replace h := h.below hb2
  replace Kq := Kq.below hb2 Kq.lt
  revert a; refine wka rfl rfl (by decide) rfl rfl rfl ?_; refine wo rfl rfl (by decide) (fun ev e h => by simp [go_sem, h, Kq.cell] <;> rfl) ?_; intro a hA
  replace hA := hA.keepN [4]
  refine wN (nT (wp_ret ?_))
  refine ret_1 hA 4 rfl rfl ?_
  refine ⟨ret_bool ?_, HB⟩
  subst hq1
  subst hs1
  cases o <;> rfl
set_option maxRecDepth 100000 in
set_option maxHeartbeats 4000000 in
theorem run_set (L : LookV) (l : List (Nat × Nat)) (u : Bool) (v : Value) (lo p q : Nat) (w : World) (h : LookAt w L) (Kp : Blk w p 4 #[.bool u]) (Kq : Blk w q 64 #[v]) (hv : w.ownsRow lo 193 2 v l.length (spanCells l)) (h3 : ∀ x ∈ l, x.1 ≤ 4294967295 ∧ x.2 ≤ 4294967295) (h4 : l.length ≤ 65536) : RunK L (.set l u) (.func (.func 188) #[] #[.pointer (some ⟨p, 0, none⟩), .pointer (some ⟨q, 0, none⟩)]) w := by
  refine ⟨_, _, rfl, enters Tryz.func188 (by kernel_rfl), ?_⟩
  show Calls Tryz.prog _ #[.agg (lookC L), .pointer (some ⟨p, 0, none⟩), .pointer (some ⟨q, 0, none⟩)] w _
  rw [evalK]
  have HB := Below.refl w.heap.size w
  have hlen := h.len
  have hlt := h.lt
  obtain ⟨A1, c1, rfl, hr1, -⟩ := own_reads hv
  refine calls_at 24 Tryz.func188 rfl rfl (Nat.le_of_ble_eq_true rfl) ?_
  intro a hA; replace hA := hA.norm
  rw [agg_look] at hA
  refine wS (wR ?_)
  refine wl_new hA rfl rfl (by decide) (fun ev h => by simp [go_sem, h.get 0 rfl]; try first | exact ⟨rfl, rfl⟩ | rfl) fun w1 a (K1 : Blk _ _ _ _) hz1 hb1 hA => ?_
  replace HB := HB.trans (hb1.mono HB.size)
  replace h := h.below hb1
  replace Kp := Kp.below hb1 Kp.lt
  replace Kq := Kq.below hb1 Kq.lt
  replace hr1 := (hr1.below hb1).more hb1.size
  revert a; refine wo rfl rfl (by decide) (fun ev e h => by simp [go_sem, h, Kp.cell] <;> rfl) ?_; intro a hA
  replace hA := hA.keepN [1, 2, 3]
  refine wN (nT (wS (wS (wR ?_))))
  revert a; refine wo rfl rfl (by decide) (fun ev e h => by simp [go_sem, h, Kp.cell] <;> rfl) ?_; intro a hA
  replace hA := hA.keepN [2, 3, 5]
  refine wN (nT ?_)
  refine wp_if hA 5 _ rfl (fun hq => ?yU) (fun hq => ?nU)
  case yU =>
    have pS := fun (wo : World) (hC : (fun wy => Below w1.heap.size w1 wy) wo) => have p1 := K1.below hC K1.lt; have p2 := Kq.below hC Kq.lt; And.intro (p1.cell) (p2.cell)
    refine wS ?_
    refine wp_any_at hA [(.det ?dS0), (.det ?dS1), (.det ?dS2), (.det ?dS3), (.det ?dS4), (.det ?dS5), (.det ?dS6), (.det ?dS7)] [] (fun wy => Below w1.heap.size w1 wy) (TSp [] Grows) (by kernel_rfl) rfl (by kernel_rfl) (by kernel_rfl) rfl ((Below.refl _ _).drew) (stab_sp [] [true, true, true, true, true, true, true, true] [true, true, true, true, true, true, true, true] [] rfl rfl rfl (by kernel_rfl) ⟨trivial, trivial, trivial, trivial, trivial, trivial, trivial, trivial, trivial⟩ trivial) (fun _ h => by cases h) (fun _ _ _ _ _ h => by cases h) (fun _ h => by cases h) ⟨?oS0, ?oS1, ?oS2, ?oS3, ?oS4, ?oS5, ?oS6, ?oS7, trivial⟩ (by kernel_rfl) ?fS
    case oS0 => intro ev wo hev hC hs hph; have x0 := se hA hs 2; exact od rfl rfl (by kernel_rfl) hC (TSp.of rfl (Grows.refl _)) (by simp [go_sem, x0, pS _ hC, Kp.cell] <;> rfl)
    case oS1 => intro ev wo hev hC hs hph; have x0 := se hA hs 3; exact od rfl rfl (by kernel_rfl) hC (TSp.of rfl (Grows.refl _)) (by simp [go_sem, x0, pS _ hC, Kp.cell] <;> rfl)
    case oS2 =>
      intro ev wo hev hC hs hph
      have e7 := sd hs 7 1
      have p1 := K1.below hC K1.lt
      have p2 := Kq.below hC Kq.lt
      exact ob_dcall (wanted_none rfl) rfl (by kernel_rfl) (msg_any L wo (h.below hC)) (exec_call Tryz.func180 (by kernel_rfl) rfl (hev.func _) (by first | (simp only [mL, e7, hev.const] <;> rfl) | (simp [mL, e7, hev.const] <;> rfl))) (by rfl) (fun w3 hb3 => ⟨hC.trans (hb3.mono hC.size), TSp.of rfl hb3⟩)
    case oS3 => intro ev wo hev hC hs hph; have x0 := sd hs 8 2; exact od rfl rfl (by kernel_rfl) hC (TSp.of rfl (Grows.refl _)) (by simp [go_sem, x0] <;> rfl)
    case oS4 => intro ev wo hev hC hs hph; have x0 := se hA hs 3; exact od rfl rfl (by kernel_rfl) hC (TSp.of rfl (Grows.refl _)) (by simp [go_sem, x0, pS _ hC, Kp.cell] <;> rfl)
    case oS5 =>
      intro ev wo hev hC hs hph
      have e10 := sd hs 10 4
      have p1 := K1.below hC K1.lt
      have p2 := Kq.below hC Kq.lt
      exact ob_dcall (wanted_none rfl) rfl (by kernel_rfl) (last_any L wo (h.below hC)) (exec_call Tryz.func190 (by kernel_rfl) rfl (hev.func _) (by first | (simp only [mL, e10, hev.const] <;> rfl) | (simp [mL, e10, hev.const] <;> rfl))) (by rfl) (fun w3 hb3 => ⟨hC.trans (hb3.mono hC.size), TSp.of rfl hb3⟩)
    case oS6 =>
      intro ev wo hev hC hs hph
      have e6 := sd hs 6 0
      have e9 := sd hs 9 3
      have e11 := sd hs 11 5
      have p1 := K1.below hC K1.lt
      have p2 := Kq.below hC Kq.lt
      exact ob_dcall (wanted_none rfl) rfl (by kernel_rfl) (has_any A1 c1 l L.m.uid (lastUid L.ms) h3 h4 wo ((hr1.below hC).more hC.size)) (exec_call Tryz.func189 (by kernel_rfl) rfl (hev.func _) (by first | (simp only [mL, e6, e9, e11, hev.const] <;> rfl) | (simp [mL, e6, e9, e11, hev.const] <;> rfl))) (by rfl) (fun w3 hb3 => ⟨hC.trans (hb3.mono hC.size), TSp.of rfl hb3⟩)
    case oS7 => intro ev wo hev hC hs hph; have x0 := sd hs 12 6; exact od rfl rfl (by kernel_rfl) hC (TSp.of rfl (Grows.refl _)) (by simp [go_sem, x0] <;> rfl)
    intro sg wf hC hph
    intro a hA
    replace hA := hA.keepN [4]
    refine nT (wp_ret (rT ?_))
    refine ret_1 hA 4 rfl rfl ?_
    exact ⟨by rw [if_pos hq]; rfl, HB.trans (hC.mono HB.size)⟩
  case nU =>
    have i1 : IntKind.u32.wrap ((L.i : Nat) : Int) = ((L.i : Nat) : Int) := IntWalk.u32_in _ (by omega)
    have i2 : IntKind.u32.wrap (((L.i : Nat) : Int) + 1) = ((L.i + 1 : Nat) : Int) := by rw [IntWalk.u32_in _ (by omega)]; omega
    have i3 : IntKind.u32.wrap ((L.ms.length : Nat) : Int) = ((L.ms.length : Nat) : Int) := IntWalk.u32_in _ (by omega)
    refine wp_skip (nT (wS (wR ?_)))
    revert a; (iterate 3 refine wo rfl rfl (by decide) (fun ev e h => by simp [go_sem, h, Kq.cell, K1.cell, i1, i2, i3] <;> rfl) ?_); intro a hA
    refine wl_op hA rfl rfl (by decide) (fun ev h => by simp [go_sem, h.get 15 rfl, Kq.cell, K1.cell, i1, i2, i3]; try first | exact ⟨rfl, rfl⟩ | rfl) fun a hA => ?_
    revert a; (iterate 5 refine wo rfl rfl (by decide) (fun ev e h => by simp [go_sem, h, Kq.cell, K1.cell, i1, i2, i3] <;> rfl) ?_); intro a hA
    refine wl_op hA rfl rfl (by decide) (fun ev h => by simp [go_sem, h.get 21 rfl, Kq.cell, K1.cell, i1, i2, i3]; try first | exact ⟨rfl, rfl⟩ | rfl) fun a hA => ?_
    replace hA := hA.keepN [13, 17, 22]
    refine wl_call hA rfl rfl (by decide) (fun ev h => exec_call Tryz.func189 (by kernel_rfl) rfl (h.f _) (by first | (simp only [mL, h.get 13 rfl, h.get 17 rfl, h.get 22 rfl, h.c] <;> rfl) | (simp [mL, h.get 13 rfl, h.get 17 rfl, h.get 22 rfl, h.c, Kq.cell, K1.cell, i1, i2, i3] <;> rfl))) (has_any A1 c1 l (L.i + 1) L.ms.length h3 h4 _ hr1) ?_
    rintro e w2 ⟨rfl, hb2⟩
    refine ⟨_, rfl, fun a hA => ?_⟩
    replace HB := HB.trans (hb2.mono HB.size)
    replace h := h.below hb2
    replace Kp := Kp.below hb2 Kp.lt
    replace Kq := Kq.below hb2 Kq.lt
    replace hr1 := (hr1.below hb2).more hb2.size
    revert a; refine wo rfl rfl (by decide) (fun ev e h => by simp [go_sem, h, Kq.cell, K1.cell, i1, i2, i3] <;> rfl) ?_; intro a hA
    replace hA := hA.keepN [4]
    refine wN (nT (wp_ret ?_))
    refine ret_1 hA 4 rfl rfl ?_
    exact ⟨by rw [if_neg (by rw [hq]; decide)]; rfl, HB⟩
end Go.Proofs.YtjhaccmcjlbllaaGreatDoor
/-
  Walk: fetch.Envelope; strconv.FormatUint for every number.
-/
namespace Go.Proofs.YtjhaccmcjlbllaaGreatDoor
open Go.RowKit
set_option linter.unusedSimpArgs false
set_option linter.unusedVariables false
set_option linter.unusedSimpArgs false
set_option linter.unusedVariables false
theorem escs_len : ∀ s : List UInt8, (s.flatMap escB).length ≤ 2 * s.length
  | [] => Nat.le_refl _
  | x :: s => by
    have := escs_len s
    rw [List.flatMap_cons, List.length_append, List.length_cons]
    have h : (escB x).length ≤ 2 := by unfold escB; split <;> simp
    omega
theorem strF_len (s : List UInt8) : (strF s).length ≤ 2 * s.length + 20 := by
  cases h : s.all plainT with
  | true =>
    rw [strF_plain h]
    have := escs_len s
    simp only [List.length_append, List.length_cons, List.length_nil]
    omega
  | false =>
    rw [strF_lit h]
    have := countB_len 7 s.length
    simp only [List.length_append, List.length_cons, List.length_nil]
    omega
/-- the names that an envelope tells of -/
def envNs : List (List UInt8) := [[68, 97, 116, 101], [83, 117, 98, 106, 101, 99, 116], [70, 114, 111, 109], [84, 111], [77, 101, 115, 115, 97, 103, 101, 45, 73, 68]]
def envV (b nm : List UInt8) : List UInt8 := match fieldV b nm with
  | some v => strF v
  | none => [78, 73, 76]
def envL (b : List UInt8) (j : Nat) : List (List UInt8) := (envNs.take j).map (envV b)
def envT (b : List UInt8) : List UInt8 := [40] ++ joinS (envL b 5) ++ [41]
theorem envV_len (b nm : List UInt8) : (envV b nm).length ≤ 2 * b.length + 20 ∧ envV b nm ≠ [] := by
  have h := field_len b nm
  unfold envV
  cases hf : fieldV b nm with
  | none => exact ⟨by simp, by simp⟩
  | some v =>
    rw [hf] at h
    have h1 := strF_len v
    refine ⟨by simp only [Option.getD_some] at h; show (strF v).length ≤ _; omega, ?_⟩
    show strF v ≠ []
    unfold strF bodyS
    simp
    split <;> simp
theorem envL_len (b : List UInt8) (j : Nat) (hj : j ≤ 5) : (envL b j).length = j := by
  unfold envL
  rw [List.length_map, List.length_take]
  show min j 5 = j
  omega
theorem envL_mem (b : List UInt8) (j : Nat) : ∀ x ∈ envL b j, x ≠ [] ∧ x.length ≤ 2 * b.length + 20 := by
  intro x hx
  unfold envL at hx
  obtain ⟨y, -, rfl⟩ := List.mem_map.1 hx
  exact ⟨(envV_len b y).2, (envV_len b y).1⟩
theorem envJ_len (b : List UInt8) (j : Nat) (hj : j ≤ 5) : (joinS (envL b j)).length ≤ 10 * b.length + 105 := by
  have h1 := joinS_len (envL b j) (2 * b.length + 20) fun x hx => (envL_mem b j x hx).2
  rw [envL_len b j hj] at h1
  have h3 : (2 * b.length + 20 + 1) * j ≤ (2 * b.length + 20 + 1) * 5 := Nat.mul_le_mul_left _ hj
  omega
theorem envT_len (b : List UInt8) : (envT b).length ≤ 10 * b.length + 107 := by
  have := envJ_len b 5 (Nat.le_refl _)
  unfold envT
  simp
  omega
theorem envL_succ {b nm : List UInt8} {j : Nat} (h : envNs[j]? = some nm) : envL b (j + 1) = envL b j ++ [envV b nm] := by
  unfold envL
  rw [List.take_add_one, h]
  simp
theorem field_two (b nm : List UInt8) : ∃ v o, fieldR (fieldV b nm) = .returned (.tuple #[.string (St v), .bool o]) ∧ envV b nm = (if o = true then strF v else [78, 73, 76]) ∧ v.length ≤ b.length := by
  have h := field_len b nm
  unfold envV fieldR
  cases hf : fieldV b nm with
  | none => exact ⟨[], false, rfl, rfl, Nat.zero_le _⟩
  | some v =>
    rw [hf] at h
    exact ⟨v, true, rfl, rfl, h⟩
set_option maxRecDepth 100000 in
set_option maxHeartbeats 8000000 in
theorem envelope_any (A : Option Addr) (c : Nat) (b : List UInt8) (m : Int) (w : World) (hm : w.cell? ⟨0, 0, none⟩ = some (.int .i64 m)) (hnc : b.length ≤ c) (hc : c ≤ maxLen) (hn : b.length ≤ 100000) (hr : Reads w w.heap.size 1 A b.length (u8s b)) (htab : Lib.TabIs Tryz.prog w "internal/strconv.uint64pow10" .u64 Lib.pow10Tab) : Calls Tryz.prog 18 #[.slice A b.length c] w fun ev w' => ev = .returned (.string (St (envT b))) ∧ Below w.heap.size w w' := by
  have HB := Below.refl w.heap.size w
  obtain ⟨n, hbn⟩ : ∃ n, b.length = n := ⟨_, rfl⟩
  rw [hbn] at hr hnc
  refine calls_at 35 Tryz.func18 rfl rfl (Nat.le_of_ble_eq_true rfl) ?_
  intro a hA; replace hA := hA.norm
  rw [hbn] at hA
  refine wS (wR ?_)
  revert a; refine wo rfl rfl (by decide) (fun ev e h => by simp [go_sem, h] <;> rfl) ?_; intro a hA
  replace hA := hA.keepN [0]
  refine wN (nT (wS (wR ?_)))
  revert a; refine wo rfl rfl (by decide) (fun ev e h => by simp [go_sem, h] <;> rfl) ?_; intro a hA
  replace hA := hA.keepN [0, 3]
  refine wN (nT (wS (wS (wR ?_))))
  refine wl_new hA rfl rfl (by decide) (fun ev h => by simp [go_sem, h.c]; try first | exact ⟨rfl, rfl⟩ | rfl) fun w1 a (K1 : Blk _ _ _ _) hz1 hb1 hA => ?_
  replace HB := HB.trans (hb1.mono HB.size)
  revert a; (iterate 2 refine wo rfl rfl (by decide) (fun ev e h => by simp [go_sem, h] <;> rfl) ?_); intro a hA
  replace hA := hA.keepN [0, 3, 8, 9, 10]
  refine wN (nT (wB ?_))
  refine wp_loop_at (fun g a wx => ∃ (j : Nat) (V : Value), j + g = 5 ∧ OwnR strSh w1.heap.size wx V (envL b j) ∧ Below w1.heap.size w1 wx ∧ At 35 [(0, .slice A n c), (3, V), (8, .slice (some ⟨w.heap.size, 0, none⟩) 5 5), (9, .int .i64 5), (10, .int .i64 (j : Nat))] a) (5) ?_ ?_
  · exact ⟨0, _, by omega, OwnR.nil _ _, Below.refl _ _, hA⟩
  clear hA
  rintro g a wx ⟨j, V, hjg, ho, HX, hA⟩
  have HW := HB.trans (HX.mono HB.size)
  have hmx : wx.cell? ⟨0, 0, none⟩ = some (.int .i64 m) := (HW.cell (block_lt_of_cell hm)).trans hm
  refine wS (wR ?_)
  revert a; refine wo rfl rfl (by decide) (fun ev e h => by simp [go_sem, h] <;> rfl) ?_; intro a hA
  replace hA := hA.keepN [0, 3, 8, 9, 10, 11]
  refine wN (nT (wS ?_))
  refine wp_if hA 11 _ rfl (fun hq => ?yA) (fun hq => ?nA)
  case nA =>
    have hj5 : j = 5 := by simp at hq; omega
    subst hj5
    have hjl := envJ_len b 5 (Nat.le_refl _)
    have hll := envL_len b 5 (Nat.le_refl _)
    replace hA := hA.keepN [3]
    refine wp_exit (xT (xT (xB (nT (wS (wR ?_))))))
    revert a; refine wo rfl rfl (by decide) (fun ev e h => by simp [go_sem, h] <;> rfl) ?_; intro a hA
    refine wl_call hA rfl rfl (by decide) (fun ev h => exec_call Tryz.func40 (by kernel_rfl) rfl (h.f _) (by first | (simp only [mL, h.get 31 rfl, h.c] <;> rfl) | (simp [mL, h.get 31 rfl, h.c] <;> rfl))) (strJoin_any ho (by omega) (by omega)) ?_
    rintro e w5 ⟨rfl, hb5⟩
    refine ⟨_, rfl, fun a hA => ?_⟩
    obtain ⟨J, hJ⟩ : ∃ J, joinS (envL b 5) = J := ⟨_, rfl⟩
    rw [hJ] at hjl hA
    have ka := st_app [40] J
    have kb := st_app (40 :: J) [41]
    rw [show [40] ++ J = 40 :: J from rfl] at ka
    have kz1 : ¬ 9223372036854775807 < J.length + 1 := by omega
    have kz2 : ¬ 9223372036854775807 < J.length + 1 + 1 := by omega
    have kz3 : ¬ 9223372036854775807 < 1 + J.length := by omega
    have kz4 : ¬ 9223372036854775807 < 1 + J.length + 1 := by omega
    revert a; (iterate 3 refine wo rfl rfl (by decide) (fun ev e h => by simp [go_sem, h, ka, kb, kz1, kz2, kz3, kz4] <;> rfl) ?_); intro a hA
    replace hA := hA.keepN [2]
    refine wN (nT (wp_ret ?_))
    refine ret_1 hA 2 rfl rfl ?_
    refine ⟨?_, HW.trans (hb5.mono HW.size)⟩
    unfold envT
    rw [hJ]
    rfl
  case yA =>
    have hj5 : j < 5 := by simp at hq; omega
    have jj0 : (0 : Int) ≤ (j : Int) := by omega
    have jj1 : (j : Int) < 5 := by omega
    obtain ⟨nm, hnm⟩ : ∃ x, envNs[j]? = some x := ⟨_, List.getElem?_eq_getElem (by show j < 5; omega)⟩
    have hnl : nm.length ≤ 10 := (by decide : ∀ x ∈ envNs, x.length ≤ 10) nm (List.mem_of_getElem? hnm)
    have z0 : wx.cell? ⟨w.heap.size, j, none⟩ = some (.string (St nm)) := by
      refine ((K1.below HX K1.lt).cell j).trans ?_
      rcases (by omega : j = 0 ∨ j = 1 ∨ j = 2 ∨ j = 3 ∨ j = 4) with rfl | rfl | rfl | rfl | rfl <;> (injection hnm with hnm; rw [← hnm]; rfl)
    have jw : IntKind.i64.wrap ((j : Int) + 1) = ((j + 1 : Nat) : Int) := IntWalk.i64_in _ (by omega)
    have e := envL_succ (b := b) hnm
    have hrx := (hr.below HW).more HW.size
    have hel := envL_len b j (by omega)
    refine wp_skip (nT ?_)
    refine wp_seq_cut (fun a wx => ∃ V, OwnR strSh w1.heap.size wx V (envL b (j + 1)) ∧ Below w1.heap.size w1 wx ∧ At 35 [(0, .slice A n c), (3, V), (8, .slice (some ⟨w.heap.size, 0, none⟩) 5 5), (9, .int .i64 5), (10, .int .i64 (j : Nat))] a) ?jfR ?jrR
    obtain ⟨v, o, hvo, hev, hvl⟩ := field_two b nm
    refine wB (wS (wR ?_))
    revert a; (iterate 3 refine wo rfl rfl (by decide) (fun ev e h => by simp [go_sem, h, add0, z0, jj0, jj1, jw] <;> rfl) ?_); intro a hA
    replace hA := hA.keepN [0, 3, 5, 8, 9, 10]
    refine wN (nT (wS (wR ?_)))
    revert a; (iterate 2 refine wo rfl rfl (by decide) (fun ev e h => by simp [go_sem, h, add0, z0, jj0, jj1, jw] <;> rfl) ?_); intro a hA
    refine wl_call hA rfl rfl (by decide) (fun ev h => exec_call Tryz.func41 (by kernel_rfl) rfl (h.f _) (by first | (simp only [mL, h.get 15 rfl, h.get 16 rfl, h.c] <;> rfl) | (simp [mL, h.get 15 rfl, h.get 16 rfl, h.c, add0, z0, jj0, jj1, jw] <;> rfl))) ((field_any A n c b nm m wx hmx hbn hnc hc (by omega) (by omega) hrx).mono (fun ev w' h => (⟨h.1.trans hvo, h.2⟩ : ev = .returned (.tuple #[.string (St v), .bool o]) ∧ Below wx.heap.size wx w'))) ?_
    rintro e w2 ⟨rfl, hb2⟩
    refine ⟨_, rfl, fun a hA => ?_⟩

    have HX2 := HX.trans (hb2.mono HX.size)
    have HW2 := HW.trans (hb2.mono HW.size)
    replace ho := ho.below hb2
    revert a; (iterate 5 refine wo rfl rfl (by decide) (fun ev e h => by simp [go_sem, h, add0, z0, jj0, jj1, jw] <;> rfl) ?_); intro a hA
    replace hA := hA.keepN [0, 3, 6, 7, 8, 9, 10]
    refine wN (nT (wS (wS (wR ?_))))
    revert a; (iterate 2 refine wo rfl rfl (by decide) (fun ev e h => by simp [go_sem, h, add0, z0, jj0, jj1, jw] <;> rfl) ?_); intro a hA
    replace hA := hA.keepN [0, 3, 6, 8, 9, 10, 21]
    refine wN (nT ?_)
    refine wp_if hA 21 _ rfl (fun hq2 => ?yB) (fun hq2 => ?nB)
    case yB =>
      have ho2 : o = false := by simpa using hq2
      subst ho2
      rw [if_neg (by simp)] at hev
      refine wS (wR ?_)
      revert a; refine wo rfl rfl (by decide) (fun ev e h => by simp [go_sem, h, add0, z0, jj0, jj1, jw] <;> rfl) ?_; intro a hA
      refine wl_new hA rfl rfl (by decide) (fun ev h => by simp [go_sem, h.c, add0, z0, jj0, jj1, jw]; try first | exact ⟨rfl, rfl⟩ | rfl) fun w5 a (K5 : Blk _ _ _ _) hz5 hb5 hA => ?_
      replace ho := ho.below hb5
      have HX5 := HX2.trans (hb5.mono HX2.size)
      have hrow : RowR strSh w5 _ [[78, 73, 76]] := rowR_blk (s := strSh) (x := [78, 73, 76]) K5 (fun p hp => (by cases hp))
      obtain ⟨r, w6, hrun, ho6, hg6, -⟩ := run_appR (s := strSh) (c := 1) ho hrow (fun _ _ m _ p hp => (by cases hp)) (by simp <;> omega) HX5.size
      refine wl_op hA rfl rfl (by decide) (fun ev h => exec_append rfl (h.get 22 rfl) (h.get 23 rfl) hrun) fun a hA => ?_
      have HX6 := below_appR HX5 ho hg6 (Nat.le_refl _) HX5.size
      revert a; refine wo rfl rfl (by decide) (fun ev e h => by simp [go_sem, h, add0, z0, jj0, jj1, jw] <;> rfl) ?_; intro a hA
      replace hA := hA.keepN [0, 3, 8, 9, 10]
      replace hA := hA.keepN [0, 3, 8, 9, 10]
      refine wN (nT (wp_exit (xT (xB (nT ?_)))))
      rw [e, hev]
      exact ⟨_, ho6, HX6, hA⟩
    case nB =>
      have ho2 : o = true := by simpa using hq2
      subst ho2
      rw [if_pos rfl] at hev
      refine wp_skip (nT (wR ?_))
      revert a; (iterate 2 refine wo rfl rfl (by decide) (fun ev e h => by simp [go_sem, h, add0, z0, jj0, jj1, jw] <;> rfl) ?_); intro a hA
      refine wl_call hA rfl rfl (by decide) (fun ev h => exec_call Tryz.func31 (by kernel_rfl) rfl (h.f _) (by first | (simp only [mL, h.get 26 rfl, h.c] <;> rfl) | (simp [mL, h.get 26 rfl, h.c, add0, z0, jj0, jj1, jw] <;> rfl))) (string_any v m w2 ((HW2.cell (block_lt_of_cell hm)).trans hm) (by omega) (Lib.tabBelow_of_tabIs htab w2 HW2)) ?_
      rintro e w3 ⟨rfl, hb3⟩
      refine ⟨_, rfl, fun a hA => ?_⟩
      have HX3 := HX2.trans (hb3.mono HX2.size)
      replace ho := ho.below hb3
      refine wl_new hA rfl rfl (by decide) (fun ev h => by simp [go_sem, h.get 27 rfl, add0, z0, jj0, jj1, jw]; try first | exact ⟨rfl, rfl⟩ | rfl) fun w5 a (K5 : Blk _ _ _ _) hz5 hb5 hA => ?_
      replace ho := ho.below hb5
      have HX5 := HX3.trans (hb5.mono HX3.size)
      have hrow : RowR strSh w5 _ [strF v] := rowR_blk (s := strSh) (x := strF v) K5 (fun p hp => (by cases hp))
      obtain ⟨r, w6, hrun, ho6, hg6, -⟩ := run_appR (s := strSh) (c := 1) ho hrow (fun _ _ m _ p hp => (by cases hp)) (by simp <;> omega) HX5.size
      refine wl_op hA rfl rfl (by decide) (fun ev h => exec_append rfl (h.get 25 rfl) (h.get 28 rfl) hrun) fun a hA => ?_
      have HX6 := below_appR HX5 ho hg6 (Nat.le_refl _) HX5.size
      revert a; refine wo rfl rfl (by decide) (fun ev e h => by simp [go_sem, h, add0, z0, jj0, jj1, jw] <;> rfl) ?_; intro a hA
      replace hA := hA.keepN [0, 3, 8, 9, 10]
      refine wN (nB (nT ?_))
      rw [e, hev]
      exact ⟨_, ho6, HX6, hA⟩
    clear hA
    rintro a wx ⟨V, ho, HB, hA⟩
    refine wR ?_
    revert a; (iterate 2 refine wo rfl rfl (by decide) (fun ev e h => by simp [go_sem, h, jw] <;> rfl) ?_); intro a hA
    replace hA := hA.keepN [0, 3, 8, 9, 10]
    refine wN (nT ?_)
    exact ⟨g - 1, by omega, j + 1, V, by omega, ho, HB, hA⟩
end Go.Proofs.YtjhaccmcjlbllaaGreatDoor
/-
  What comes behind a block is shown once.
-/
namespace Go.Proofs.YtjhaccmcjlbllaaGreatDoor
open Go Go.RowKit
theorem wp_joinb {P : Program} {Q : Exit → Act → World → Prop} {a : Act} {w : World} {id : Nat} {x y : Code} (R : Act → World → Prop) (h : x.wp P (Exit.inBlock id (Exit.then R Q)) a w) (hy : ∀ a w, R a w → y.wp P Q a w) : x.wp P (Exit.inBlock id (Exit.then (y.wp P Q) Q)) a w :=
  wp_mono h fun e a w q => by
    cases e with
    | normal => exact hy _ _ q
    | exit k =>
      by_cases hk : k = id
      · subst hk
        refine x_block (hy _ _ ?_)
        have q2 : (if k = k then Exit.then R Q .normal a w else Exit.then R Q (.exit k) a w) := q
        rw [if_pos rfl] at q2
        exact q2
      · refine x_miss hk ?_
        have q2 : (if k = id then Exit.then R Q .normal a w else Exit.then R Q (.exit k) a w) := q
        rw [if_neg hk] at q2
        exact q2
    | _ => exact q
end Go.Proofs.YtjhaccmcjlbllaaGreatDoor
/-
  Walks: flag.Print; cubbyref06.Flags.
-/
namespace Go.Proofs.YtjhaccmcjlbllaaGreatDoor
open Go.RowKit
set_option linter.unusedSimpArgs false
set_option linter.unusedVariables false
set_option linter.unusedSimpArgs false
set_option linter.unusedVariables false
def bitF (f : Int) (j : Nat) : Bool := bits BinOp.and IntKind.i64 (f / 2 ^ j) 1 == 1
/-- the names of flags, of the first so many bits -/
def flagsL (f : Int) : Nat → List (List UInt8)
  | 0 => []
  | j + 1 => if bitF f j then flagsL f j ++ [flagNs[j]?.getD []] else flagsL f j
theorem flagsL_len (f : Int) : ∀ j, (flagsL f j).length ≤ j
  | 0 => Nat.le_refl _
  | j + 1 => by
    have := flagsL_len f j
    unfold flagsL
    split <;> simp <;> omega
theorem flagNs_len : ∀ x ∈ flagNs, x ≠ [] ∧ x.length ≤ 9 := by decide
theorem flagsL_mem (f : Int) : ∀ j, j ≤ 5 → ∀ x ∈ flagsL f j, x ≠ [] ∧ x.length ≤ 9
  | 0, _, x, h => by cases h
  | j + 1, hj, x, h => by
    unfold flagsL at h
    split at h
    · rcases List.mem_append.1 h with h | h
      · exact flagsL_mem f j (by omega) x h
      · rw [List.mem_singleton.1 h]
        have e : flagNs[j]? = some (flagNs[j]'(by show j < 5; omega)) := List.getElem?_eq_getElem (by show j < 5; omega)
        rw [e]
        exact flagNs_len _ (List.getElem_mem _)
    · exact flagsL_mem f j (by omega) x h
/-- flags as they are told -/
def flagsT (f : Int) : List UInt8 := [40] ++ joinS (flagsL f 5) ++ [41]
theorem flagsJ_len (f : Int) (j : Nat) (hj : j ≤ 5) : (joinS (flagsL f j)).length ≤ 50 := by
  have h1 := joinS_len (flagsL f j) 9 fun x hx => (flagsL_mem f j hj x hx).2
  have h2 := flagsL_len f j
  have h3 : (9 + 1) * (flagsL f j).length ≤ 10 * 5 := Nat.mul_le_mul_left 10 (by omega)
  omega
set_option maxRecDepth 100000 in
set_option maxHeartbeats 8000000 in
theorem flagPrint_any (f : Int) (w : World) : Calls Tryz.prog 59 #[.int .i64 f] w fun ev w' => ev = .returned (.string (St (flagsT f))) ∧ Below w.heap.size w w' := by
  refine calls_at 27 Tryz.func59 rfl rfl (Nat.le_of_ble_eq_true rfl) ?_
  intro a hA; replace hA := hA.norm
  refine wS (wR ?_)
  revert a; refine wo rfl rfl (by decide) (fun ev e h => by simp [go_sem, h] <;> rfl) ?_; intro a hA
  replace hA := hA.keepN [0]
  refine wN (nT (wS (wR ?_)))
  revert a; refine wo rfl rfl (by decide) (fun ev e h => by simp [go_sem, h] <;> rfl) ?_; intro a hA
  replace hA := hA.keepN [0, 3]
  refine wN (nT (wS (wS (wR ?_))))
  refine wl_call hA rfl rfl (by decide) (fun ev h => exec_call Tryz.func82 (by kernel_rfl) rfl (h.f _) (by first | (simp only [mL, h.c] <;> rfl) | (simp [mL, h.c] <;> rfl))) (names_any w) ?_
  rintro e w1 ⟨rfl, KN, hz1, hb1⟩
  refine ⟨_, rfl, fun a hA => ?_⟩
  revert a; (iterate 2 refine wo rfl rfl (by decide) (fun ev e h => by simp [go_sem, h] <;> rfl) ?_); intro a hA
  replace hA := hA.keepN [0, 3, 6, 7, 8]
  refine wN (nT (wB ?_))
  refine wp_loop_at (fun g a wx => ∃ (j : Nat) (V : Value), j + g = 5 ∧ OwnR strSh w1.heap.size wx V (flagsL f j) ∧ Below w1.heap.size w1 wx ∧ At 27 [(0, .int .i64 f), (3, V), (6, .slice (some ⟨w.heap.size, 0, none⟩) 5 5), (7, .int .i64 5), (8, .int .i64 (j : Nat))] a) (5) ?_ ?_
  · exact ⟨0, _, by omega, OwnR.nil _ _, Below.refl _ _, hA⟩
  clear hA
  rintro g a wx ⟨j, V, hjg, ho, HB, hA⟩
  refine wS (wR ?_)
  revert a; refine wo rfl rfl (by decide) (fun ev e h => by simp [go_sem, h] <;> rfl) ?_; intro a hA
  replace hA := hA.keepN [0, 3, 6, 7, 8, 9]
  refine wN (nT (wS ?_))
  have hfl := flagsL_len f j
  refine wp_if hA 9 _ rfl (fun hq => ?yA) (fun hq => ?nA)
  case nA =>
    have hj5 : j = 5 := by simp at hq; omega
    subst hj5
    have hjl := flagsJ_len f 5 (Nat.le_refl _)
    replace hA := hA.keepN [3]
    refine wp_exit (xT (xT (xB (nT (wS (wR ?_))))))
    revert a; refine wo rfl rfl (by decide) (fun ev e h => by simp [go_sem, h] <;> rfl) ?_; intro a hA
    refine wl_call hA rfl rfl (by decide) (fun ev h => exec_call Tryz.func40 (by kernel_rfl) rfl (h.f _) (by first | (simp only [mL, h.get 23 rfl, h.c] <;> rfl) | (simp [mL, h.get 23 rfl, h.c] <;> rfl))) (strJoin_any ho (by omega) (by omega)) ?_
    rintro e w5 ⟨rfl, hb5⟩
    refine ⟨_, rfl, fun a hA => ?_⟩
    obtain ⟨J, hJ⟩ : ∃ J, joinS (flagsL f 5) = J := ⟨_, rfl⟩
    rw [hJ] at hjl hA
    have ka := st_app [40] J
    have kb := st_app (40 :: J) [41]
    rw [show [40] ++ J = 40 :: J from rfl] at ka
    have kz1 : ¬ 9223372036854775807 < J.length + 1 := by omega
    have kz2 : ¬ 9223372036854775807 < J.length + 1 + 1 := by omega
    have kz3 : ¬ 9223372036854775807 < 1 + J.length := by omega
    have kz4 : ¬ 9223372036854775807 < 1 + J.length + 1 := by omega
    revert a; (iterate 3 refine wo rfl rfl (by decide) (fun ev e h => by simp [go_sem, h, ka, kb, kz1, kz2, kz3, kz4] <;> rfl) ?_); intro a hA
    replace hA := hA.keepN [2]
    refine wN (nT (wp_ret ?_))
    refine ret_1 hA 2 rfl rfl ?_
    refine ⟨?_, (hb1.trans (HB.mono hb1.size)).trans (hb5.mono (by have := HB.size; have := hb1.size; omega))⟩
    unfold flagsT
    rw [hJ]
    rfl
  case yA =>
    have hj5 : j < 5 := by simp at hq; omega
    have jj0 : (0 : Int) ≤ (j : Int) := by omega
    have jj1 : (j : Int) < 5 := by omega
    obtain ⟨nm, hnm⟩ : ∃ x, flagNs[j]? = some x := ⟨_, List.getElem?_eq_getElem (by show j < 5; omega)⟩
    have z0 : wx.cell? ⟨w.heap.size, j, none⟩ = some (.string (St nm)) := ((KN.below HB KN.lt).cell j).trans (by simp [hnm])
    have jw : IntKind.i64.wrap ((j : Int) + 1) = ((j + 1 : Nat) : Int) := IntWalk.i64_in _ (by omega)
    refine wp_skip (nT (wS (wB (wS (wR ?_)))))
    revert a; (iterate 5 refine wo rfl rfl (by decide) (fun ev e h => by simp [go_sem, h, add0, z0, jj0, jj1, jw] <;> rfl) ?_); intro a hA
    replace hA := hA.keepN [0, 3, 4, 5, 6, 7, 8]
    refine wN (nT (wS (wR ?_)))
    revert a; (iterate 5 refine wo rfl rfl (by decide) (fun ev e h => by simp [go_sem, h, add0, z0, jj0, jj1, jw] <;> rfl) ?_); intro a hA
    replace hA := hA.keepN [0, 3, 5, 6, 7, 8, 17]
    refine wN (nT ?_)
    refine wp_joinb (fun a wx => ∃ V, OwnR strSh w1.heap.size wx V (flagsL f (j + 1)) ∧ Below w1.heap.size w1 wx ∧ At 27 [(0, .int .i64 f), (3, V), (6, .slice (some ⟨w.heap.size, 0, none⟩) 5 5), (7, .int .i64 5), (8, .int .i64 (j : Nat))] a) ?jfR ?jrR
    refine wp_if hA 17 _ rfl (fun hq2 => ?yB) (fun hq2 => ?nB)
    case yB =>
      have hq3 : bitF f j = true := by simpa [bitF] using hq2
      have e : flagsL f (j + 1) = flagsL f j ++ [nm] := by
        show (if bitF f j then _ else _) = _
        rw [if_pos hq3, hnm]
        rfl
      rw [e]
      refine wR ?_
      revert a; (iterate 2 refine wo rfl rfl (by decide) (fun ev e h => by simp [go_sem, h, add0, z0, jj0, jj1, jw] <;> rfl) ?_); intro a hA
      refine wl_new hA rfl rfl (by decide) (fun ev h => by simp [go_sem, h.get 19 rfl, add0, z0, jj0, jj1, jw]; try first | exact ⟨rfl, rfl⟩ | rfl) fun w5 a (K5 : Blk _ _ _ _) hz5 hb5 hA => ?_
      replace ho := ho.below hb5
      have hrow : RowR strSh w5 _ [nm] := rowR_blk (s := strSh) (x := nm) K5 (fun p hp => (by cases hp))
      have hB5 : w1.heap.size ≤ w5.heap.size := by have := HB.size; have := hb5.size; omega
      obtain ⟨r, w6, hrun, ho6, hg6, -⟩ := run_appR (s := strSh) (c := 1) ho hrow (fun _ _ m _ p hp => (by cases hp)) (by simp <;> omega) hB5
      refine wl_op hA rfl rfl (by decide) (fun ev h => exec_append rfl (h.get 18 rfl) (h.get 20 rfl) hrun) fun a hA => ?_
      have HB6 := below_appR (HB.trans (hb5.mono HB.size)) ho hg6 (Nat.le_refl _) hB5
      revert a; refine wo rfl rfl (by decide) (fun ev e h => by simp [go_sem, h, add0, z0, jj0, jj1, jw] <;> rfl) ?_; intro a hA
      replace hA := hA.keepN [0, 3, 6, 7, 8]
      refine wN (nB (nT ?_))
      exact ⟨_, ho6, HB6, hA⟩
    case nB =>
      have hq3 : bitF f j = false := by simpa [bitF] using hq2
      have e : flagsL f (j + 1) = flagsL f j := by
        show (if bitF f j then _ else _) = _
        rw [if_neg (by simp [hq3])]
      rw [e]
      replace hA := hA.keepN [0, 3, 6, 7, 8]
      refine wp_skip (nB (nT ?_))
      exact ⟨_, ho, HB, hA⟩
    clear hA
    rintro a wx ⟨V, ho, HB, hA⟩
    refine wR ?_
    revert a; (iterate 2 refine wo rfl rfl (by decide) (fun ev e h => by simp [go_sem, h, jw] <;> rfl) ?_); intro a hA
    replace hA := hA.keepN [0, 3, 6, 7, 8]
    refine wN (nT ?_)
    exact ⟨g - 1, by omega, j + 1, V, by omega, ho, HB, hA⟩
end Go.Proofs.YtjhaccmcjlbllaaGreatDoor
/-
  Plain laws of days: the day that so many days since 1970 is, and back.
-/
namespace Go.Proofs.YtjhaccmcjlbllaaGreatDoor.Dt
/-- days ahead of a year of an era that begins in March -/
def cS (y : Nat) : Nat := 365 * y + y / 4 - y / 100
def cF (o : Nat) : Nat := o - o / 1460 + o / 36524 - o / 146096
theorem cF_mono (a b : Nat) (h : a ≤ b) (hb : b ≤ 146095) : cF a ≤ cF b := by
  unfold cF
  have e1 : a / 146096 = 0 := Nat.div_eq_of_lt (by omega)
  have e2 : b / 146096 = 0 := Nat.div_eq_of_lt (by omega)
  have h2 : a / 36524 ≤ b / 36524 := Nat.div_le_div_right h
  have h3 : a - a / 1460 ≤ b - b / 1460 := by omega
  omega
theorem cS_table : ((List.range 400).all fun y => cF (cS y) / 365 == y && cF (cS (y + 1) - 1) / 365 == y && decide (cS y < cS (y + 1))) = true := by decide +kernel
theorem cS_find (o : Nat) : ∀ n, o < cS n → ∃ y, y < n ∧ cS y ≤ o ∧ o < cS (y + 1)
  | 0, h => by simp [cS] at h
  | n + 1, h => by
    by_cases hn : o < cS n
    · obtain ⟨y, h1, h2, h3⟩ := cS_find o n hn
      exact ⟨y, by omega, h2, h3⟩
    · exact ⟨n, by omega, by omega, h⟩
theorem cS_step (a : Nat) : cS a ≤ cS (a + 1) := by unfold cS; omega
theorem cS_mono (a b : Nat) (h : a ≤ b) : cS a ≤ cS b := by
  obtain ⟨k, rfl⟩ : ∃ k, b = a + k := ⟨b - a, by omega⟩
  clear h
  induction k with
  | zero => exact Nat.le_refl _
  | succ k ih => exact Nat.le_trans ih (cS_step _)
theorem yoe_of (o y : Nat) (hy : y < 400) (h1 : cS y ≤ o) (h2 : o < cS (y + 1)) : cF o / 365 = y := by
  have ht := List.all_eq_true.1 cS_table y (by simpa using hy)
  simp only [Bool.and_eq_true, beq_iff_eq, decide_eq_true_eq] at ht
  have hm : cS (y + 1) ≤ cS 400 := cS_mono _ _ (by omega)
  have h400 : cS 400 = 146096 := by decide
  have a1 := cF_mono (cS y) o h1 (by omega)
  have a2 := cF_mono o (cS (y + 1) - 1) (by omega) (by omega)
  omega
theorem yoe_spec (o : Nat) (h : o < 146097) : cF o / 365 ≤ 399 ∧ cS (cF o / 365) ≤ o ∧ (o < cS (cF o / 365 + 1) ∨ (cF o / 365 = 399 ∧ o = 146096)) := by
  by_cases h1 : o = 146096
  · subst h1; decide
  · have h400 : cS 400 = 146096 := by decide
    obtain ⟨y, hy, a1, a2⟩ := cS_find o 400 (by omega)
    rw [yoe_of o y hy a1 a2]
    exact ⟨by omega, a1, .inl a2⟩
def leapN (y : Int) : Bool := (y % 4 == 0) && ((y % 100 != 0) || (y % 400 == 0))
/-- the days of a month -/
def dimN (y m : Int) : Int := if m = 2 then (if leapN y then 29 else 28) else if m = 4 ∨ m = 6 ∨ m = 9 ∨ m = 11 then 30 else 31
theorem leap_table : ((List.range 400).all fun y => decide (cS (y + 1) ≤ cS y + 365) || leapN ((y : Int) + 1)) = true := by decide +kernel
theorem leap_back : ((List.range 400).all fun y => !leapN ((y : Int) + 1) || decide (cS y + 365 < cS (y + 1)) || y == 399) = true := by decide +kernel
theorem cS_year (a : Nat) : cS a + 365 ≤ cS (a + 1) := by unfold cS; omega
/-- month and day of a day of such a year -/
theorem mp_table : ((List.range 366).all fun d => decide ((5 * d + 2) / 153 ≤ 11) && decide ((153 * ((5 * d + 2) / 153) + 2) / 5 ≤ d) &&
    decide (d + 1 - (153 * ((5 * d + 2) / 153) + 2) / 5 ≤ (if (5 * d + 2) / 153 = 11 then 29 else if (5 * d + 2) / 153 = 1 ∨ (5 * d + 2) / 153 = 3 ∨ (5 * d + 2) / 153 = 6 ∨ (5 * d + 2) / 153 = 8 then 30 else 31)) &&
    decide ((5 * d + 2) / 153 = 11 → d + 1 - (153 * ((5 * d + 2) / 153) + 2) / 5 = 29 → d = 365)) = true := by decide +kernel
theorem mp_back : ((List.range 12).all fun m => (List.range 31).all fun d => !(decide (d < (if m = 11 then 29 else if m = 1 ∨ m = 3 ∨ m = 6 ∨ m = 8 then 30 else 31))) || ((5 * ((153 * m + 2) / 5 + d) + 2) / 153 == m && decide ((153 * m + 2) / 5 + d ≤ 365) && decide ((153 * m + 2) / 5 + d = 365 → m = 11 ∧ d = 28))) = true := by decide +kernel
/-- days since 1970 of a day -/
def sinceN (y m d : Int) : Int :=
  let y' := if m ≤ 2 then y - 1 else y
  let m' := if m ≤ 2 then m + 12 else m
  365 * y' + y' / 4 - y' / 100 + y' / 400 + (153 * (m' - 3) + 2) / 5 + d - 1 - 719468
def Valid (y m d : Int) : Prop := 1 ≤ m ∧ m ≤ 12 ∧ 1 ≤ d ∧ d ≤ dimN y m
theorem era_split (e q : Int) (h0 : 0 ≤ q) (h1 : q ≤ 399) : 365 * (q + e * 400) + (q + e * 400) / 4 - (q + e * 400) / 100 + (q + e * 400) / 400 = 146097 * e + (365 * q + q / 4 - q / 100) := by omega
/-- the steps of date.civil -/
def cEra (n : Int) : Int := (n + 719468) / 146097
def cOf (n : Int) : Int := n + 719468 - cEra n * 146097
def cYoe (n : Int) : Int := (cOf n - cOf n / 1460 + cOf n / 36524 - cOf n / 146096) / 365
def cDay (n : Int) : Int := cOf n - (365 * cYoe n + cYoe n / 4 - cYoe n / 100)
def cMp (n : Int) : Int := (5 * cDay n + 2) / 153
def civY (n : Int) : Int := if cMp n < 10 then cYoe n + cEra n * 400 else cYoe n + cEra n * 400 + 1
def civM (n : Int) : Int := if cMp n < 10 then cMp n + 3 else cMp n - 9
def civD (n : Int) : Int := cDay n - (153 * cMp n + 2) / 5 + 1
theorem cOf_nat (n : Int) : ∃ o : Nat, cOf n = o ∧ o < 146097 := by
  refine ⟨(cOf n).toNat, ?_, ?_⟩ <;> unfold cOf cEra <;> omega
theorem cYoe_nat (n : Int) (o : Nat) (ho : cOf n = o) (h : o < 146097) : cYoe n = ((cF o / 365 : Nat) : Int) := by
  unfold cYoe cF
  rw [ho]
  have h1 : o / 1460 ≤ o := Nat.div_le_self _ _
  have h2 : o / 146096 ≤ o - o / 1460 + o / 36524 := by omega
  omega
/-- what the steps come to: the year of the era and the day of that year -/
theorem day_spec (n : Int) : ∃ y d : Nat, cYoe n = y ∧ cDay n = d ∧ y ≤ 399 ∧ d ≤ 365 ∧ (d = 365 → leapN ((y : Int) + 1) = true) ∧ cOf n = (cS y : Int) + d := by
  obtain ⟨o, ho, hlt⟩ := cOf_nat n
  have hy := cYoe_nat n o ho hlt
  obtain ⟨h1, h2, h3⟩ := yoe_spec o hlt
  generalize cF o / 365 = y at *
  have hd : cDay n = ((o - cS y : Nat) : Int) := by
    unfold cDay
    rw [ho, hy]
    unfold cS at h2 ⊢
    omega
  refine ⟨y, o - cS y, hy, hd, h1, ?_, ?_, by rw [ho]; omega⟩
  · rcases h3 with h3 | ⟨rfl, rfl⟩
    · unfold cS at *; omega
    · decide
  · intro h365
    rcases h3 with h3 | ⟨rfl, rfl⟩
    · have ht := List.all_eq_true.1 leap_table y (by simp; omega)
      rw [Bool.or_eq_true, decide_eq_true_eq] at ht
      rcases ht with ht | ht
      · omega
      · exact ht
    · decide
theorem cDay_bd (n : Int) : 0 ≤ cDay n ∧ cDay n ≤ 365 := by
  obtain ⟨y, d, _, hd, _, h, _⟩ := day_spec n
  omega
theorem cMp_bd (n : Int) : 0 ≤ cMp n ∧ cMp n ≤ 11 := by
  have := cDay_bd n
  unfold cMp; omega
theorem leap_era (y e : Int) : leapN (y + e * 400) = leapN y := by
  unfold leapN
  have h1 : (y + e * 400) % 4 = y % 4 := by omega
  have h2 : (y + e * 400) % 100 = y % 100 := by omega
  have h3 : (y + e * 400) % 400 = y % 400 := by omega
  rw [h1, h2, h3]
theorem civ_valid (n : Int) : Valid (civY n) (civM n) (civD n) := by
  obtain ⟨y, d, hy, hd, hy1, hd1, hl, _⟩ := day_spec n
  have ht := List.all_eq_true.1 mp_table d (by simp; omega)
  simp only [Bool.and_eq_true, decide_eq_true_eq] at ht
  obtain ⟨⟨⟨t1, t2⟩, t3⟩, t4⟩ := ht
  have hm : cMp n = (((5 * d + 2) / 153 : Nat) : Int) := by unfold cMp; rw [hd]; omega
  have hD : civD n = ((d + 1 - (153 * ((5 * d + 2) / 153) + 2) / 5 : Nat) : Int) := by unfold civD; rw [hd, hm]; omega
  have hle := leap_era ((y : Int) + 1) (cEra n)
  generalize (5 * d + 2) / 153 = m at *
  generalize hq : d + 1 - (153 * m + 2) / 5 = q at *
  unfold Valid civY civM
  rw [hm, hD, hy]
  have hq1 : 1 ≤ q := by omega
  unfold dimN
  by_cases c1 : (m : Int) < 10
  · rw [if_pos c1, if_pos c1, if_neg (by omega)]
    refine ⟨by omega, by omega, by omega, ?_⟩
    rw [if_neg (by omega)] at t3
    split at t3 <;> split <;> omega
  · rw [if_neg c1, if_neg c1]
    refine ⟨by omega, by omega, by omega, ?_⟩
    by_cases c2 : m = 11
    · subst c2
      rw [if_pos rfl] at t3
      rw [if_pos (by omega)]
      by_cases c3 : q = 29
      · have := hl (t4 rfl c3)
        rw [show (y : Int) + cEra n * 400 + 1 = (y : Int) + 1 + cEra n * 400 from by omega, hle, this]
        simp; omega
      · split <;> omega
    · rw [if_neg c2] at t3
      rw [if_neg (by omega)]
      split at t3 <;> split <;> omega
theorem since_civ (n : Int) : sinceN (civY n) (civM n) (civD n) = n := by
  obtain ⟨y, d, hy, hd, hy1, hd1, _, ho⟩ := day_spec n
  have hb := cMp_bd n
  have he := era_split (cEra n) (y : Int) (by omega) (by omega)
  have hS : (cS y : Int) = 365 * (y : Int) + (y : Int) / 4 - (y : Int) / 100 := by unfold cS; omega
  unfold cOf at ho
  unfold sinceN civY civM civD
  rw [hd, hy]
  generalize cMp n = m at *
  generalize cEra n = e at *
  by_cases c1 : m < 10
  · simp only [c1, if_true]
    rw [if_neg (by omega), if_neg (by omega), show m + 3 - 3 = m from by omega]
    omega
  · simp only [c1, if_false]
    rw [if_pos (by omega), if_pos (by omega), show m - 9 + 12 - 3 = m from by omega, show (y : Int) + e * 400 + 1 - 1 = (y : Int) + e * 400 from by omega]
    omega
theorem civ_since (y m d : Int) (h : Valid y m d) : civY (sinceN y m d) = y ∧ civM (sinceN y m d) = m ∧ civD (sinceN y m d) = d := by
  obtain ⟨h1, h2, h3, h4⟩ := h
  -- the year and the month that begin in March
  obtain ⟨y', mp, hy', hmp, hmp11, hdef⟩ : ∃ (y' : Int) (mp : Nat), y' = (if m ≤ 2 then y - 1 else y) ∧ (mp : Int) = (if m ≤ 2 then m + 9 else m - 3) ∧ mp ≤ 11 ∧
      sinceN y m d = 365 * y' + y' / 4 - y' / 100 + y' / 400 + (153 * (mp : Int) + 2) / 5 + d - 1 - 719468 := by
    refine ⟨if m ≤ 2 then y - 1 else y, (if m ≤ 2 then m + 9 else m - 3).toNat, rfl, ?_, ?_, ?_⟩
    · split <;> omega
    · split <;> omega
    · unfold sinceN
      split
      · rw [show (((m + 9).toNat : Nat) : Int) = m + 12 - 3 from by omega]
      · rw [show (((m - 3).toNat : Nat) : Int) = m - 3 from by omega]
  obtain ⟨e, q, hq0, hq1, hye⟩ : ∃ e q : Int, 0 ≤ q ∧ q ≤ 399 ∧ y' = q + e * 400 := ⟨y' / 400, y' % 400, by omega, by omega, by omega⟩
  have hes := era_split e q hq0 hq1
  rw [← hye] at hes
  obtain ⟨dn, hdn⟩ : ∃ dn : Nat, d = (dn : Int) + 1 := ⟨(d - 1).toNat, by omega⟩
  obtain ⟨qn, rfl⟩ : ∃ qn : Nat, q = qn := ⟨q.toNat, by omega⟩
  have hlim : dn < (if mp = 11 then 29 else if mp = 1 ∨ mp = 3 ∨ mp = 6 ∨ mp = 8 then 30 else 31) := by
    unfold dimN at h4
    by_cases c : m ≤ 2
    · rw [if_pos c] at hmp
      by_cases c2 : m = 2
      · rw [if_pos c2] at h4
        rw [if_pos (by omega)]
        split at h4 <;> omega
      · rw [if_neg c2, if_neg (by omega)] at h4
        rw [if_neg (by omega), if_neg (by omega)]; omega
    · rw [if_neg c] at hmp
      rw [if_neg (by omega)] at h4
      rw [if_neg (by omega)]
      split at h4 <;> split <;> omega
  have hlt : dn < 31 := by
    split at hlim
    · omega
    · split at hlim <;> omega
  have hb := List.all_eq_true.1 (List.all_eq_true.1 mp_back mp (by simp; omega)) dn (by simp; omega)
  rw [decide_eq_true hlim] at hb
  simp only [Bool.not_true, Bool.false_or, Bool.and_eq_true, beq_iff_eq, decide_eq_true_eq] at hb
  obtain ⟨⟨b1, b2⟩, b3⟩ := hb
  generalize hdoy : (153 * mp + 2) / 5 + dn = doy at *
  have hn : sinceN y m d + 719468 = 146097 * e + ((cS qn : Nat) : Int) + (doy : Int) := by
    rw [hdef]; unfold cS; omega
  have hSb : cS qn + doy < 146097 ∧ (cS qn + doy < cS (qn + 1) ∨ (qn = 399 ∧ cS qn + doy = 146096)) := by
    by_cases c : doy = 365
    · obtain ⟨rfl, rfl⟩ := b3 c
      have hl : leapN ((qn : Int) + 1) = true := by
        have hm2 : m = 2 := by split at hmp <;> omega
        rw [if_pos (by omega)] at hy'
        unfold dimN at h4
        rw [if_pos hm2] at h4
        have hyq : y = (qn : Int) + 1 + e * 400 := by omega
        rw [← leap_era ((qn : Int) + 1) e, ← hyq]
        split at h4
        · assumption
        · omega
      have ht := List.all_eq_true.1 leap_back qn (by simp; omega)
      rw [hl] at ht
      simp only [Bool.not_true, Bool.false_or, Bool.or_eq_true, decide_eq_true_eq, beq_iff_eq] at ht
      have hm := cS_mono (qn + 1) 400 (by omega)
      have h400 : cS 400 = 146096 := by decide
      rcases ht with ht | rfl
      · omega
      · have h399 : cS 399 = 145731 := by decide
        omega
    · have h1 := cS_year qn
      have hm := cS_mono (qn + 1) 400 (by omega)
      have h400 : cS 400 = 146096 := by decide
      omega
  have hE : cEra (sinceN y m d) = e := by unfold cEra; omega
  have hO : cOf (sinceN y m d) = ((cS qn + doy : Nat) : Int) := by unfold cOf; rw [hE]; omega
  have hY : cYoe (sinceN y m d) = (qn : Int) := by
    rw [cYoe_nat _ _ hO hSb.1]
    rcases hSb.2 with h | ⟨rfl, h⟩
    · rw [yoe_of _ qn (by omega) (by omega) h]
    · rw [h]; decide
  have hD : cDay (sinceN y m d) = (doy : Int) := by unfold cDay; rw [hO, hY]; unfold cS; omega
  have hM : cMp (sinceN y m d) = (mp : Int) := by unfold cMp; rw [hD]; omega
  unfold civY civM civD
  rw [hE, hY, hD, hM]
  refine ⟨?_, ?_, by omega⟩
  · split at hy' <;> split at hmp <;> split <;> omega
  · split at hmp <;> split <;> omega
end Go.Proofs.YtjhaccmcjlbllaaGreatDoor.Dt
/-
  The small functions of days, walked: leap, year, days, month, digits, number.
-/
namespace Go.Proofs.YtjhaccmcjlbllaaGreatDoor.Dt
open Go.RowKit
open Go.Proofs.YtjhaccmcjlbllaaGreatDoor.Nm (all_snoc_get)
set_option maxHeartbeats 400000 in
theorem leap_any (y : Int) (h0 : 0 ≤ y) (h1 : y ≤ 20000) (w : World) :
    Calls Tryz.prog 56 #[.int .i64 y] w fun e w' => e = .returned (.bool (leapN y)) ∧ w' = w := by
  go_enter Tryz.func56, Tryz.ntmps56
  go_wp2
  all_goals go_ret
  all_goals exact ⟨ret_bool (by unfold leapN; simp [*]), rfl⟩
def yearN (y : Int) : Int := if leapN y = true then 366 else 365
set_option maxHeartbeats 400000 in
theorem year_any (y : Int) (h0 : 0 ≤ y) (h1 : y ≤ 20000) (w : World) :
    Calls Tryz.prog 34 #[.int .i64 y] w fun e w' => e = .returned (.int .i64 (yearN y)) ∧ w' = w := by
  rcases Bool.eq_false_or_eq_true (leapN y) with hl | hl
  · have Hv : Hid (yearN y = 366) := by show yearN y = _; unfold yearN; rw [if_pos hl]
    go_enter Tryz.func34, Tryz.ntmps34
    go_wp2_with (go_at_call 56; refine (leap_any y h0 h1 _).mono ?_; rintro e w' ⟨rfl, rfl⟩; rw [hl])
    go_ret
    exact ⟨ret_int Hv.out.symm, rfl⟩
  · have Hv : Hid (yearN y = 365) := by show yearN y = _; unfold yearN; rw [if_neg (by rw [hl]; decide)]
    go_enter Tryz.func34, Tryz.ntmps34
    go_wp2_with (go_at_call 56; refine (leap_any y h0 h1 _).mono ?_; rintro e w' ⟨rfl, rfl⟩; rw [hl])
    go_ret
    exact ⟨ret_int Hv.out.symm, rfl⟩
theorem twelve {P : Int → Prop} (m : Int) (h1 : 1 ≤ m) (h2 : m ≤ 12) (k1 : P 1) (k2 : P 2) (k3 : P 3) (k4 : P 4) (k5 : P 5) (k6 : P 6) (k7 : P 7) (k8 : P 8) (k9 : P 9) (k10 : P 10) (k11 : P 11) (k12 : P 12) : P m := by
  have : m = 1 ∨ m = 2 ∨ m = 3 ∨ m = 4 ∨ m = 5 ∨ m = 6 ∨ m = 7 ∨ m = 8 ∨ m = 9 ∨ m = 10 ∨ m = 11 ∨ m = 12 := by omega
  rcases this with rfl | rfl | rfl | rfl | rfl | rfl | rfl | rfl | rfl | rfl | rfl | rfl <;> assumption
/-- so many digits of a number -/
def digL (v : Nat) : Nat → List UInt8
  | 0 => []
  | n + 1 => UInt8.ofNat (48 + v / 10 ^ n % 10) :: digL v n
def digB (v : Nat) (n : Nat) : ByteArray := ⟨(digL v n).toArray⟩
theorem digL_length (v : Nat) : ∀ n, (digL v n).length = n
  | 0 => rfl
  | n + 1 => by simp [digL, digL_length v n]
theorem digB_size (v n : Nat) : (digB v n).size = n := by
  show (digL v n).toArray.size = n
  simp [digL_length]
theorem conv_one (x : Int) (h0 : 0 ≤ x) (h1 : x ≤ 255) (w : World) :
    (convert 23 9 (.slice (some ⟨w.heap.size, 0, none⟩) 1 1)).run Tryz.prog (w.alloc (.cells #[.int .u8 x] 5)) = .ok (.string ⟨#[UInt8.ofNat x.toNat]⟩) (w.alloc (.cells #[.int .u8 x] 5)) := by
  refine run_string_bytes (P := Tryz.prog) _ _ _ 5 ⟨w.heap.size, 0, none⟩ [UInt8.ofNat x.toNat] 1 Tryz.underlying23 Tryz.underlying5 Tryz.underlying9 ?_
  intro j b hb
  cases j with
  | zero =>
    simp only [List.getElem?_cons_zero, Option.some.injEq] at hb
    subst hb
    rw [u8_nat _ (by omega)]
    have := (Blk.new w 5 #[.int .u8 x]).cell 0
    rw [show (⟨w.heap.size, 0, none⟩ : Addr).add 0 = ⟨w.heap.size, 0, none⟩ from rfl, this, show ((x.toNat : Nat) : Int) = x from by omega]
    rfl
  | succ j => simp at hb
set_option maxRecDepth 100000 in
set_option maxHeartbeats 1000000 in
theorem digits_any (v n : Nat) (hv : v ≤ 99999) (hn : n ≤ 9) (w : World) :
    Calls Tryz.prog 36 #[.int .i64 v, .int .i64 n] w fun e w' => e = .returned (.string (digB v n)) ∧ Below w.heap.size w w' := by
  have hconv := fun (W : World) (x : Int) (h0 : 0 ≤ x) (h1 : x ≤ 255) => conv_one x h0 h1 W
  go_enter Tryz.func36, Tryz.ntmps36
  go_wp2
  go_loopw [0, 5, 7] (fun x s i wr => ∃ (k : Nat), x = .int .i64 ((v / 10 ^ k : Nat) : Int) ∧ s = .string (digB v k) ∧ i = .int .i64 k ∧ k ≤ n ∧ Below w.heap.size w wr) (fun _ _ i _ => n - (intOf i).toNat)
  case atStart => exact ⟨0, by simp, rfl, rfl, by omega, Below.refl _ _⟩
  case round =>
    obtain ⟨k, rfl, rfl, rfl, hk, hb⟩ := hrel
    have hq : v / 10 ^ k ≤ 99999 := Nat.le_trans (Nat.div_le_self _ _) hv
    have hs : Hid (digB v (k + 1) = ⟨(UInt8.ofNat (48 + v / 10 ^ k % 10) :: digL v k).toArray⟩) := rfl
    have hd : Hid (v / 10 ^ (k + 1) = v / 10 ^ k / 10) := by show _ = _; rw [Nat.pow_succ, Nat.div_div_eq_div_mul]
    by_cases hlt : k < n
    · have hS : (digB v k).size ≤ 9 := by rw [digB_size]; omega
      generalize v / 10 ^ k = q at *
      generalize hB : digB v k = S at *
      have HB := Lib.hid hB; clear hB
      have hcv := fun (W : World) => hconv W (48 + (q : Int) % 10) (by omega) (by omega)
      clear hconv
      go_wp2
      go_wp2
      go_roundw
      case rel =>
        refine ⟨k + 1, ?_, ?_, by go_num, by omega, hb.alloc hb.size _⟩
        · rw [hd.out]; go_num
        · rw [hs.out]
          have := HB.out
          subst this
          unfold digB
          simp only [Value.string.injEq]
          apply ByteArray.ext; simp
      case measure => simp [intOf] <;> omega
    · obtain rfl : k = n := by omega
      go_wp2
      go_ret
      exact ⟨rfl, hb⟩
end Go.Proofs.YtjhaccmcjlbllaaGreatDoor.Dt
/-
  days of a month, a month's name, walked month by month.
-/
namespace Go.Proofs.YtjhaccmcjlbllaaGreatDoor.Dt
open Go.RowKit
theorem dim_two (y : Int) : dimN y 2 = if leapN y then 29 else 28 := by unfold dimN; rw [if_pos rfl]
theorem dim_long (y m : Int) (h : m = 1 ∨ m = 3 ∨ m = 5 ∨ m = 7 ∨ m = 8 ∨ m = 10 ∨ m = 12) : dimN y m = 31 := by unfold dimN; rw [if_neg (by omega), if_neg (by omega)]
theorem dim_short (y m : Int) (h : m = 4 ∨ m = 6 ∨ m = 9 ∨ m = 11) : dimN y m = 30 := by unfold dimN; rw [if_neg (by omega), if_pos (by omega)]
theorem idxD1 (w : World) : (Instr.index 108 (.agg #[.int .i64 0, .int .i64 31, .int .i64 28, .int .i64 31, .int .i64 30, .int .i64 31, .int .i64 30, .int .i64 31, .int .i64 31, .int .i64 30, .int .i64 31, .int .i64 30, .int .i64 31]) (.int .i64 1)).run Tryz.prog w = .ok (.int .i64 31) w := by kernel_rfl
theorem idxM1 (w : World) : (Instr.index 109 (.agg #[.string ⟨#[]⟩, .string ⟨#[74, 97, 110]⟩, .string ⟨#[70, 101, 98]⟩, .string ⟨#[77, 97, 114]⟩, .string ⟨#[65, 112, 114]⟩, .string ⟨#[77, 97, 121]⟩, .string ⟨#[74, 117, 110]⟩, .string ⟨#[74, 117, 108]⟩, .string ⟨#[65, 117, 103]⟩, .string ⟨#[83, 101, 112]⟩, .string ⟨#[79, 99, 116]⟩, .string ⟨#[78, 111, 118]⟩, .string ⟨#[68, 101, 99]⟩]) (.int .i64 1)).run Tryz.prog w = .ok (.string ⟨#[74, 97, 110]⟩) w := by kernel_rfl
theorem idxD2 (w : World) : (Instr.index 108 (.agg #[.int .i64 0, .int .i64 31, .int .i64 28, .int .i64 31, .int .i64 30, .int .i64 31, .int .i64 30, .int .i64 31, .int .i64 31, .int .i64 30, .int .i64 31, .int .i64 30, .int .i64 31]) (.int .i64 2)).run Tryz.prog w = .ok (.int .i64 28) w := by kernel_rfl
theorem idxM2 (w : World) : (Instr.index 109 (.agg #[.string ⟨#[]⟩, .string ⟨#[74, 97, 110]⟩, .string ⟨#[70, 101, 98]⟩, .string ⟨#[77, 97, 114]⟩, .string ⟨#[65, 112, 114]⟩, .string ⟨#[77, 97, 121]⟩, .string ⟨#[74, 117, 110]⟩, .string ⟨#[74, 117, 108]⟩, .string ⟨#[65, 117, 103]⟩, .string ⟨#[83, 101, 112]⟩, .string ⟨#[79, 99, 116]⟩, .string ⟨#[78, 111, 118]⟩, .string ⟨#[68, 101, 99]⟩]) (.int .i64 2)).run Tryz.prog w = .ok (.string ⟨#[70, 101, 98]⟩) w := by kernel_rfl
theorem idxD3 (w : World) : (Instr.index 108 (.agg #[.int .i64 0, .int .i64 31, .int .i64 28, .int .i64 31, .int .i64 30, .int .i64 31, .int .i64 30, .int .i64 31, .int .i64 31, .int .i64 30, .int .i64 31, .int .i64 30, .int .i64 31]) (.int .i64 3)).run Tryz.prog w = .ok (.int .i64 31) w := by kernel_rfl
theorem idxM3 (w : World) : (Instr.index 109 (.agg #[.string ⟨#[]⟩, .string ⟨#[74, 97, 110]⟩, .string ⟨#[70, 101, 98]⟩, .string ⟨#[77, 97, 114]⟩, .string ⟨#[65, 112, 114]⟩, .string ⟨#[77, 97, 121]⟩, .string ⟨#[74, 117, 110]⟩, .string ⟨#[74, 117, 108]⟩, .string ⟨#[65, 117, 103]⟩, .string ⟨#[83, 101, 112]⟩, .string ⟨#[79, 99, 116]⟩, .string ⟨#[78, 111, 118]⟩, .string ⟨#[68, 101, 99]⟩]) (.int .i64 3)).run Tryz.prog w = .ok (.string ⟨#[77, 97, 114]⟩) w := by kernel_rfl
theorem idxD4 (w : World) : (Instr.index 108 (.agg #[.int .i64 0, .int .i64 31, .int .i64 28, .int .i64 31, .int .i64 30, .int .i64 31, .int .i64 30, .int .i64 31, .int .i64 31, .int .i64 30, .int .i64 31, .int .i64 30, .int .i64 31]) (.int .i64 4)).run Tryz.prog w = .ok (.int .i64 30) w := by kernel_rfl
theorem idxM4 (w : World) : (Instr.index 109 (.agg #[.string ⟨#[]⟩, .string ⟨#[74, 97, 110]⟩, .string ⟨#[70, 101, 98]⟩, .string ⟨#[77, 97, 114]⟩, .string ⟨#[65, 112, 114]⟩, .string ⟨#[77, 97, 121]⟩, .string ⟨#[74, 117, 110]⟩, .string ⟨#[74, 117, 108]⟩, .string ⟨#[65, 117, 103]⟩, .string ⟨#[83, 101, 112]⟩, .string ⟨#[79, 99, 116]⟩, .string ⟨#[78, 111, 118]⟩, .string ⟨#[68, 101, 99]⟩]) (.int .i64 4)).run Tryz.prog w = .ok (.string ⟨#[65, 112, 114]⟩) w := by kernel_rfl
theorem idxD5 (w : World) : (Instr.index 108 (.agg #[.int .i64 0, .int .i64 31, .int .i64 28, .int .i64 31, .int .i64 30, .int .i64 31, .int .i64 30, .int .i64 31, .int .i64 31, .int .i64 30, .int .i64 31, .int .i64 30, .int .i64 31]) (.int .i64 5)).run Tryz.prog w = .ok (.int .i64 31) w := by kernel_rfl
theorem idxM5 (w : World) : (Instr.index 109 (.agg #[.string ⟨#[]⟩, .string ⟨#[74, 97, 110]⟩, .string ⟨#[70, 101, 98]⟩, .string ⟨#[77, 97, 114]⟩, .string ⟨#[65, 112, 114]⟩, .string ⟨#[77, 97, 121]⟩, .string ⟨#[74, 117, 110]⟩, .string ⟨#[74, 117, 108]⟩, .string ⟨#[65, 117, 103]⟩, .string ⟨#[83, 101, 112]⟩, .string ⟨#[79, 99, 116]⟩, .string ⟨#[78, 111, 118]⟩, .string ⟨#[68, 101, 99]⟩]) (.int .i64 5)).run Tryz.prog w = .ok (.string ⟨#[77, 97, 121]⟩) w := by kernel_rfl
theorem idxD6 (w : World) : (Instr.index 108 (.agg #[.int .i64 0, .int .i64 31, .int .i64 28, .int .i64 31, .int .i64 30, .int .i64 31, .int .i64 30, .int .i64 31, .int .i64 31, .int .i64 30, .int .i64 31, .int .i64 30, .int .i64 31]) (.int .i64 6)).run Tryz.prog w = .ok (.int .i64 30) w := by kernel_rfl
theorem idxM6 (w : World) : (Instr.index 109 (.agg #[.string ⟨#[]⟩, .string ⟨#[74, 97, 110]⟩, .string ⟨#[70, 101, 98]⟩, .string ⟨#[77, 97, 114]⟩, .string ⟨#[65, 112, 114]⟩, .string ⟨#[77, 97, 121]⟩, .string ⟨#[74, 117, 110]⟩, .string ⟨#[74, 117, 108]⟩, .string ⟨#[65, 117, 103]⟩, .string ⟨#[83, 101, 112]⟩, .string ⟨#[79, 99, 116]⟩, .string ⟨#[78, 111, 118]⟩, .string ⟨#[68, 101, 99]⟩]) (.int .i64 6)).run Tryz.prog w = .ok (.string ⟨#[74, 117, 110]⟩) w := by kernel_rfl
theorem idxD7 (w : World) : (Instr.index 108 (.agg #[.int .i64 0, .int .i64 31, .int .i64 28, .int .i64 31, .int .i64 30, .int .i64 31, .int .i64 30, .int .i64 31, .int .i64 31, .int .i64 30, .int .i64 31, .int .i64 30, .int .i64 31]) (.int .i64 7)).run Tryz.prog w = .ok (.int .i64 31) w := by kernel_rfl
theorem idxM7 (w : World) : (Instr.index 109 (.agg #[.string ⟨#[]⟩, .string ⟨#[74, 97, 110]⟩, .string ⟨#[70, 101, 98]⟩, .string ⟨#[77, 97, 114]⟩, .string ⟨#[65, 112, 114]⟩, .string ⟨#[77, 97, 121]⟩, .string ⟨#[74, 117, 110]⟩, .string ⟨#[74, 117, 108]⟩, .string ⟨#[65, 117, 103]⟩, .string ⟨#[83, 101, 112]⟩, .string ⟨#[79, 99, 116]⟩, .string ⟨#[78, 111, 118]⟩, .string ⟨#[68, 101, 99]⟩]) (.int .i64 7)).run Tryz.prog w = .ok (.string ⟨#[74, 117, 108]⟩) w := by kernel_rfl
theorem idxD8 (w : World) : (Instr.index 108 (.agg #[.int .i64 0, .int .i64 31, .int .i64 28, .int .i64 31, .int .i64 30, .int .i64 31, .int .i64 30, .int .i64 31, .int .i64 31, .int .i64 30, .int .i64 31, .int .i64 30, .int .i64 31]) (.int .i64 8)).run Tryz.prog w = .ok (.int .i64 31) w := by kernel_rfl
theorem idxM8 (w : World) : (Instr.index 109 (.agg #[.string ⟨#[]⟩, .string ⟨#[74, 97, 110]⟩, .string ⟨#[70, 101, 98]⟩, .string ⟨#[77, 97, 114]⟩, .string ⟨#[65, 112, 114]⟩, .string ⟨#[77, 97, 121]⟩, .string ⟨#[74, 117, 110]⟩, .string ⟨#[74, 117, 108]⟩, .string ⟨#[65, 117, 103]⟩, .string ⟨#[83, 101, 112]⟩, .string ⟨#[79, 99, 116]⟩, .string ⟨#[78, 111, 118]⟩, .string ⟨#[68, 101, 99]⟩]) (.int .i64 8)).run Tryz.prog w = .ok (.string ⟨#[65, 117, 103]⟩) w := by kernel_rfl
theorem idxD9 (w : World) : (Instr.index 108 (.agg #[.int .i64 0, .int .i64 31, .int .i64 28, .int .i64 31, .int .i64 30, .int .i64 31, .int .i64 30, .int .i64 31, .int .i64 31, .int .i64 30, .int .i64 31, .int .i64 30, .int .i64 31]) (.int .i64 9)).run Tryz.prog w = .ok (.int .i64 30) w := by kernel_rfl
theorem idxM9 (w : World) : (Instr.index 109 (.agg #[.string ⟨#[]⟩, .string ⟨#[74, 97, 110]⟩, .string ⟨#[70, 101, 98]⟩, .string ⟨#[77, 97, 114]⟩, .string ⟨#[65, 112, 114]⟩, .string ⟨#[77, 97, 121]⟩, .string ⟨#[74, 117, 110]⟩, .string ⟨#[74, 117, 108]⟩, .string ⟨#[65, 117, 103]⟩, .string ⟨#[83, 101, 112]⟩, .string ⟨#[79, 99, 116]⟩, .string ⟨#[78, 111, 118]⟩, .string ⟨#[68, 101, 99]⟩]) (.int .i64 9)).run Tryz.prog w = .ok (.string ⟨#[83, 101, 112]⟩) w := by kernel_rfl
theorem idxD10 (w : World) : (Instr.index 108 (.agg #[.int .i64 0, .int .i64 31, .int .i64 28, .int .i64 31, .int .i64 30, .int .i64 31, .int .i64 30, .int .i64 31, .int .i64 31, .int .i64 30, .int .i64 31, .int .i64 30, .int .i64 31]) (.int .i64 10)).run Tryz.prog w = .ok (.int .i64 31) w := by kernel_rfl
theorem idxM10 (w : World) : (Instr.index 109 (.agg #[.string ⟨#[]⟩, .string ⟨#[74, 97, 110]⟩, .string ⟨#[70, 101, 98]⟩, .string ⟨#[77, 97, 114]⟩, .string ⟨#[65, 112, 114]⟩, .string ⟨#[77, 97, 121]⟩, .string ⟨#[74, 117, 110]⟩, .string ⟨#[74, 117, 108]⟩, .string ⟨#[65, 117, 103]⟩, .string ⟨#[83, 101, 112]⟩, .string ⟨#[79, 99, 116]⟩, .string ⟨#[78, 111, 118]⟩, .string ⟨#[68, 101, 99]⟩]) (.int .i64 10)).run Tryz.prog w = .ok (.string ⟨#[79, 99, 116]⟩) w := by kernel_rfl
theorem idxD11 (w : World) : (Instr.index 108 (.agg #[.int .i64 0, .int .i64 31, .int .i64 28, .int .i64 31, .int .i64 30, .int .i64 31, .int .i64 30, .int .i64 31, .int .i64 31, .int .i64 30, .int .i64 31, .int .i64 30, .int .i64 31]) (.int .i64 11)).run Tryz.prog w = .ok (.int .i64 30) w := by kernel_rfl
theorem idxM11 (w : World) : (Instr.index 109 (.agg #[.string ⟨#[]⟩, .string ⟨#[74, 97, 110]⟩, .string ⟨#[70, 101, 98]⟩, .string ⟨#[77, 97, 114]⟩, .string ⟨#[65, 112, 114]⟩, .string ⟨#[77, 97, 121]⟩, .string ⟨#[74, 117, 110]⟩, .string ⟨#[74, 117, 108]⟩, .string ⟨#[65, 117, 103]⟩, .string ⟨#[83, 101, 112]⟩, .string ⟨#[79, 99, 116]⟩, .string ⟨#[78, 111, 118]⟩, .string ⟨#[68, 101, 99]⟩]) (.int .i64 11)).run Tryz.prog w = .ok (.string ⟨#[78, 111, 118]⟩) w := by kernel_rfl
theorem idxD12 (w : World) : (Instr.index 108 (.agg #[.int .i64 0, .int .i64 31, .int .i64 28, .int .i64 31, .int .i64 30, .int .i64 31, .int .i64 30, .int .i64 31, .int .i64 31, .int .i64 30, .int .i64 31, .int .i64 30, .int .i64 31]) (.int .i64 12)).run Tryz.prog w = .ok (.int .i64 31) w := by kernel_rfl
theorem idxM12 (w : World) : (Instr.index 109 (.agg #[.string ⟨#[]⟩, .string ⟨#[74, 97, 110]⟩, .string ⟨#[70, 101, 98]⟩, .string ⟨#[77, 97, 114]⟩, .string ⟨#[65, 112, 114]⟩, .string ⟨#[77, 97, 121]⟩, .string ⟨#[74, 117, 110]⟩, .string ⟨#[74, 117, 108]⟩, .string ⟨#[65, 117, 103]⟩, .string ⟨#[83, 101, 112]⟩, .string ⟨#[79, 99, 116]⟩, .string ⟨#[78, 111, 118]⟩, .string ⟨#[68, 101, 99]⟩]) (.int .i64 12)).run Tryz.prog w = .ok (.string ⟨#[68, 101, 99]⟩) w := by kernel_rfl
set_option maxRecDepth 100000 in
theorem days1 (y : Int) (w : World) : Calls Tryz.prog 35 #[.int .i64 y, .int .i64 1] w fun e w' => e = .returned (.int .i64 (dimN y 1)) ∧ w' = w := by
  have hi := idxD1
  have Hd := Lib.hid (dim_long y 1 (by omega))
  go_enter Tryz.func35, Tryz.ntmps35
  go_wp2
  go_ret
  exact ⟨ret_int Hd.out.symm, rfl⟩
set_option maxRecDepth 100000 in
theorem refMonth1 (w : World) : Calls Tryz.prog 37 #[.int .i64 1] w fun e w' => e = .returned (.string ⟨#[74, 97, 110]⟩) ∧ w' = w := by
  have hi := idxM1
  go_enter Tryz.func37, Tryz.ntmps37
  go_wp2
  go_ret
  exact ⟨rfl, rfl⟩
set_option maxRecDepth 100000 in
theorem month1 (w : World) : Calls Tryz.prog 85 #[.int .i64 1] w fun e w' => e = .returned (.string ⟨#[74, 97, 110]⟩) ∧ w' = w := by
  go_enter Tryz.func85, Tryz.ntmps85
  go_wp2
  go_ret
  exact ⟨rfl, rfl⟩
set_option maxRecDepth 100000 in
set_option maxHeartbeats 1000000 in
theorem days2 (y : Int) (h0 : 0 ≤ y) (h1 : y ≤ 20000) (w : World) : Calls Tryz.prog 35 #[.int .i64 y, .int .i64 2] w fun e w' => e = .returned (.int .i64 (dimN y 2)) ∧ w' = w := by
  have hi := idxD2
  have Hd := Lib.hid (dim_two y)
  rcases Bool.eq_false_or_eq_true (leapN y) with hl | hl
  · go_enter Tryz.func35, Tryz.ntmps35
    go_wp2_with (go_at_call 56; refine (leap_any y h0 h1 _).mono ?_; rintro e w' ⟨rfl, rfl⟩; rw [hl])
    go_ret
    exact ⟨ret_int (by rw [Hd.out, hl]; rfl), rfl⟩
  · go_enter Tryz.func35, Tryz.ntmps35
    go_wp2_with (go_at_call 56; refine (leap_any y h0 h1 _).mono ?_; rintro e w' ⟨rfl, rfl⟩; rw [hl])
    go_ret
    exact ⟨ret_int (by rw [Hd.out, hl]; rfl), rfl⟩
set_option maxRecDepth 100000 in
theorem refMonth2 (w : World) : Calls Tryz.prog 37 #[.int .i64 2] w fun e w' => e = .returned (.string ⟨#[70, 101, 98]⟩) ∧ w' = w := by
  have hi := idxM2
  go_enter Tryz.func37, Tryz.ntmps37
  go_wp2
  go_ret
  exact ⟨rfl, rfl⟩
set_option maxRecDepth 100000 in
theorem month2 (w : World) : Calls Tryz.prog 85 #[.int .i64 2] w fun e w' => e = .returned (.string ⟨#[70, 101, 98]⟩) ∧ w' = w := by
  go_enter Tryz.func85, Tryz.ntmps85
  go_wp2
  go_ret
  exact ⟨rfl, rfl⟩
set_option maxRecDepth 100000 in
theorem days3 (y : Int) (w : World) : Calls Tryz.prog 35 #[.int .i64 y, .int .i64 3] w fun e w' => e = .returned (.int .i64 (dimN y 3)) ∧ w' = w := by
  have hi := idxD3
  have Hd := Lib.hid (dim_long y 3 (by omega))
  go_enter Tryz.func35, Tryz.ntmps35
  go_wp2
  go_ret
  exact ⟨ret_int Hd.out.symm, rfl⟩
set_option maxRecDepth 100000 in
theorem refMonth3 (w : World) : Calls Tryz.prog 37 #[.int .i64 3] w fun e w' => e = .returned (.string ⟨#[77, 97, 114]⟩) ∧ w' = w := by
  have hi := idxM3
  go_enter Tryz.func37, Tryz.ntmps37
  go_wp2
  go_ret
  exact ⟨rfl, rfl⟩
set_option maxRecDepth 100000 in
theorem month3 (w : World) : Calls Tryz.prog 85 #[.int .i64 3] w fun e w' => e = .returned (.string ⟨#[77, 97, 114]⟩) ∧ w' = w := by
  go_enter Tryz.func85, Tryz.ntmps85
  go_wp2
  go_ret
  exact ⟨rfl, rfl⟩
set_option maxRecDepth 100000 in
theorem days4 (y : Int) (w : World) : Calls Tryz.prog 35 #[.int .i64 y, .int .i64 4] w fun e w' => e = .returned (.int .i64 (dimN y 4)) ∧ w' = w := by
  have hi := idxD4
  have Hd := Lib.hid (dim_short y 4 (by omega))
  go_enter Tryz.func35, Tryz.ntmps35
  go_wp2
  go_ret
  exact ⟨ret_int Hd.out.symm, rfl⟩
set_option maxRecDepth 100000 in
theorem refMonth4 (w : World) : Calls Tryz.prog 37 #[.int .i64 4] w fun e w' => e = .returned (.string ⟨#[65, 112, 114]⟩) ∧ w' = w := by
  have hi := idxM4
  go_enter Tryz.func37, Tryz.ntmps37
  go_wp2
  go_ret
  exact ⟨rfl, rfl⟩
set_option maxRecDepth 100000 in
theorem month4 (w : World) : Calls Tryz.prog 85 #[.int .i64 4] w fun e w' => e = .returned (.string ⟨#[65, 112, 114]⟩) ∧ w' = w := by
  go_enter Tryz.func85, Tryz.ntmps85
  go_wp2
  go_ret
  exact ⟨rfl, rfl⟩
set_option maxRecDepth 100000 in
theorem days5 (y : Int) (w : World) : Calls Tryz.prog 35 #[.int .i64 y, .int .i64 5] w fun e w' => e = .returned (.int .i64 (dimN y 5)) ∧ w' = w := by
  have hi := idxD5
  have Hd := Lib.hid (dim_long y 5 (by omega))
  go_enter Tryz.func35, Tryz.ntmps35
  go_wp2
  go_ret
  exact ⟨ret_int Hd.out.symm, rfl⟩
set_option maxRecDepth 100000 in
theorem refMonth5 (w : World) : Calls Tryz.prog 37 #[.int .i64 5] w fun e w' => e = .returned (.string ⟨#[77, 97, 121]⟩) ∧ w' = w := by
  have hi := idxM5
  go_enter Tryz.func37, Tryz.ntmps37
  go_wp2
  go_ret
  exact ⟨rfl, rfl⟩
set_option maxRecDepth 100000 in
theorem month5 (w : World) : Calls Tryz.prog 85 #[.int .i64 5] w fun e w' => e = .returned (.string ⟨#[77, 97, 121]⟩) ∧ w' = w := by
  go_enter Tryz.func85, Tryz.ntmps85
  go_wp2
  go_ret
  exact ⟨rfl, rfl⟩
set_option maxRecDepth 100000 in
theorem days6 (y : Int) (w : World) : Calls Tryz.prog 35 #[.int .i64 y, .int .i64 6] w fun e w' => e = .returned (.int .i64 (dimN y 6)) ∧ w' = w := by
  have hi := idxD6
  have Hd := Lib.hid (dim_short y 6 (by omega))
  go_enter Tryz.func35, Tryz.ntmps35
  go_wp2
  go_ret
  exact ⟨ret_int Hd.out.symm, rfl⟩
set_option maxRecDepth 100000 in
theorem refMonth6 (w : World) : Calls Tryz.prog 37 #[.int .i64 6] w fun e w' => e = .returned (.string ⟨#[74, 117, 110]⟩) ∧ w' = w := by
  have hi := idxM6
  go_enter Tryz.func37, Tryz.ntmps37
  go_wp2
  go_ret
  exact ⟨rfl, rfl⟩
set_option maxRecDepth 100000 in
theorem month6 (w : World) : Calls Tryz.prog 85 #[.int .i64 6] w fun e w' => e = .returned (.string ⟨#[74, 117, 110]⟩) ∧ w' = w := by
  go_enter Tryz.func85, Tryz.ntmps85
  go_wp2
  go_ret
  exact ⟨rfl, rfl⟩
set_option maxRecDepth 100000 in
theorem days7 (y : Int) (w : World) : Calls Tryz.prog 35 #[.int .i64 y, .int .i64 7] w fun e w' => e = .returned (.int .i64 (dimN y 7)) ∧ w' = w := by
  have hi := idxD7
  have Hd := Lib.hid (dim_long y 7 (by omega))
  go_enter Tryz.func35, Tryz.ntmps35
  go_wp2
  go_ret
  exact ⟨ret_int Hd.out.symm, rfl⟩
set_option maxRecDepth 100000 in
theorem refMonth7 (w : World) : Calls Tryz.prog 37 #[.int .i64 7] w fun e w' => e = .returned (.string ⟨#[74, 117, 108]⟩) ∧ w' = w := by
  have hi := idxM7
  go_enter Tryz.func37, Tryz.ntmps37
  go_wp2
  go_ret
  exact ⟨rfl, rfl⟩
set_option maxRecDepth 100000 in
theorem month7 (w : World) : Calls Tryz.prog 85 #[.int .i64 7] w fun e w' => e = .returned (.string ⟨#[74, 117, 108]⟩) ∧ w' = w := by
  go_enter Tryz.func85, Tryz.ntmps85
  go_wp2
  go_ret
  exact ⟨rfl, rfl⟩
set_option maxRecDepth 100000 in
theorem days8 (y : Int) (w : World) : Calls Tryz.prog 35 #[.int .i64 y, .int .i64 8] w fun e w' => e = .returned (.int .i64 (dimN y 8)) ∧ w' = w := by
  have hi := idxD8
  have Hd := Lib.hid (dim_long y 8 (by omega))
  go_enter Tryz.func35, Tryz.ntmps35
  go_wp2
  go_ret
  exact ⟨ret_int Hd.out.symm, rfl⟩
set_option maxRecDepth 100000 in
theorem refMonth8 (w : World) : Calls Tryz.prog 37 #[.int .i64 8] w fun e w' => e = .returned (.string ⟨#[65, 117, 103]⟩) ∧ w' = w := by
  have hi := idxM8
  go_enter Tryz.func37, Tryz.ntmps37
  go_wp2
  go_ret
  exact ⟨rfl, rfl⟩
set_option maxRecDepth 100000 in
theorem month8 (w : World) : Calls Tryz.prog 85 #[.int .i64 8] w fun e w' => e = .returned (.string ⟨#[65, 117, 103]⟩) ∧ w' = w := by
  go_enter Tryz.func85, Tryz.ntmps85
  go_wp2
  go_ret
  exact ⟨rfl, rfl⟩
set_option maxRecDepth 100000 in
theorem days9 (y : Int) (w : World) : Calls Tryz.prog 35 #[.int .i64 y, .int .i64 9] w fun e w' => e = .returned (.int .i64 (dimN y 9)) ∧ w' = w := by
  have hi := idxD9
  have Hd := Lib.hid (dim_short y 9 (by omega))
  go_enter Tryz.func35, Tryz.ntmps35
  go_wp2
  go_ret
  exact ⟨ret_int Hd.out.symm, rfl⟩
set_option maxRecDepth 100000 in
theorem refMonth9 (w : World) : Calls Tryz.prog 37 #[.int .i64 9] w fun e w' => e = .returned (.string ⟨#[83, 101, 112]⟩) ∧ w' = w := by
  have hi := idxM9
  go_enter Tryz.func37, Tryz.ntmps37
  go_wp2
  go_ret
  exact ⟨rfl, rfl⟩
set_option maxRecDepth 100000 in
theorem month9 (w : World) : Calls Tryz.prog 85 #[.int .i64 9] w fun e w' => e = .returned (.string ⟨#[83, 101, 112]⟩) ∧ w' = w := by
  go_enter Tryz.func85, Tryz.ntmps85
  go_wp2
  go_ret
  exact ⟨rfl, rfl⟩
set_option maxRecDepth 100000 in
theorem days10 (y : Int) (w : World) : Calls Tryz.prog 35 #[.int .i64 y, .int .i64 10] w fun e w' => e = .returned (.int .i64 (dimN y 10)) ∧ w' = w := by
  have hi := idxD10
  have Hd := Lib.hid (dim_long y 10 (by omega))
  go_enter Tryz.func35, Tryz.ntmps35
  go_wp2
  go_ret
  exact ⟨ret_int Hd.out.symm, rfl⟩
set_option maxRecDepth 100000 in
theorem refMonth10 (w : World) : Calls Tryz.prog 37 #[.int .i64 10] w fun e w' => e = .returned (.string ⟨#[79, 99, 116]⟩) ∧ w' = w := by
  have hi := idxM10
  go_enter Tryz.func37, Tryz.ntmps37
  go_wp2
  go_ret
  exact ⟨rfl, rfl⟩
set_option maxRecDepth 100000 in
theorem month10 (w : World) : Calls Tryz.prog 85 #[.int .i64 10] w fun e w' => e = .returned (.string ⟨#[79, 99, 116]⟩) ∧ w' = w := by
  go_enter Tryz.func85, Tryz.ntmps85
  go_wp2
  go_ret
  exact ⟨rfl, rfl⟩
set_option maxRecDepth 100000 in
theorem days11 (y : Int) (w : World) : Calls Tryz.prog 35 #[.int .i64 y, .int .i64 11] w fun e w' => e = .returned (.int .i64 (dimN y 11)) ∧ w' = w := by
  have hi := idxD11
  have Hd := Lib.hid (dim_short y 11 (by omega))
  go_enter Tryz.func35, Tryz.ntmps35
  go_wp2
  go_ret
  exact ⟨ret_int Hd.out.symm, rfl⟩
set_option maxRecDepth 100000 in
theorem refMonth11 (w : World) : Calls Tryz.prog 37 #[.int .i64 11] w fun e w' => e = .returned (.string ⟨#[78, 111, 118]⟩) ∧ w' = w := by
  have hi := idxM11
  go_enter Tryz.func37, Tryz.ntmps37
  go_wp2
  go_ret
  exact ⟨rfl, rfl⟩
set_option maxRecDepth 100000 in
theorem month11 (w : World) : Calls Tryz.prog 85 #[.int .i64 11] w fun e w' => e = .returned (.string ⟨#[78, 111, 118]⟩) ∧ w' = w := by
  go_enter Tryz.func85, Tryz.ntmps85
  go_wp2
  go_ret
  exact ⟨rfl, rfl⟩
set_option maxRecDepth 100000 in
theorem days12 (y : Int) (w : World) : Calls Tryz.prog 35 #[.int .i64 y, .int .i64 12] w fun e w' => e = .returned (.int .i64 (dimN y 12)) ∧ w' = w := by
  have hi := idxD12
  have Hd := Lib.hid (dim_long y 12 (by omega))
  go_enter Tryz.func35, Tryz.ntmps35
  go_wp2
  go_ret
  exact ⟨ret_int Hd.out.symm, rfl⟩
set_option maxRecDepth 100000 in
theorem refMonth12 (w : World) : Calls Tryz.prog 37 #[.int .i64 12] w fun e w' => e = .returned (.string ⟨#[68, 101, 99]⟩) ∧ w' = w := by
  have hi := idxM12
  go_enter Tryz.func37, Tryz.ntmps37
  go_wp2
  go_ret
  exact ⟨rfl, rfl⟩
set_option maxRecDepth 100000 in
theorem month12 (w : World) : Calls Tryz.prog 85 #[.int .i64 12] w fun e w' => e = .returned (.string ⟨#[68, 101, 99]⟩) ∧ w' = w := by
  go_enter Tryz.func85, Tryz.ntmps85
  go_wp2
  go_ret
  exact ⟨rfl, rfl⟩
theorem days_any (y m : Int) (h0 : 0 ≤ y) (h1 : y ≤ 20000) (hm1 : 1 ≤ m) (hm2 : m ≤ 12) (w : World) :
    Calls Tryz.prog 35 #[.int .i64 y, .int .i64 m] w fun e w' => e = .returned (.int .i64 (dimN y m)) ∧ w' = w :=
  twelve (P := fun m => Calls Tryz.prog 35 #[.int .i64 y, .int .i64 m] w fun e w' => e = .returned (.int .i64 (dimN y m)) ∧ w' = w) m hm1 hm2 (days1 y w) (days2 y h0 h1 w) (days3 y w) (days4 y w) (days5 y w) (days6 y w) (days7 y w) (days8 y w) (days9 y w) (days10 y w) (days11 y w) (days12 y w)
/-- a month's name -/
def monB (m : Int) : ByteArray := ⟨(([74, 97, 110, 70, 101, 98, 77, 97, 114, 65, 112, 114, 77, 97, 121, 74, 117, 110, 74, 117, 108, 65, 117, 103, 83, 101, 112, 79, 99, 116, 78, 111, 118, 68, 101, 99].drop (3 * (m - 1)).toNat).take 3).toArray⟩
theorem refMonth_any (m : Int) (hm1 : 1 ≤ m) (hm2 : m ≤ 12) (w : World) :
    Calls Tryz.prog 37 #[.int .i64 m] w fun e w' => e = .returned (.string (monB m)) ∧ w' = w :=
  twelve (P := fun m => Calls Tryz.prog 37 #[.int .i64 m] w fun e w' => e = .returned (.string (monB m)) ∧ w' = w) m hm1 hm2 (refMonth1 w) (refMonth2 w) (refMonth3 w) (refMonth4 w) (refMonth5 w) (refMonth6 w) (refMonth7 w) (refMonth8 w) (refMonth9 w) (refMonth10 w) (refMonth11 w) (refMonth12 w)
theorem month_any (m : Int) (hm1 : 1 ≤ m) (hm2 : m ≤ 12) (w : World) :
    Calls Tryz.prog 85 #[.int .i64 m] w fun e w' => e = .returned (.string (monB m)) ∧ w' = w :=
  twelve (P := fun m => Calls Tryz.prog 85 #[.int .i64 m] w fun e w' => e = .returned (.string (monB m)) ∧ w' = w) m hm1 hm2 (month1 w) (month2 w) (month3 w) (month4 w) (month5 w) (month6 w) (month7 w) (month8 w) (month9 w) (month10 w) (month11 w) (month12 w)
end Go.Proofs.YtjhaccmcjlbllaaGreatDoor.Dt
/-
  DERIVED: THE SHELF's CONTRACTS AT THIS DUMP, IN PLAIN WORDS (tools/lay-plain.mjs out of 'TryzShelf.lean', which tools/lay-shelf.mjs wrote): THE SAME DECLARATIONS UNDER THE SAME NAMES: 'import', 'namespace', 'open', 'def', 'theorem' AND NOTHING ELSE: no command of the shelf's: FOR A HAND-IN. Each laying: the table of numbers ('.._ren') and one theorem, a field a fact of the dump's own or the kernel's comparison; each contract: ONE APPLICATION.
-/
namespace Go.Proofs
open Go.Shelf
def Tryz.lays159_ren : Go.Shelf.Ren := ⟨fun | 159 => 201 | 165 => 63 | 166 => 64 | 167 => 195 | 169 => 65 | 230 => 196 | 204 => 222 | 240 => 91 | 241 => 92 | 197 => 116 | 118 => 218 | 168 => 219 | 270 => 220 | 262 => 221 | 276 => 123 | 277 => 124 | 260 => 166 | 242 => 230 | 313 => 231 | 278 => 236 | 274 => 237 | 275 => 238 | n => n, fun | 9 => 9 | 4 => 4 | 3 => 3 | 5 => 5 | 72 => 116 | 0 => 0 | 76 => 120 | 75 => 119 | 107 => 210 | 70 => 114 | 20 => 20 | 37 => 23 | 127 => 144 | 21 => 21 | 105 => 161 | 164 => 169 | 162 => 241 | 203 => 239 | 119 => 217 | 46 => 73 | 139 => 220 | 138 => 219 | 51 => 22 | 160 => 245 | 208 => 254 | 206 => 252 | 80 => 122 | n => n, fun | 13 => 6 | 3 => 2 | 4 => 3 | n => n⟩
theorem Tryz.lays159 : Go.Proofs.Lays.n159 Tryz.prog Tryz.lays159_ren := {
  mixed := by kernel_rfl
  f118 := Tryz.func218.trans (congrArg some (by kernel_rfl))
  f159 := Tryz.func201.trans (congrArg some (by kernel_rfl))
  f165 := Tryz.func63.trans (congrArg some (by kernel_rfl))
  f166 := Tryz.func64.trans (congrArg some (by kernel_rfl))
  f167 := Tryz.func195.trans (congrArg some (by kernel_rfl))
  f168 := Tryz.func219.trans (congrArg some (by kernel_rfl))
  f169 := Tryz.func65.trans (congrArg some (by kernel_rfl))
  f197 := Tryz.func116.trans (congrArg some (by kernel_rfl))
  f204 := Tryz.func222.trans (congrArg some (by kernel_rfl))
  f230 := Tryz.func196.trans (congrArg some (by kernel_rfl))
  f240 := Tryz.func91.trans (congrArg some (by kernel_rfl))
  f241 := Tryz.func92.trans (congrArg some (by kernel_rfl))
  f242 := Tryz.func230.trans (congrArg some (by kernel_rfl))
  f260 := Tryz.func166.trans (congrArg some (by kernel_rfl))
  f262 := Tryz.func221.trans (congrArg some (by kernel_rfl))
  f270 := Tryz.func220.trans (congrArg some (by kernel_rfl))
  f274 := Tryz.func237.trans (congrArg some (by kernel_rfl))
  f275 := Tryz.func238.trans (congrArg some (by kernel_rfl))
  f276 := Tryz.func123.trans (congrArg some (by kernel_rfl))
  f277 := Tryz.func124.trans (congrArg some (by kernel_rfl))
  f278 := Tryz.func236.trans (congrArg some (by kernel_rfl))
  f313 := Tryz.func231.trans (congrArg some (by kernel_rfl))
  t0 := Tryz.underlying0
  a0 := Tryz.isAgg0
  z0 := Tryz.sizeOf0
  v0 := Tryz.zeroValue0
  t3 := Tryz.underlying3
  a3 := Tryz.isAgg3
  z3 := Tryz.sizeOf3
  v3 := Tryz.zeroValue3
  t4 := Tryz.underlying4
  a4 := Tryz.isAgg4
  z4 := Tryz.sizeOf4
  v4 := Tryz.zeroValue4
  t5 := Tryz.underlying5
  a5 := Tryz.isAgg5
  z5 := Tryz.sizeOf5
  v5 := Tryz.zeroValue5
  t9 := Tryz.underlying9
  a9 := Tryz.isAgg9
  z9 := Tryz.sizeOf9
  v9 := Tryz.zeroValue9
  t20 := Tryz.underlying20
  a20 := Tryz.isAgg20
  z20 := Tryz.sizeOf20
  v20 := Tryz.zeroValue20
  t21 := Tryz.underlying21
  a21 := Tryz.isAgg21
  z21 := Tryz.sizeOf21
  v21 := Tryz.zeroValue21
  t37 := Tryz.underlying23
  a37 := Tryz.isAgg23
  z37 := Tryz.sizeOf23
  v37 := Tryz.zeroValue23
  t46 := Tryz.underlying73
  a46 := Tryz.isAgg73
  z46 := Tryz.sizeOf73
  v46 := Tryz.zeroValue73
  t51 := Tryz.underlying22
  a51 := Tryz.isAgg22
  z51 := Tryz.sizeOf22
  v51 := Tryz.zeroValue22
  t70 := Tryz.underlying114
  a70 := Tryz.isAgg114
  z70 := Tryz.sizeOf114
  v70 := Tryz.zeroValue114
  t72 := Tryz.underlying116
  a72 := Tryz.isAgg116
  z72 := Tryz.sizeOf116
  v72 := Tryz.zeroValue116
  t75 := Tryz.underlying119
  a75 := Tryz.isAgg119
  z75 := Tryz.sizeOf119
  v75 := Tryz.zeroValue119
  t76 := Tryz.underlying120
  a76 := Tryz.isAgg120
  z76 := Tryz.sizeOf120
  v76 := Tryz.zeroValue120
  t105 := Tryz.underlying161
  a105 := Tryz.isAgg161
  z105 := Tryz.sizeOf161
  v105 := Tryz.zeroValue161
  t107 := Tryz.underlying210
  a107 := Tryz.isAgg210
  z107 := Tryz.sizeOf210
  v107 := Tryz.zeroValue210
  t119 := Tryz.underlying217
  a119 := Tryz.isAgg217
  z119 := Tryz.sizeOf217
  t127 := Tryz.underlying144
  a127 := Tryz.isAgg144
  z127 := Tryz.sizeOf144
  v127 := Tryz.zeroValue144
  t138 := Tryz.underlying219
  a138 := Tryz.isAgg219
  z138 := Tryz.sizeOf219
  v138 := Tryz.zeroValue219
  t139 := Tryz.underlying220
  a139 := Tryz.isAgg220
  z139 := Tryz.sizeOf220
  v139 := Tryz.zeroValue220
  t160 := Tryz.underlying245
  a160 := Tryz.isAgg245
  z160 := Tryz.sizeOf245
  v160 := Tryz.zeroValue245
  t162 := Tryz.underlying241
  a162 := Tryz.isAgg241
  z162 := Tryz.sizeOf241
  v162 := Tryz.zeroValue241
  t164 := Tryz.underlying169
  a164 := Tryz.isAgg169
  z164 := Tryz.sizeOf169
  v164 := Tryz.zeroValue169
  t203 := Tryz.underlying239
  a203 := Tryz.isAgg239
  z203 := Tryz.sizeOf239
  v203 := Tryz.zeroValue239
  t206 := Tryz.underlying252
  a206 := Tryz.isAgg252
  z206 := Tryz.sizeOf252
  v206 := Tryz.zeroValue252
  t208 := Tryz.underlying254
  a208 := Tryz.isAgg254
  z208 := Tryz.sizeOf254
  v208 := Tryz.zeroValue254
  g3 := by kernel_rfl
  g4 := by kernel_rfl
  g13 := by kernel_rfl }
theorem Tryz.Builder_Extra_159 : Builder.Extra Tryz.prog Tryz.lays159_ren := {
  sizeBuilder := by kernel_rfl
  liesBuilder := by kernel_rfl
  t5 := Tryz.underlying5
  a5 := Tryz.isAgg5
  z5 := Tryz.sizeOf5
  v5 := Tryz.zeroValue5
  infoByte := by kernel_rfl
  cellsByte := by kernel_rfl
  sizeByte := by kernel_rfl
  neB5 := by decide }
open Go.RowKit in
/-- strings.ToLower: "ToLower returns s with all Unicode letters mapped to their lower case.": ON ASCII TEXT OF AT MOST 2^47 BYTES. Below the heap's end the world is as it was: where a letter turns, the call makes a builder and its buffer. (LAID: no walk: one application.) -/
theorem Tryz.strings_ToLower_ascii (s : ByteArray) (w : World) (hs : s.size ≤ 140737488355328) (hascii : ∀ (j : Nat) (b : UInt8), s.data.toList[j]? = some b → b.toNat < 128) :
    Calls Tryz.prog 201 #[.string s] w fun e w' => e = .returned (.string ⟨(Lib.toLowerA s.data.toList).toArray⟩) ∧ Below w.heap.size w w' := Any.strings_ToLower_ascii Tryz.lays159 Tryz.Builder_Extra_159 s w hs hascii
end Go.Proofs
/-
  date.two, number (both), ascii, signs, named, walked.
-/
namespace Go.Proofs.YtjhaccmcjlbllaaGreatDoor.Dt
open Go.RowKit
/-- the digits of 100 to 199, without the first -/
theorem dec_three (v : Nat) (h : v ≤ 99) : Lib.itoa ((100 : Int) + v) = 49 :: digL v 2 := by
  have e : ((100 : Int) + v) = ((100 + v : Nat) : Int) := by omega
  rw [e]
  unfold Lib.itoa
  rw [if_neg (by omega), Int.toNat_natCast]
  unfold Lib.decDigits
  rw [dif_neg (by omega)]
  unfold Lib.decDigits
  rw [dif_neg (by omega)]
  unfold Lib.decDigits
  rw [dif_pos (by omega), show (100 + v) / 10 / 10 = 1 from by omega, show (100 + v) / 10 % 10 = v / 10 % 10 from by omega, show (100 + v) % 10 = v % 10 from by omega]
  simp [digL]
theorem dec_five (v : Nat) (h : v ≤ 9999) : Lib.itoa ((10000 : Int) + v) = 49 :: digL v 4 := by
  have e : ((10000 : Int) + v) = ((10000 + v : Nat) : Int) := by omega
  rw [e]
  unfold Lib.itoa
  rw [if_neg (by omega), Int.toNat_natCast]
  unfold Lib.decDigits
  rw [dif_neg (by omega)]
  unfold Lib.decDigits
  rw [dif_neg (by omega)]
  unfold Lib.decDigits
  rw [dif_neg (by omega)]
  unfold Lib.decDigits
  rw [dif_neg (by omega)]
  unfold Lib.decDigits
  rw [dif_pos (by omega), show (10000 + v) / 10 / 10 / 10 / 10 = 1 from by omega, show (10000 + v) / 10 / 10 / 10 % 10 = v / 1000 % 10 from by omega, show (10000 + v) / 10 / 10 % 10 = v / 100 % 10 from by omega, show (10000 + v) / 10 % 10 = v / 10 % 10 from by omega, show (10000 + v) % 10 = v % 10 from by omega]
  simp [digL]
/-- such a text's second byte on -/
theorem extract_tail (c : UInt8) (l : List UInt8) (n : Nat) (h : l.length + 1 = n) : (⟨(c :: l).toArray⟩ : ByteArray).extract 1 n = ⟨l.toArray⟩ := by
  apply ByteArray.ext
  subst h
  simp
theorem below_grow (w : World) (k : Nat) (os : Array Obj) : Below w.heap.size w (Sort.grow (w.drewN k) os) :=
  ⟨rfl, rfl, rfl, by simp [Sort.grow], fun i hi => by simp [Sort.grow, Array.getElem?_append, hi]⟩
/-- FormatInt(100 + n, 10) and FormatInt(10000 + n, 10) -/
theorem fmt_three (v : Nat) (hv : v ≤ 99) (w : World) (htab : Lib.TabIs Tryz.prog w "internal/strconv.uint64pow10" .u64 Lib.pow10Tab) :
    Calls Tryz.prog 86 #[.int .i64 (100 + (v : Int)), .int .i64 10] w fun e w' => e = .returned (.string ⟨(49 :: digL v 2).toArray⟩) ∧ Below w.heap.size w w' := by
  have hc := Tryz.strconv_FormatInt_10 (100 + (v : Int)) (by omega) (by omega) w htab
  rw [dec_three v hv] at hc
  exact hc.mono fun e w' ⟨he, k, os, hw⟩ => ⟨he, by rw [hw]; exact below_grow w k os⟩
theorem fmt_five (v : Nat) (hv : v ≤ 9999) (w : World) (htab : Lib.TabIs Tryz.prog w "internal/strconv.uint64pow10" .u64 Lib.pow10Tab) :
    Calls Tryz.prog 86 #[.int .i64 (10000 + (v : Int)), .int .i64 10] w fun e w' => e = .returned (.string ⟨(49 :: digL v 4).toArray⟩) ∧ Below w.heap.size w w' := by
  have hc := Tryz.strconv_FormatInt_10 (10000 + (v : Int)) (by omega) (by omega) w htab
  rw [dec_five v hv] at hc
  exact hc.mono fun e w' ⟨he, k, os, hw⟩ => ⟨he, by rw [hw]; exact below_grow w k os⟩
set_option maxHeartbeats 1000000 in
theorem two_any (v : Nat) (hv : v ≤ 99) (w : World) (htab : Lib.TabIs Tryz.prog w "internal/strconv.uint64pow10" .u64 Lib.pow10Tab) :
    Calls Tryz.prog 84 #[.int .i64 v] w fun e w' => e = .returned (.string (digB v 2)) ∧ Below w.heap.size w w' := by
  have Hc := Lib.hid (fmt_three v hv w htab); clear htab
  have hl := digL_length v 2
  have He := Lib.hid (extract_tail 49 (digL v 2) 3 (by omega))
  have HB : Hid (digB v 2 = ⟨(digL v 2).toArray⟩) := rfl
  generalize digL v 2 = L at *
  go_enter Tryz.func84, Tryz.ntmps84
  go_wp2_with fail
  refine Hc.out.mono ?_
  rintro e w1 ⟨rfl, hb⟩
  go_wp2
  go_ret
  exact ⟨ret_str (by rw [HB.out, ← He.out]), hb⟩
end Go.Proofs.YtjhaccmcjlbllaaGreatDoor.Dt
/-
  date.civil, date.since, date.Day, walked.
-/
namespace Go.Proofs.YtjhaccmcjlbllaaGreatDoor.Dt
open Go.RowKit
theorem ret_tup3 {y y' m m' d d' : Int} (h1 : y = y') (h2 : m = m') (h3 : d = d') : Ending.returned (.tuple #[.int .i64 y, .int .i64 m, .int .i64 d]) = .returned (.tuple #[.int .i64 y', .int .i64 m', .int .i64 d']) := by rw [h1, h2, h3]
set_option maxHeartbeats 1000000 in
theorem civil_any (n : Int) (h0 : -719468 ≤ n) (h1 : n ≤ 4000000) (w : World) :
    Calls Tryz.prog 83 #[.int .i64 n] w fun e w' => e = .returned (.tuple #[.int .i64 (civY n), .int .i64 (civM n), .int .i64 (civD n)]) ∧ w' = w := by
  go_enter Tryz.func83, Tryz.ntmps83
  go_upto_region 3 with (fail)
  have bE : 0 ≤ (n + 719468) / 146097 ∧ (n + 719468) / 146097 ≤ 40 := by omega
  have bO : 0 ≤ n + 719468 - (n + 719468) / 146097 * 146097 ∧ n + 719468 - (n + 719468) / 146097 * 146097 < 146097 := by omega
  have eE : Hid (cEra n = (n + 719468) / 146097) := rfl
  have eO : Hid (cOf n = n + 719468 - (n + 719468) / 146097 * 146097) := rfl
  generalize (n + 719468) / 146097 = E at *
  go_upto_region 4 with (fail)
  generalize n + 719468 - E * 146097 = O at *
  have bY : 0 ≤ (O - O / 1460 + O / 36524 - O / 146096) / 365 ∧ (O - O / 1460 + O / 36524 - O / 146096) / 365 ≤ 400 := by omega
  have eY : Hid (cYoe n = (O - O / 1460 + O / 36524 - O / 146096) / 365) := by show _ = _; unfold cYoe; rw [eO.out]
  go_upto_region 5 with (fail)
  generalize (O - O / 1460 + O / 36524 - O / 146096) / 365 = Y at *
  have eD : Hid (cDay n = O - (365 * Y + Y / 4 - Y / 100)) := by show _ = _; unfold cDay; rw [eO.out, eY.out]
  have bD : 0 ≤ O - (365 * Y + Y / 4 - Y / 100) ∧ O - (365 * Y + Y / 4 - Y / 100) ≤ 365 := by have := cDay_bd n; rw [eD.out] at this; exact this
  go_upto_region 6 with (fail)
  generalize O - (365 * Y + Y / 4 - Y / 100) = D at *
  have bM : 0 ≤ (5 * D + 2) / 153 ∧ (5 * D + 2) / 153 ≤ 11 := by omega
  have eM : Hid (cMp n = (5 * D + 2) / 153) := by show _ = _; unfold cMp; rw [eD.out]
  go_upto_region 7 with (fail)
  generalize (5 * D + 2) / 153 = M at *
  have hY : Hid (civY n = if M < 10 then Y + E * 400 else Y + E * 400 + 1) := by show _ = _; unfold civY; rw [eM.out, eY.out, eE.out]
  have hM : Hid (civM n = if M < 10 then M + 3 else M - 9) := by show _ = _; unfold civM; rw [eM.out]
  have hD : Hid (civD n = D - (153 * M + 2) / 5 + 1) := by show _ = _; unfold civD; rw [eM.out, eD.out]
  by_cases hlt : M < 10
  · go_wp2
    go_ret3
    exact ⟨ret_tup3 (by rw [hY.out, if_pos hlt]) (by rw [hM.out, if_pos hlt]) (by rw [hD.out]), rfl⟩
  · go_wp2
    go_ret3
    exact ⟨ret_tup3 (by rw [hY.out, if_neg (by omega)]) (by rw [hM.out, if_neg (by omega)]) (by rw [hD.out]), rfl⟩
theorem since_calc (y' m' d : Int) : y' / 400 * 146097 + (y' - y' / 400 * 400) * 365 + (y' - y' / 400 * 400) / 4 - (y' - y' / 400 * 400) / 100 + ((153 * (m' - 3) + 2) / 5 + d - 1) - 719468 =
    365 * y' + y' / 4 - y' / 100 + y' / 400 + (153 * (m' - 3) + 2) / 5 + d - 1 - 719468 := by omega
set_option maxHeartbeats 1000000 in
theorem since_any (y m d : Int) (h0 : 0 ≤ y) (h2 : m ≤ 2 → 1 ≤ y) (h1 : y ≤ 9999) (hm1 : 1 ≤ m) (hm2 : m ≤ 12) (hd1 : 1 ≤ d) (hd2 : d ≤ 99) (w : World) :
    Calls Tryz.prog 153 #[.int .i64 y, .int .i64 m, .int .i64 d] w fun e w' => e = .returned (.int .i64 (sinceN y m d)) ∧ w' = w := by
  by_cases hm : m ≤ 2
  · have hv : Hid (sinceN y m d = 365 * (y - 1) + (y - 1) / 4 - (y - 1) / 100 + (y - 1) / 400 + (153 * (m + 12 - 3) + 2) / 5 + d - 1 - 719468) := by
      show _ = _; unfold sinceN; simp only [hm, if_true]
    have hc := since_calc (y - 1) (m + 12) d
    rw [← hv.out] at hc
    have Hc := Lib.hid hc; clear hc hv
    go_enter Tryz.func153, Tryz.ntmps153
    go_upto_region 4 with (fail)
    have h3 := h2 hm
    clear h2
    have bY : 0 ≤ y - 1 ∧ y - 1 ≤ 9998 := by omega
    have bM : 13 ≤ m + 12 ∧ m + 12 ≤ 14 := by omega
    generalize y - 1 = Y at *
    generalize m + 12 = M at *
    go_wp2
    go_ret
    exact ⟨ret_int (by rw [← Hc.out]), rfl⟩
  · have hv : Hid (sinceN y m d = 365 * y + y / 4 - y / 100 + y / 400 + (153 * (m - 3) + 2) / 5 + d - 1 - 719468) := by
      show _ = _; unfold sinceN; simp only [hm, if_false]
    have hc := since_calc y m d
    rw [← hv.out] at hc
    have Hc := Lib.hid hc; clear hc hv h2
    go_enter Tryz.func153, Tryz.ntmps153
    go_wp2
    go_ret
    exact ⟨ret_int (by rw [← Hc.out]), rfl⟩
/-- what date.since answers, at the year 0 too -/
def sinceP (y m d : Int) : Int := if y = 0 ∧ m ≤ 2 then (153 * (m + 9) + 2) / 5 + d - 719834 else sinceN y m d
set_option maxHeartbeats 1000000 in
theorem since_zero (m d : Int) (hm1 : 1 ≤ m) (hm2 : m ≤ 2) (hd1 : 1 ≤ d) (hd2 : d ≤ 99) (w : World) :
    Calls Tryz.prog 153 #[.int .i64 0, .int .i64 m, .int .i64 d] w fun e w' => e = .returned (.int .i64 ((153 * (m + 9) + 2) / 5 + d - 719834)) ∧ w' = w := by
  go_enter Tryz.func153, Tryz.ntmps153
  go_wp2
  go_ret
  exact ⟨ret_int (by omega), rfl⟩
theorem since_all (y m d : Int) (h0 : 0 ≤ y) (h1 : y ≤ 9999) (hm1 : 1 ≤ m) (hm2 : m ≤ 12) (hd1 : 1 ≤ d) (hd2 : d ≤ 99) (w : World) :
    Calls Tryz.prog 153 #[.int .i64 y, .int .i64 m, .int .i64 d] w fun e w' => e = .returned (.int .i64 (sinceP y m d)) ∧ w' = w := by
  by_cases hz : y = 0 ∧ m ≤ 2
  · obtain ⟨rfl, hm⟩ := hz
    have e : sinceP 0 m d = (153 * (m + 9) + 2) / 5 + d - 719834 := by unfold sinceP; rw [if_pos ⟨rfl, hm⟩]
    rw [e]
    exact since_zero m d hm1 hm hd1 hd2 w
  · have e : sinceP y m d = sinceN y m d := by unfold sinceP; rw [if_neg hz]
    rw [e]
    exact since_any y m d h0 (by omega) h1 hm1 hm2 hd1 hd2 w
end Go.Proofs.YtjhaccmcjlbllaaGreatDoor.Dt
/-
  cubbyref06.Parse, walked.
-/
namespace Go.Proofs.YtjhaccmcjlbllaaGreatDoor.Dt
open Go.RowKit
theorem since_first : sinceN 1969 1 1 = -365 := by decide
theorem since_year (y : Int) : sinceN (y + 1) 1 1 = sinceN y 1 1 + yearN y := by
  have h4 : y / 4 = (y - 1) / 4 + (if y % 4 = 0 then 1 else 0) := by split <;> omega
  have h100 : y / 100 = (y - 1) / 100 + (if y % 100 = 0 then 1 else 0) := by split <;> omega
  have h400 : y / 400 = (y - 1) / 400 + (if y % 400 = 0 then 1 else 0) := by split <;> omega
  have e : yearN y = 365 + (if y % 4 = 0 then 1 else 0) - (if y % 100 = 0 then 1 else 0) + (if y % 400 = 0 then 1 else 0) := by
    unfold yearN leapN
    by_cases a : y % 4 = 0
    · by_cases b : y % 100 = 0
      · by_cases c : y % 400 = 0 <;> simp [a, b, c]
      · have c : ¬ y % 400 = 0 := by omega
        simp [a, b, c]
    · have b : ¬ y % 100 = 0 := by omega
      have c : ¬ y % 400 = 0 := by omega
      simp [a, b, c]
  rw [e]
  unfold sinceN
  simp only [show (1 : Int) ≤ 2 from by omega, if_true, show y + 1 - 1 = y from by omega]
  omega
theorem since_month (y m : Int) (h1 : 1 ≤ m) (h2 : m ≤ 11) : sinceN y (m + 1) 1 = sinceN y m 1 + dimN y m := by
  have h4 : y / 4 = (y - 1) / 4 + (if y % 4 = 0 then 1 else 0) := by split <;> omega
  have h100 : y / 100 = (y - 1) / 100 + (if y % 100 = 0 then 1 else 0) := by split <;> omega
  have h400 : y / 400 = (y - 1) / 400 + (if y % 400 = 0 then 1 else 0) := by split <;> omega
  have e : dimN y 2 = 28 + (if y % 4 = 0 then 1 else 0) - (if y % 100 = 0 then 1 else 0) + (if y % 400 = 0 then 1 else 0) := by
    unfold dimN leapN
    by_cases a : y % 4 = 0
    · by_cases b : y % 100 = 0
      · by_cases c : y % 400 = 0 <;> simp [a, b, c]
      · have c : ¬ y % 400 = 0 := by omega
        simp [a, b, c]
    · have b : ¬ y % 100 = 0 := by omega
      have c : ¬ y % 400 = 0 := by omega
      simp [a, b, c]
  have hm : m = 1 ∨ m = 2 ∨ m = 3 ∨ m = 4 ∨ m = 5 ∨ m = 6 ∨ m = 7 ∨ m = 8 ∨ m = 9 ∨ m = 10 ∨ m = 11 := by omega
  rcases hm with rfl | rfl | rfl | rfl | rfl | rfl | rfl | rfl | rfl | rfl | rfl
  · unfold sinceN dimN; simp; omega
  · rw [e]; unfold sinceN; simp; omega
  all_goals
    unfold sinceN dimN; simp; omega
theorem since_bd (y m : Int) (h0 : 1969 ≤ y) (h1 : y ≤ 9999) (m0 : 1 ≤ m) (m1 : m ≤ 12) : -365 ≤ sinceN y m 1 ∧ sinceN y m 1 ≤ 4000000 := by
  unfold sinceN
  dsimp only
  split <;> omega
theorem dimN_bd (y m : Int) : 28 ≤ dimN y m ∧ dimN y m ≤ 31 := by
  unfold dimN
  split
  · split <;> omega
  · split <;> omega
theorem since_lin (y m d : Int) : sinceN y m 1 + d - 1 = sinceN y m d := by unfold sinceN; dsimp only; omega
theorem monB_size (m : Int) : (monB m).size ≤ 3 := by
  unfold monB
  show (List.toArray _).size ≤ 3
  simp only [List.size_toArray, List.length_take]
  omega
end Go.Proofs.YtjhaccmcjlbllaaGreatDoor.Dt
/-
  date.Print and cubbyref06.Print, walked.
-/
namespace Go.Proofs.YtjhaccmcjlbllaaGreatDoor.Dt
open Go.RowKit
def dayB (d : Nat) : ByteArray := if d < 10 then (⟨#[32]⟩ : ByteArray) ++ digB d 1 else digB d 2
def textV (y m : Int) (d s : Nat) : ByteArray :=
  dayB d ++ (⟨#[45]⟩ : ByteArray) ++ monB m ++ (⟨#[45]⟩ : ByteArray) ++ digB y.toNat 4 ++ (⟨#[32]⟩ : ByteArray) ++ digB (s / 3600) 2 ++ (⟨#[58]⟩ : ByteArray) ++ digB (s / 60 % 60) 2 ++ (⟨#[58]⟩ : ByteArray) ++ digB (s % 60) 2 ++ (⟨#[32, 43, 48, 48, 48, 48]⟩ : ByteArray)
/-- a time's text -/
def printV (t : Int) : ByteArray :=
  if t < 0 ∨ 253402300799 < t then ⟨#[]⟩ else textV (civY (t / 86400)) (civM (t / 86400)) (civD (t / 86400)).toNat (t % 86400).toNat
theorem below_seq {a b c : World} (h1 : Below a.heap.size a b) (h2 : Below b.heap.size b c) : Below a.heap.size a c := h1.trans (h2.mono h1.size)
theorem digits_two (v : Int) (h0 : 0 ≤ v) (h1 : v ≤ 99999) (w : World) :
    Calls Tryz.prog 36 #[.int .i64 v, .int .i64 2] w fun e w' => e = .returned (.string (digB v.toNat 2)) ∧ Below w.heap.size w w' := by
  obtain ⟨n, rfl⟩ : ∃ n : Nat, v = n := ⟨v.toNat, by omega⟩
  exact digits_any n 2 (by omega) (by omega) w
theorem digits_four (v : Int) (h0 : 0 ≤ v) (h1 : v ≤ 99999) (w : World) :
    Calls Tryz.prog 36 #[.int .i64 v, .int .i64 4] w fun e w' => e = .returned (.string (digB v.toNat 4)) ∧ Below w.heap.size w w' := by
  obtain ⟨n, rfl⟩ : ∃ n : Nat, v = n := ⟨v.toNat, by omega⟩
  exact digits_any n 4 (by omega) (by omega) w
theorem two_int (v : Int) (h0 : 0 ≤ v) (h1 : v ≤ 99) (w : World) (htab : Lib.TabIs Tryz.prog w "internal/strconv.uint64pow10" .u64 Lib.pow10Tab) :
    Calls Tryz.prog 84 #[.int .i64 v] w fun e w' => e = .returned (.string (digB v.toNat 2)) ∧ Below w.heap.size w w' := by
  obtain ⟨n, rfl⟩ : ∃ n : Nat, v = n := ⟨v.toNat, by omega⟩
  exact two_any n (by omega) w htab
theorem digB_two (d : Nat) : digB d 2 = ⟨#[UInt8.ofNat (48 + d / 10 % 10), UInt8.ofNat (48 + d % 10)]⟩ := by simp [digB, digL]
theorem digB_one (d : Nat) : digB d 1 = ⟨#[UInt8.ofNat (48 + d % 10)]⟩ := by simp [digB, digL]
theorem tail_two (d : Nat) : (digB d 2).extract 1 2 = digB d 1 := by rw [digB_two, digB_one]; rfl
theorem head_two (d : Nat) (hd : d ≤ 99) (hp : 0 < (digB d 2).size) : (((digB d 2)[0]'hp).toNat : Int) = 48 + (d : Int) / 10 := by
  have e : (digB d 2)[0]'hp = UInt8.ofNat (48 + d / 10 % 10) := by
    simp only [digB_two]; rfl
  rw [e, u8_nat _ (by omega)]
  omega
theorem since_last (y : Int) : sinceN (y + 1) 1 1 = sinceN y 12 1 + 31 := by
  unfold sinceN; simp; omega
theorem since_hi (y : Int) (h : sinceN y 1 1 ≤ 2932896) : y ≤ 10000 := by
  unfold sinceN at h
  simp at h
  omega
theorem since_pos (y : Int) (h : 1970 ≤ y) : 0 ≤ sinceN y 1 1 := by
  unfold sinceN; simp; omega
theorem year_pos (y : Int) : 365 ≤ yearN y ∧ yearN y ≤ 366 := by unfold yearN; split <;> omega
/-- the day that the reference's loops come to -/
theorem civ_of (n y m d : Int) (h1 : 1 ≤ m) (h2 : m ≤ 12) (h0 : 0 ≤ d) (hd : d < dimN y m) (he : d + sinceN y m 1 = n) : civY n = y ∧ civM n = m ∧ civD n = d + 1 := by
  have := since_lin y m (d + 1)
  rw [← he, show d + sinceN y m 1 = sinceN y m (d + 1) from by omega]
  exact civ_since y m (d + 1) ⟨h1, h2, by omega, by omega⟩
set_option maxRecDepth 100000 in
set_option maxHeartbeats 4000000 in
theorem refPrint_any (t : Int) (w : World) (hl : -9223372036854775808 ≤ t) (hh : t ≤ 9223372036854775807) :
    Calls Tryz.prog 13 #[.int .i64 t] w fun e w' => e = .returned (.string (printV t)) ∧ Below w.heap.size w w' := by
  by_cases hr : t < 0 ∨ 253402300799 < t
  · have Hv : Hid (printV t = ⟨#[]⟩) := by show printV t = _; unfold printV; rw [if_pos hr]
    go_enter Tryz.func13, Tryz.ntmps13
    go_wp2
    all_goals
      go_ret
      exact ⟨ret_str Hv.out.symm, Below.refl _ _⟩
  · have Hv : Hid (printV t = textV (civY (t / 86400)) (civM (t / 86400)) (civD (t / 86400)).toNat (t % 86400).toNat) := by show printV t = _; unfold printV; rw [if_neg hr]
    obtain ⟨t0, t1⟩ : 0 ≤ t ∧ t ≤ 253402300799 := by omega
    clear hr
    go_enter Tryz.func13, Tryz.ntmps13
    go_wp2
    have hn0 : 0 ≤ t / 86400 := by omega
    have hn1 : t / 86400 ≤ 2932896 := by omega
    have hs0 : 0 ≤ t % 86400 := by omega
    have hs1 : t % 86400 ≤ 86399 := by omega
    generalize t / 86400 = n at *
    generalize t % 86400 = S at *
    go_loop [3, 5] (fun d y => ∃ (a b : Int), d = .int .i64 a ∧ y = .int .i64 b ∧ a + sinceN b 1 1 = n ∧ 0 ≤ a ∧ a ≤ 2932896 ∧ 1970 ≤ b) (fun d _ => (intOf d).toNat)
    case atStart => exact ⟨n, 1970, rfl, rfl, by rw [show sinceN 1970 1 1 = 0 from by decide]; omega, hn0, hn1, by omega⟩
    case round =>
      obtain ⟨a, b, rfl, rfl, hab, ha, ha1, hb⟩ := hrel
      have hb1 := since_hi b (by omega)
      have hyp := year_pos b
      have hsy := since_year b
      have Hy := Lib.hid (fun W : World => year_any b (by omega) (by omega) W)
      by_cases hlt : yearN b ≤ a
      · have Hsy := Lib.hid hsy; clear hsy
        have Hab := Lib.hid hab; clear hab
        generalize yearN b = Y at *
        go_wp2_with (go_at_call 34; refine (Hy.out _).mono ?_; rintro e w' ⟨rfl, rfl⟩)
        go_round
        case rel => exact ⟨a - Y, b + 1, rfl, by go_num, by have h1 := Hsy.out; have h2 := Hab.out; omega, by omega, by omega, by omega⟩
        case measure => simp [intOf] <;> omega
      · have h12 := since_last b
        have hend : a + sinceN b 1 1 < sinceN b 12 1 + 31 := by omega
        have hlt' : a < yearN b := by omega
        clear hsy h12 hlt
        have Hend := Lib.hid hend; clear hend
        have Hab := Lib.hid hab; clear hab
        generalize yearN b = Y at *
        go_wp2_with (go_at_call 34; refine (Hy.out _).mono ?_; rintro e w' ⟨rfl, rfl⟩)
        clear Hy
        go_loop [3, 6] (fun d m => ∃ (a q : Int), d = .int .i64 a ∧ m = .int .i64 q ∧ Hid (a + sinceN b q 1 = n) ∧ 0 ≤ a ∧ a ≤ 366 ∧ 1 ≤ q ∧ q ≤ 12) (fun d _ => (intOf d).toNat)
        case atStart => exact ⟨a, 1, rfl, rfl, Hab, ha, by omega, by omega, by omega⟩
        case round =>
          obtain ⟨r, q, rfl, rfl, hrq, hr0, hr1, hq0, hq1⟩ := hrel
          have hdq := dimN_bd b q
          have Hy := Lib.hid (fun W : World => days_any b q (by omega) (by omega) (by omega) (by omega) W)
          by_cases hlt2 : dimN b q ≤ r
          · have hq : q ≤ 11 := by
              by_cases e : q = 12
              · subst e
                have e1 : dimN b 12 = 31 := dim_long b 12 (by omega)
                have e2 := hrq.out
                have e3 := Hend.out
                have e4 := Hab.out
                omega
              · omega
            have Hsm := Lib.hid (since_month b q hq0 hq)
            generalize dimN b q = Y2 at *
            go_wp2_with (go_at_call 35; refine (Hy.out _).mono ?_; rintro e w' ⟨rfl, rfl⟩)
            go_round
            case rel => exact ⟨r - Y2, q + 1, rfl, by go_num, by have h1 := Hsm.out; have h2 := hrq.out; show _ = _; omega, by omega, by omega, by omega, by omega⟩
            case measure => simp [intOf] <;> omega
          · have hciv := civ_of n b q r hq0 hq1 hr0 (by omega) hrq.out
            obtain ⟨c1, c2, c3⟩ := hciv
            have hv := Hv.out
            rw [c1, c2, c3] at hv
            clear c1 c2 c3 Hend Hab hrq Hv
            have hd31 : r ≤ 30 := by omega
            generalize dimN b q = Y2 at *
            obtain ⟨D, hD⟩ : ∃ D : Nat, r + 1 = (D : Int) := ⟨(r + 1).toNat, by omega⟩
            rw [hD] at hv
            unfold textV at hv
            rw [Int.toNat_natCast] at hv
            have hsz := digB_size D 2
            have hp0 : 0 < (digB D 2).size := by omega
            have hhd := head_two D (by omega) hp0
            have Htl := Lib.hid (tail_two D)
            by_cases h10 : D < 10
            · have hv2 := hv
              unfold dayB at hv2
              rw [if_pos h10] at hv2
              have Hv := Lib.hid hv2; clear hv hv2
              have hz : ((((digB D 2)[0]'hp0).toNat : Int) == 48) = true := by simp only [beq_iff_eq]; omega
              clear hhd
              go_wp2_with (go_at_call 35; refine (Hy.out _).mono ?_; rintro e w' ⟨rfl, rfl⟩)
              refine (digits_two (D : Int) (by omega) (by omega) _).mono ?_
              rintro e w1 ⟨rfl, hb1⟩
              rw [Int.toNat_natCast]
              have hms := monB_size q
              have Hm := Lib.hid (fun W : World => refMonth_any q hq0 hq1 W)
              go_wp2_with (go_at_call 37; refine (Hm.out _).mono ?_; rintro e w' ⟨rfl, rfl⟩)
              refine (digits_four b (by omega) (by omega) _).mono ?_
              rintro e w2 ⟨rfl, hb2⟩
              have h4 := digB_size b.toNat 4
              generalize digB b.toNat 4 = B4 at *
              go_wp2_with fail
              refine (digits_two (S / 3600) (by omega) (by omega) _).mono ?_
              rintro e w3 ⟨rfl, hb3⟩
              rw [show (S / 3600).toNat = S.toNat / 3600 from by omega]
              have h5 := digB_size (S.toNat / 3600) 2
              generalize digB (S.toNat / 3600) 2 = B5 at *
              go_wp2_with fail
              refine (digits_two (S / 60 % 60) (by omega) (by omega) _).mono ?_
              rintro e w4 ⟨rfl, hb4⟩
              rw [show (S / 60 % 60).toNat = S.toNat / 60 % 60 from by omega]
              have h6 := digB_size (S.toNat / 60 % 60) 2
              generalize digB (S.toNat / 60 % 60) 2 = B6 at *
              go_wp2_with fail
              refine (digits_two (S % 60) (by omega) (by omega) _).mono ?_
              rintro e w5 ⟨rfl, hb5⟩
              rw [show (S % 60).toNat = S.toNat % 60 from by omega]
              have h7 := digB_size (S.toNat % 60) 2
              generalize digB (S.toNat % 60) 2 = B7 at *
              go_wp2
              go_ret
              exact ⟨ret_str (by rw [Hv.out]; rw [Htl.out]), below_seq (below_seq (below_seq (below_seq hb1 hb2) hb3) hb4) hb5⟩
            · have hv2 := hv
              unfold dayB at hv2
              rw [if_neg h10] at hv2
              have Hv := Lib.hid hv2; clear hv hv2
              have hz : ((((digB D 2)[0]'hp0).toNat : Int) == 48) = false := by simp only [beq_eq_false_iff_ne]; omega
              clear hhd
              go_wp2_with (go_at_call 35; refine (Hy.out _).mono ?_; rintro e w' ⟨rfl, rfl⟩)
              refine (digits_two (D : Int) (by omega) (by omega) _).mono ?_
              rintro e w1 ⟨rfl, hb1⟩
              rw [Int.toNat_natCast]
              have hms := monB_size q
              have Hm := Lib.hid (fun W : World => refMonth_any q hq0 hq1 W)
              go_wp2_with (go_at_call 37; refine (Hm.out _).mono ?_; rintro e w' ⟨rfl, rfl⟩)
              refine (digits_four b (by omega) (by omega) _).mono ?_
              rintro e w2 ⟨rfl, hb2⟩
              have h4 := digB_size b.toNat 4
              generalize digB b.toNat 4 = B4 at *
              go_wp2_with fail
              refine (digits_two (S / 3600) (by omega) (by omega) _).mono ?_
              rintro e w3 ⟨rfl, hb3⟩
              rw [show (S / 3600).toNat = S.toNat / 3600 from by omega]
              have h5 := digB_size (S.toNat / 3600) 2
              generalize digB (S.toNat / 3600) 2 = B5 at *
              go_wp2_with fail
              refine (digits_two (S / 60 % 60) (by omega) (by omega) _).mono ?_
              rintro e w4 ⟨rfl, hb4⟩
              rw [show (S / 60 % 60).toNat = S.toNat / 60 % 60 from by omega]
              have h6 := digB_size (S.toNat / 60 % 60) 2
              generalize digB (S.toNat / 60 % 60) 2 = B6 at *
              go_wp2_with fail
              refine (digits_two (S % 60) (by omega) (by omega) _).mono ?_
              rintro e w5 ⟨rfl, hb5⟩
              rw [show (S % 60).toNat = S.toNat % 60 from by omega]
              have h7 := digB_size (S.toNat % 60) 2
              generalize digB (S.toNat % 60) 2 = B7 at *
              go_wp2
              go_ret
              exact ⟨ret_str (by rw [Hv.out]), below_seq (below_seq (below_seq (below_seq hb1 hb2) hb3) hb4) hb5⟩
end Go.Proofs.YtjhaccmcjlbllaaGreatDoor.Dt
/-
  date.Print, walked.
-/
namespace Go.Proofs.YtjhaccmcjlbllaaGreatDoor.Dt
open Go.RowKit
def fiveB (v : Nat) : ByteArray := ⟨(49 :: digL v 4).toArray⟩
theorem fiveB_size (v : Nat) : (fiveB v).size = 5 := by
  show (49 :: digL v 4).toArray.size = 5
  simp [digL_length]
theorem fiveB_tail (v : Nat) : (fiveB v).extract 1 5 = digB v 4 := extract_tail 49 (digL v 4) 5 (by rw [digL_length])
theorem civ_bd (n : Int) (h0 : 0 ≤ n) (h1 : n ≤ 2932896) : 1970 ≤ civY n ∧ civY n ≤ 9999 ∧ 1 ≤ civM n ∧ civM n ≤ 12 ∧ 1 ≤ civD n ∧ civD n ≤ 31 := by
  have hs := since_civ n
  have hv := civ_valid n
  obtain ⟨v1, v2, v3, v4⟩ := hv
  have hd := (dimN_bd (civY n) (civM n)).2
  generalize civY n = y at *
  generalize civM n = m at *
  generalize civD n = d at *
  unfold sinceN at hs
  dsimp only at hs
  have a0 : 1969 ≤ y := by split at hs <;> omega
  have a1 : 1970 ≤ y := by
    by_cases e : y = 1969
    · subst e; split at hs <;> omega
    · omega
  have a2 : y ≤ 10000 := by split at hs <;> omega
  have a3 : y ≤ 9999 := by
    by_cases e : y = 10000
    · subst e; split at hs <;> omega
    · omega
  omega
theorem month_below (m : Int) (h1 : 1 ≤ m) (h2 : m ≤ 12) (w : World) :
    Calls Tryz.prog 85 #[.int .i64 m] w fun e w' => e = .returned (.string (monB m)) ∧ Below w.heap.size w w' :=
  (month_any m h1 h2 w).mono fun _ _ ⟨a, b⟩ => ⟨a, by rw [b]; exact Below.refl _ _⟩
theorem five_int (y : Int) (h0 : 0 ≤ y) (h1 : y ≤ 9999) (w : World) (htab : Lib.TabIs Tryz.prog w "internal/strconv.uint64pow10" .u64 Lib.pow10Tab) :
    Calls Tryz.prog 86 #[.int .i64 (10000 + y), .int .i64 10] w fun e w' => e = .returned (.string (fiveB y.toNat)) ∧ Below w.heap.size w w' := by
  obtain ⟨n, rfl⟩ : ∃ n : Nat, y = n := ⟨y.toNat, by omega⟩
  exact fmt_five n (by omega) w htab
set_option maxRecDepth 100000 in
set_option maxHeartbeats 4000000 in
theorem print_any (t : Int) (w : World) (hl : -9223372036854775808 ≤ t) (hh : t ≤ 9223372036854775807) (htab : Lib.TabIs Tryz.prog w "internal/strconv.uint64pow10" .u64 Lib.pow10Tab) :
    Calls Tryz.prog 60 #[.int .i64 t] w fun e w' => e = .returned (.string (printV t)) ∧ Below w.heap.size w w' := by
  by_cases hr : t < 0 ∨ 253402300799 < t
  · have Hv : Hid (printV t = ⟨#[]⟩) := by show printV t = _; unfold printV; rw [if_pos hr]
    clear htab
    go_enter Tryz.func60, Tryz.ntmps60
    go_wp2
    all_goals
      go_ret
      exact ⟨ret_str Hv.out.symm, Below.refl _ _⟩
  · have hv : printV t = textV (civY (t / 86400)) (civM (t / 86400)) (civD (t / 86400)).toNat (t % 86400).toNat := by show printV t = _; unfold printV; rw [if_neg hr]
    obtain ⟨t0, t1⟩ : 0 ≤ t ∧ t ≤ 253402300799 := by omega
    clear hr
    have Ht := Lib.hid (Lib.tabBelow_of_tabIs htab); clear htab
    have Hc := Lib.hid (fun W : World => civil_any (t / 86400) (by omega) (by omega) W)
    obtain ⟨y0, y1, m0, m1, d0, d1⟩ := civ_bd (t / 86400) (by omega) (by omega)
    have hS0 : 0 ≤ t % 86400 := by omega
    have hS1 : t % 86400 ≤ 86399 := by omega
    have hn0 : 0 ≤ t / 86400 := by omega
    generalize hY : civY (t / 86400) = Y at *
    generalize hM : civM (t / 86400) = M at *
    generalize hD : civD (t / 86400) = D at *
    clear hY hM hD
    unfold textV at hv
    have Htl := Lib.hid (tail_two D.toNat)
    have hsz := digB_size D.toNat 2
    have hms := monB_size M
    have hf := fiveB_size Y.toNat
    have Hft := Lib.hid (fiveB_tail Y.toNat)
    have h5 := digB_size ((t % 86400) / 3600).toNat 2
    have h6 := digB_size ((t % 86400) % 3600 / 60).toNat 2
    have h7 := digB_size ((t % 86400) % 60).toNat 2
    rw [← Hft.out, show (t % 86400).toNat / 3600 = ((t % 86400) / 3600).toNat from by omega, show (t % 86400).toNat / 60 % 60 = ((t % 86400) % 3600 / 60).toNat from by omega, show (t % 86400).toNat % 60 = ((t % 86400) % 60).toNat from by omega] at hv
    by_cases h10 : D < 10
    · unfold dayB at hv
      rw [if_pos (by omega), ← Htl.out] at hv
      have Hv := Lib.hid hv; clear hv
      go_enter Tryz.func60, Tryz.ntmps60
      go_wp2_with (go_at_call 83; refine (Hc.out _).mono ?_; rintro e w' ⟨rfl, rfl⟩)
      refine (two_int D (by omega) (by omega) _ (Ht.out _ (Below.refl _ _))).mono ?_
      rintro e w1 ⟨rfl, hb1⟩
      generalize t % 86400 = S at *
      go_wp2
      have Ht1 : Hid (Lib.TabBelow Tryz.prog w1.heap.size w1 "internal/strconv.uint64pow10" .u64 Lib.pow10Tab) := fun w2 h2 => Ht.out _ (below_seq hb1 h2)
      refine wp_region_quiet_below (by kernel_rfl) (by kernel_rfl) ?_
      repeat (go_big_quiet_step (first | (go_at_call 85; exact Calls.regrown_of (month_below M m0 m1 _)) | (go_at_call 86; exact Calls.regrown_of (five_int Y (by omega) y1 _ (Ht1.out _ (below_regrown _ _ _)))) | (go_at_call 84; exact Calls.regrown_of (two_int _ (by omega) (by omega) _ (Ht1.out _ (below_regrown _ _ _))))))
      refine wpQuiet_nil ?_
      intro w2 hw2
      have hb2 : Below w1.heap.size w1 w2 := by
        obtain ⟨p, hw2⟩ := hw2
        rw [hw2]; exact below_regrown _ _ _
      clear hw2
      go_wp2
      go_ret
      exact ⟨ret_str (by rw [Hv.out]), below_seq hb1 hb2⟩
    · unfold dayB at hv
      rw [if_neg (by omega)] at hv
      have Hv := Lib.hid hv; clear hv
      go_enter Tryz.func60, Tryz.ntmps60
      go_wp2_with (go_at_call 83; refine (Hc.out _).mono ?_; rintro e w' ⟨rfl, rfl⟩)
      refine (two_int D (by omega) (by omega) _ (Ht.out _ (Below.refl _ _))).mono ?_
      rintro e w1 ⟨rfl, hb1⟩
      generalize t % 86400 = S at *
      go_wp2
      have Ht1 : Hid (Lib.TabBelow Tryz.prog w1.heap.size w1 "internal/strconv.uint64pow10" .u64 Lib.pow10Tab) := fun w2 h2 => Ht.out _ (below_seq hb1 h2)
      refine wp_region_quiet_below (by kernel_rfl) (by kernel_rfl) ?_
      repeat (go_big_quiet_step (first | (go_at_call 85; exact Calls.regrown_of (month_below M m0 m1 _)) | (go_at_call 86; exact Calls.regrown_of (five_int Y (by omega) y1 _ (Ht1.out _ (below_regrown _ _ _)))) | (go_at_call 84; exact Calls.regrown_of (two_int _ (by omega) (by omega) _ (Ht1.out _ (below_regrown _ _ _))))))
      refine wpQuiet_nil ?_
      intro w2 hw2
      have hb2 : Below w1.heap.size w1 w2 := by
        obtain ⟨p, hw2⟩ := hw2
        rw [hw2]; exact below_regrown _ _ _
      clear hw2
      go_wp2
      go_ret
      exact ⟨ret_str (by rw [Hv.out]), below_seq hb1 hb2⟩
end Go.Proofs.YtjhaccmcjlbllaaGreatDoor.Dt
/-
  Walk: fetch.told (printed by gentold.py).
-/
namespace Go.Proofs.YtjhaccmcjlbllaaGreatDoor
open Go.RowKit
set_option linter.unusedSimpArgs false
set_option linter.unusedVariables false
set_option linter.unusedSimpArgs false
set_option linter.unusedVariables false
set_option maxHeartbeats 1600000 in
set_option maxRecDepth 100000 in
theorem fmtIn_small (u : Nat) (hs : u < 100) (w : World) : Calls Tryz.prog 81 #[.int .u64 u, .int .i64 10] w fun e w' => e = .returned (.string ⟨(Lib.decDigits u).toArray⟩) ∧ Below w.heap.size w w' := by
  go_enter Tryz.func81, Tryz.ntmps81
  go_wp2_with fail
  refine (Tryz.internal_strconv_small u hs _).mono ?_
  rintro e w' ⟨rfl, rfl⟩
  go_wp2
  go_ret
  exact ⟨rfl, Below.refl _ _⟩
set_option maxRecDepth 100000 in
theorem fmt_small (u : Nat) (hs : u < 100) (w : World) : Calls Tryz.prog 58 #[.int .u64 u, .int .i64 10] w fun e w' => e = .returned (.string ⟨(Lib.decDigits u).toArray⟩) ∧ Below w.heap.size w w' := by
  go_enter Tryz.func58, Tryz.ntmps58
  go_wp2_with fail
  refine (fmtIn_small u hs _).mono ?_
  rintro e w' ⟨rfl, hb⟩
  go_wp2
  go_ret
  exact ⟨rfl, hb⟩
theorem fmt_all (u : Nat) (hu64 : u < 4294967296) (w : World)
    (htab : Lib.TabIs Tryz.prog w "internal/strconv.uint64pow10" .u64 Lib.pow10Tab) :
    Calls Tryz.prog 58 #[.int .u64 (u : Nat), .int .i64 10] w fun e w' => e = .returned (.string (St (countB 10 u))) ∧ Below w.heap.size w w' := by
  rw [← digits_count 10 u (by omega) (by decide)]
  rcases Nat.eq_zero_or_pos u with rfl | hp
  · exact fmt_small 0 (by decide) w
  · exact fmt_any u hp (by omega) w htab
theorem day_size (d : Nat) : (Dt.dayB d).size ≤ 2 := by
  unfold Dt.dayB
  split
  · rw [ByteArray.size_append, Dt.digB_size]; decide
  · rw [Dt.digB_size]; decide
/-- a time's text, as bytes -/
def dateT (t : Int) : List UInt8 := (Dt.printV t).data.toList
theorem dateT_len (t : Int) : (dateT t).length ≤ 40 := by
  show (Dt.printV t).size ≤ 40
  unfold Dt.printV
  split
  · decide
  · unfold Dt.textV
    have h1 := day_size (Dt.civD (t / 86400)).toNat
    have h2 := Dt.monB_size (Dt.civM (t / 86400))
    simp only [ByteArray.size_append, Dt.digB_size]
    simp only [show (⟨#[45]⟩ : ByteArray).size = 1 from rfl, show (⟨#[32]⟩ : ByteArray).size = 1 from rfl, show (⟨#[58]⟩ : ByteArray).size = 1 from rfl, show (⟨#[32, 43, 48, 48, 48, 48]⟩ : ByteArray).size = 6 from rfl]
    omega
theorem dateT_st (t : Int) : Dt.printV t = St (dateT t) := rfl
theorem headB_len (b : List UInt8) : (headS b).length ≤ b.length ∧ (bodyH b).length ≤ b.length := by
  have h := congrArg List.length (head_body b)
  rw [List.length_append] at h
  omega
theorem litB_len (s : List UInt8) : (litB s).length ≤ s.length + 20 ∧ litB s ≠ [] := by
  have := countB_len 7 s.length
  unfold litB
  refine ⟨?_, by simp⟩
  simp only [List.length_append, List.length_cons, List.length_nil]
  omega
/-- what is told of an item -/
def itemT (u : Nat) (t f : Int) (o : List UInt8) (k : Int) : List UInt8 :=
  if k = 1 then [85, 73, 68, 32] ++ countB 10 u
  else if k = 2 then [70, 76, 65, 71, 83, 32] ++ flagsT f
  else if k = 3 then [73, 78, 84, 69, 82, 78, 65, 76, 68, 65, 84, 69, 32, 34] ++ dateT t ++ [34]
  else if k = 4 then [82, 70, 67, 56, 50, 50, 46, 83, 73, 90, 69, 32] ++ countB 7 o.length
  else if k = 5 then [69, 78, 86, 69, 76, 79, 80, 69, 32] ++ envT o
  else if k = 6 then [66, 79, 68, 89, 91, 93, 32] ++ litB o
  else if k = 7 then [66, 79, 68, 89, 91, 72, 69, 65, 68, 69, 82, 93, 32] ++ litB (headS o)
  else if k = 8 then [66, 79, 68, 89, 91, 84, 69, 88, 84, 93, 32] ++ litB (bodyH o)
  else []
theorem itemT_1 (u : Nat) (t f : Int) (o : List UInt8) : itemT u t f o 1 = [85, 73, 68, 32] ++ countB 10 u := rfl
theorem itemT_2 (u : Nat) (t f : Int) (o : List UInt8) : itemT u t f o 2 = [70, 76, 65, 71, 83, 32] ++ flagsT f := rfl
theorem itemT_3 (u : Nat) (t f : Int) (o : List UInt8) : itemT u t f o 3 = [73, 78, 84, 69, 82, 78, 65, 76, 68, 65, 84, 69, 32, 34] ++ dateT t ++ [34] := rfl
theorem itemT_4 (u : Nat) (t f : Int) (o : List UInt8) : itemT u t f o 4 = [82, 70, 67, 56, 50, 50, 46, 83, 73, 90, 69, 32] ++ countB 7 o.length := rfl
theorem itemT_5 (u : Nat) (t f : Int) (o : List UInt8) : itemT u t f o 5 = [69, 78, 86, 69, 76, 79, 80, 69, 32] ++ envT o := rfl
theorem itemT_6 (u : Nat) (t f : Int) (o : List UInt8) : itemT u t f o 6 = [66, 79, 68, 89, 91, 93, 32] ++ litB o := rfl
theorem itemT_7 (u : Nat) (t f : Int) (o : List UInt8) : itemT u t f o 7 = [66, 79, 68, 89, 91, 72, 69, 65, 68, 69, 82, 93, 32] ++ litB (headS o) := rfl
theorem itemT_8 (u : Nat) (t f : Int) (o : List UInt8) : itemT u t f o 8 = [66, 79, 68, 89, 91, 84, 69, 88, 84, 93, 32] ++ litB (bodyH o) := rfl
theorem itemT_no {u : Nat} {t f : Int} {o : List UInt8} {k : Int} (h : ¬ (k = 1 ∨ k = 2 ∨ k = 3 ∨ k = 4 ∨ k = 5 ∨ k = 6 ∨ k = 7 ∨ k = 8)) : itemT u t f o k = [] := by
  unfold itemT
  simp only [not_or] at h
  simp [h]
theorem flagsT_len (f : Int) : (flagsT f).length ≤ 60 := by
  have := flagsJ_len f 5 (Nat.le_refl _)
  unfold flagsT
  simp only [List.length_append, List.length_cons, List.length_nil]
  omega
theorem itemT_len (u : Nat) (t f : Int) (o : List UInt8) (k : Int) : (itemT u t f o k).length ≤ 10 * o.length + 200 := by
  have h1 := countB_len 10 u
  have h2 := flagsT_len f
  have h3 := dateT_len t
  have h4 := countB_len 7 o.length
  have h5 := envT_len o
  have h6 := litB_len o
  have h7 := litB_len (headS o)
  have h8 := litB_len (bodyH o)
  have h9 := headB_len o
  unfold itemT
  repeat' split
  all_goals (simp only [List.length_append, List.length_cons, List.length_nil]; omega)
theorem itemT_nil {u : Nat} {t f : Int} {o : List UInt8} {k : Int} : itemT u t f o k = [] ↔ ¬ (k = 1 ∨ k = 2 ∨ k = 3 ∨ k = 4 ∨ k = 5 ∨ k = 6 ∨ k = 7 ∨ k = 8) := by
  constructor
  · intro h hk
    rcases hk with rfl | rfl | rfl | rfl | rfl | rfl | rfl | rfl <;> cases h
  · exact itemT_no
set_option maxRecDepth 100000 in
set_option maxHeartbeats 16000000 in
theorem told_any (u : Nat) (t f : Int) (A : Option Addr) (c : Nat) (o : List UInt8) (k : Int) (p : Bool) (m : Int) (w : World) (hm : w.cell? ⟨0, 0, none⟩ = some (.int .i64 m)) (hnc : o.length ≤ c) (hc : c ≤ maxLen) (hn : o.length ≤ 100000) (hu : u < 4294967296) (ht : -9223372036854775808 ≤ t ∧ t ≤ 9223372036854775807) (hr : Reads w w.heap.size 1 A o.length (u8s o)) (htab : Lib.TabIs Tryz.prog w "internal/strconv.uint64pow10" .u64 Lib.pow10Tab) : Calls Tryz.prog 39 #[.agg #[.int .u32 (u : Nat), .int .i64 t, .int .i64 f, .slice A o.length c], .agg #[.int .i64 k, .bool p]] w fun ev w' => ev = .returned (.string (St (itemT u t f o k))) ∧ Below w.heap.size w w' := by
  have HB := Below.refl w.heap.size w
  obtain ⟨n, hon⟩ : ∃ n, o.length = n := ⟨_, rfl⟩
  have hr0 := hr
  rw [hon] at hr hnc
  refine calls_at 75 Tryz.func39 rfl rfl (Nat.le_of_ble_eq_true rfl) ?_
  intro a hA; replace hA := hA.norm
  rw [hon] at hA
  refine wS (wR ?_)
  refine wl_new hA rfl rfl (by decide) (fun ev h => by simp [go_sem, h.get 0 rfl]; try first | exact ⟨rfl, rfl⟩ | rfl) fun w1 a (K1 : Blk _ _ _ _) hz1 hb1 hA => ?_
  replace HB := HB.trans (hb1.mono HB.size)
  refine wl_new hA rfl rfl (by decide) (fun ev h => by simp [go_sem, h.get 1 rfl]; try first | exact ⟨rfl, rfl⟩ | rfl) fun w2 a (K2 : Blk _ _ _ _) hz2 hb2 hA => ?_
  replace K1 := K1.below hb2 K1.lt
  replace HB := HB.trans (hb2.mono HB.size)
  have hm2 : w2.cell? ⟨0, 0, none⟩ = some (.int .i64 m) := (HB.cell (block_lt_of_cell hm)).trans hm
  have ht2 := Lib.tabBelow_of_tabIs htab w2 HB
  have hr2 := (hr.below HB).more HB.size
  revert a; refine wo rfl rfl (by decide) (fun ev e h => by simp [go_sem, h, K1.cell, K2.cell] <;> rfl) ?_; intro a hA
  replace hA := hA.keepN [2, 3]
  refine wN (nT (wS (wS (wR ?_))))
  revert a; (iterate 2 refine wo rfl rfl (by decide) (fun ev e h => by simp [go_sem, h, K1.cell, K2.cell] <;> rfl) ?_); intro a hA
  replace hA := hA.keepN [2, 10]
  refine wN (nT (wB (wS (wR ?_))))
  revert a; (iterate 2 refine wo rfl rfl (by decide) (fun ev e h => by simp [go_sem, h, K1.cell, K2.cell] <;> rfl) ?_); intro a hA
  replace hA := hA.keepN [2, 10, 11]
  refine wN (nT ?_)
  refine wp_if hA 11 _ rfl (fun hq1 => ?yC1) (fun hq1 => ?nC1)
  case yC1 =>
    have hk : k = 1 := by simpa using hq1
    subst hk
    have hJl := countB_len 10 u
    have ku : IntKind.u64.wrap ((u : Nat) : Int) = ((u : Nat) : Int) := IntWalk.u64_in _ (by omega)
    refine wS (wR ?_)
    revert a; (iterate 2 refine wo rfl rfl (by decide) (fun ev e h => by simp [go_sem, h, K1.cell, K2.cell, ku] <;> rfl) ?_); intro a hA
    refine wl_op hA rfl rfl (by decide) (fun ev h => by simp [go_sem, h.get 14 rfl, K1.cell, K2.cell, ku]; try first | exact ⟨rfl, rfl⟩ | rfl) fun a hA => ?_
    refine wl_call hA rfl rfl (by decide) (fun ev h => exec_call Tryz.func58 (by kernel_rfl) rfl (h.f _) (by first | (simp only [mL, h.get 15 rfl, h.c] <;> rfl) | (simp [mL, h.get 15 rfl, h.c, K1.cell, K2.cell, ku] <;> rfl))) (fmt_all u hu _ ht2) ?_
    rintro e w3 ⟨rfl, hb3⟩
    refine ⟨_, rfl, fun a hA => ?_⟩
    obtain ⟨J, hJ⟩ : ∃ J, countB 10 u = J := ⟨_, rfl⟩
    rw [hJ] at hJl hA
    have ka := st_app [85, 73, 68, 32] J
    have kz : ¬ 9223372036854775807 < 4 + J.length := by omega
    revert a; (iterate 2 refine wo rfl rfl (by decide) (fun ev e h => by simp [go_sem, h, ka, kz] <;> rfl) ?_); intro a hA
    replace hA := hA.keepN [4]
    refine wN (nT (wp_ret (rB (rT ?_))))
    refine ret_1 hA 4 rfl rfl ?_
    refine ⟨?_, HB.trans (hb3.mono HB.size)⟩
    rw [itemT_1, hJ]
    rfl
  case nC1 =>
    refine wS (wR ?_)
    revert a; (iterate 2 refine wo rfl rfl (by decide) (fun ev e h => by simp [go_sem, h, K1.cell, K2.cell] <;> rfl) ?_); intro a hA
    replace hA := hA.keepN [2, 10, 18]
    refine wN (nT ?_)
    refine wp_if hA 18 _ rfl (fun hq2 => ?yC2) (fun hq2 => ?nC2)
    case yC2 =>
      have hk : k = 2 := by simpa using hq2
      subst hk
      have hJl := flagsT_len f
      refine wS (wR ?_)
      revert a; (iterate 2 refine wo rfl rfl (by decide) (fun ev e h => by simp [go_sem, h, K1.cell, K2.cell] <;> rfl) ?_); intro a hA
      refine wl_call hA rfl rfl (by decide) (fun ev h => exec_call Tryz.func59 (by kernel_rfl) rfl (h.f _) (by first | (simp only [mL, h.get 21 rfl, h.c] <;> rfl) | (simp [mL, h.get 21 rfl, h.c, K1.cell, K2.cell] <;> rfl))) (flagPrint_any f _) ?_
      rintro e w3 ⟨rfl, hb3⟩
      refine ⟨_, rfl, fun a hA => ?_⟩
      obtain ⟨J, hJ⟩ : ∃ J, flagsT f = J := ⟨_, rfl⟩
      rw [hJ] at hJl hA
      have ka := st_app [70, 76, 65, 71, 83, 32] J
      have kz : ¬ 9223372036854775807 < 6 + J.length := by omega
      revert a; (iterate 2 refine wo rfl rfl (by decide) (fun ev e h => by simp [go_sem, h, ka, kz] <;> rfl) ?_); intro a hA
      replace hA := hA.keepN [4]
      refine wN (nT (wp_ret (rB (rT ?_))))
      refine ret_1 hA 4 rfl rfl ?_
      refine ⟨?_, HB.trans (hb3.mono HB.size)⟩
      rw [itemT_2, hJ]
      rfl
    case nC2 =>
      refine wS (wR ?_)
      revert a; (iterate 2 refine wo rfl rfl (by decide) (fun ev e h => by simp [go_sem, h, K1.cell, K2.cell] <;> rfl) ?_); intro a hA
      replace hA := hA.keepN [2, 10, 24]
      refine wN (nT ?_)
      refine wp_if hA 24 _ rfl (fun hq3 => ?yC3) (fun hq3 => ?nC3)
      case yC3 =>
        have hk : k = 3 := by simpa using hq3
        subst hk
        have hJl := dateT_len t
        refine wS (wR ?_)
        revert a; (iterate 2 refine wo rfl rfl (by decide) (fun ev e h => by simp [go_sem, h, K1.cell, K2.cell] <;> rfl) ?_); intro a hA
        refine wl_call hA rfl rfl (by decide) (fun ev h => exec_call Tryz.func60 (by kernel_rfl) rfl (h.f _) (by first | (simp only [mL, h.get 27 rfl, h.c] <;> rfl) | (simp [mL, h.get 27 rfl, h.c, K1.cell, K2.cell] <;> rfl))) (Dt.print_any t _ ht.1 ht.2 ht2) ?_
        rintro e w3 ⟨rfl, hb3⟩
        refine ⟨_, rfl, fun a hA => ?_⟩
        rw [dateT_st] at hA
        obtain ⟨J, hJ⟩ : ∃ J, dateT t = J := ⟨_, rfl⟩
        rw [hJ] at hJl hA
        have ka := st_app [73, 78, 84, 69, 82, 78, 65, 76, 68, 65, 84, 69, 32, 34] J
        have kz : ¬ 9223372036854775807 < 14 + J.length := by omega
        have kb := st_app ([73, 78, 84, 69, 82, 78, 65, 76, 68, 65, 84, 69, 32, 34] ++ J) [34]
        have kz2 : ¬ 9223372036854775807 < ([73, 78, 84, 69, 82, 78, 65, 76, 68, 65, 84, 69, 32, 34] ++ J).length + 1 := by simp only [List.length_append, List.length_cons, List.length_nil]; omega
        have kz3 : ¬ 9223372036854775807 < 14 + J.length + 1 := by omega
        have kz4 : ¬ 9223372036854775807 < J.length + 1 + 14 := by omega
        revert a; (iterate 3 refine wo rfl rfl (by decide) (fun ev e h => by simp [go_sem, h, ka, kz, kb, kz2, kz3, kz4] <;> rfl) ?_); intro a hA
        replace hA := hA.keepN [4]
        refine wN (nT (wp_ret (rB (rT ?_))))
        refine ret_1 hA 4 rfl rfl ?_
        refine ⟨?_, HB.trans (hb3.mono HB.size)⟩
        rw [itemT_3, hJ]
        first | rfl | simp
      case nC3 =>
        refine wS (wR ?_)
        revert a; (iterate 2 refine wo rfl rfl (by decide) (fun ev e h => by simp [go_sem, h, K1.cell, K2.cell] <;> rfl) ?_); intro a hA
        replace hA := hA.keepN [2, 10, 31]
        refine wN (nT ?_)
        refine wp_if hA 31 _ rfl (fun hq4 => ?yC4) (fun hq4 => ?nC4)
        case yC4 =>
          have hk : k = 4 := by simpa using hq4
          subst hk
          have hJl := countB_len 7 o.length
          refine wS (wR ?_)
          revert a; (iterate 3 refine wo rfl rfl (by decide) (fun ev e h => by simp [go_sem, h, K1.cell, K2.cell] <;> rfl) ?_); intro a hA
          rw [hon] at hJl
          refine wl_call hA rfl rfl (by decide) (fun ev h => exec_call Tryz.func61 (by kernel_rfl) rfl (h.f _) (by first | (simp only [mL, h.get 35 rfl, h.c] <;> rfl) | (simp [mL, h.get 35 rfl, h.c, K1.cell, K2.cell] <;> rfl))) (itoa_any n _ (by omega) ht2) ?_
          rintro e w3 ⟨rfl, hb3⟩
          refine ⟨_, rfl, fun a hA => ?_⟩
          obtain ⟨J, hJ⟩ : ∃ J, countB 7 n = J := ⟨_, rfl⟩
          rw [hJ] at hJl hA
          have ka := st_app [82, 70, 67, 56, 50, 50, 46, 83, 73, 90, 69, 32] J
          have kz : ¬ 9223372036854775807 < 12 + J.length := by omega
          revert a; (iterate 2 refine wo rfl rfl (by decide) (fun ev e h => by simp [go_sem, h, ka, kz] <;> rfl) ?_); intro a hA
          replace hA := hA.keepN [4]
          refine wN (nT (wp_ret (rB (rT ?_))))
          refine ret_1 hA 4 rfl rfl ?_
          refine ⟨?_, HB.trans (hb3.mono HB.size)⟩
          rw [itemT_4, hon, hJ]
          rfl
        case nC4 =>
          refine wS (wR ?_)
          revert a; (iterate 2 refine wo rfl rfl (by decide) (fun ev e h => by simp [go_sem, h, K1.cell, K2.cell] <;> rfl) ?_); intro a hA
          replace hA := hA.keepN [2, 10, 38]
          refine wN (nT ?_)
          refine wp_if hA 38 _ rfl (fun hq5 => ?yC5) (fun hq5 => ?nC5)
          case yC5 =>
            have hk : k = 5 := by simpa using hq5
            subst hk
            have hJl := envT_len o
            refine wS (wR ?_)
            revert a; (iterate 2 refine wo rfl rfl (by decide) (fun ev e h => by simp [go_sem, h, K1.cell, K2.cell] <;> rfl) ?_); intro a hA
            have hce := envelope_any A c o m w2 hm2 (by omega) hc hn (by rw [hon]; exact hr2) ht2
            rw [hon] at hce
            refine wl_call hA rfl rfl (by decide) (fun ev h => exec_call Tryz.func18 (by kernel_rfl) rfl (h.f _) (by first | (simp only [mL, h.get 41 rfl, h.c] <;> rfl) | (simp [mL, h.get 41 rfl, h.c, K1.cell, K2.cell] <;> rfl))) (hce) ?_
            rintro e w3 ⟨rfl, hb3⟩
            refine ⟨_, rfl, fun a hA => ?_⟩
            obtain ⟨J, hJ⟩ : ∃ J, envT o = J := ⟨_, rfl⟩
            rw [hJ] at hJl hA
            have ka := st_app [69, 78, 86, 69, 76, 79, 80, 69, 32] J
            have kz : ¬ 9223372036854775807 < 9 + J.length := by omega
            revert a; (iterate 2 refine wo rfl rfl (by decide) (fun ev e h => by simp [go_sem, h, ka, kz] <;> rfl) ?_); intro a hA
            replace hA := hA.keepN [4]
            refine wN (nT (wp_ret (rB (rT ?_))))
            refine ret_1 hA 4 rfl rfl ?_
            refine ⟨?_, HB.trans (hb3.mono HB.size)⟩
            rw [itemT_5, hJ]
            rfl
          case nC5 =>
            refine wS (wR ?_)
            revert a; (iterate 2 refine wo rfl rfl (by decide) (fun ev e h => by simp [go_sem, h, K1.cell, K2.cell] <;> rfl) ?_); intro a hA
            replace hA := hA.keepN [2, 10, 44]
            refine wN (nT ?_)
            refine wp_if hA 44 _ rfl (fun hq6 => ?yC6) (fun hq6 => ?nC6)
            case yC6 =>
              have hk : k = 6 := by simpa using hq6
              subst hk
              have hJl := (litB_len o).1
              have hcv := conv_reads (n := n) (c := c) (l := o) hon hr2
              refine wS (wR ?_)
              revert a; (iterate 2 refine wo rfl rfl (by decide) (fun ev e h => by simp [go_sem, h, K1.cell, K2.cell, hcv] <;> rfl) ?_); intro a hA
              refine wl_op hA rfl rfl (by decide) (fun ev h => by simp [go_sem, h.get 47 rfl, K1.cell, K2.cell, hcv]; try first | exact ⟨rfl, rfl⟩ | rfl) fun a hA => ?_
              refine wl_call hA rfl rfl (by decide) (fun ev h => exec_call Tryz.func54 (by kernel_rfl) rfl (h.f _) (by first | (simp only [mL, h.get 48 rfl, h.c] <;> rfl) | (simp [mL, h.get 48 rfl, h.c, K1.cell, K2.cell, hcv] <;> rfl))) (fcounted_any o _ (by omega) ht2) ?_
              rintro e w3 ⟨rfl, hb3⟩
              refine ⟨_, rfl, fun a hA => ?_⟩
              obtain ⟨J, hJ⟩ : ∃ J, litB o = J := ⟨_, rfl⟩
              rw [hJ] at hJl hA
              have ka := st_app [66, 79, 68, 89, 91, 93, 32] J
              have kz : ¬ 9223372036854775807 < 7 + J.length := by omega
              revert a; (iterate 2 refine wo rfl rfl (by decide) (fun ev e h => by simp [go_sem, h, ka, kz] <;> rfl) ?_); intro a hA
              replace hA := hA.keepN [4]
              refine wN (nT (wp_ret (rB (rT ?_))))
              refine ret_1 hA 4 rfl rfl ?_
              refine ⟨?_, HB.trans (hb3.mono HB.size)⟩
              rw [itemT_6, hJ]
              rfl
            case nC6 =>
              refine wS (wR ?_)
              revert a; (iterate 2 refine wo rfl rfl (by decide) (fun ev e h => by simp [go_sem, h, K1.cell, K2.cell] <;> rfl) ?_); intro a hA
              replace hA := hA.keepN [2, 10, 51]
              refine wN (nT ?_)
              refine wp_if hA 51 _ rfl (fun hq7 => ?yC7) (fun hq7 => ?nC7)
              case yC7 =>
                have hk : k = 7 := by simpa using hq7
                subst hk
                have hJl := (litB_len (headS o)).1
                have hhl := headB_len o
                refine wS (wR ?_)
                revert a; (iterate 2 refine wo rfl rfl (by decide) (fun ev e h => by simp [go_sem, h, K1.cell, K2.cell] <;> rfl) ?_); intro a hA
                refine wl_call hA rfl rfl (by decide) (fun ev h => exec_call Tryz.func62 (by kernel_rfl) rfl (h.f _) (by first | (simp only [mL, h.get 55 rfl, h.c] <;> rfl) | (simp [mL, h.get 55 rfl, h.c, K1.cell, K2.cell] <;> rfl))) (cut_any A n c o w2 hon hnc hc (by omega) hr2) ?_
                rintro e w4 ⟨v1, v2, rfl, h1, h2, hb4⟩
                refine ⟨_, rfl, fun a hA => ?_⟩
                have ht4 := Lib.tabBelow_of_tabIs ht2 w4 hb4
                replace HB := HB.trans (hb4.mono HB.size)
                obtain ⟨B4, c4, rfl, hrd⟩ := own8_reads h1
                have hcv := conv_reads (n := (headS o).length) (c := c4) (l := headS o) rfl hrd
                revert a; (iterate 5 refine wo rfl rfl (by decide) (fun ev e h => by simp [go_sem, h, hcv] <;> rfl) ?_); intro a hA
                replace hA := hA.keepN [5]
                refine wN (nT (wS (wR ?_)))
                revert a; refine wo rfl rfl (by decide) (fun ev e h => by simp [go_sem, h, hcv] <;> rfl) ?_; intro a hA
                refine wl_op hA rfl rfl (by decide) (fun ev h => by simp [go_sem, h.get 59 rfl, hcv]; try first | exact ⟨rfl, rfl⟩ | rfl) fun a hA => ?_
                refine wl_call hA rfl rfl (by decide) (fun ev h => exec_call Tryz.func54 (by kernel_rfl) rfl (h.f _) (by first | (simp only [mL, h.get 60 rfl, h.c] <;> rfl) | (simp [mL, h.get 60 rfl, h.c, hcv] <;> rfl))) (fcounted_any (headS o) _ (by omega) ht4) ?_
                rintro e w3 ⟨rfl, hb3⟩
                refine ⟨_, rfl, fun a hA => ?_⟩
                obtain ⟨J, hJ⟩ : ∃ J, litB (headS o) = J := ⟨_, rfl⟩
                rw [hJ] at hJl hA
                have ka := st_app [66, 79, 68, 89, 91, 72, 69, 65, 68, 69, 82, 93, 32] J
                have kz : ¬ 9223372036854775807 < 13 + J.length := by omega
                revert a; (iterate 2 refine wo rfl rfl (by decide) (fun ev e h => by simp [go_sem, h, ka, kz] <;> rfl) ?_); intro a hA
                replace hA := hA.keepN [4]
                refine wN (nT (wp_ret (rB (rT ?_))))
                refine ret_1 hA 4 rfl rfl ?_
                refine ⟨?_, HB.trans (hb3.mono HB.size)⟩
                rw [itemT_7, hJ]
                rfl
              case nC7 =>
                refine wS (wR ?_)
                revert a; (iterate 2 refine wo rfl rfl (by decide) (fun ev e h => by simp [go_sem, h, K1.cell, K2.cell] <;> rfl) ?_); intro a hA
                replace hA := hA.keepN [2, 63]
                refine wN (nT ?_)
                refine wp_if hA 63 _ rfl (fun hq8 => ?yC8) (fun hq8 => ?nC8)
                case yC8 =>
                  have hk : k = 8 := by simpa using hq8
                  subst hk
                  have hJl := (litB_len (bodyH o)).1
                  have hhl := headB_len o
                  refine wS (wR ?_)
                  revert a; (iterate 2 refine wo rfl rfl (by decide) (fun ev e h => by simp [go_sem, h, K1.cell, K2.cell] <;> rfl) ?_); intro a hA
                  refine wl_call hA rfl rfl (by decide) (fun ev h => exec_call Tryz.func62 (by kernel_rfl) rfl (h.f _) (by first | (simp only [mL, h.get 67 rfl, h.c] <;> rfl) | (simp [mL, h.get 67 rfl, h.c, K1.cell, K2.cell] <;> rfl))) (cut_any A n c o w2 hon hnc hc (by omega) hr2) ?_
                  rintro e w4 ⟨v1, v2, rfl, h1, h2, hb4⟩
                  refine ⟨_, rfl, fun a hA => ?_⟩
                  have ht4 := Lib.tabBelow_of_tabIs ht2 w4 hb4
                  replace HB := HB.trans (hb4.mono HB.size)
                  obtain ⟨B4, c4, rfl, hrd⟩ := own8_reads h2
                  have hcv := conv_reads (n := (bodyH o).length) (c := c4) (l := bodyH o) rfl hrd
                  revert a; (iterate 5 refine wo rfl rfl (by decide) (fun ev e h => by simp [go_sem, h, hcv] <;> rfl) ?_); intro a hA
                  replace hA := hA.keepN [8]
                  refine wN (nT (wS (wR ?_)))
                  revert a; refine wo rfl rfl (by decide) (fun ev e h => by simp [go_sem, h, hcv] <;> rfl) ?_; intro a hA
                  refine wl_op hA rfl rfl (by decide) (fun ev h => by simp [go_sem, h.get 71 rfl, hcv]; try first | exact ⟨rfl, rfl⟩ | rfl) fun a hA => ?_
                  refine wl_call hA rfl rfl (by decide) (fun ev h => exec_call Tryz.func54 (by kernel_rfl) rfl (h.f _) (by first | (simp only [mL, h.get 72 rfl, h.c] <;> rfl) | (simp [mL, h.get 72 rfl, h.c, hcv] <;> rfl))) (fcounted_any (bodyH o) _ (by omega) ht4) ?_
                  rintro e w3 ⟨rfl, hb3⟩
                  refine ⟨_, rfl, fun a hA => ?_⟩
                  obtain ⟨J, hJ⟩ : ∃ J, litB (bodyH o) = J := ⟨_, rfl⟩
                  rw [hJ] at hJl hA
                  have ka := st_app [66, 79, 68, 89, 91, 84, 69, 88, 84, 93, 32] J
                  have kz : ¬ 9223372036854775807 < 11 + J.length := by omega
                  revert a; (iterate 2 refine wo rfl rfl (by decide) (fun ev e h => by simp [go_sem, h, ka, kz] <;> rfl) ?_); intro a hA
                  replace hA := hA.keepN [4]
                  refine wN (nT (wp_ret (rB (rT ?_))))
                  refine ret_1 hA 4 rfl rfl ?_
                  refine ⟨?_, HB.trans (hb3.mono HB.size)⟩
                  rw [itemT_8, hJ]
                  rfl
                case nC8 =>
                  have hno : itemT u t f o k = [] := itemT_no (by simp at hq1 hq2 hq3 hq4 hq5 hq6 hq7 hq8; omega)
                  refine wp_skip (nB (nT (wS (wR ?_))))
                  revert a; refine wo rfl rfl (by decide) (fun ev e h => by simp [go_sem, h, K1.cell, K2.cell] <;> rfl) ?_; intro a hA
                  replace hA := hA.keepN [4]
                  refine wN (nT (wp_ret ?_))
                  refine ret_1 hA 4 rfl rfl ?_
                  rw [hno]
                  exact ⟨rfl, HB⟩
end Go.Proofs.YtjhaccmcjlbllaaGreatDoor
/-
  Walks: fetch.Print, Marks.
-/
namespace Go.Proofs.YtjhaccmcjlbllaaGreatDoor
open Go.RowKit
set_option linter.unusedSimpArgs false
set_option linter.unusedVariables false
set_option linter.unusedSimpArgs false
set_option linter.unusedVariables false
/-- what is told of items, where something is told -/
def itemsL (u : Nat) (t f : Int) (o : List UInt8) : List ItemI → List (List UInt8)
  | [] => []
  | x :: r => if itemT u t f o x.k = [] then itemsL u t f o r else itemT u t f o x.k :: itemsL u t f o r
theorem itemsL_app (u : Nat) (t f : Int) (o : List UInt8) : ∀ a b : List ItemI, itemsL u t f o (a ++ b) = itemsL u t f o a ++ itemsL u t f o b
  | [], b => rfl
  | x :: a, b => by
    rw [List.cons_append]
    show (if _ then _ else _) = (if _ then _ else _) ++ _
    rw [itemsL_app u t f o a b]
    split
    · rfl
    · rfl
theorem itemsL_take {u : Nat} {t f : Int} {o : List UInt8} {l : List ItemI} {j : Nat} {x : ItemI} (h : l[j]? = some x) : itemsL u t f o (l.take (j + 1)) = if itemT u t f o x.k = [] then itemsL u t f o (l.take j) else itemsL u t f o (l.take j) ++ [itemT u t f o x.k] := by
  rw [List.take_add_one, h, itemsL_app]
  show _ ++ (if _ then _ else _) = _
  split
  · exact List.append_nil _
  · rfl
theorem itemsL_len (u : Nat) (t f : Int) (o : List UInt8) : ∀ l : List ItemI, (itemsL u t f o l).length ≤ l.length
  | [] => Nat.le_refl _
  | x :: r => by
    have := itemsL_len u t f o r
    unfold itemsL
    split <;> simp only [List.length_cons] <;> omega
theorem itemsL_mem (u : Nat) (t f : Int) (o : List UInt8) : ∀ l : List ItemI, ∀ x ∈ itemsL u t f o l, x ≠ [] ∧ x.length ≤ 10 * o.length + 200
  | [], x, h => by cases h
  | y :: r, x, h => by
    unfold itemsL at h
    split at h
    · exact itemsL_mem u t f o r x h
    · rename_i hne
      rcases List.mem_cons.1 h with e | h
      · rw [e]; exact ⟨hne, itemT_len _ _ _ _ _⟩
      · exact itemsL_mem u t f o r x h
theorem itemsJ_len (u : Nat) (t f : Int) (o : List UInt8) (l : List ItemI) : (joinS (itemsL u t f o l)).length ≤ (10 * o.length + 201) * l.length := by
  have h1 := joinS_len (itemsL u t f o l) (10 * o.length + 200) fun x hx => (itemsL_mem u t f o l x hx).2
  have h2 := itemsL_len u t f o l
  exact Nat.le_trans h1 (Nat.mul_le_mul_left _ h2)
/-- what is told of a message -/
def printT (u : Nat) (t f : Int) (o : List UInt8) (l : List ItemI) : List UInt8 := [40] ++ joinS (itemsL u t f o l) ++ [41]
set_option maxRecDepth 100000 in
set_option maxHeartbeats 16000000 in
theorem fprint_any (u : Nat) (t f : Int) (A : Option Addr) (c : Nat) (o : List UInt8) (A2 : Option Addr) (c2 : Nat) (l : List ItemI) (m : Int) (w : World) (hm : w.cell? ⟨0, 0, none⟩ = some (.int .i64 m)) (hnc : o.length ≤ c) (hc : c ≤ maxLen) (hn : o.length ≤ 100000) (hu : u < 4294967296) (ht : -9223372036854775808 ≤ t ∧ t ≤ 9223372036854775807) (hr : Reads w w.heap.size 1 A o.length (u8s o)) (htab : Lib.TabIs Tryz.prog w "internal/strconv.uint64pow10" .u64 Lib.pow10Tab) (hl : RowR itemSh w A2 l) (hll : l.length ≤ 100) : Calls Tryz.prog 16 #[.agg #[.int .u32 (u : Nat), .int .i64 t, .int .i64 f, .slice A o.length c], .slice A2 l.length c2] w fun ev w' => ev = .returned (.string (St (printT u t f o l))) ∧ Below w.heap.size w w' := by
  have HB := Below.refl w.heap.size w
  obtain ⟨n, hon⟩ : ∃ n, o.length = n := ⟨_, rfl⟩
  obtain ⟨q, hlq⟩ : ∃ q, l.length = q := ⟨_, rfl⟩
  refine calls_at 29 Tryz.func16 rfl rfl (Nat.le_of_ble_eq_true rfl) ?_
  intro a hA; replace hA := hA.norm
  rw [hlq, hon] at hA
  refine wS (wR ?_)
  refine wl_new hA rfl rfl (by decide) (fun ev h => by simp [go_sem, h.get 0 rfl]; try first | exact ⟨rfl, rfl⟩ | rfl) fun w1 a (K1 : Blk _ _ _ _) hz1 hb1 hA => ?_
  replace HB := HB.trans (hb1.mono HB.size)
  revert a; refine wo rfl rfl (by decide) (fun ev e h => by simp [go_sem, h] <;> rfl) ?_; intro a hA
  replace hA := hA.keepN [1, 2]
  refine wN (nT (wS (wR ?_)))
  revert a; refine wo rfl rfl (by decide) (fun ev e h => by simp [go_sem, h] <;> rfl) ?_; intro a hA
  replace hA := hA.keepN [1, 2, 5]
  refine wN (nT (wS (wS (wR ?_))))
  revert a; (iterate 3 refine wo rfl rfl (by decide) (fun ev e h => by simp [go_sem, h] <;> rfl) ?_); intro a hA
  replace hA := hA.keepN [2, 5, 9, 10, 11]
  refine wN (nT (wB ?_))
  refine wp_loop_at (fun g a wx => ∃ (j : Nat) (V : Value), j + g = q ∧ OwnR strSh w1.heap.size wx V (itemsL u t f o (l.take j)) ∧ Below w1.heap.size w1 wx ∧ At 29 [(2, .pointer (some ⟨w.heap.size, 0, none⟩)), (5, V), (9, .slice A2 q c2), (10, .int .i64 (q : Nat)), (11, .int .i64 (j : Nat))] a) (q) ?_ ?_
  · exact ⟨0, _, by omega, OwnR.nil _ _, Below.refl _ _, hA⟩
  clear hA
  rintro g a wx ⟨j, V, hjg, ho, HX, hA⟩
  have HW := HB.trans (HX.mono HB.size)
  refine wS (wR ?_)
  revert a; refine wo rfl rfl (by decide) (fun ev e h => by simp [go_sem, h] <;> rfl) ?_; intro a hA
  replace hA := hA.keepN [2, 5, 9, 10, 11, 12]
  refine wN (nT (wS ?_))
  have hjl := itemsJ_len u t f o (l.take j)
  have hjm := itemsL_len u t f o (l.take j)
  have htl : (l.take j).length ≤ q := by rw [List.length_take]; omega
  have hmul : (10 * o.length + 201) * (l.take j).length ≤ (10 * 100000 + 201) * 100 := Nat.mul_le_mul (by omega) (by omega)
  refine wp_if hA 12 _ rfl (fun hq => ?yA) (fun hq => ?nA)
  case nA =>
    have hj5 : j = q := by simp at hq; omega
    subst hj5
    rw [show l.take j = l from by rw [← hlq]; exact List.take_length] at ho hjl hjm
    replace hA := hA.keepN [5]
    refine wp_exit (xT (xT (xB (nT (wS (wR ?_))))))
    revert a; refine wo rfl rfl (by decide) (fun ev e h => by simp [go_sem, h] <;> rfl) ?_; intro a hA
    refine wl_call hA rfl rfl (by decide) (fun ev h => exec_call Tryz.func40 (by kernel_rfl) rfl (h.f _) (by first | (simp only [mL, h.get 25 rfl, h.c] <;> rfl) | (simp [mL, h.get 25 rfl, h.c] <;> rfl))) (strJoin_any ho (by omega) (by rw [← hlq] at hmul; rw [List.take_length] at hmul; omega)) ?_
    rintro e w5 ⟨rfl, hb5⟩
    refine ⟨_, rfl, fun a hA => ?_⟩
    obtain ⟨J, hJ⟩ : ∃ J, joinS (itemsL u t f o l) = J := ⟨_, rfl⟩
    rw [hJ] at hjl hA
    have hjl2 : J.length ≤ 1000000000 := by rw [← hlq] at hmul; rw [List.take_length] at hmul; omega
    have ka := st_app [40] J
    have kb := st_app (40 :: J) [41]
    rw [show [40] ++ J = 40 :: J from rfl] at ka
    have kz1 : ¬ 9223372036854775807 < J.length + 1 := by omega
    have kz2 : ¬ 9223372036854775807 < J.length + 1 + 1 := by omega
    have kz3 : ¬ 9223372036854775807 < 1 + J.length := by omega
    have kz4 : ¬ 9223372036854775807 < 1 + J.length + 1 := by omega
    revert a; (iterate 3 refine wo rfl rfl (by decide) (fun ev e h => by simp [go_sem, h, ka, kb, kz1, kz2, kz3, kz4] <;> rfl) ?_); intro a hA
    replace hA := hA.keepN [4]
    refine wN (nT (wp_ret ?_))
    refine ret_1 hA 4 rfl rfl ?_
    refine ⟨?_, HW.trans (hb5.mono HW.size)⟩
    unfold printT
    rw [hJ]
    rfl
  case yA =>
    have hj5 : j < q := by simp at hq; omega
    have jj0 : (0 : Int) ≤ (j : Int) := by omega
    have jj1 : (j : Int) < q := by omega
    obtain ⟨x, hx⟩ : ∃ x, l[j]? = some x := ⟨_, List.getElem?_eq_getElem (by omega)⟩
    have jw : IntKind.i64.wrap ((j : Int) + 1) = ((j + 1 : Nat) : Int) := IntWalk.i64_in _ (by omega)
    have e := itemsL_take (u := u) (t := t) (f := f) (o := o) hx
    obtain ⟨ad, rfl, hadb, hc0, hc1⟩ := (hl.below HW).cell hx
    have z0 : wx.cell? (ad.add (j * 2)) = some (.int .i64 x.k) := hc0 (.int .i64 x.k) rfl
    have z1 : wx.cell? ⟨(ad.add (j * 2)).block, (ad.add (j * 2)).off + 1, none⟩ = some (.bool x.p) := hc1 1 (.bool x.p) (by decide) rfl
    have K1x := K1.below HX K1.lt
    refine wp_skip (nT ?_)
    refine wp_seq_cut (fun a wx => ∃ V, OwnR strSh w1.heap.size wx V (itemsL u t f o (l.take (j + 1))) ∧ Below w1.heap.size w1 wx ∧ At 29 [(2, .pointer (some ⟨w.heap.size, 0, none⟩)), (5, V), (9, .slice (some ad) q c2), (10, .int .i64 (q : Nat)), (11, .int .i64 (j : Nat))] a) ?jfR ?jrR
    refine wB (wS (wR ?_))
    revert a; (iterate 2 refine wo rfl rfl (by decide) (fun ev e h => by simp [go_sem, h, z0, z1, jj0, jj1] <;> rfl) ?_); intro a hA
    refine wl_local [.int .i64 x.k, .bool x.p] hA rfl rfl (by decide) (fun ev h => by simp [go_sem, z0, z1, jj0, jj1]; try first | exact ⟨rfl, rfl⟩ | rfl) rfl rfl (by rfl) (fun w1 g ev hb h => by simp [go_sem, h.get 7 rfl, h.get 14 rfl, z0, z1, jj0, jj1, setAll, hb.cell, hb.frozen]) fun w2 a (K2 : Blk _ _ _ _) hz2 hb2 hA => ?_
    replace K1x := K1x.below hb2 K1x.lt
    have HX2 := HX.trans (hb2.mono HX.size)
    have HW2 := HW.trans (hb2.mono HW.size)
    replace ho := ho.below hb2
    have hct := told_any u t f A c o x.k x.p m w2 ((HW2.cell (block_lt_of_cell hm)).trans hm) hnc hc hn hu ht ((hr.below HW2).more HW2.size) (Lib.tabBelow_of_tabIs htab w2 HW2)
    rw [hon] at hct
    replace hA := hA.keepN [2, 5, 7, 9, 10, 11]
    refine wN (nT (wS (wR ?_)))
    revert a; (iterate 2 refine wo rfl rfl (by decide) (fun ev e h => by simp [go_sem, h, K1x.cell, K2.cell] <;> rfl) ?_); intro a hA
    refine wl_call hA rfl rfl (by decide) (fun ev h => exec_call Tryz.func39 (by kernel_rfl) rfl (h.f _) (by first | (simp only [mL, h.get 15 rfl, h.get 16 rfl, h.c] <;> rfl) | (simp [mL, h.get 15 rfl, h.get 16 rfl, h.c, K1x.cell, K2.cell] <;> rfl))) (hct) ?_
    rintro e w3 ⟨rfl, hb3⟩
    refine ⟨_, rfl, fun a hA => ?_⟩
    replace HX := HX2.trans (hb3.mono HX2.size)
    replace ho := ho.below hb3
    have hTl := itemT_len u t f o x.k
    obtain ⟨T, hT⟩ : ∃ T, itemT u t f o x.k = T := ⟨_, rfl⟩
    rw [hT] at hA e hTl
    revert a; refine wo rfl rfl (by decide) (fun ev e h => by simp [go_sem, h, K1x.cell, K2.cell] <;> rfl) ?_; intro a hA
    replace hA := hA.keepN [2, 5, 8, 9, 10, 11]
    refine wN (nT (wS (wR ?_)))
    revert a; (iterate 2 refine wo rfl rfl (by decide) (fun ev e h => by simp [go_sem, h, K1x.cell, K2.cell] <;> rfl) ?_); intro a hA
    replace hA := hA.keepN [2, 5, 8, 9, 10, 11, 19]
    refine wN (nT ?_)
    refine wp_if hA 19 _ rfl (fun hq2 => ?yB) (fun hq2 => ?nB)
    case yB =>
      have hT0 : ¬ T = [] := fun h => by rw [h] at hq2; simp at hq2
      rw [if_neg hT0] at e
      refine wR ?_
      revert a; (iterate 2 refine wo rfl rfl (by decide) (fun ev e h => by simp [go_sem, h, K1x.cell, K2.cell] <;> rfl) ?_); intro a hA
      refine wl_new hA rfl rfl (by decide) (fun ev h => by simp [go_sem, h.get 21 rfl, K1x.cell, K2.cell]; try first | exact ⟨rfl, rfl⟩ | rfl) fun w5 a (K5 : Blk _ _ _ _) hz5 hb5 hA => ?_
      replace ho := ho.below hb5
      have HX5 := HX.trans (hb5.mono HX.size)
      have hrow : RowR strSh w5 _ [T] := rowR_blk (s := strSh) (x := T) K5 (fun p hp => (by cases hp))
      obtain ⟨r, w6, hrun, ho6, hg6, -⟩ := run_appR (s := strSh) (c := 1) ho hrow (fun _ _ m _ p hp => (by cases hp)) (by simp <;> omega) HX5.size
      refine wl_op hA rfl rfl (by decide) (fun ev h => exec_append rfl (h.get 20 rfl) (h.get 22 rfl) hrun) fun a hA => ?_
      have HX6 := below_appR HX5 ho hg6 (Nat.le_refl _) HX5.size
      revert a; refine wo rfl rfl (by decide) (fun ev e h => by simp [go_sem, h, K1x.cell, K2.cell] <;> rfl) ?_; intro a hA
      replace hA := hA.keepN [2, 5, 9, 10, 11]
      refine wN (nB (nT ?_))
      rw [e]
      exact ⟨_, ho6, HX6, hA⟩
    case nB =>
      have hT0 : T = [] := by simpa using hq2
      rw [if_pos hT0] at e
      rw [e]
      replace hA := hA.keepN [2, 5, 9, 10, 11]
      refine wp_skip (nB (nT ?_))
      exact ⟨_, ho, HX, hA⟩
    clear hA
    rintro a wx ⟨V, ho, HB, hA⟩
    refine wR ?_
    revert a; (iterate 2 refine wo rfl rfl (by decide) (fun ev e h => by simp [go_sem, h, jw] <;> rfl) ?_); intro a hA
    replace hA := hA.keepN [2, 5, 9, 10, 11]
    refine wN (nT ?_)
    exact ⟨g - 1, by omega, j + 1, V, by omega, ho, HB, hA⟩
/-- whether items mark a message as seen -/
def markB (x : ItemI) : Bool := decide (6 ≤ x.k) && decide (x.k ≤ 8) && !x.p
set_option maxRecDepth 100000 in
set_option maxHeartbeats 16000000 in
theorem marks_any (A2 : Option Addr) (c2 : Nat) (l : List ItemI) (w : World) (hl : RowR itemSh w A2 l) (hll : l.length ≤ 100) : Calls Tryz.prog 17 #[.slice A2 l.length c2] w fun ev w' => ev = .returned (.bool (l.any markB)) ∧ Below w.heap.size w w' := by
  have HB := Below.refl w.heap.size w
  obtain ⟨q, hlq⟩ : ∃ q, l.length = q := ⟨_, rfl⟩
  refine calls_at 25 Tryz.func17 rfl rfl (Nat.le_of_ble_eq_true rfl) ?_
  intro a hA; replace hA := hA.norm
  rw [hlq] at hA
  refine wS (wR ?_)
  revert a; refine wo rfl rfl (by decide) (fun ev e h => by simp [go_sem, h] <;> rfl) ?_; intro a hA
  replace hA := hA.keepN [0]
  refine wN (nT (wS (wS (wR ?_))))
  revert a; (iterate 3 refine wo rfl rfl (by decide) (fun ev e h => by simp [go_sem, h] <;> rfl) ?_); intro a hA
  replace hA := hA.keepN [5, 6, 7]
  refine wN (nT (wB ?_))
  refine wp_loop_at (fun g a wx => ∃ (j : Nat), j + g = q ∧ (l.take j).any markB = false ∧ Below w.heap.size w wx ∧ At 25 [(5, .slice A2 q c2), (6, .int .i64 (q : Nat)), (7, .int .i64 (j : Nat))] a) (q) ?_ ?_
  · exact ⟨0, by omega, rfl, Below.refl _ _, hA⟩
  clear hA
  rintro g a wx ⟨j, hjg, hno, HX, hA⟩
  refine wS (wR ?_)
  revert a; refine wo rfl rfl (by decide) (fun ev e h => by simp [go_sem, h] <;> rfl) ?_; intro a hA
  replace hA := hA.keepN [5, 6, 7, 8]
  refine wN (nT (wS ?_))
  refine wp_if hA 8 _ rfl (fun hq => ?yA) (fun hq => ?nA)
  case nA =>
    have hj5 : j = q := by simp at hq; omega
    subst hj5
    rw [show l.take j = l from by rw [← hlq]; exact List.take_length] at hno
    replace hA := hA.keepN []
    refine wp_exit (xT (xT (xB (nT (wS (wR ?_))))))
    revert a; refine wo rfl rfl (by decide) (fun ev e h => by simp [go_sem, h] <;> rfl) ?_; intro a hA
    replace hA := hA.keepN [2]
    refine wN (nT (wp_ret ?_))
    refine ret_1 hA 2 rfl rfl ?_
    exact ⟨by rw [hno], HX⟩
  case yA =>
    have hj5 : j < q := by simp at hq; omega
    have jj0 : (0 : Int) ≤ (j : Int) := by omega
    have jj1 : (j : Int) < q := by omega
    obtain ⟨x, hx⟩ : ∃ x, l[j]? = some x := ⟨_, List.getElem?_eq_getElem (by omega)⟩
    have jw : IntKind.i64.wrap ((j : Int) + 1) = ((j + 1 : Nat) : Int) := IntWalk.i64_in _ (by omega)
    obtain ⟨ad, rfl, hadb, hc0, hc1⟩ := (hl.below HX).cell hx
    have z0 : wx.cell? (ad.add (j * 2)) = some (.int .i64 x.k) := hc0 (.int .i64 x.k) rfl
    have z1 : wx.cell? ⟨(ad.add (j * 2)).block, (ad.add (j * 2)).off + 1, none⟩ = some (.bool x.p) := hc1 1 (.bool x.p) (by decide) rfl
    refine wp_skip (nT (wS (wB (wS (wR ?_)))))
    revert a; (iterate 2 refine wo rfl rfl (by decide) (fun ev e h => by simp [go_sem, h, z0, z1, jj0, jj1] <;> rfl) ?_); intro a hA
    refine wl_local [.int .i64 x.k, .bool x.p] hA rfl rfl (by decide) (fun ev h => by simp [go_sem, z0, z1, jj0, jj1]; try first | exact ⟨rfl, rfl⟩ | rfl) rfl rfl (by rfl) (fun w1 g ev hb h => by simp [go_sem, h.get 4 rfl, h.get 10 rfl, z0, z1, jj0, jj1, setAll, hb.cell, hb.frozen]) fun w2 a (K2 : Blk _ _ _ _) hz2 hb2 hA => ?_
    replace HX := HX.trans (hb2.mono HX.size)
    replace hA := hA.keepN [4, 5, 6, 7]
    refine wN (nT (wS (wR ?_)))
    revert a; (iterate 4 refine wo rfl rfl (by decide) (fun ev e h => by simp [go_sem, h, K2.cell, jw] <;> rfl) ?_); (iterate 3 refine wg _ rfl rfl rfl rfl (by decide) (fun hq ev e h => by simp [go_sem, h, ↓gw_t (beq_t hq), K2.cell, jw] <;> rfl) ?_); refine wka rfl rfl (by decide) rfl rfl rfl ?_; refine wo rfl rfl (by decide) (fun ev e h => by simp [go_sem, h, K2.cell, jw] <;> rfl) ?_; refine wg _ rfl rfl rfl rfl (by decide) (fun hq ev e h => by simp [go_sem, h, ↓gw_t (beq_t hq), K2.cell, jw] <;> rfl) ?_; intro a hA
    replace hA := hA.keepN [5, 6, 7, 19, 20]
    revert a; (iterate 2 refine wg _ rfl rfl rfl rfl (by decide) (fun hq ev e h => by simp [go_sem, h, ↓gw_t (beq_t hq), K2.cell, jw] <;> rfl) ?_); refine wka rfl rfl (by decide) rfl rfl rfl ?_; intro a hA
    replace hA := hA.keepN [5, 6, 7, 23]
    refine wN (nT ?_)
    refine wp_if hA 23 _ rfl (fun hq2 => ?yB) (fun hq2 => ?nB)
    case yB =>
      have hb : markB x = true := hq2
      refine wS (wR ?_)
      revert a; refine wo rfl rfl (by decide) (fun ev e h => by simp [go_sem, h, K2.cell, jw] <;> rfl) ?_; intro a hA
      replace hA := hA.keepN [2]
      refine wN (nT (wp_ret (rB (rT (rT (rB (rT ?_)))))))
      refine ret_1 hA 2 rfl rfl ?_
      refine ⟨?_, HX⟩
      rw [List.any_eq_true.2 ⟨x, List.mem_of_getElem? hx, hb⟩]
    case nB =>
      have hb : markB x = false := hq2
      refine wp_skip (nB (nT (wR ?_)))
      revert a; (iterate 2 refine wo rfl rfl (by decide) (fun ev e h => by simp [go_sem, h, K2.cell, jw] <;> rfl) ?_); intro a hA
      replace hA := hA.keepN [5, 6, 7]
      refine wN (nT ?_)
      refine ⟨g - 1, by omega, j + 1, by omega, ?_, HX, hA⟩
      rw [List.take_add_one, hx, List.any_append, hno]
      simp [hb]
end Go.Proofs.YtjhaccmcjlbllaaGreatDoor
/-
  Walk: cubbyref06.trimmed.
-/
namespace Go.Proofs.YtjhaccmcjlbllaaGreatDoor
open Go.RowKit
set_option linter.unusedSimpArgs false
set_option linter.unusedVariables false
set_option linter.unusedSimpArgs false
set_option linter.unusedVariables false
def fldSh : Sh FieldS := ⟨72, 29, 2, 32, .agg #[.string ⟨#[]⟩, .string ⟨#[]⟩], fun x => [.string (St x.n), .string (St x.v)], fun _ => [], fun _ => rfl, fun x u hu => by
  simp only [List.mem_cons, List.not_mem_nil, or_false] at hu
  rcases hu with rfl | rfl <;> rfl, Tryz.underlying29, by kernel_rfl, rfl, by decide, by decide⟩
/-- is the last byte a blank? -/
def blankE (s : List UInt8) : Bool := s.getLast? == some 32 || s.getLast? == some 9
theorem trimL_step {x : UInt8} {r : List UInt8} (h : blankB (x :: r) = true) : trimL [32, 9] (x :: r) = trimL [32, 9] r := by
  unfold blankB at h
  unfold trimL
  rw [List.dropWhile_cons, if_pos]
  simpa using h
theorem trimL_stop {v : List UInt8} (h : blankB v = false) : trimL [32, 9] v = v := by
  cases v with
  | nil => rfl
  | cons x r =>
    unfold blankB at h
    unfold trimL
    rw [List.dropWhile_cons, if_neg]
    simpa using h
theorem trimR_step {x : UInt8} {r : List UInt8} (h : blankE (r ++ [x]) = true) : trimR [32, 9] (r ++ [x]) = trimR [32, 9] r := by
  rw [trimR_snoc]
  unfold blankE at h
  have : ([32, 9] : List UInt8).contains x = true := by simpa using h
  rw [this]; rfl
theorem trimR_stop {v : List UInt8} (h : blankE v = false) : trimR [32, 9] v = v := by
  rcases List.eq_nil_or_concat v with rfl | ⟨r, x, rfl⟩
  · rfl
  · rw [List.concat_eq_append] at *
    rw [trimR_snoc]
    unfold blankE at h
    have : ([32, 9] : List UInt8).contains x = false := by simpa using h
    rw [this]; rfl
theorem blankE_eq {s : List UInt8} {x : UInt8} (h : s.getLastD 0 = x) : blankE s = (!s.isEmpty && (((x.toNat : Nat) : Int) == 32 || ((x.toNat : Nat) : Int) == 9)) := by
  rcases List.eq_nil_or_concat s with rfl | ⟨r, y, rfl⟩
  · rfl
  · rw [List.concat_eq_append] at *
    have hy : y = x := by rw [← h]; simp
    subst hy
    unfold blankE
    rw [List.getLast?_append, show ([y] : List UInt8).getLast? = some y from rfl]
    rw [show (((y.toNat : Nat) : Int) == 32) = (y == 32) from u8_eq y 32 (by decide), show (((y.toNat : Nat) : Int) == 9) = (y == 9) from u8_eq y 9 (by decide)]
    simp
set_option maxRecDepth 100000 in
set_option maxHeartbeats 8000000 in
theorem trimmedR_any (B : Nat) (V : Value) (l : List FieldS) (w : World) (ho : OwnR fldSh B w V l) (hB : B ≤ w.heap.size) (hl : l.length ≤ 10000000) (hv : ∀ f ∈ l, f.v.length ≤ 10000000) : Calls Tryz.prog 32 #[V] w fun ev w' => ev = .returned V ∧ OwnR fldSh B w' V (l.map trimF) ∧ Below B w w' := by
  obtain ⟨Av, cv, rfl, _, hcv⟩ := ho.reads
  have HB := Below.refl B w
  refine calls_at 59 Tryz.func32 rfl rfl (Nat.le_of_ble_eq_true rfl) ?_
  intro a hA; replace hA := hA.norm
  refine wS (wR ?_)
  revert a; refine wo rfl rfl (by decide) (fun ev e h => by simp [go_sem, h] <;> rfl) ?_; intro a hA
  replace hA := hA.keepN [0]
  refine wN (nT (wS (wS (wR ?_))))
  revert a; (iterate 3 refine wo rfl rfl (by decide) (fun ev e h => by simp [go_sem, h] <;> rfl) ?_); intro a hA
  replace hA := hA.keepN [0, 6, 7]
  refine wN (nT (wB ?_))
  refine wp_loop_at (fun f a wy => ∃ j : Nat, j + f = l.length ∧ OwnR fldSh B wy (.slice Av l.length cv) ((l.take j).map trimF ++ l.drop j) ∧ Below B w wy ∧ At 59 [(0, .slice Av l.length cv), (6, .int .i64 (l.length : Nat)), (7, .int .i64 (j : Nat))] a) (l.length) ?_ ?_
  · exact ⟨0, by omega, ho, HB, hA⟩
  clear hA ho HB
  rintro f2 a wy ⟨j, hjf, ho, HB, hA⟩
  refine wS (wR ?_)
  revert a; refine wo rfl rfl (by decide) (fun ev e h => by simp [go_sem, h] <;> rfl) ?_; intro a hA
  replace hA := hA.keepN [0, 6, 7, 8]
  refine wN (nT (wS ?_))
  refine wp_if hA 8 _ rfl (fun hq3 => ?yD) (fun hq3 => ?nD)
  case nD =>
    have hjn : l.length ≤ j := by simp at hq3; omega
    rw [List.take_of_length_le hjn, List.drop_of_length_le hjn, List.append_nil] at ho
    replace hA := hA.keepN [0]
    refine wp_exit (xT (xT (xB (nT (wS (wR ?_))))))
    revert a; (iterate 2 refine wo rfl rfl (by decide) (fun ev e h => by simp [go_sem, h] <;> rfl) ?_); intro a hA
    replace hA := hA.keepN [2]
    refine wN (nT (wp_ret ?_))
    refine ret_1 hA 2 rfl rfl ?_
    exact ⟨rfl, ho, HB⟩
  case yD =>
    have hjn : j < l.length := by simp at hq3; omega
    obtain ⟨y, hy⟩ : ∃ y, l[j]? = some y := ⟨_, List.getElem?_eq_getElem hjn⟩
    have hyv := hv y (List.mem_of_getElem? hy)
    have hml : ((l.take j).map trimF ++ l.drop j).length = l.length := by rw [List.length_append, List.length_map, List.length_take, List.length_drop]; omega
    have hym : ((l.take j).map trimF ++ l.drop j)[j]? = some y := by
      rw [List.getElem?_append_right (by rw [List.length_map, List.length_take]; omega), List.length_map, List.length_take, show j - min j l.length = 0 by omega, List.getElem?_drop, Nat.add_zero]
      exact hy
    have hset : ((l.take j).map trimF ++ l.drop j).set j (trimF y) = (l.take (j + 1)).map trimF ++ l.drop (j + 1) := by
      rw [List.set_append_right _ _ (by rw [List.length_map, List.length_take]; omega), List.length_map, List.length_take, show j - min j l.length = 0 by omega, List.take_add_one, hy, List.map_append, List.append_assoc]
      congr 1
      rw [show l.drop j = y :: l.drop (j + 1) by rw [← (List.getElem?_eq_some_iff.1 hy).2]; exact List.drop_eq_getElem_cons hjn]
      rfl
    obtain ⟨g, c', hv1, hgB, hglt⟩ := ho.at_ (by omega)
    injection hv1 with hv1 _ hv3
    subst hv1
    have z1 : wy.cell? ⟨g, j * 2 + 1, none⟩ = some (.string (St y.v)) := ho.cellAt (j := 1) hym rfl
    have jj0 : (0 : Int) ≤ (j : Int) := by omega
    have jj1 : (j : Int) < ((l.length : Nat) : Int) := by omega
    have i3 : IntKind.i64.wrap (((j : Nat) : Int) + 1) = ((j + 1 : Nat) : Int) := by rw [IntWalk.i64_in _ (by omega)]; omega
    refine wp_skip (nT (wS (wB (wS (wR ?_)))))
    revert a; (iterate 2 refine wo rfl rfl (by decide) (fun ev e h => by simp [go_sem, h, jj0, jj1, z1, add0] <;> rfl) ?_); intro a hA
    replace hA := hA.keepN [0, 3, 6, 7]
    refine wN (nT (wS (wR ?_)))
    revert a; (iterate 6 refine wo rfl rfl (by decide) (fun ev e h => by simp [go_sem, h, jj0, jj1, z1, add0] <;> rfl) ?_); intro a hA
    replace hA := hA.keepN [0, 3, 4, 6, 7]
    refine wN (nT (wS (wB ?_)))
    refine wp_loop_at (fun f a wz => ∃ v : List UInt8, v.length ≤ f ∧ v.length ≤ y.v.length ∧ trimL [32, 9] y.v = trimL [32, 9] v ∧ wy = wz ∧ At 59 [(0, .slice (some ⟨g, 0, none⟩) l.length cv), (3, .int .i64 (j : Nat)), (4, .string (St v)), (6, .int .i64 (l.length : Nat)), (7, .int .i64 (j : Nat))] a) (y.v.length) ?_ ?_
    · exact ⟨_, Nat.le_refl _, Nat.le_refl _, rfl, rfl, hA⟩
    clear hA
    rintro f3 a wz ⟨v, hvf, hvl, htr, rfl, hA⟩
    have hsz : (St v).size = v.length := rfl
    obtain ⟨x0, hx0⟩ : ∃ x0, v.headD 0 = x0 := ⟨_, rfl⟩
    have g1 : ∀ h : 0 < (St v).size, (St v)[0] = x0 := fun h => by
      cases v with
      | nil => exact absurd h (by decide)
      | cons y t => exact hx0
    refine wS (wS (wR ?_))
    revert a; (iterate 3 refine wo rfl rfl (by decide) (fun ev e h => by simp [go_sem, h, hsz, g1] <;> rfl) ?_); refine wg _ rfl rfl rfl rfl (by decide) (fun hq ev e h => by simp [go_sem, h, ↓gw_t (beq_t hq), hsz, g1] <;> rfl) ?_; refine wg _ rfl rfl rfl rfl (by decide) (fun hq ev e h => by simp [go_sem, h, ↓gw_t (beq_t hq), hsz, g1, (List.length_pos_iff.2 (show v ≠ [] from by intro e; rw [e] at hq; simp at hq))] <;> rfl) ?_; (iterate 2 refine wg _ rfl rfl rfl rfl (by decide) (fun hq ev e h => by simp [go_sem, h, ↓gw_t (beq_t hq), hsz, g1] <;> rfl) ?_); refine wg2 _ _ rfl rfl rfl rfl (by decide) (fun hq hr ev e h => by simp [go_sem, h, ↓gw_t (and_beq hq hr), ↓gw_t hq, hsz, g1] <;> rfl) ?_; refine wg2 _ _ rfl rfl rfl rfl (by decide) (fun hq hr ev e h => by simp [go_sem, h, ↓gw_t (and_beq hq hr), ↓gw_t hq, hsz, g1, (List.length_pos_iff.2 (show v ≠ [] from by intro e; rw [e] at hq; simp at hq))] <;> rfl) ?_; refine wg2 _ _ rfl rfl rfl rfl (by decide) (fun hq hr ev e h => by simp [go_sem, h, ↓gw_t (and_beq hq hr), ↓gw_t hq, hsz, g1] <;> rfl) ?_; intro a hA
    refine wl_guard _ hA rfl rfl rfl rfl (by decide) (fun hq ev h => by exact pick_or rfl (((h.get 21 rfl).trans (gw_t (beq_t hq)))) (h.c _) (((h.get 24 rfl).trans (gw_a (beq_t hq))))) fun a hA => ?_
    revert a; refine wka rfl rfl (by decide) rfl rfl rfl ?_; intro a hA
    replace hA := hA.keepN [0, 3, 4, 6, 7, 26]
    refine wN (nT ?_)
    refine wp_if hA 26 _ rfl (fun hq2 => ?yB) (fun hq2 => ?nB)
    case yB =>
      have hbl2 : blankB v = true := by rw [blank_eq hx0, ← hq2]
      cases v with
      | nil => cases hbl2
      | cons x r =>
        have e1 : (St (x :: r)).extract 1 (r.length + 1) = St r := extract_drop (x :: r) 1 (r.length + 1) rfl
        have q1 : (1 : Int) ≤ ((r.length : Nat) : Int) + 1 := by omega
        rw [trimL_step hbl2] at htr
        have hln : (x :: r).length = r.length + 1 := rfl
        refine wp_skip (nT (wB (wR ?_)))
        revert a; (iterate 3 refine wo rfl rfl (by decide) (fun ev e h => by simp [go_sem, h, hsz, hln, e1, q1] <;> rfl) ?_); intro a hA
        replace hA := hA.keepN [0, 3, 4, 6, 7]
        refine wN (nB (nT ?_))
        exact ⟨f3 - 1, by omega, r, by omega, by omega, htr, rfl, hA⟩
    case nB =>
      have hbl2 : blankB v = false := by rw [blank_eq hx0, ← hq2]
      rw [trimL_stop hbl2] at htr
      have hB' : B ≤ wy.heap.size := Nat.le_trans hB HB.size
      replace hA := hA.keepN [0, 3, 4, 6, 7]
      refine wp_exit (xT (xT (xB (nT (wS (wB ?_))))))
      refine wp_loop_at (fun f a wz => ∃ u : List UInt8, u.length ≤ f ∧ u.length ≤ v.length ∧ trimR [32, 9] v = trimR [32, 9] u ∧ wy = wz ∧ At 59 [(0, .slice (some ⟨g, 0, none⟩) l.length cv), (3, .int .i64 (j : Nat)), (4, .string (St u)), (6, .int .i64 (l.length : Nat)), (7, .int .i64 (j : Nat))] a) (v.length) ?_ ?_
      · exact ⟨_, Nat.le_refl _, Nat.le_refl _, rfl, rfl, hA⟩
      clear hA
      rintro f4 a wz ⟨u, huf, hul, hur, rfl, hA⟩
      have hsu : (St u).size = u.length := rfl
      obtain ⟨x9, hx9⟩ : ∃ x, u.getLastD 0 = x := ⟨_, rfl⟩
      obtain ⟨k, hk⟩ : ∃ k, u.length - 1 = k := ⟨_, rfl⟩
      have hne : u ≠ [] → u.length = k + 1 := fun e => by have := List.length_pos_iff.2 e; omega
      have i9 : u ≠ [] → IntKind.i64.wrap (((u.length : Nat) : Int) - 1) = ((k : Nat) : Int) := fun e => by
        have := hne e
        rw [IntWalk.i64_in _ (by omega)]; omega
      have g9 : ∀ h : k < (St u).size, (St u)[k] = x9 := fun h => by
        have hku : k < u.length := h
        obtain ⟨r, x, rfl, hr9⟩ := snoc_of (l := u) (k := k) (by omega)
        have hx : x = x9 := by rw [← hx9]; simp
        rw [← hx]
        exact get_snoc r x k hr9 h
      have k9 : u ≠ [] → k < u.length := fun e => by have := hne e; omega
      have k8 : u ≠ [] → ((k : Nat) : Int) < ((u.length : Nat) : Int) := fun e => by have := hne e; omega
      have k7 : (0 : Int) ≤ ((k : Nat) : Int) := by omega
      refine wS (wS (wR ?_))
      revert a; (iterate 3 refine wo rfl rfl (by decide) (fun ev e h => by simp [go_sem, h, hsu, g9, k7] <;> rfl) ?_); (iterate 3 refine wg _ rfl rfl rfl rfl (by decide) (fun hq ev e h => by simp [go_sem, h, ↓gw_t (beq_t hq), hsu, g9, k7] <;> rfl) ?_); refine wg _ rfl rfl rfl rfl (by decide) (fun hq ev e h => by simp [go_sem, h, ↓gw_t (beq_t hq), hsu, g9, k7, i9 (show u ≠ [] from by intro e; rw [e] at hq; simp at hq)] <;> rfl) ?_; refine wg _ rfl rfl rfl rfl (by decide) (fun hq ev e h => by simp [go_sem, h, ↓gw_t (beq_t hq), hsu, g9, k7, k9 (show u ≠ [] from by intro e; rw [e] at hq; simp at hq), k8 (show u ≠ [] from by intro e; rw [e] at hq; simp at hq)] <;> rfl) ?_; (iterate 2 refine wg _ rfl rfl rfl rfl (by decide) (fun hq ev e h => by simp [go_sem, h, ↓gw_t (beq_t hq), hsu, g9, k7] <;> rfl) ?_); (iterate 2 refine wg2 _ _ rfl rfl rfl rfl (by decide) (fun hq hr ev e h => by simp [go_sem, h, ↓gw_t (and_beq hq hr), ↓gw_t hq, hsu, g9, k7] <;> rfl) ?_); intro a hA
      replace hA := hA.keepN [0, 3, 4, 6, 7, 31, 38, 39, 40]
      revert a; refine wg2 _ _ rfl rfl rfl rfl (by decide) (fun hq hr ev e h => by simp [go_sem, h, ↓gw_t (and_beq hq hr), ↓gw_t hq, hsu, g9, k7] <;> rfl) ?_; refine wg2 _ _ rfl rfl rfl rfl (by decide) (fun hq hr ev e h => by simp [go_sem, h, ↓gw_t (and_beq hq hr), ↓gw_t hq, hsu, g9, k7, i9 (show u ≠ [] from by intro e; rw [e] at hq; simp at hq)] <;> rfl) ?_; refine wg2 _ _ rfl rfl rfl rfl (by decide) (fun hq hr ev e h => by simp [go_sem, h, ↓gw_t (and_beq hq hr), ↓gw_t hq, hsu, g9, k7, k9 (show u ≠ [] from by intro e; rw [e] at hq; simp at hq), k8 (show u ≠ [] from by intro e; rw [e] at hq; simp at hq)] <;> rfl) ?_; refine wg2 _ _ rfl rfl rfl rfl (by decide) (fun hq hr ev e h => by simp [go_sem, h, ↓gw_t (and_beq hq hr), ↓gw_t hq, hsu, g9, k7] <;> rfl) ?_; intro a hA
      refine wl_guard _ hA rfl rfl rfl rfl (by decide) (fun hq ev h => by exact pick_or rfl (((h.get 38 rfl).trans (gw_t (beq_t hq)))) (h.c _) (((h.get 44 rfl).trans (gw_a (beq_t hq))))) fun a hA => ?_
      revert a; refine wka rfl rfl (by decide) rfl rfl rfl ?_; intro a hA
      replace hA := hA.keepN [0, 3, 4, 6, 7, 46]
      refine wN (nT ?_)
      refine wp_if hA 46 _ rfl (fun hq4 => ?yE) (fun hq4 => ?nE)
      case yE =>
        have hbe : blankE u = true := by rw [blankE_eq hx9, ← hq4]
        rcases List.eq_nil_or_concat u with rfl | ⟨r, x, rfl⟩
        case inl => cases hbe
        case inr =>
          rw [List.concat_eq_append] at *
          have hlu : (r ++ [x]).length = r.length + 1 := by simp
          have e1 : (St (r ++ [x])).extract 0 r.length = St r := by rw [extract_take]; simp
          have i5 : IntKind.i64.wrap ((((r ++ [x]).length : Nat) : Int) - 1) = ((r.length : Nat) : Int) := by rw [hlu, IntWalk.i64_in _ (by omega)]; omega
          rw [trimR_step hbe] at hur
          have q1 : ((r.length : Nat) : Int) ≤ ((r.length : Nat) : Int) + 1 := by omega
          have q0 : (0 : Int) ≤ ((r.length : Nat) : Int) := by omega
          have i6 : IntKind.i64.wrap ((r.length : Nat) : Int) = ((r.length : Nat) : Int) := by rw [IntWalk.i64_in _ (by omega)]
          rw [hlu] at hul huf
          refine wp_skip (nT (wB (wR ?_)))
          revert a; (iterate 6 refine wo rfl rfl (by decide) (fun ev e h => by simp [go_sem, h, hsu, hlu, i5, i6, e1, q1, q0] <;> rfl) ?_); intro a hA
          replace hA := hA.keepN [0, 3, 4, 6, 7]
          refine wN (nB (nT ?_))
          exact ⟨f4 - 1, by omega, r, by omega, by omega, hur, rfl, hA⟩
      case nE =>
        have hbe : blankE u = false := by rw [blankE_eq hx9, ← hq4]
        rw [trimR_stop hbe] at hur
        have hfin : trimS [32, 9] y.v = u := by
          unfold trimS
          rw [← trim_comm, htr, hur]
        obtain ⟨h8, h9⟩ := ho.put1 (j := 1) (x := trimF y) (u := .string (St (trimS [32, 9] y.v))) hym (by decide) rfl rfl
        rw [hset, hfin] at h8
        rw [hfin] at h9
        replace hA := hA.keepN [0, 3, 4, 6, 7]
        refine wp_exit (xT (xT (xB (nT (wR ?_)))))
        revert a; (iterate 5 refine wo rfl rfl (by decide) (fun ev e h => by simp [go_sem, h, jj0, jj1, z1, add0, ho.frozenAt] <;> rfl) ?_); intro a hA
        refine wl_skip hA rfl rfl (fun ev h => by simp [go_sem, h.get 56 rfl, h.get 54 rfl, jj0, jj1, z1, add0, ho.frozenAt]; try first | exact ⟨rfl, rfl⟩ | rfl) ?_
        replace hA := hA.keepN [0, 6, 7]
        refine wN (nB (nT (wR ?_)))
        revert a; (iterate 2 refine wo rfl rfl (by decide) (fun ev e h => by simp [go_sem, h, i3] <;> rfl) ?_); intro a hA
        replace hA := hA.keepN [0, 6, 7]
        refine wN (nT ?_)
        exact ⟨f2 - 1, by omega, j + 1, by omega, h8, HB.grown h9 hB' (fun k e => by injection e with e; omega), hA⟩
end Go.Proofs.YtjhaccmcjlbllaaGreatDoor
/-
  Walk: cubbyref06.Head.
-/
namespace Go.Proofs.YtjhaccmcjlbllaaGreatDoor
open Go.RowKit
set_option linter.unusedSimpArgs false
set_option linter.unusedVariables false
set_option linter.unusedSimpArgs false
set_option linter.unusedVariables false
theorem line_nl : ∀ (t r : List UInt8), 10 ∉ t → lineS (t ++ 10 :: r) = (t ++ [10], r)
  | [], r, _ => by rw [List.nil_append, lineS, if_pos rfl]; rfl
  | x :: t, r, h => by
    rw [List.cons_append, lineS, if_neg fun e => h (by rw [e]; exact List.mem_cons_self), line_nl t r fun h' => h (List.mem_cons_of_mem _ h')]
    rfl
theorem line_none : ∀ t : List UInt8, 10 ∉ t → lineS t = (t, [])
  | [], _ => rfl
  | x :: t, h => by
    rw [lineS, if_neg fun e => h (by rw [e]; exact List.mem_cons_self), line_none t fun h' => h (List.mem_cons_of_mem _ h')]
/-- a line without its return -/
def stripR (t : List UInt8) : List UInt8 := if t.getLast? = some 13 then t.dropLast else t
theorem strip_snoc (r : List UInt8) : stripR (r ++ [13]) = r := by
  unfold stripR
  rw [List.getLast?_append, show ([13] : List UInt8).getLast? = some 13 from rfl]
  simp
theorem suffix_one (t : List UInt8) (c : UInt8) : Lib.trimSuffix t [c] = if t.getLast? = some c then t.dropLast else t := by
  rcases List.eq_nil_or_concat t with rfl | ⟨r, x, rfl⟩
  · simp [Lib.trimSuffix, Lib.hasSuffix]
  · rw [List.concat_eq_append]
    unfold Lib.trimSuffix Lib.hasSuffix
    rw [List.getLast?_append, show ([x] : List UInt8).getLast? = some x from rfl]
    have e : List.isSuffixOf [c] (r ++ [x]) = (c == x) := by simp [List.isSuffixOf, List.isPrefixOf]
    rw [e]
    by_cases h : c = x
    · subst h; simp
    · have h2 : ¬ x = c := fun e => h e.symm
      simp [h, h2]
theorem bare_nl (t : List UInt8) : bareS (t ++ [10]) = stripR t := by
  unfold bareS
  rw [suffix_one (t ++ [10]) 10, List.getLast?_append, show ([10] : List UInt8).getLast? = some 10 from rfl]
  simp only [Option.some_or, if_pos, List.dropLast_concat]
  rw [suffix_one]
  rfl
theorem bare_end {t : List UInt8} (h : 10 ∉ t) : bareS t = stripR t := by
  unfold bareS
  rw [suffix_one t 10, if_neg fun e => h (List.mem_of_getLast? e), suffix_one]
  rfl
theorem empty_nl (t : List UInt8) : emptyS (t ++ [10]) = ((stripR t).isEmpty && decide (t.length ≤ 1)) := by
  unfold emptyS stripR
  match t with
  | [] => rfl
  | [x] =>
    by_cases hx : x = 13
    · subst hx; rfl
    · have : ¬ ([x] : List UInt8).getLast? = some 13 := by simpa using hx
      rw [if_neg this]
      simp [hx]
  | x :: y :: t => simp
theorem empty_end {t : List UInt8} (h : 10 ∉ t) : emptyS t = false := by
  unfold emptyS
  rw [Bool.or_eq_false_iff]
  refine ⟨?_, ?_⟩
  · rw [beq_eq_false_iff_ne]; rintro rfl; exact h (by simp)
  · rw [beq_eq_false_iff_ne]; rintro rfl; exact h (by simp)
/-- how far a name goes -/
def nameN (s : List UInt8) : Nat := (s.takeWhile fun c => !(c == 58) && signB c).length
theorem step_ref {l : List FieldS} {q : Bool} {s : List UInt8} {k : Nat} (hb : blankB s = false) (hk : k ≤ s.length) (h1 : ∀ i x, i < k → s[i]? = some x → x ≠ 58 ∧ signB x = true) (h2 : ∀ x, s[k]? = some x → x = 58 ∨ signB x = false) :
    stepF (l, q) s = (if 0 < k ∧ s[k]? = some 58 then (l ++ [⟨s.take k, s.drop (k + 1)⟩], true) else (l, false)) := by
  rw [step_named hb]
  rcases cut_spec 58 s with ⟨hn, h, _⟩ | ⟨a, b, h0, hna, h, _⟩
  · rw [h]
    have : ¬ (0 < k ∧ s[k]? = some 58) := fun e => hn (List.mem_of_getElem? e.2)
    rw [if_neg this]
    rfl
  · rw [h]
    have hka : k ≤ a.length := by
      rcases Nat.lt_or_ge a.length k with hlt | hge
      · have := (h1 a.length 58 hlt (by rw [h0, List.getElem?_append_right (Nat.le_refl _)]; simp)).1
        exact absurd rfl this
      · exact hge
    rcases Nat.lt_or_ge k a.length with hlt | hge
    · have hak : s[k]? = some a[k] := by rw [h0, List.getElem?_append_left hlt, List.getElem?_eq_getElem hlt]
      have hm : a[k] ∈ a := List.getElem_mem hlt
      have hsb : signB a[k] = false := by
        rcases h2 _ hak with e | e
        · exact absurd (e ▸ hm) hna
        · exact e
      have hnb : namedB a = false := by
        unfold namedB
        rw [show a.all signB = false from List.all_eq_false.2 ⟨_, hm, by rw [hsb]; decide⟩, Bool.and_false]
      rw [hnb, if_neg (by simp), if_neg]
      rintro ⟨_, e⟩
      rw [hak] at e
      injection e with e
      exact hna (e ▸ hm)
    · have hke : k = a.length := by omega
      have hsk : s[k]? = some 58 := by rw [h0, hke, List.getElem?_append_right (Nat.le_refl _)]; simp
      have hall : a.all signB = true := by
        rw [List.all_eq_true]
        intro x hx
        obtain ⟨i, hi, rfl⟩ := List.getElem_of_mem hx
        exact (h1 i a[i] (by omega) (by rw [h0, List.getElem?_append_left hi, List.getElem?_eq_getElem hi])).2
      have e1 : s.take k = a := by rw [h0, hke]; simp
      have e2 : s.drop (k + 1) = b := by rw [h0, hke]; simp
      rw [e1, e2]
      unfold namedB
      rw [hall]
      cases a with
      | nil =>
        rw [if_neg (by simp), if_neg]
        rintro ⟨e, _⟩
        simp at hke; omega
      | cons x a => rw [if_pos (by simp), if_pos ⟨by rw [hke]; simp, hsk⟩]
theorem strip_yes {t : List UInt8} (hx : t.getLastD 0 = 13) : stripR t = t.take (t.length - 1) := by
  rcases List.eq_nil_or_concat t with rfl | ⟨r, x, rfl⟩
  · rfl
  · rw [List.concat_eq_append] at *
    have : x = 13 := by simpa using hx
    subst this
    rw [strip_snoc]
    simp
theorem strip_no {t : List UInt8} (h : t.getLastD 0 ≠ 13) : stripR t = t := by
  unfold stripR
  rw [if_neg]
  intro e
  rw [List.getLastD_eq_getLast?, e] at h
  exact h rfl
theorem refS_nil (F : Nat) (st : List FieldS × Bool) : refS F [] st = (0, st) := by
  cases F with
  | zero => rfl
  | succ F => rw [refS, if_pos rfl]
theorem strip_len (t : List UInt8) : (stripR t).length ≤ t.length := by
  unfold stripR
  split
  · rw [List.length_dropLast]; omega
  · exact Nat.le_refl _
set_option maxRecDepth 100000 in
set_option maxHeartbeats 16000000 in
theorem refHead_any (A : Option Addr) (c : Nat) (b : List UInt8) (w : World) (hn : b.length ≤ 1048576) (hbc : b.length ≤ c) (hr : Reads w w.heap.size 1 A b.length (u8s b)) : Calls Tryz.prog 10 #[.slice A b.length c] w fun ev w' => ∃ V, ev = .returned (.tuple #[.int .i64 ((headS b).length : Nat), V]) ∧ OwnR fldSh w.heap.size w' V (fieldsS b) ∧ Below w.heap.size w w' := by
  obtain ⟨hrh1, hrh2⟩ := ref_head b
  obtain ⟨B, hB⟩ : ∃ B, w.heap.size = B := ⟨_, rfl⟩
  refine calls_at 186 Tryz.func10 rfl rfl (Nat.le_of_ble_eq_true rfl) ?_
  intro a hA; replace hA := hA.norm
  refine wS (wR ?_)
  revert a; (iterate 2 refine wo rfl rfl (by decide) (fun ev e h => by simp [go_sem, h] <;> rfl) ?_); intro a hA
  replace hA := hA.keepN [0]
  refine wN (nT (wS (wR ?_)))
  revert a; refine wo rfl rfl (by decide) (fun ev e h => by simp [go_sem, h] <;> rfl) ?_; intro a hA
  replace hA := hA.keepN [0, 4]
  refine wN (nT (wS (wR ?_)))
  revert a; refine wo rfl rfl (by decide) (fun ev e h => by simp [go_sem, h] <;> rfl) ?_; intro a hA
  replace hA := hA.keepN [0, 4, 5]
  refine wN (nT (wS (wR ?_)))
  revert a; refine wo rfl rfl (by decide) (fun ev e h => by simp [go_sem, h] <;> rfl) ?_; intro a hA
  replace hA := hA.keepN [0, 4, 5, 6]
  refine wN (nT (wS (wB ?_)))
  refine wp_loop_at (fun F a wx => ∃ (at_ : Nat) (V : Value) (l : List FieldS) (q : Bool), at_ ≤ b.length ∧ b.length - at_ ≤ F ∧ refS b.length b ([], false) = (at_ + (refS F (b.drop at_) (l, q)).1, (refS F (b.drop at_) (l, q)).2) ∧ (q = true → l ≠ []) ∧ l.length + (b.length - at_) ≤ b.length ∧ sumV l + (b.length - at_) ≤ b.length ∧ OwnR fldSh B wx V l ∧ Below B w wx ∧ At 186 [(0, .slice A b.length c), (4, V), (5, .bool q), (6, .int .i64 (at_ : Nat))] a) (b.length) ?_ ?_
  · exact ⟨0, _, [], false, Nat.zero_le _, by omega, by rw [List.drop_zero, Nat.zero_add], (fun h => by cases h), by simp, by simp [sumV], OwnR.nil _ _, hB ▸ Below.refl _ _, hA⟩
  clear hA
  rintro F a wx ⟨at_, V, l, q, hat, hF, hrs, hql, hll, hsv, ho, HB, hA⟩
  have hBx : B ≤ wx.heap.size := by rw [← hB]; exact HB.size
  refine wS (wS (wR ?_))
  revert a; (iterate 4 refine wo rfl rfl (by decide) (fun ev e h => by simp [go_sem, h] <;> rfl) ?_); intro a hA
  replace hA := hA.keepN [0, 4, 5, 6, 15]
  refine wN (nT ?_)
  refine wp_if hA 15 _ rfl (fun hq => ?yA) (fun hq => ?nA)
  case nA =>
    have hal : at_ = b.length := by simp at hq; omega
    have hd : b.drop at_ = [] := List.drop_of_length_le (by omega)
    rw [hd, refS_nil] at hrs
    rw [hrs] at hrh1 hrh2
    replace hA := hA.keepN [0, 4]
    refine wp_exit (xT (xT (xB (nT (wS (wR ?_))))))
    revert a; (iterate 3 refine wo rfl rfl (by decide) (fun ev e h => by simp [go_sem, h] <;> rfl) ?_); intro a hA
    refine wl_call hA rfl rfl (by decide) (fun ev h => exec_call Tryz.func32 (by kernel_rfl) rfl (h.f _) (by first | (simp only [mL, h.get 184 rfl, h.c] <;> rfl) | (simp [mL, h.get 184 rfl, h.c] <;> rfl))) (trimmedR_any B V l wx ho hBx (by omega) (fun f hf => by have := sumV_mem hf; omega)) ?_
    rintro e w1 ⟨rfl, ho1, hb1⟩
    refine ⟨_, rfl, fun a hA => ?_⟩
    revert a; (iterate 2 refine wo rfl rfl (by decide) (fun ev e h => by simp [go_sem, h] <;> rfl) ?_); intro a hA
    replace hA := hA.keepN [2, 3]
    refine wN (nT (wp_ret ?_))
    refine ret_2 hA 2 3 rfl rfl rfl ?_
    refine ⟨_, ?_, hB ▸ hrh2 ▸ ho1, hB ▸ HB.trans hb1⟩
    rw [← hrh1, hal]
    simp
  case yA =>
    have hal : at_ < b.length := by simp at hq; omega
    obtain ⟨F, rfl⟩ : ∃ F', F = F' + 1 := ⟨F - 1, by omega⟩
    refine wp_skip (nT (wB (wS (wR ?_))))
    revert a; (iterate 2 refine wo rfl rfl (by decide) (fun ev e h => by simp [go_sem, h] <;> rfl) ?_); intro a hA
    replace hA := hA.keepN [0, 4, 5, 6, 7]
    refine wN (nT (wS (wB ?_)))
    refine wp_loop_at (fun g a wy => ∃ e : Nat, at_ ≤ e ∧ e + g = b.length ∧ (∀ x ∈ (b.drop at_).take (e - at_), x ≠ 10) ∧ wx = wy ∧ At 186 [(0, .slice A b.length c), (4, V), (5, .bool q), (6, .int .i64 (at_ : Nat)), (7, .int .i64 (e : Nat))] a) ((b.length - at_)) ?_ ?_
    · exact ⟨at_, Nat.le_refl _, by omega, (fun x hx => by rw [Nat.sub_self] at hx; cases hx), rfl, hA⟩
    clear hA
    rintro g a wy ⟨e, hae, heg, hno, rfl, hA⟩
    obtain ⟨A0, hA0⟩ : ∃ A0 : Addr, ∀ h : e < b.length, A = some A0 ∧ wx.cell? (A0.add e) = some (.int .u8 (((b.getD e 0).toNat : Nat) : Int)) := by
      rcases Nat.lt_or_ge e b.length with h | h
      · obtain ⟨ad, ee, hlt, hcl⟩ := hr.2 (by omega)
        refine ⟨ad, fun _ => ⟨ee, (HB.cell (by rw [block_of_add, ← hB]; exact hlt)).trans (hcl e _ ?_)⟩⟩
        rw [u8s_get, List.getD_eq_getElem?_getD, List.getElem?_eq_getElem h]
        rfl
      · exact ⟨default, fun h' => absurd h' (by omega)⟩
    have jj0 : (0 : Int) ≤ (e : Int) := by omega
    have i3 : IntKind.i64.wrap (((e : Nat) : Int) + 1) = ((e + 1 : Nat) : Int) := by rw [IntWalk.i64_in _ (by omega)]; omega
    have kk1 : decide (e < b.length) = true → e < b.length := fun h => by simpa using h
    refine wS (wS (wR ?_))
    revert a; (iterate 5 refine wo rfl rfl (by decide) (fun ev e h => by simp [go_sem, h, jj0] <;> rfl) ?_); (iterate 2 refine wg _ rfl rfl rfl rfl (by decide) (fun hq ev e h => by simp [go_sem, h, ↓gw_t (beq_t hq), jj0] <;> rfl) ?_); refine wg _ rfl rfl rfl rfl (by decide) (fun hq ev e h => by simp [go_sem, h, ↓gw_t (beq_t hq), jj0, (hA0 (kk1 hq)).1, kk1 hq] <;> rfl) ?_; refine wg _ rfl rfl rfl rfl (by decide) (fun hq ev e h => by simp [go_sem, h, ↓gw_t (beq_t hq), jj0, (hA0 (kk1 hq)).2] <;> rfl) ?_; refine wg _ rfl rfl rfl rfl (by decide) (fun hq ev e h => by simp [go_sem, h, ↓gw_t (beq_t hq), jj0] <;> rfl) ?_; refine wka rfl rfl (by decide) rfl rfl rfl ?_; intro a hA
    replace hA := hA.keepN [0, 4, 5, 6, 7, 27]
    refine wN (nT ?_)
    refine wp_if hA 27 _ rfl (fun hq2 => ?yB) (fun hq2 => ?nB)
    case yB =>
      have h3 := Bool.and_eq_true_iff.1 hq2
      have hjn : e < b.length := by simpa using h3.1
      have hx : b[e]? = some (b.getD e 0) := by rw [List.getD_eq_getElem?_getD, List.getElem?_eq_getElem hjn]; rfl
      have hne : b.getD e 0 ≠ 10 := fun ee => by
        have h4 := h3.2
        rw [List.getD_eq_getElem?_getD] at ee
        rw [ee] at h4
        exact absurd h4 (by decide)
      refine wp_skip (nT (wB (wR ?_)))
      revert a; (iterate 3 refine wo rfl rfl (by decide) (fun ev e h => by simp [go_sem, h, i3] <;> rfl) ?_); intro a hA
      replace hA := hA.keepN [0, 4, 5, 6, 7]
      refine wN (nB (nT ?_))
      refine ⟨g - 1, by omega, e + 1, by omega, by omega, fun x hm => ?_, rfl, hA⟩
      rw [show e + 1 - at_ = (e - at_) + 1 by omega, List.take_add_one, List.getElem?_drop, show at_ + (e - at_) = e by omega, hx] at hm
      rcases List.mem_append.1 hm with hm | hm
      · exact hno x hm
      · have hxe : x = b.getD e 0 := by rw [List.getD_eq_getElem?_getD]; simpa using hm
        rw [hxe]; exact hne
    case nB =>
      obtain ⟨ad, rfl, hadl, _⟩ := hr.2 (by omega)
      obtain ⟨t, ht⟩ : ∃ t, (b.drop at_).take (e - at_) = t := ⟨_, rfl⟩
      have htl : t.length = e - at_ := by rw [← ht, List.length_take, List.length_drop]; omega
      rw [ht] at hno
      have hno10 : 10 ∉ t := fun h => hno 10 h rfl
      have hel : e ≤ b.length := by omega
      obtain ⟨cl, hcl⟩ : ∃ q, decide (e < b.length) = q := ⟨_, rfl⟩
      have hbe : cl = true → b[e]? = some 10 := fun h => by
        have hlt : e < b.length := by rw [h] at hcl; simpa using hcl
        have hx : b[e]? = some (b.getD e 0) := by rw [List.getD_eq_getElem?_getD, List.getElem?_eq_getElem hlt]; rfl
        rw [hx]
        have h4 : (((b[e]?.getD 0).toNat : Nat) : Int) = 10 := by
          rw [show decide (e < b.length) = true from decide_eq_true hlt, Bool.true_and] at hq2
          simpa using hq2
        rw [List.getD_eq_getElem?_getD]
        congr 1
        refine UInt8.toNat_inj.1 ?_
        show _ = 10
        omega
      have hdr : b.drop at_ = t ++ b.drop e := by rw [← ht, show b.drop e = (b.drop at_).drop (e - at_) by rw [List.drop_drop]; congr 1; omega, List.take_append_drop]
      obtain ⟨nx, hnx⟩ : ∃ n, (if cl = true then e + 1 else b.length) = n := ⟨_, rfl⟩
      have hnxe : e ≤ nx ∧ nx ≤ b.length ∧ nx ≤ e + 1 ∧ at_ < nx := by
        cases cl with
        | true =>
          have hlt : e < b.length := by simpa using hcl
          simp at hnx; omega
        | false =>
          have hlt : ¬ e < b.length := by simpa using hcl
          simp at hnx; omega
      have hline : (lineS (b.drop at_)).1.length = nx - at_ ∧ (lineS (b.drop at_)).2 = b.drop nx ∧ bareS (lineS (b.drop at_)).1 = stripR t ∧ emptyS (lineS (b.drop at_)).1 = (cl && (stripR t).isEmpty && decide (t.length ≤ 1)) := by
        cases cl with
        | true =>
          have hlt : e < b.length := by simpa using hcl
          have h10 := hbe rfl
          have hde : b.drop e = 10 :: b.drop (e + 1) := by
            rw [List.drop_eq_getElem_cons hlt]
            congr 1
            rw [List.getElem?_eq_getElem hlt] at h10
            injection h10
          rw [if_pos rfl] at hnx
          rw [hdr, hde, line_nl t _ hno10, bare_nl, empty_nl, ← hnx]
          refine ⟨?_, rfl, rfl, by rw [Bool.true_and]⟩
          rw [List.length_append, htl, List.length_singleton]; omega
        | false =>
          have hlt : ¬ e < b.length := by simpa using hcl
          have hee : e = b.length := by omega
          rw [if_neg (by decide)] at hnx
          rw [hdr, List.drop_of_length_le (show b.length ≤ e by omega), List.append_nil, line_none t hno10, bare_end hno10, empty_end hno10, ← hnx]
          refine ⟨by rw [htl, hee], by rw [List.drop_of_length_le (Nat.le_refl _)], rfl, by simp⟩
      obtain ⟨hl1, hl2, hl3, hl4⟩ := hline
      have hne : b.drop at_ ≠ [] := fun h => by have := congrArg List.length h; rw [List.length_drop, List.length_nil] at this; omega
      rw [refS, if_neg hne, hl1, hl2, hl3, hl4] at hrs
      have f3 : (e : Int) ≤ (c : Int) := by omega
      have f3b : e ≤ c := by omega
      have f4 : (at_ : Int) ≤ (e : Int) := by omega
      have f4b : at_ ≤ e := hae
      have f5 : e - at_ = t.length := htl.symm
      have f6 : ¬ (c = at_) := by omega
      have hsx := HB.size
      have hrx : Reads wx B 1 (some ad) b.length (u8s b) := by
        have h9 : Below w.heap.size w wx := by rw [hB]; exact HB
        have h8 := hr.below h9
        rw [hB] at h8
        exact h8
      have hrs2 := (hrx.drop8 (k := at_) (by omega) hbc).take8 (k := e - at_) (by omega)
      rw [if_neg f6, ht, Option.map_some] at hrs2
      rw [f5] at hrs2
      have hcv := conv_reads (c := c - at_) rfl hrs2
      obtain ⟨x9, hx9⟩ : ∃ x, t.getLastD 0 = x := ⟨_, rfl⟩
      obtain ⟨k, hk⟩ : ∃ k, t.length - 1 = k := ⟨_, rfl⟩
      have hneL : t ≠ [] → t.length = k + 1 := fun e => by have := List.length_pos_iff.2 e; omega
      have i9 : t ≠ [] → IntKind.i64.wrap (((t.length : Nat) : Int) - 1) = ((k : Nat) : Int) := fun e => by
        have := hneL e
        rw [IntWalk.i64_in _ (by omega)]; omega
      have g9 : ∀ h : k < (St t).size, (St t)[k] = x9 := fun h => by
        have hku : k < t.length := h
        obtain ⟨r, x, rfl, hr9⟩ := snoc_of (l := t) (k := k) (by omega)
        have hx : x = x9 := by rw [← hx9]; simp
        rw [← hx]
        exact get_snoc r x k hr9 h
      have k9 : t ≠ [] → k < t.length := fun e => by have := hneL e; omega
      have k8 : t ≠ [] → ((k : Nat) : Int) < ((t.length : Nat) : Int) := fun e => by have := hneL e; omega
      have k7 : (0 : Int) ≤ ((k : Nat) : Int) := by omega
      have hst : (St t).size = t.length := rfl
      have hmin : min ((e : Int) + 1) ((b.length : Nat) : Int) = ((nx : Nat) : Int) := by
        cases cl with
        | true =>
          have hlt : e < b.length := by simpa using hcl
          rw [if_pos rfl] at hnx
          omega
        | false =>
          have hlt : ¬ e < b.length := by simpa using hcl
          rw [if_neg (by decide)] at hnx
          omega
      have x8 : ∀ n : Nat, n < 256 → (((x9.toNat : Nat) : Int) == (n : Int)) = true → x9 = UInt8.ofNat n := fun n hn h => by
        rw [u8_eq x9 n hn] at h
        simpa using h
      replace hA := hA.keepN [0, 4, 5, 6, 7]
      refine wp_exit (xT (xT (xB (nT (wS (wR ?_))))))
      revert a; (iterate 4 refine wo rfl rfl (by decide) (fun ev e h => by simp [go_sem, h, f3, f3b, f4, f4b, f5, f6, jj0, hcv, i3, hcl, hst, g9, k7, hmin] <;> rfl) ?_); intro a hA
      refine wl_op hA rfl rfl (by decide) (fun ev h => by simp [go_sem, h.get 33 rfl, f3, f3b, f4, f4b, f5, f6, jj0, hcv, i3, hcl, hst, g9, k7, hmin]; try first | exact ⟨rfl, rfl⟩ | rfl) fun a hA => ?_
      revert a; refine wo rfl rfl (by decide) (fun ev e h => by simp [go_sem, h, f3, f3b, f4, f4b, f5, f6, jj0, hcv, i3, hcl, hst, g9, k7, hmin] <;> rfl) ?_; intro a hA
      replace hA := hA.keepN [0, 4, 5, 6, 7, 8]
      refine wN (nT (wS (wR ?_)))
      revert a; (iterate 6 refine wo rfl rfl (by decide) (fun ev e h => by simp [go_sem, h, f3, f3b, f4, f4b, f5, f6, jj0, hcv, i3, hcl, hst, g9, k7, hmin] <;> rfl) ?_); intro a hA
      replace hA := hA.keepN [0, 4, 5, 6, 7, 8, 9]
      refine wN (nT (wS (wR ?_)))
      revert a; (iterate 5 refine wo rfl rfl (by decide) (fun ev e h => by simp [go_sem, h, f3, f3b, f4, f4b, f5, f6, jj0, hcv, i3, hcl, hst, g9, k7, hmin] <;> rfl) ?_); intro a hA
      replace hA := hA.keepN [0, 4, 5, 6, 7, 8, 9, 10]
      refine wN (nT (wS (wS (wR ?_))))
      revert a; (iterate 2 refine wo rfl rfl (by decide) (fun ev e h => by simp [go_sem, h, f3, f3b, f4, f4b, f5, f6, jj0, hcv, i3, hcl, hst, g9, k7, hmin] <;> rfl) ?_); (iterate 4 refine wg _ rfl rfl rfl rfl (by decide) (fun hq ev e h => by simp [go_sem, h, ↓gw_t (beq_t hq), f3, f3b, f4, f4b, f5, f6, jj0, hcv, i3, hcl, hst, g9, k7, hmin] <;> rfl) ?_); refine wko rfl rfl (by decide) rfl rfl rfl ?_; refine wo rfl rfl (by decide) (fun ev e h => by simp [go_sem, h, f3, f3b, f4, f4b, f5, f6, jj0, hcv, i3, hcl, hst, g9, k7, hmin] <;> rfl) ?_; (iterate 2 refine wg _ rfl rfl rfl rfl (by decide) (fun hq ev e h => by simp [go_sem, h, ↓gw_t (beq_t hq), f3, f3b, f4, f4b, f5, f6, jj0, hcv, i3, hcl, hst, g9, k7, hmin] <;> rfl) ?_); intro a hA
      replace hA := hA.keepN [0, 4, 5, 6, 7, 8, 9, 10, 51, 53]
      revert a; refine wg _ rfl rfl rfl rfl (by decide) (fun hq ev e h => by simp [go_sem, h, ↓gw_t (beq_t hq), f3, f3b, f4, f4b, f5, f6, jj0, hcv, i3, hcl, hst, g9, k7, hmin] <;> rfl) ?_; refine wka rfl rfl (by decide) rfl rfl rfl ?_; refine wo rfl rfl (by decide) (fun ev e h => by simp [go_sem, h, f3, f3b, f4, f4b, f5, f6, jj0, hcv, i3, hcl, hst, g9, k7, hmin] <;> rfl) ?_; (iterate 3 refine wg _ rfl rfl rfl rfl (by decide) (fun hq ev e h => by simp [go_sem, h, ↓gw_t (beq_t hq), f3, f3b, f4, f4b, f5, f6, jj0, hcv, i3, hcl, hst, g9, k7, hmin] <;> rfl) ?_); refine wg _ rfl rfl rfl rfl (by decide) (fun hq ev e h => by simp [go_sem, h, ↓gw_t (beq_t hq), f3, f3b, f4, f4b, f5, f6, jj0, hcv, i3, hcl, hst, g9, k7, hmin, i9 (show t ≠ [] from by intro e; rw [e] at hq; simp at hq)] <;> rfl) ?_; refine wg _ rfl rfl rfl rfl (by decide) (fun hq ev e h => by simp [go_sem, h, ↓gw_t (beq_t hq), f3, f3b, f4, f4b, f5, f6, jj0, hcv, i3, hcl, hst, g9, k7, hmin, k9 (show t ≠ [] from by intro e; rw [e] at hq; simp at hq), k8 (show t ≠ [] from by intro e; rw [e] at hq; simp at hq)] <;> rfl) ?_; refine wg _ rfl rfl rfl rfl (by decide) (fun hq ev e h => by simp [go_sem, h, ↓gw_t (beq_t hq), f3, f3b, f4, f4b, f5, f6, jj0, hcv, i3, hcl, hst, g9, k7, hmin] <;> rfl) ?_; refine wka rfl rfl (by decide) rfl rfl rfl ?_; intro a hA
      replace hA := hA.keepN [0, 4, 5, 6, 7, 8, 9, 10, 63]
      refine wN (nT ?_)
      refine wp_join (fun a wy => wx = wy ∧ At 186 [(0, .slice (some ad) b.length c), (4, V), (5, .bool q), (6, .int .i64 (at_ : Nat)), (7, .int .i64 (e : Nat)), (8, .string (St (stripR t))), (9, .int .i64 (nx : Nat)), (10, .bool cl)] a) ?jfJ ?jrJ
      case jfJ =>
        refine wp_if hA 63 _ rfl (fun hq3 => ?yC) (fun hq3 => ?nC)
        case yC =>
          have h9 := Bool.and_eq_true_iff.1 hq3
          have hpos : t ≠ [] := by
            intro e0
            rw [e0] at h9
            simp at h9
          have hx13 : t.getLastD 0 = 13 := by rw [hx9]; exact x8 13 (by decide) h9.2
          have hT : St (t.take k) = St (stripR t) := by rw [strip_yes hx13, hk]
          have i9' := i9 hpos
          have q1 : ((k : Nat) : Int) ≤ ((t.length : Nat) : Int) := by have := k9 hpos; omega
          refine wR ?_
          revert a; (iterate 6 refine wo rfl rfl (by decide) (fun ev e h => by simp [go_sem, h, hst, i9', q1, k7, extract_take, hT] <;> rfl) ?_); intro a hA
          replace hA := hA.keepN [0, 4, 5, 6, 7, 8, 9, 10]
          refine wN (nT ?_)
          exact ⟨rfl, hA⟩
        case nC =>
          refine wS (wR ?_)
          revert a; (iterate 3 refine wo rfl rfl (by decide) (fun ev e h => by simp [go_sem, h, hst, g9, k7] <;> rfl) ?_); (iterate 3 refine wg _ rfl rfl rfl rfl (by decide) (fun hq ev e h => by simp [go_sem, h, ↓gw_t (beq_t hq), hst, g9, k7] <;> rfl) ?_); refine wka rfl rfl (by decide) rfl rfl rfl ?_; refine wo rfl rfl (by decide) (fun ev e h => by simp [go_sem, h, hst, g9, k7] <;> rfl) ?_; (iterate 2 refine wg _ rfl rfl rfl rfl (by decide) (fun hq ev e h => by simp [go_sem, h, ↓gw_t (beq_t hq), hst, g9, k7] <;> rfl) ?_); intro a hA
          replace hA := hA.keepN [0, 4, 5, 6, 7, 8, 9, 10, 76, 77, 78]
          revert a; refine wg _ rfl rfl rfl rfl (by decide) (fun hq ev e h => by simp [go_sem, h, ↓gw_t (beq_t hq), hst, g9, k7] <;> rfl) ?_; refine wg _ rfl rfl rfl rfl (by decide) (fun hq ev e h => by simp [go_sem, h, ↓gw_t (beq_t hq), hst, g9, k7, i9 (show t ≠ [] from by intro e; rw [e] at hq; simp at hq)] <;> rfl) ?_; refine wg _ rfl rfl rfl rfl (by decide) (fun hq ev e h => by simp [go_sem, h, ↓gw_t (beq_t hq), hst, g9, k7, k9 (show t ≠ [] from by intro e; rw [e] at hq; simp at hq), k8 (show t ≠ [] from by intro e; rw [e] at hq; simp at hq)] <;> rfl) ?_; refine wg _ rfl rfl rfl rfl (by decide) (fun hq ev e h => by simp [go_sem, h, ↓gw_t (beq_t hq), hst, g9, k7] <;> rfl) ?_; refine wka rfl rfl (by decide) rfl rfl rfl ?_; intro a hA
          replace hA := hA.keepN [0, 4, 5, 6, 7, 8, 9, 10, 83]
          refine wN (nT ?_)
          refine wp_if hA 83 _ rfl (fun hq4 => ?yD) (fun hq4 => ?nD)
          case yD =>
            have h9 := Bool.and_eq_true_iff.1 hq4
            have hpos : t ≠ [] := by
              intro e0
              rw [e0] at h9
              simp at h9
            have hx13 : t.getLastD 0 = 13 := by rw [hx9]; exact x8 13 (by decide) h9.2
            have hT : St (t.take k) = St (stripR t) := by rw [strip_yes hx13, hk]
            have i9' := i9 hpos
            have q1 : ((k : Nat) : Int) ≤ ((t.length : Nat) : Int) := by have := k9 hpos; omega
            refine wR ?_
            revert a; (iterate 6 refine wo rfl rfl (by decide) (fun ev e h => by simp [go_sem, h, hst, i9', q1, k7, extract_take, hT] <;> rfl) ?_); intro a hA
            replace hA := hA.keepN [0, 4, 5, 6, 7, 8, 9, 10]
            refine wN (nT ?_)
            exact ⟨rfl, hA⟩
          case nD =>
            have hT : stripR t = t := by
              rcases List.eq_nil_or_concat t with h0 | ⟨r, x, h0⟩
              · rw [h0]; rfl
              · refine strip_no fun h13 => ?_
                have hpos : 0 < t.length := by rw [h0]; simp
                rw [hx9] at h13
                subst h13
                cases cl <;> simp [hpos] at hq3 hq4
            rw [hT]
            replace hA := hA.keepN [0, 4, 5, 6, 7, 8, 9, 10]
            refine wp_skip (nT ?_)
            exact ⟨rfl, hA⟩
      clear hA
      rintro a wy ⟨rfl, hA⟩
      obtain ⟨s, hs⟩ : ∃ s, stripR t = s := ⟨_, rfl⟩
      have hsl : s.length ≤ t.length := by rw [← hs]; exact strip_len t
      rw [hs] at hA hrs
      have i7 : IntKind.i64.wrap (((e : Nat) : Int) - ((at_ : Nat) : Int)) = ((t.length : Nat) : Int) := by rw [IntWalk.i64_in _ (by omega)]; omega
      refine wS (wS (wR ?_))
      revert a; (iterate 2 refine wo rfl rfl (by decide) (fun ev e h => by simp [go_sem, h, i7] <;> rfl) ?_); (iterate 2 refine wg _ rfl rfl rfl rfl (by decide) (fun hq ev e h => by simp [go_sem, h, ↓gw_t (beq_t hq), i7] <;> rfl) ?_); refine wka rfl rfl (by decide) rfl rfl rfl ?_; refine wo rfl rfl (by decide) (fun ev e h => by simp [go_sem, h, i7] <;> rfl) ?_; (iterate 4 refine wg _ rfl rfl rfl rfl (by decide) (fun hq ev e h => by simp [go_sem, h, ↓gw_t (beq_t hq), i7] <;> rfl) ?_); intro a hA
      replace hA := hA.keepN [0, 4, 5, 8, 9, 94, 98]
      revert a; refine wka rfl rfl (by decide) rfl rfl rfl ?_; intro a hA
      replace hA := hA.keepN [0, 4, 5, 8, 9, 99]
      refine wN (nT ?_)
      have hd1 : decide (((t.length : Nat) : Int) ≤ 1) = decide (t.length ≤ 1) := decide_eq_decide.2 (by omega)
      rw [hd1] at hA
      refine wp_if hA 99 _ rfl (fun hq5 => ?yE) (fun hq5 => ?nE)
      case yE =>
        rw [if_pos hq5] at hrs
        rw [hrs] at hrh1 hrh2
        refine wS (wR ?_)
        revert a; (iterate 2 refine wo rfl rfl (by decide) (fun ev e h => by simp [go_sem, h, i7] <;> rfl) ?_); intro a hA
        refine wl_call hA rfl rfl (by decide) (fun ev h => exec_call Tryz.func32 (by kernel_rfl) rfl (h.f _) (by first | (simp only [mL, h.get 101 rfl, h.c] <;> rfl) | (simp [mL, h.get 101 rfl, h.c, i7] <;> rfl))) (trimmedR_any B V l wx ho hBx (by omega) (fun f hf => by have := sumV_mem hf; omega)) ?_
        rintro e w1 ⟨rfl, ho1, hb1⟩
        refine ⟨_, rfl, fun a hA => ?_⟩
        revert a; (iterate 2 refine wo rfl rfl (by decide) (fun ev e h => by simp [go_sem, h, i7] <;> rfl) ?_); intro a hA
        replace hA := hA.keepN [2, 3]
        refine wN (nT (wp_ret (rT (rB (rT (rB (rT ?_)))))))
        refine ret_2 hA 2 3 rfl rfl rfl ?_
        refine ⟨_, ?_, hB ▸ hrh2 ▸ ho1, hB ▸ HB.trans hb1⟩
        rw [← hrh1]
        simp
        omega
      case nE =>
        rw [if_neg (by rw [hq5]; decide)] at hrs
        have hrest : b.length - nx ≤ F := by omega
        have hsz : (St s).size = s.length := rfl
        obtain ⟨x0, hx0⟩ : ∃ x0, s.headD 0 = x0 := ⟨_, rfl⟩
        have g1 : ∀ h : 0 < (St s).size, (St s)[0] = x0 := fun h => by
          cases s with
          | nil => exact absurd h (by decide)
          | cons y t => exact hx0
        refine wp_skip (nT (wS (wR ?_)))
        revert a; (iterate 2 refine wo rfl rfl (by decide) (fun ev e h => by simp [go_sem, h, hsz, g1] <;> rfl) ?_); intro a hA
        replace hA := hA.keepN [0, 4, 5, 6, 8]
        refine wN (nT (wS (wS (wR ?_))))
        revert a; (iterate 3 refine wo rfl rfl (by decide) (fun ev e h => by simp [go_sem, h, hsz, g1] <;> rfl) ?_); refine wg _ rfl rfl rfl rfl (by decide) (fun hq ev e h => by simp [go_sem, h, ↓gw_t (beq_t hq), hsz, g1] <;> rfl) ?_; refine wg _ rfl rfl rfl rfl (by decide) (fun hq ev e h => by simp [go_sem, h, ↓gw_t (beq_t hq), hsz, g1, (List.length_pos_iff.2 (show s ≠ [] from by intro e; rw [e] at hq; simp at hq))] <;> rfl) ?_; (iterate 2 refine wg _ rfl rfl rfl rfl (by decide) (fun hq ev e h => by simp [go_sem, h, ↓gw_t (beq_t hq), hsz, g1] <;> rfl) ?_); refine wg2 _ _ rfl rfl rfl rfl (by decide) (fun hq hr ev e h => by simp [go_sem, h, ↓gw_t (and_beq hq hr), ↓gw_t hq, hsz, g1] <;> rfl) ?_; refine wg2 _ _ rfl rfl rfl rfl (by decide) (fun hq hr ev e h => by simp [go_sem, h, ↓gw_t (and_beq hq hr), ↓gw_t hq, hsz, g1, (List.length_pos_iff.2 (show s ≠ [] from by intro e; rw [e] at hq; simp at hq))] <;> rfl) ?_; refine wg2 _ _ rfl rfl rfl rfl (by decide) (fun hq hr ev e h => by simp [go_sem, h, ↓gw_t (and_beq hq hr), ↓gw_t hq, hsz, g1] <;> rfl) ?_; intro a hA
        refine wl_guard _ hA rfl rfl rfl rfl (by decide) (fun hq ev h => by exact pick_or rfl (((h.get 110 rfl).trans (gw_t (beq_t hq)))) (h.c _) (((h.get 113 rfl).trans (gw_a (beq_t hq))))) fun a hA => ?_
        revert a; refine wka rfl rfl (by decide) rfl rfl rfl ?_; intro a hA
        replace hA := hA.keepN [0, 4, 5, 6, 8, 115]
        refine wN (nT ?_)
        obtain ⟨st2, hst2⟩ : ∃ st2, stepF (l, q) s = st2 := ⟨_, rfl⟩
        refine wp_if hA 115 _ rfl (fun hq6 => ?yG) (fun hq6 => ?nG)
        case yG =>
          have hbl2 : blankB s = true := by rw [blank_eq hx0, ← hq6]
          rw [step_blank hbl2] at hrs
          refine wS (wS (wR ?_))
          revert a; refine wo rfl rfl (by decide) (fun ev e h => by simp [go_sem, h, hsz, g1] <;> rfl) ?_; intro a hA
          replace hA := hA.keepN [0, 4, 5, 6, 8, 116]
          refine wN (nT ?_)
          refine wp_if hA 116 _ rfl (fun hq7 => ?yH) (fun hq7 => ?nH)
          case yH =>
            have hq7 : q = true := hq7
            subst hq7
            rw [if_pos rfl] at hrs
            have hlne := List.length_pos_iff.2 (hql rfl)
            obtain ⟨k2, hk2⟩ : ∃ k, l.length = k + 1 := ⟨l.length - 1, by omega⟩
            obtain ⟨y, hy⟩ : ∃ y, l[k2]? = some y := ⟨_, List.getElem?_eq_getElem (by omega)⟩
            obtain ⟨g2, c', rfl, hgB, hglt⟩ := ho.at_ (by omega)
            have z1 : wx.cell? ⟨g2, k2 * 2 + 1, none⟩ = some (.string (St y.v)) := ho.cellAt (j := 1) hy rfl
            have kk0 : (0 : Int) ≤ (k2 : Int) := by omega
            have kk1 : (k2 : Int) < ((l.length : Nat) : Int) := by omega
            have i1 : IntKind.i64.wrap (((l.length : Nat) : Int) - 1) = ((k2 : Nat) : Int) := by rw [IntWalk.i64_in _ (by omega)]; omega
            have hym := sumV_mem (List.mem_of_getElem? hy)
            have ka : St y.v ++ St s = St (y.v ++ s) := st_app _ _
            have kz : ¬ 9223372036854775807 < y.v.length + s.length := by omega
            obtain ⟨u, hu⟩ : ∃ u, y.v ++ s = u := ⟨_, rfl⟩
            obtain ⟨h8, h9⟩ := ho.put1 (j := 1) (x := (⟨y.n, u⟩ : FieldS)) (u := .string (St u)) hy (by decide) rfl rfl
            have hset : addLast l s = l.set k2 ⟨y.n, u⟩ := by rw [addLast_set hy hk2, hu]
            rw [hu] at ka
            have hsvl := sumV_add l s
            refine wR ?_
            revert a; (iterate 10 refine wo rfl rfl (by decide) (fun ev e h => by simp [go_sem, h, kk0, kk1, i1, z1, ka, kz, hsz, add0, ho.frozenAt] <;> rfl) ?_); intro a hA
            replace hA := hA.keepN [0, 4, 5, 6, 8, 117, 120, 126]
            revert a; (iterate 5 refine wo rfl rfl (by decide) (fun ev e h => by simp [go_sem, h, kk0, kk1, i1, z1, ka, kz, hsz, add0, ho.frozenAt] <;> rfl) ?_); intro a hA
            refine wl_skip hA rfl rfl (fun ev h => by simp [go_sem, h.get 131 rfl, h.get 129 rfl, kk0, kk1, i1, z1, ka, kz, hsz, add0, ho.frozenAt]; try first | exact ⟨rfl, rfl⟩ | rfl) ?_
            replace hA := hA.keepN [0, 4, 5, 6]
            replace hA := hA.keepN [0, 4, 5, 6]
            refine wN (nT (wp_exit (xT (xB (nT ?_)))))
            rw [hset] at hrs
            have hnl : (l.set k2 ⟨y.n, u⟩).length = l.length := List.length_set ..
            rw [hset] at hsvl
            refine ⟨F, by omega, nx, _, l.set k2 ⟨y.n, u⟩, true, by omega, hrest, ?_, fun _ e => by rw [e] at hnl; simp at hnl; omega, by rw [hnl]; omega, by omega, ?_, HB.grown h9 hBx (fun k e => by injection e with e; omega), hA⟩
            · rw [hrs]; congr 1; omega
            · exact h8
          case nH =>
            have hq7 : q = false := hq7
            subst hq7
            rw [if_neg (by decide)] at hrs
            replace hA := hA.keepN [0, 4, 5, 6]
            refine wp_skip (nT (wp_exit (xT (xB (nT ?_)))))
            exact ⟨F, by omega, nx, V, l, false, by omega, hrest, by rw [hrs]; congr 1; omega, (fun h => by cases h), by omega, by omega, ho, HB, hA⟩
        case nG =>
          have hbl2 : blankB s = false := by rw [blank_eq hx0, ← hq6]
          refine wp_skip (nT (wS (wR ?_)))
          revert a; refine wo rfl rfl (by decide) (fun ev e h => by simp [go_sem, h, hsz, g1] <;> rfl) ?_; intro a hA
          replace hA := hA.keepN [0, 4, 6, 8, 11]
          refine wN (nT (wS (wB ?_)))
          refine wp_loop_at (fun g a wy => ∃ m : Nat, m + g = s.length ∧ (∀ i x, i < m → s[i]? = some x → x ≠ 58 ∧ signB x = true) ∧ wx = wy ∧ At 186 [(0, .slice (some ad) b.length c), (4, V), (6, .int .i64 (nx : Nat)), (8, .string (St s)), (11, .int .i64 (m : Nat))] a) (s.length) ?_ ?_
          · exact ⟨0, by omega, (fun i x hi => absurd hi (Nat.not_lt_zero _)), rfl, hA⟩
          clear hA
          rintro g a wy ⟨m, hmg, hall, rfl, hA⟩
          obtain ⟨x, hx⟩ : ∃ x, s.getD m 0 = x := ⟨_, rfl⟩
          have gm : ∀ h : m < (St s).size, (St s)[m] = x := fun h => by
            have h1 : m < s.length := h
            rw [← hx, List.getD_eq_getElem?_getD, List.getElem?_eq_getElem h1]
            rfl
          have hsm : m < s.length → s[m]? = some x := fun h => by rw [← hx, List.getD_eq_getElem?_getD, List.getElem?_eq_getElem h]; rfl
          have mm0 : (0 : Int) ≤ (m : Int) := by omega
          have i4 : IntKind.i64.wrap (((m : Nat) : Int) + 1) = ((m + 1 : Nat) : Int) := by rw [IntWalk.i64_in _ (by omega)]; omega
          have h58 : (((x.toNat : Nat) : Int) == 58) = (x == 58) := u8_eq x 58 (by decide)
          have hsg : signB x = (decide (33 ≤ x.toNat) && decide (x.toNat ≤ 126)) := rfl
          refine wS (wS (wR ?_))
          revert a; (iterate 5 refine wo rfl rfl (by decide) (fun ev e h => by simp [go_sem, h, hsz, gm, mm0] <;> rfl) ?_); (iterate 2 refine wg _ rfl rfl rfl rfl (by decide) (fun hq ev e h => by simp [go_sem, h, ↓gw_t (beq_t hq), hsz, gm, mm0] <;> rfl) ?_); refine wg _ rfl rfl rfl rfl (by decide) (fun hq ev e h => by simp [go_sem, h, ↓gw_t (beq_t hq), hsz, gm, mm0, (show m < s.length from by have h9 := hq; simp at h9; omega)] <;> rfl) ?_; refine wg _ rfl rfl rfl rfl (by decide) (fun hq ev e h => by simp [go_sem, h, ↓gw_t (beq_t hq), hsz, gm, mm0] <;> rfl) ?_; refine wka rfl rfl (by decide) rfl rfl rfl ?_; refine wo rfl rfl (by decide) (fun ev e h => by simp [go_sem, h, hsz, gm, mm0] <;> rfl) ?_; intro a hA
          replace hA := hA.keepN [0, 4, 6, 8, 11, 142]
          revert a; (iterate 2 refine wg _ rfl rfl rfl rfl (by decide) (fun hq ev e h => by simp [go_sem, h, ↓gw_t (beq_t hq), hsz, gm, mm0] <;> rfl) ?_); refine wg _ rfl rfl rfl rfl (by decide) (fun hq ev e h => by simp [go_sem, h, ↓gw_t (beq_t hq), hsz, gm, mm0, (show m < s.length from by have h9 := hq; simp at h9; omega)] <;> rfl) ?_; refine wg _ rfl rfl rfl rfl (by decide) (fun hq ev e h => by simp [go_sem, h, ↓gw_t (beq_t hq), hsz, gm, mm0] <;> rfl) ?_; refine wka rfl rfl (by decide) rfl rfl rfl ?_; refine wo rfl rfl (by decide) (fun ev e h => by simp [go_sem, h, hsz, gm, mm0] <;> rfl) ?_; (iterate 2 refine wg _ rfl rfl rfl rfl (by decide) (fun hq ev e h => by simp [go_sem, h, ↓gw_t (beq_t hq), hsz, gm, mm0] <;> rfl) ?_); refine wg _ rfl rfl rfl rfl (by decide) (fun hq ev e h => by simp [go_sem, h, ↓gw_t (beq_t hq), hsz, gm, mm0, (show m < s.length from by have h9 := hq; simp at h9; omega)] <;> rfl) ?_; refine wg _ rfl rfl rfl rfl (by decide) (fun hq ev e h => by simp [go_sem, h, ↓gw_t (beq_t hq), hsz, gm, mm0] <;> rfl) ?_; refine wka rfl rfl (by decide) rfl rfl rfl ?_; intro a hA
          replace hA := hA.keepN [0, 4, 6, 8, 11, 153]
          refine wN (nT ?_)
          refine wp_if hA 153 _ rfl (fun hq8 => ?yM) (fun hq8 => ?nM)
          case yM =>
            have hml : m < s.length := by have h9 := hq8; simp at h9; omega
            refine wp_skip (nT (wB (wR ?_)))
            revert a; (iterate 3 refine wo rfl rfl (by decide) (fun ev e h => by simp [go_sem, h, i4] <;> rfl) ?_); intro a hA
            replace hA := hA.keepN [0, 4, 6, 8, 11]
            refine wN (nB (nT ?_))
            refine ⟨g - 1, by omega, m + 1, by omega, fun i z hi hz => ?_, rfl, hA⟩
            rcases Nat.lt_or_ge i m with h9 | h9
            · exact hall i z h9 hz
            · have him : i = m := by omega
              rw [him, hsm hml] at hz
              injection hz with hz
              subst hz
              refine ⟨fun e => ?_, ?_⟩
              · rw [e] at hq8; simp at hq8
              · rw [hsg]; simp at hq8 ⊢; omega
          case nM =>
            have hm2 : ∀ z, s[m]? = some z → z = 58 ∨ signB z = false := fun z hz => by
              have hml := (List.getElem?_eq_some_iff.1 hz).1
              rw [hsm hml] at hz
              injection hz with hz
              subst hz
              by_cases he : x = 58
              · exact .inl he
              · right
                rw [hsg]
                have hne8 : (((x.toNat : Nat) : Int) != 58) = true := by unfold bne; rw [h58]; simp [he]
                rw [show decide (m < s.length) = true from decide_eq_true hml, hne8] at hq8
                simp at hq8 ⊢
                omega
            rw [step_ref hbl2 (by omega) hall hm2] at hrs
            replace hA := hA.keepN [0, 4, 6, 8, 11]
            refine wp_exit (xT (xT (xB (nT (wS (wR ?_))))))
            revert a; (iterate 3 refine wo rfl rfl (by decide) (fun ev e h => by simp [go_sem, h, hsz, gm, mm0] <;> rfl) ?_); (iterate 4 refine wg _ rfl rfl rfl rfl (by decide) (fun hq ev e h => by simp [go_sem, h, ↓gw_t (beq_t hq), hsz, gm, mm0] <;> rfl) ?_); refine wka rfl rfl (by decide) rfl rfl rfl ?_; refine wo rfl rfl (by decide) (fun ev e h => by simp [go_sem, h, hsz, gm, mm0] <;> rfl) ?_; refine wg _ rfl rfl rfl rfl (by decide) (fun hq ev e h => by simp [go_sem, h, ↓gw_t (beq_t hq), hsz, gm, mm0] <;> rfl) ?_; intro a hA
            replace hA := hA.keepN [0, 4, 6, 8, 11, 164, 165]
            revert a; refine wg _ rfl rfl rfl rfl (by decide) (fun hq ev e h => by simp [go_sem, h, ↓gw_t (beq_t hq), hsz, gm, mm0] <;> rfl) ?_; refine wg _ rfl rfl rfl rfl (by decide) (fun hq ev e h => by simp [go_sem, h, ↓gw_t (beq_t hq), hsz, gm, mm0, (show m < s.length from by have h9 := hq; simp at h9; omega)] <;> rfl) ?_; refine wg _ rfl rfl rfl rfl (by decide) (fun hq ev e h => by simp [go_sem, h, ↓gw_t (beq_t hq), hsz, gm, mm0] <;> rfl) ?_; refine wka rfl rfl (by decide) rfl rfl rfl ?_; refine wo rfl rfl (by decide) (fun ev e h => by simp [go_sem, h, hsz, gm, mm0] <;> rfl) ?_; intro a hA
            replace hA := hA.keepN [0, 4, 5, 6, 8, 11]
            refine wN (nT (wS (wR ?_)))
            revert a; refine wo rfl rfl (by decide) (fun ev e h => by simp [go_sem, h, hsz, gm, mm0] <;> rfl) ?_; intro a hA
            replace hA := hA.keepN [0, 4, 5, 6, 8, 11, 170]
            refine wN (nT ?_)
            rw [h58] at hA
            obtain ⟨on, hon⟩ : ∃ q, (decide (0 < m) && decide (m < s.length) && x == 58) = q := ⟨_, rfl⟩
            rw [hon] at hA
            have hiff : on = true ↔ (0 < m ∧ s[m]? = some 58) := by
              rw [← hon]
              constructor
              · intro h9
                simp only [Bool.and_eq_true, decide_eq_true_eq, beq_iff_eq] at h9
                exact ⟨h9.1.1, by rw [hsm h9.1.2, h9.2]⟩
              · rintro ⟨h9, h8⟩
                have hml := (List.getElem?_eq_some_iff.1 h8).1
                rw [hsm hml] at h8
                injection h8 with h8
                simp [h9, hml, h8]
            refine wp_if hA 170 _ rfl (fun hq9 => ?yP) (fun hq9 => ?nP)
            case nP =>
              have hof : on = false := by simpa using hq9
              rw [if_neg fun e => by rw [hiff.2 e] at hof; cases hof] at hrs
              rw [hof] at hA
              replace hA := hA.keepN [0, 4, 5, 6]
              refine wp_skip (nB (nT ?_))
              exact ⟨F, by omega, nx, V, l, false, by omega, hrest, by rw [hrs]; congr 1; omega, (fun h => by cases h), by omega, by omega, ho, HB, hA⟩
            case yP =>
              have hot : on = true := by simpa using hq9
              obtain ⟨hm0, hm58⟩ := hiff.1 hot
              have hml := (List.getElem?_eq_some_iff.1 hm58).1
              rw [if_pos (hiff.1 hot)] at hrs
              rw [hot] at hA
              have e1 : (St s).extract (m + 1) s.length = St (s.drop (m + 1)) := extract_drop s (m + 1) s.length rfl
              have q1 : ((m : Nat) : Int) + 1 ≤ ((s.length : Nat) : Int) := by omega
              have q2 : ((m : Nat) : Int) ≤ ((s.length : Nat) : Int) := by omega
              have q3 : (0 : Int) ≤ ((m : Nat) : Int) + 1 := by omega
              have q4 : (((m : Nat) : Int) + 1).toNat = m + 1 := by omega
              have q5 : m + 1 ≤ s.length := hml
              have q6 : m ≤ s.length := by omega
              obtain ⟨n1, hn1⟩ : ∃ z, s.take m = z := ⟨_, rfl⟩
              obtain ⟨v1, hv1⟩ : ∃ z, s.drop (m + 1) = z := ⟨_, rfl⟩
              have hv1l : v1.length ≤ s.length := by rw [← hv1, List.length_drop]; omega
              rw [hn1, hv1] at hrs
              rw [hv1] at e1
              have e2 : (St s).extract 0 m = St n1 := by rw [extract_take, hn1]
              obtain ⟨Av, cv, rfl, -, -⟩ := ho.reads
              refine wp_region_split 11 ?_
              simp only [List.take_succ_cons, List.take_zero, List.drop_succ_cons, List.drop_zero]
              refine wp_any_split_at hA [(.det ?dR0), (.det ?dR1), (.det ?dR2), (.det ?dR3), (.det ?dR4), (.det ?dR5), (.det ?dR6), (.det ?dR7), (.det ?dR8), (.used (fun val wy => ∃ g, val = .slice (some ⟨g, 0, none⟩) 1 1 ∧ RowR fldSh wy (some ⟨g, 0, none⟩) [⟨n1, v1⟩])), (.held (fun val wy => OwnR fldSh B wy val (l ++ [⟨n1, v1⟩])))] [⟨none, (some 10), [], fun _ => (fun wy => OwnR fldSh B wy (.slice Av l.length cv) l), fun _ _ _ _ h => h⟩] (fun wy => Below B wx wy) (TSp [(10, fun _ _ => True)] Grows) (by kernel_rfl) rfl (by kernel_rfl) (by kernel_rfl) rfl (by kernel_rfl) (by kernel_rfl) (by kernel_rfl) (by kernel_rfl) ((Below.refl _ _).drew) (stab_sp [(10, fun _ _ => True)] [true, true, true, true, true, true, true, true, true, false, false] [true, true, true, true, true, true, true, true, true, false, true] [] rfl rfl rfl (by kernel_rfl) ⟨trivial, trivial, trivial, trivial, trivial, trivial, trivial, trivial, trivial, (fun _ _ _ _ hp hb => by obtain ⟨g, h1, h2⟩ := hp; exact ⟨g, h1, h2.below hb⟩), (fun _ _ _ _ hp hb => hp.below hb), trivial⟩ trivial) (List.forall_mem_cons.2 ⟨(fun hn => ho.below (Below.refl _ _).drew), (fun _ h => by cases h)⟩) (phase_sp [(10, fun _ _ => True)] [(none, (some 10))] [] rfl (by kernel_rfl) (List.forall_mem_cons.2 ⟨fun _ => fun _ _ _ hp hb => hp.below hb, (fun _ h => by cases h)⟩) trivial) (List.forall_mem_cons.2 ⟨(fun a h => by first | (exact (no_1 h).elim) | (injection h with h; subst h; exact Nat.le_of_ble_eq_true rfl)), (fun _ h => by cases h)⟩) ⟨?oR0, ?oR1, ?oR2, ?oR3, ?oR4, ?oR5, ?oR6, ?oR7, ?oR8, ?oR9, ?oR10, trivial⟩ (by kernel_rfl) ?fR
              case oR0 => intro ev wo hev hC hs hph; have x0 := se hA hs 4; exact od rfl rfl (by kernel_rfl) hC (TSp.of rfl (Grows.refl _)) (by simp [go_sem, x0, hsz, i4, e1, e2, q1, q2, q3, q4, q5, q6, mm0] <;> rfl)
              case oR1 => intro ev wo hev hC hs hph; have x0 := se hA hs 8; exact od rfl rfl (by kernel_rfl) hC (TSp.of rfl (Grows.refl _)) (by simp [go_sem, x0, hsz, i4, e1, e2, q1, q2, q3, q4, q5, q6, mm0] <;> rfl)
              case oR2 => intro ev wo hev hC hs hph; have x0 := se hA hs 11; exact od rfl rfl (by kernel_rfl) hC (TSp.of rfl (Grows.refl _)) (by simp [go_sem, x0, hsz, i4, e1, e2, q1, q2, q3, q4, q5, q6, mm0] <;> rfl)
              case oR3 => intro ev wo hev hC hs hph; have x0 := sd hs 172 1; have x1 := sd hs 173 2; exact od rfl rfl (by kernel_rfl) hC (TSp.of rfl (Grows.refl _)) (by simp [go_sem, x0, x1, hsz, i4, e1, e2, q1, q2, q3, q4, q5, q6, mm0] <;> rfl)
              case oR4 => intro ev wo hev hC hs hph; have x0 := se hA hs 8; exact od rfl rfl (by kernel_rfl) hC (TSp.of rfl (Grows.refl _)) (by simp [go_sem, x0, hsz, i4, e1, e2, q1, q2, q3, q4, q5, q6, mm0] <;> rfl)
              case oR5 => intro ev wo hev hC hs hph; have x0 := se hA hs 11; exact od rfl rfl (by kernel_rfl) hC (TSp.of rfl (Grows.refl _)) (by simp [go_sem, x0, hsz, i4, e1, e2, q1, q2, q3, q4, q5, q6, mm0] <;> rfl)
              case oR6 => intro ev wo hev hC hs hph; have x0 := sd hs 176 5; exact od rfl rfl (by kernel_rfl) hC (TSp.of rfl (Grows.refl _)) (by simp [go_sem, x0, hev.const, hsz, i4, e1, e2, q1, q2, q3, q4, q5, q6, mm0] <;> rfl)
              case oR7 => intro ev wo hev hC hs hph; have x0 := sd hs 175 4; have x1 := sd hs 177 6; exact od rfl rfl (by kernel_rfl) hC (TSp.of rfl (Grows.refl _)) (by simp [go_sem, x0, x1, hsz, i4, e1, e2, q1, q2, q3, q4, q5, q6, mm0] <;> rfl)
              case oR8 => intro ev wo hev hC hs hph; have x0 := sd hs 174 3; have x1 := sd hs 178 7; exact od rfl rfl (by kernel_rfl) hC (TSp.of rfl (Grows.refl _)) (by simp [go_sem, x0, x1, hsz, i4, e1, e2, q1, q2, q3, q4, q5, q6, mm0] <;> rfl)
              case oR9 =>
                intro ev wo hev hC hs hph
                have e179 := sd hs 179 8
                have hbn := (Below.refl wo.heap.size wo).alloc (Nat.le_refl _) (.cells #[.string (St n1), .string (St v1)] 72)
                have hBo : B ≤ wo.heap.size := Nat.le_trans hBx hC.size
                exact ob_yes (wanted_none rfl) (does_value (v := .slice (some ⟨wo.heap.size, 0, none⟩) 1 1) (w' := wo.alloc (.cells #[.string (St n1), .string (St v1)] 72)) (by simp [go_sem, e179]) ⟨hC.trans (hbn.mono hBo), TSp.of rfl hbn, ⟨_, rfl, rowR_blk (s := fldSh) (x := ⟨n1, v1⟩) (Blk.new wo _ _) (fun p hp => by cases hp)⟩, no_start (by kernel_rfl)⟩)
              case oR10 =>
                intro ev wo hev hC hs hph
                have e171 := sd hs 171 0
                have u180 := su hs 180 9
                have hp1 := (hph _ List.mem_cons_self (by kernel_rfl))
                obtain ⟨g, h1, h2⟩ := u180
                have hBo : B ≤ wo.heap.size := Nat.le_trans hBx hC.size
                obtain ⟨r, w3, hr3, ho3, hgr, _⟩ := run_appR (c := 1) hp1 h2 (fun _ _ m _ p hp => by cases hp) (by simp; omega) hBo
                exact ob_yes (wanted_none rfl) (does_value (exec_append rfl e171 h1 hr3) ⟨below_appR hC hp1 hgr (Nat.le_refl _) hBo, TSp.sp rfl trivial, ho3, no_start (by kernel_rfl)⟩)
              intro sg wf hC hph
              intro x180 hx180
              intro x181 hx181 h181
              intro a hA
              replace hA := hA.keepN [0, 5, 6, 181]
              revert a; refine wo rfl rfl (by decide) (fun ev e h => by simp [go_sem, h] <;> rfl) ?_; intro a hA
              replace hA := hA.keepN [0, 4, 5, 6]
              refine wN (nB (nT ?_))
              have hnl : (l ++ [(⟨n1, v1⟩ : FieldS)]).length = l.length + 1 := by simp
              have hsvn : sumV (l ++ [(⟨n1, v1⟩ : FieldS)]) = sumV l + v1.length := by rw [sumV_app]; simp [sumV]
              have hsl2 : s.length ≤ e - at_ := by omega
              refine ⟨F, by omega, nx, _, l ++ [⟨n1, v1⟩], true, by omega, hrest, by rw [hrs]; congr 1; omega, (fun _ e => by rw [e] at hnl; simp at hnl), by omega, by omega, h181, HB.trans hC, hA⟩
end Go.Proofs.YtjhaccmcjlbllaaGreatDoor
/-
  New memory, under a guard that is known.
-/
namespace Go.Proofs.YtjhaccmcjlbllaaGreatDoor
open Go Go.RowKit
/-- new memory, under a guard that is so -/
theorem wl_gnew {P : Program} {Q : Exit → Act → World → Prop} {a : Act} {w : World} {n : Nat} {Γ : Env} {l rest : List Oper} {o : Oper} {t gi gt : Nat} {b : Bool} {v : Value} {x : Obj} (hA : At n Γ a) (hg : o.guard = some (gi, b)) (hgd : (l[gi]?).bind (·.dst) = some gt) (hl : look Γ gt = some (.bool b)) (hd : o.dst = some t) (ht : t < n)
    (hrun : ∀ ev, EvIn Γ ev → (execOp ev o).run P w = .ok (.value v) (w.alloc x))
    (hk : ∀ w1 a', w1.heap[w.heap.size]? = some x → w1.heap.size = w.heap.size + 1 → Below w.heap.size w w1 → At n ((t, v) :: Γ) a' → wpList P l.toArray Q rest a' w1) : wpList P l.toArray Q (o :: rest) a w := by
  have hw : Region.wanted o (yielded l.toArray a.tmps) = true := by
    rw [wanted_eq]
    exact wanted_bool (r := true) hg hgd (hA.evin.get gt hl) (by cases b <;> rfl)
  refine wpList_step fun K hK => ?_
  rw [hw, if_pos rfl]
  unfold Oper.wp
  rw [hrun _ hA.evin, Oper.upon_value, hd]
  exact hK _ _ (hk _ _ (heap_alloc_new w x) (by simp) ((Below.refl _ _).alloc (Nat.le_refl _) x) (hA.put ht v))
/-- a call under a guard that is so -/
theorem wl_kcall {P : Program} {Q : Exit → Act → World → Prop} {a : Act} {w : World} {n : Nat} {Γ : Env} {l rest : List Oper} {o : Oper} {t gi gt : Nat} {b : Bool} {f : FuncId} {args : Array Value} {R : Ending → World → Prop} (hA : At n Γ a) (hg : o.guard = some (gi, b)) (hgd : (l[gi]?).bind (·.dst) = some gt) (hl : look Γ gt = some (.bool b)) (hd : o.dst = some t) (ht : t < n)
    (hrun : ∀ ev, EvIn Γ ev → (execOp ev o).run P w = .ok (.enter f args) w) (hc : Calls P f args w R)
    (hk : ∀ e w', R e w' → ∃ v, e = .returned v ∧ ∀ a', At n ((t, v) :: Γ) a' → wpList P l.toArray Q rest a' w') : wpList P l.toArray Q (o :: rest) a w := by
  have hw : Region.wanted o (yielded l.toArray a.tmps) = true := by
    rw [wanted_eq]
    exact wanted_bool (r := true) hg hgd (hA.evin.get gt hl) (by cases b <;> rfl)
  refine wpList_step fun K hK => ?_
  rw [hw, if_pos rfl]
  unfold Oper.wp
  rw [hrun _ hA.evin, Oper.upon_enter]
  refine Calls.mono hc fun e w' hR => ?_
  obtain ⟨v, rfl, h⟩ := hk e w' hR
  rw [hd]
  exact hK _ _ (h _ (hA.put ht v))
end Go.Proofs.YtjhaccmcjlbllaaGreatDoor
/-
  cubbyref06.small, Alike, Norm, walked.
-/
namespace Go.Proofs.YtjhaccmcjlbllaaGreatDoor
open Go.RowKit
def plainNI (c : Int) : Bool := decide (97 ≤ c ∧ c ≤ 122 ∨ 65 ≤ c ∧ c ≤ 90 ∨ 48 ≤ c ∧ c ≤ 57 ∨ c = 46 ∨ c = 95 ∨ c = 45)
def plainNB (c : UInt8) : Bool := plainNI (c.toNat : Int)
def slash : ByteArray := ⟨#[47]⟩
def inboxS : ByteArray := ⟨#[73, 78, 66, 79, 88]⟩
theorem toList_take (s : ByteArray) (k : Nat) (h : k = s.size) : s.data.toList.take k = s.data.toList := List.take_of_length_le (by simp [h])
def smallI (c : Int) : Int := if 65 ≤ c ∧ c ≤ 90 then c + 32 else c
theorem smallI_lo (c : Int) (h : 0 ≤ c) : 0 ≤ smallI c := by unfold smallI; split <;> omega
theorem smallI_hi (c : Int) (h : c ≤ 255) : smallI c ≤ 255 := by unfold smallI; split <;> omega
set_option maxHeartbeats 400000 in
theorem small_any (c : Int) (h0 : 0 ≤ c) (h1 : c ≤ 255) (w : World) :
    Calls Tryz.prog 57 #[.int .u8 c] w fun e w' => e = .returned (.int .u8 (smallI c)) ∧ w' = w := by
  go_enter Tryz.func57, Tryz.ntmps57
  go_wp2
  all_goals go_ret
  all_goals exact ⟨ret_int (by unfold smallI; split <;> omega), rfl⟩
def smallB (c : UInt8) : Int := smallI (c.toNat : Int)
def alikeL (a b : List UInt8) : Bool := a.map smallB == b.map smallB
theorem map_take_snoc (s : ByteArray) (k : Nat) (h : k < s.size) (f : UInt8 → Int) : (s.data.toList.take (k + 1)).map f = (s.data.toList.take k).map f ++ [f s[k]] := by
  rw [take_snoc s k h]; simp
theorem alike_diff (a b : ByteArray) (k : Nat) (h : k < a.size) (h' : k < b.size) (hne : smallB a[k] ≠ smallB b[k]) : alikeL a.data.toList b.data.toList = false := by
  unfold alikeL
  rw [beq_eq_false_iff_ne]
  intro e
  have := congrArg (fun l => l[k]?) e
  simp only [List.getElem?_map, List.getElem?_eq_getElem (l := a.data.toList) (i := k) (by simpa using h), List.getElem?_eq_getElem (l := b.data.toList) (i := k) (by simpa using h')] at this
  simp at this; exact hne this
set_option maxHeartbeats 400000 in
theorem alike_any (a b : ByteArray) (ha : a.size ≤ 9223372036854775807) (_hb : b.size ≤ 9223372036854775807) (w : World) :
    Calls Tryz.prog 38 #[.string a, .string b] w fun e w' => e = .returned (.bool (alikeL a.data.toList b.data.toList)) ∧ ∃ n, w' = w.drewN n := by
  by_cases hl : a.size = b.size
  · go_enter Tryz.func38, Tryz.ntmps38
    have hl' : ((a.size : Int) != (b.size : Int)) = false := by simp [hl]
    have HL := Lib.hid hl; clear hl
    go_wp2
    go_loopw [13] (fun i wr => ∃ (k n : Nat), i = .int .i64 k ∧ k ≤ a.size ∧ Hid ((a.data.toList.take k).map smallB = (b.data.toList.take k).map smallB) ∧ Hid (wr = w.drewN n)) (fun i _ => a.size - (intOf i).toNat)
    case atStart => exact ⟨0, 0, rfl, by omega, rfl, rfl⟩
    case round =>
      obtain ⟨k, n, rfl, hk, hm, hw⟩ := hrel
      by_cases hlt : k < a.size
      · have hlb : k < b.size := by have := HL.out; omega
        have a0 := smallI_lo (a[k].toNat : Int) (by omega)
        rcases Bool.eq_false_or_eq_true (smallI (a[k].toNat : Int) != smallI (b[k].toNat : Int)) with he | he
        · have Hf := Lib.hid (alike_diff a b k hlt hlb (by simpa [smallB] using he))
          go_wp2
          go_quiet ((go_at_call 57; exact Calls.quiet_of_same (small_any _ (by omega) (by first | (have := a[k].toNat_lt; omega) | (have := b[k].toNat_lt; omega)) _)))
          go_wp2
          go_ret
          exact ⟨ret_bool Hf.out.symm, _, by rw [hw.out, World.drewN_drewN]⟩
        · go_wp2
          go_quiet ((go_at_call 57; exact Calls.quiet_of_same (small_any _ (by omega) (by first | (have := a[k].toNat_lt; omega) | (have := b[k].toNat_lt; omega)) _)))
          go_wp2
          go_roundw
          case rel =>
            refine ⟨k + 1, _, by go_num, by omega, ?_, by show _ = _; rw [hw.out, World.drewN_drewN]⟩
            show List.map smallB _ = List.map smallB _
            rw [map_take_snoc a k hlt, map_take_snoc b k hlb, hm.out]
            congr 2
            simpa [smallB] using he
          case measure => simp [intOf] <;> omega
      · obtain rfl : k = a.size := by omega
        go_wp2
        go_ret
        refine ⟨ret_bool ?_, _, hw.out⟩
        have h1 := hm.out
        rw [toList_take a _ rfl, toList_take b _ HL.out] at h1
        unfold alikeL
        simp [h1]
  · have hl' : ((a.size : Int) != (b.size : Int)) = true := by simp; omega
    have Hf : Hid (alikeL a.data.toList b.data.toList = false) := by
      show alikeL _ _ = false
      unfold alikeL
      rw [beq_eq_false_iff_ne]
      intro e
      have := congrArg List.length e
      simp at this
      exact hl this
    clear hl
    go_enter Tryz.func38, Tryz.ntmps38
    go_wp2
    go_ret
    exact ⟨ret_bool Hf.out.symm, 0, rfl⟩
/-- the reference's scan: at a part's beginning, or inside one -/
def nameScan : Bool → List UInt8 → Bool
  | st, [] => !st
  | st, c :: l => if c = 47 then !st && nameScan true l else plainNB c && nameScan false l
def refNormV (s : ByteArray) : ByteArray × Bool :=
  if nameScan true s.data.toList && decide (s.size ≤ 60) then (if alikeL s.data.toList [105, 110, 98, 111, 120] = true then (inboxS, true) else (s, true)) else (⟨#[]⟩, false)
theorem scan_slash (st : Bool) (c : UInt8) (l : List UInt8) (h : c = 47) : nameScan st (c :: l) = (!st && nameScan true l) := by rw [nameScan, if_pos h]
theorem scan_other (st : Bool) (c : UInt8) (l : List UInt8) (h : c ≠ 47) : nameScan st (c :: l) = (plainNB c && nameScan false l) := by rw [nameScan, if_neg h]
theorem drop_cons (p : ByteArray) (i : Nat) (h : i < p.size) : p.data.toList.drop i = p[i] :: p.data.toList.drop (i + 1) := by
  rw [List.drop_eq_getElem_cons (by simpa using h)]; rfl
theorem u8_of_intN (c : UInt8) (n : Nat) (hn : n < 256) (h : (c.toNat : Int) = n) : c = UInt8.ofNat n := by
  apply UInt8.toNat_inj.1; simp; omega
set_option maxHeartbeats 1000000 in
theorem refNorm_any (s : ByteArray) (hs : s.size ≤ 9223372036854775807) (w : World) :
    Calls Tryz.prog 68 #[.string s] w fun e w' => e = .returned (.tuple #[.string (refNormV s).1, .bool (refNormV s).2]) ∧ ∃ n, w' = w.drewN n := by
  go_enter Tryz.func68, Tryz.ntmps68
  go_wp2
  go_loop [4, 9] (fun last i => ∃ (k : Nat) (c : Int), last = .int .u8 c ∧ 0 ≤ c ∧ c ≤ 255 ∧ i = .int .i64 k ∧ k ≤ s.size ∧ Hid (nameScan true s.data.toList = nameScan (c == 47) (s.data.toList.drop k))) (fun _ i => s.size - (intOf i).toNat)
  case atStart => exact ⟨0, 47, rfl, by omega, by omega, rfl, by omega, rfl⟩
  case round =>
    obtain ⟨k, c, rfl, hc0, hc1, rfl, hk, hsc⟩ := hrel
    by_cases hlt : k < s.size
    · have hb := s[k].toNat_lt
      have hd := drop_cons s k hlt
      have Hd := Lib.hid hd; clear hd
      rcases Bool.eq_false_or_eq_true ((s[k].toNat : Int) == 47) with h47 | h47
      · rcases Bool.eq_false_or_eq_true (c == 47) with hl | hl
        · have hv : refNormV s = (⟨#[]⟩, false) := by
            unfold refNormV
            rw [hsc.out, Hd.out, scan_slash _ _ _ (u8_of_intN _ 47 (by omega) (by simpa using h47)), hl]; rfl
          have Hv := Lib.hid hv; clear hv
          go_wp2
          go_ret2
          exact ⟨by rw [Hv.out]; rfl, 0, rfl⟩
        · have hv : nameScan true s.data.toList = nameScan true (s.data.toList.drop (k + 1)) := by
            rw [hsc.out, Hd.out, scan_slash _ _ _ (u8_of_intN _ 47 (by omega) (by simpa using h47)), hl]; rfl
          have Hv := Lib.hid hv; clear hv
          have h47' : ((s[k].toNat : Int) != 47) = false := by rw [bne, h47]; rfl
          go_wp2
          go_round
          case rel => exact ⟨k + 1, _, rfl, by omega, by omega, by go_num, by omega, Hv.out.trans (by congr 1; first | rfl | (exact h47.symm))⟩
          case measure => simp [intOf] <;> omega
      · have hs47 : s[k] ≠ 47 := fun e => by rw [e] at h47; exact absurd h47 (by decide)
        have h47' : ((s[k].toNat : Int) != 47) = true := by rw [bne, h47]; rfl
        have Kg : Hid (plainNB s[k] = true → nameScan true s.data.toList = nameScan false (s.data.toList.drop (k + 1))) := fun hp => by
          rw [hsc.out, Hd.out, scan_other _ _ _ hs47, hp]; rfl
        have Kb : Hid (plainNB s[k] = false → refNormV s = (⟨#[]⟩, false)) := fun hp => by
          unfold refNormV
          rw [hsc.out, Hd.out, scan_other _ _ _ hs47, hp]; rfl
        unfold plainNB at Kg Kb
        clear hs47 Hd
        have key : (plainNI (s[k].toNat : Int) = true ∧ (
             (((s[k].toNat : Int) != 46) = false) ∨ (((s[k].toNat : Int) != 46) = true ∧ ((s[k].toNat : Int) != 95) = false) ∨ (((s[k].toNat : Int) != 46) = true ∧ ((s[k].toNat : Int) != 95) = true ∧ ((s[k].toNat : Int) != 45) = false) ∨
             (((s[k].toNat : Int) != 46) = true ∧ ((s[k].toNat : Int) != 95) = true ∧ ((s[k].toNat : Int) != 45) = true ∧ 48 ≤ (s[k].toNat : Int) ∧ (s[k].toNat : Int) ≤ 57) ∨
             (((s[k].toNat : Int) != 46) = true ∧ ((s[k].toNat : Int) != 95) = true ∧ ((s[k].toNat : Int) != 45) = true ∧ (s[k].toNat : Int) < 48 ∧ 97 ≤ smallI (s[k].toNat : Int) ∧ smallI (s[k].toNat : Int) ≤ 122) ∨
             (((s[k].toNat : Int) != 46) = true ∧ ((s[k].toNat : Int) != 95) = true ∧ ((s[k].toNat : Int) != 45) = true ∧ 57 < (s[k].toNat : Int) ∧ 97 ≤ smallI (s[k].toNat : Int) ∧ smallI (s[k].toNat : Int) ≤ 122))) ∨
            (plainNI (s[k].toNat : Int) = false ∧ ((s[k].toNat : Int) != 46) = true ∧ ((s[k].toNat : Int) != 95) = true ∧ ((s[k].toNat : Int) != 45) = true ∧ ((s[k].toNat : Int) < 48 ∨ 57 < (s[k].toNat : Int)) ∧ (smallI (s[k].toNat : Int) < 97 ∨ 122 < smallI (s[k].toNat : Int))) := by
          unfold plainNI smallI; simp only [bne_iff_ne, bne_eq_false_iff_eq, decide_eq_true_eq, decide_eq_false_iff_not]
          split <;> omega
        rcases key with ⟨hp, hk⟩ | ⟨hp, k1, k2, k3, hk, hk2⟩
        · have hv := Kg.out hp
          have Hv := Lib.hid hv; clear hv Kg Kb
          have Hp := Lib.hid hp; clear hp
          rcases hk with k1 | ⟨k1, k2⟩ | ⟨k1, k2, k3⟩ | ⟨k1, k2, k3, k4, k5⟩ | ⟨k1, k2, k3, k4, k5, k6⟩ | ⟨k1, k2, k3, k4, k5, k6⟩
          all_goals
            go_wp2_with (go_at_call 57; refine (small_any _ (by omega) (by omega) _).mono ?_; rintro e w' ⟨rfl, rfl⟩)
          all_goals
            go_round
            case rel => exact ⟨k + 1, _, rfl, by omega, by omega, by go_num, by omega, Hv.out.trans (by congr 1; first | rfl | (exact h47.symm))⟩
            case measure => simp [intOf] <;> omega
        · have hv := Kb.out hp
          have Hv := Lib.hid hv; clear hv Kg Kb
          have Hp := Lib.hid hp; clear hp
          have hk4 : ((s[k].toNat : Int) < 48 ∧ decide (48 ≤ (s[k].toNat : Int)) = false) ∨ (57 < (s[k].toNat : Int) ∧ decide ((s[k].toNat : Int) ≤ 57) = false) := by simp only [decide_eq_false_iff_not]; omega
          have hk5 : (smallI (s[k].toNat : Int) < 97 ∧ decide (97 ≤ smallI (s[k].toNat : Int)) = false) ∨ (122 < smallI (s[k].toNat : Int) ∧ decide (smallI (s[k].toNat : Int) ≤ 122) = false) := by simp only [decide_eq_false_iff_not]; omega
          clear hk hk2
          rcases hk4 with ⟨k4, k6⟩ | ⟨k4, k6⟩ <;> rcases hk5 with ⟨k5, k7⟩ | ⟨k5, k7⟩
          all_goals
            go_wp2_with (go_at_call 57; refine (small_any _ (by omega) (by omega) _).mono ?_; rintro e w' ⟨rfl, rfl⟩)
          all_goals
            go_ret2
            exact ⟨by rw [Hv.out]; rfl, 0, rfl⟩
    · obtain rfl : k = s.size := by omega
      have hnil : s.data.toList.drop s.size = [] := List.drop_eq_nil_of_le (by simp)
      have hsc' := hsc.out
      rw [hnil] at hsc'
      clear hsc hnil
      rcases Bool.eq_false_or_eq_true (c == 47) with hl | hl
      · have hv : refNormV s = (⟨#[]⟩, false) := by
          unfold refNormV
          rw [hsc', hl]; rfl
        have Hv := Lib.hid hv; clear hv hsc'
        go_wp2
        go_ret2
        exact ⟨by rw [Hv.out]; rfl, 0, rfl⟩
      · by_cases h60 : 60 < s.size
        · have hv : refNormV s = (⟨#[]⟩, false) := by
            unfold refNormV
            rw [hsc', hl, show decide (s.size ≤ 60) = false from by simp; omega]; rfl
          have Hv := Lib.hid hv; clear hv hsc'
          go_wp2
          go_ret2
          exact ⟨by rw [Hv.out]; rfl, 0, rfl⟩
        · have hok : (nameScan true s.data.toList && decide (s.size ≤ 60)) = true := by
            rw [hsc', hl, show decide (s.size ≤ 60) = true from by simp; omega]; rfl
          have Hok := Lib.hid hok; clear hok hsc'
          rcases Bool.eq_false_or_eq_true (alikeL s.data.toList [105, 110, 98, 111, 120]) with ha | ha
          · have Hv : Hid (refNormV s = (inboxS, true)) := by show refNormV s = _; unfold refNormV; rw [Hok.out, if_pos rfl, if_pos ha]
            go_wp2_with fail
            refine (alike_any s ⟨#[105, 110, 98, 111, 120]⟩ (by omega) (by decide) _).mono ?_
            rintro e w1 ⟨rfl, n, hw1⟩
            have Hw := Lib.hid hw1; clear hw1
            rw [ha]
            have Ha := Lib.hid ha; clear ha
            go_wp2
            go_ret2
            exact ⟨by rw [Hv.out]; rfl, n, Hw.out⟩
          · have Hv : Hid (refNormV s = (s, true)) := by show refNormV s = _; unfold refNormV; rw [Hok.out, if_pos rfl, if_neg (by rw [ha]; decide)]
            go_wp2_with fail
            refine (alike_any s ⟨#[105, 110, 98, 111, 120]⟩ (by omega) (by decide) _).mono ?_
            rintro e w1 ⟨rfl, n, hw1⟩
            have Hw := Lib.hid hw1; clear hw1
            rw [ha]
            have Ha := Lib.hid ha; clear ha
            go_wp2
            go_ret2
            exact ⟨by rw [Hv.out]; rfl, n, Hw.out⟩
end Go.Proofs.YtjhaccmcjlbllaaGreatDoor
/-
  Walks of the statement's own text: counted, few, awake, envelope.
-/
namespace Go.Proofs.YtjhaccmcjlbllaaGreatDoor
open Go.RowKit
set_option linter.unusedSimpArgs false
set_option linter.unusedVariables false
set_option linter.unusedSimpArgs false
set_option linter.unusedVariables false
set_option maxRecDepth 100000 in
set_option maxHeartbeats 8000000 in
theorem lfew_any (u : Nat) (t f : Int) (A : Option Addr) (n c : Nat) (A2 : Option Addr) (q c2 : Nat) (w : World) : Calls Tryz.prog 9 #[.agg #[.int .u32 (u : Nat), .int .i64 t, .int .i64 f, .slice A n c], .slice A2 q c2] w fun ev w' => ev = .returned (.bool (decide ((n : Int) ≤ 20000) && decide ((q : Int) ≤ 40))) ∧ Below w.heap.size w w' := by
  refine calls_at 14 Tryz.func9 rfl rfl (Nat.le_of_ble_eq_true rfl) ?_
  intro a hA; replace hA := hA.norm
  refine wS (wR ?_)
  refine wl_new hA rfl rfl (by decide) (fun ev h => by simp [go_sem, h.get 0 rfl]; try first | exact ⟨rfl, rfl⟩ | rfl) fun w1 a (K1 : Blk _ _ _ _) hz1 hb1 hA => ?_
  revert a; refine wo rfl rfl (by decide) (fun ev e h => by simp [go_sem, h, K1.cell] <;> rfl) ?_; intro a hA
  replace hA := hA.keepN [1, 2]
  refine wN (nT (wS (wR ?_)))
  revert a; (iterate 5 refine wo rfl rfl (by decide) (fun ev e h => by simp [go_sem, h, K1.cell] <;> rfl) ?_); (iterate 3 refine wg _ rfl rfl rfl rfl (by decide) (fun hq ev e h => by simp [go_sem, h, ↓gw_t (beq_t hq), K1.cell] <;> rfl) ?_); refine wka rfl rfl (by decide) rfl rfl rfl ?_; refine wo rfl rfl (by decide) (fun ev e h => by simp [go_sem, h, K1.cell] <;> rfl) ?_; intro a hA
  replace hA := hA.keepN [4]
  refine wN (nT (wp_ret ?_))
  refine ret_1 hA 4 rfl rfl ?_
  exact ⟨rfl, hb1⟩
set_option maxRecDepth 100000 in
set_option maxHeartbeats 4000000 in
theorem awake18_any (m : Int) (w : World) (hm : w.cell? ⟨0, 0, none⟩ = some (.int .i64 m)) (htab : Lib.TabIs Tryz.prog w "internal/strconv.uint64pow10" .u64 Lib.pow10Tab) : Calls Tryz.prog 8 #[] w fun ev w' => ev = .returned (.bool true) ∧ Below w.heap.size w w' := by
  have HB := Below.refl w.heap.size w
  refine calls_at 8 Tryz.func8 rfl rfl (Nat.le_of_ble_eq_true rfl) ?_
  intro a hA; replace hA := hA.norm
  refine wS (wR ?_)
  revert a; refine wo rfl rfl (by decide) (fun ev e h => by simp [go_sem, h] <;> rfl) ?_; intro a hA
  replace hA := hA.keepN []
  refine wN (nT (wS (wR ?_)))
  refine wl_call hA rfl rfl (by decide) (fun ev h => exec_call Tryz.func31 (by kernel_rfl) rfl (h.f _) (by first | (simp only [mL, h.c] <;> rfl) | (simp [mL, h.c] <;> rfl))) (string_any [97, 34] m w hm (by decide) htab) ?_
  rintro e w1 ⟨rfl, hb1⟩
  refine ⟨_, rfl, fun a hA => ?_⟩
  replace HB := HB.trans (hb1.mono HB.size)
  rw [show strF [97, 34] = [34, 97, 92, 34, 34] from rfl] at hA
  revert a; (iterate 2 refine wo rfl rfl (by decide) (fun ev e h => by simp [go_sem, h] <;> rfl) ?_); refine wg _ rfl rfl rfl rfl (by decide) (fun hq ev e h => by simp [go_sem, h, ↓gw_t (beq_t hq)] <;> rfl) ?_; intro a hA
  replace hA := hA.keepN [3, 4]
  refine wl_gnew hA rfl rfl rfl rfl (by decide) (fun ev h => by simp [go_sem, h.get 4 rfl]; try first | exact ⟨rfl, rfl⟩ | rfl) fun w2 a (K : Blk _ _ _ _) hz2 hb2 hA => ?_
  replace HB := HB.trans (hb2.mono HB.size)
  refine wl_gcallv _ hA rfl rfl rfl rfl (by decide) (fun hq ev h => exec_call Tryz.func17 (by kernel_rfl) rfl (h.f _) (by first | (simp only [mL, ((h.get 5 rfl).trans (gw_t (beq_t hq))), h.c] <;> rfl) | (simp [mL, ((h.get 5 rfl).trans (gw_t (beq_t hq))), h.c] <;> rfl))) (fun hq => marks_any _ 1 [⟨6, false⟩] _ (rowR_blk (s := itemSh) (x := ⟨6, false⟩) K (fun p hp => (by cases hp))) (by decide)) fun a w3 hb3 hA => ?_
  replace HB := HB.trans (hb3.mono HB.size)
  revert a; refine wka rfl rfl (by decide) rfl rfl rfl ?_; refine wo rfl rfl (by decide) (fun ev e h => by simp [go_sem, h] <;> rfl) ?_; intro a hA
  replace hA := hA.keepN [0]
  refine wN (nT (wp_ret ?_))
  refine ret_1 hA 0 rfl rfl ?_
  exact ⟨rfl, HB⟩
/-- the names, in small letters -/
def envNl : List (List UInt8) := [[100, 97, 116, 101], [115, 117, 98, 106, 101, 99, 116], [102, 114, 111, 109], [116, 111], [109, 101, 115, 115, 97, 103, 101, 45, 105, 100]]
theorem small_low (c : UInt8) : smallB c = (((low1 c).toNat : Nat) : Int) := by
  have : ∀ c : Fin 256, smallB (UInt8.ofNat c.val) = (((low1 (UInt8.ofNat c.val)).toNat : Nat) : Int) := by decide +kernel
  have h := this ⟨c.toNat, c.toNat_lt⟩
  simpa using h
theorem map_small (l : List UInt8) : l.map smallB = (lowerS l).map fun c => ((c.toNat : Nat) : Int) := by
  rw [lowerS_eq, List.map_map]
  exact List.map_congr_left fun c _ => small_low c
theorem alike_low (a b : List UInt8) : alikeL a b = (lowerS a == lowerS b) := by
  unfold alikeL
  rw [map_small, map_small]
  by_cases h : lowerS a = lowerS b
  · rw [h]; simp
  · have h2 : ¬ (lowerS a).map (fun c => ((c.toNat : Nat) : Int)) = (lowerS b).map fun c => ((c.toNat : Nat) : Int) := fun e => h (List.map_inj_right (fun x y e => UInt8.toNat_inj.1 (by exact_mod_cast e)) |>.1 e)
    rw [beq_eq_false_iff_ne.2 h, beq_eq_false_iff_ne.2 h2]
theorem envNl_low : ∀ j, j < 5 → lowerS (envNl[j]?.getD []) = lowerS (envNs[j]?.getD []) := by decide
/-- what the last fields tell of a name -/
def lastV (nm : List UInt8) (l : List FieldS) : List UInt8 := match l.find? fun f => lowerS f.n == lowerS nm with
  | some f => strF f.v
  | none => [78, 73, 76]
theorem lastV_all (b nm : List UInt8) : lastV nm (fieldsS b) = envV b nm := by
  unfold lastV envV fieldV
  cases (fieldsS b).find? fun f => lowerS f.n == lowerS nm <;> rfl
theorem lastV_cons (nm : List UInt8) (x : FieldS) (l : List FieldS) : lastV nm (x :: l) = if (lowerS x.n == lowerS nm) = true then strF x.v else lastV nm l := by
  unfold lastV
  rw [List.find?_cons]
  cases h : lowerS x.n == lowerS nm
  · rw [if_neg (by simp)]
  · rw [if_pos rfl]
theorem fields_vlen {b : List UInt8} {x : FieldS} (hx : x ∈ fieldsS b) : x.v.length ≤ b.length := by
  unfold fieldsS at hx
  obtain ⟨y, hy, rfl⟩ := List.mem_map.1 hx
  have h1 := sumV_mem hy
  have h2 := lines_sum b.length (headS b) ([], false)
  have h3 : sumV ([] : List FieldS) = 0 := rfl
  have h4 := congrArg List.length (head_body b)
  rw [List.length_append] at h4
  have h5 := trimS_le [32, 9] y.v
  show (trimS [32, 9] y.v).length ≤ _
  simp only at h2
  omega
theorem lastV_len (b nm : List UInt8) (i : Nat) : (lastV nm ((fieldsS b).drop i)).length ≤ 2 * b.length + 20 := by
  unfold lastV
  cases h : ((fieldsS b).drop i).find? fun f => lowerS f.n == lowerS nm with
  | none => show 3 ≤ _; omega
  | some f =>
    have h1 := fields_vlen (List.mem_of_mem_drop (List.mem_of_find?_eq_some h))
    have h2 := strF_len f.v
    show (strF f.v).length ≤ _
    omega
theorem lalike_any (a b : List UInt8) (w : World) (ha : a.length ≤ 1000000) (hb : b.length ≤ 1000000) : Calls Tryz.prog 38 #[.string (St a), .string (St b)] w fun ev w' => ev = .returned (.bool (alikeL a b)) ∧ Below w.heap.size w w' :=
  (alike_any (St a) (St b) (by show a.length ≤ _; omega) (by show b.length ≤ _; omega) w).mono fun ev w' ⟨h1, n4, h2⟩ => ⟨h1, h2 ▸ below_drewN (Below.refl _ _) n4⟩
set_option maxRecDepth 100000 in
set_option maxHeartbeats 16000000 in
theorem lenvelope_any (A : Option Addr) (c : Nat) (b : List UInt8) (m : Int) (w : World) (hm : w.cell? ⟨0, 0, none⟩ = some (.int .i64 m)) (hnc : b.length ≤ c) (hn : b.length ≤ 100000) (hr : Reads w w.heap.size 1 A b.length (u8s b)) (htab : Lib.TabIs Tryz.prog w "internal/strconv.uint64pow10" .u64 Lib.pow10Tab) : Calls Tryz.prog 14 #[.slice A b.length c] w fun ev w' => ev = .returned (.string (St (envT b))) ∧ Below w.heap.size w w' := by
  have HB := Below.refl w.heap.size w
  obtain ⟨n, hbn⟩ : ∃ n, b.length = n := ⟨_, rfl⟩
  have hfb := fields_bd b
  obtain ⟨L, hL⟩ : ∃ L, fieldsS b = L := ⟨_, rfl⟩
  refine calls_at 52 Tryz.func14 rfl rfl (Nat.le_of_ble_eq_true rfl) ?_
  intro a hA; replace hA := hA.norm
  refine wS (wR ?_)
  revert a; refine wo rfl rfl (by decide) (fun ev e h => by simp [go_sem, h] <;> rfl) ?_; intro a hA
  replace hA := hA.keepN [0]
  refine wN (nT (wS (wR ?_)))
  revert a; refine wo rfl rfl (by decide) (fun ev e h => by simp [go_sem, h] <;> rfl) ?_; intro a hA
  refine wl_call hA rfl rfl (by decide) (fun ev h => exec_call Tryz.func10 (by kernel_rfl) rfl (h.f _) (by first | (simp only [mL, h.get 11 rfl, h.c] <;> rfl) | (simp [mL, h.get 11 rfl, h.c] <;> rfl))) (refHead_any A c b w (by omega) hnc hr) ?_
  rintro e w1 ⟨V, rfl, hoF, hb1⟩
  refine ⟨_, rfl, fun a hA => ?_⟩
  rw [hL] at hoF hfb
  replace HB := HB.trans (hb1.mono HB.size)
  obtain ⟨AF, cF, rfl, hrF, -⟩ := hoF.reads
  obtain ⟨q, hlq⟩ : ∃ q, L.length = q := ⟨_, rfl⟩
  rw [hlq] at hA
  revert a; (iterate 5 refine wo rfl rfl (by decide) (fun ev e h => by simp [go_sem, h] <;> rfl) ?_); intro a hA
  replace hA := hA.keepN [4]
  refine wN (nT (wS (wR ?_)))
  revert a; refine wo rfl rfl (by decide) (fun ev e h => by simp [go_sem, h] <;> rfl) ?_; intro a hA
  replace hA := hA.keepN [4, 5]
  refine wN (nT (wS (wS (wR ?_))))
  refine wl_new hA rfl rfl (by decide) (fun ev h => by simp [go_sem, h.c]; try first | exact ⟨rfl, rfl⟩ | rfl) fun w2 a (K2 : Blk _ _ _ _) hz2 hb2 hA => ?_
  replace HB := HB.trans (hb2.mono HB.size)
  replace hrF := hrF.below hb2
  revert a; (iterate 2 refine wo rfl rfl (by decide) (fun ev e h => by simp [go_sem, h] <;> rfl) ?_); intro a hA
  replace hA := hA.keepN [4, 5, 15, 16, 17]
  refine wN (nT (wB ?_))
  refine wp_loop_at (fun g a wx => ∃ (j : Nat), j + g = 5 ∧ Below w2.heap.size w2 wx ∧ At 52 [(4, .slice AF q cF), (5, .string (St ([40] ++ joinS (envL b j)))), (15, .slice (some ⟨w1.heap.size, 0, none⟩) 5 5), (16, .int .i64 5), (17, .int .i64 (j : Nat))] a) (5) ?_ ?_
  · exact ⟨0, by omega, Below.refl _ _, hA⟩
  clear hA
  rintro g a wx ⟨j, hjg, HX, hA⟩
  have HW := HB.trans (HX.mono HB.size)
  refine wS (wR ?_)
  revert a; refine wo rfl rfl (by decide) (fun ev e h => by simp [go_sem, h] <;> rfl) ?_; intro a hA
  replace hA := hA.keepN [4, 5, 15, 16, 17, 18]
  refine wN (nT (wS ?_))
  refine wp_if hA 18 _ rfl (fun hq => ?yA) (fun hq => ?nA)
  case nA =>
    have hj5 : j = 5 := by simp at hq; omega
    subst hj5
    have hjl := envJ_len b 5 (Nat.le_refl _)
    obtain ⟨J, hJ⟩ : ∃ J, joinS (envL b 5) = J := ⟨_, rfl⟩
    rw [hJ] at hjl hA
    have kb := st_app (40 :: J) [41]
    have kz1 : ¬ 9223372036854775807 < J.length + 1 + 1 := by omega
    replace hA := hA.keepN [5]
    refine wp_exit (xT (xT (xB (nT (wS (wR ?_))))))
    revert a; (iterate 3 refine wo rfl rfl (by decide) (fun ev e h => by simp [go_sem, h, kb, kz1] <;> rfl) ?_); intro a hA
    replace hA := hA.keepN [2]
    refine wN (nT (wp_ret ?_))
    refine ret_1 hA 2 rfl rfl ?_
    refine ⟨?_, HW⟩
    unfold envT
    rw [hJ]
    rfl
  case yA =>
    have hj5 : j < 5 := by simp at hq; omega
    have jj0 : (0 : Int) ≤ (j : Int) := by omega
    have jj1 : (j : Int) < 5 := by omega
    obtain ⟨nm, hnm⟩ : ∃ x, envNs[j]? = some x := ⟨_, List.getElem?_eq_getElem (by show j < 5; omega)⟩
    obtain ⟨nl, hnl⟩ : ∃ x, envNl[j]? = some x := ⟨_, List.getElem?_eq_getElem (by show j < 5; omega)⟩
    have hlow := envNl_low j hj5
    rw [hnm, hnl] at hlow
    replace hlow : lowerS nl = lowerS nm := hlow
    have hnll : nl.length ≤ 10 := (by decide : ∀ x ∈ envNl, x.length ≤ 10) nl (List.mem_of_getElem? hnl)
    have z0 : wx.cell? ⟨w1.heap.size, j, none⟩ = some (.string (St nl)) := by
      refine ((K2.below HX K2.lt).cell j).trans ?_
      rcases (by omega : j = 0 ∨ j = 1 ∨ j = 2 ∨ j = 3 ∨ j = 4) with rfl | rfl | rfl | rfl | rfl <;> (injection hnl with hnl; rw [← hnl]; rfl)
    have jw : IntKind.i64.wrap ((j : Int) + 1) = ((j + 1 : Nat) : Int) := IntWalk.i64_in _ (by omega)
    have e := envL_succ (b := b) hnm
    have hel := envL_len b j (by omega)
    have hjl := envJ_len b j (by omega)
    have hjl1 := envJ_len b (j + 1) (by omega)
    rw [e, joinS_snoc] at hjl1
    obtain ⟨E, hE⟩ : ∃ E, envL b j = E := ⟨_, rfl⟩
    obtain ⟨J, hJ⟩ : ∃ J, joinS E = J := ⟨_, rfl⟩
    rw [hE] at hjl1 e hjl hel hA
    rw [hJ] at hjl1 hjl hA
    refine wp_skip (nT (wS (wB (wS (wR ?_)))))
    revert a; (iterate 5 refine wo rfl rfl (by decide) (fun ev e h => by simp [go_sem, h, add0, z0, jj0, jj1, jw] <;> rfl) ?_); intro a hA
    replace hA := hA.keepN [4, 5, 6, 7, 15, 16, 17]
    refine wN (nT (wS (wS (wR ?_))))
    revert a; (iterate 2 refine wo rfl rfl (by decide) (fun ev e h => by simp [go_sem, h, add0, z0, jj0, jj1, jw] <;> rfl) ?_); intro a hA
    replace hA := hA.keepN [4, 5, 7, 15, 16, 17, 23]
    refine wN (nT ?_)
    obtain ⟨P, hP⟩ : ∃ P, (40 :: J) ++ (if E = [] then [] else [32]) = P := ⟨_, rfl⟩
    have hPl : P.length ≤ J.length + 2 := by rw [← hP]; split <;> simp
    refine wp_join (fun a wy => wx = wy ∧ At 52 [(4, .slice AF q cF), (5, .string (St P)), (7, .string (St nl)), (15, .slice (some ⟨w1.heap.size, 0, none⟩) 5 5), (16, .int .i64 5), (17, .int .i64 (j : Nat))] a) ?jfR ?jrR
    refine wp_if hA 23 _ rfl (fun hq2 => ?yB) (fun hq2 => ?nB)
    case yB =>
      have hj1 : 0 < j := by simpa using hq2
      have hE0 : ¬ E = [] := fun h => by rw [h] at hel; simp at hel; omega
      rw [if_neg hE0] at hP
      have ka := st_app (40 :: J) [32]
      have kz : ¬ 9223372036854775807 < J.length + 1 + 1 := by omega
      refine wR ?_
      revert a; (iterate 3 refine wo rfl rfl (by decide) (fun ev e h => by simp [go_sem, h, ka, kz] <;> rfl) ?_); intro a hA
      replace hA := hA.keepN [4, 5, 7, 15, 16, 17]
      refine wN (nT ?_)
      refine ⟨rfl, ?_⟩
      rw [← hP]
      exact hA
    case nB =>
      have hj1 : j = 0 := by simp at hq2; omega
      have hE0 : E = [] := List.eq_nil_of_length_eq_zero (by omega)
      rw [if_pos hE0, List.append_nil] at hP
      replace hA := hA.keepN [4, 5, 7, 15, 16, 17]
      refine wp_skip (nT ?_)
      refine ⟨rfl, ?_⟩
      rw [← hP]
      exact hA
    clear hA
    rintro a wy ⟨rfl, hA⟩
    have jq : IntKind.i64.wrap ((q : Int) - 1) = (q : Int) - 1 := IntWalk.i64_in _ (by omega)
    refine wS (wR ?_)
    revert a; refine wo rfl rfl (by decide) (fun ev e h => by simp [go_sem, h, jq] <;> rfl) ?_; intro a hA
    replace hA := hA.keepN [4, 5, 7, 8, 15, 16, 17]
    refine wN (nT (wS (wS (wR ?_))))
    revert a; (iterate 4 refine wo rfl rfl (by decide) (fun ev e h => by simp [go_sem, h, jq] <;> rfl) ?_); intro a hA
    replace hA := hA.keepN [4, 5, 7, 8, 9, 15, 16, 17]
    refine wN (nT (wB ?_))
    refine wp_loop_at (fun g2 a wz => ∃ (i : Nat), i = g2 ∧ i ≤ q ∧ Below wx.heap.size wx wz ∧ At 52 [(4, .slice AF q cF), (5, .string (St P)), (7, .string (St nl)), (8, .string (St (lastV nm (L.drop i)))), (9, .int .i64 ((i : Int) - 1)), (15, .slice (some ⟨w1.heap.size, 0, none⟩) 5 5), (16, .int .i64 5), (17, .int .i64 (j : Nat))] a) (q) ?_ ?_
    · refine ⟨q, rfl, Nat.le_refl _, Below.refl _ _, ?_⟩
      rw [show lastV nm (L.drop q) = [78, 73, 76] by rw [List.drop_of_length_le (by omega)]; rfl]
      have := hA
      simpa [jq] using this
    clear hA
    rintro g2 a wz ⟨i, rfl, hiq, HZ, hA⟩
    refine wS (wS (wR ?_))
    revert a; (iterate 2 refine wo rfl rfl (by decide) (fun ev e h => by simp [go_sem, h] <;> rfl) ?_); intro a hA
    replace hA := hA.keepN [4, 5, 7, 8, 9, 15, 16, 17, 30]
    refine wN (nT ?_)
    have hWz := HW.trans (HZ.mono HW.size)
    refine wp_if hA 30 _ rfl (fun hq4 => ?yD) (fun hq4 => ?nD)
    case nD =>
      have hi0 : i = 0 := by simp at hq4; omega
      subst hi0
      rw [List.drop_zero, ← hL, lastV_all] at hA
      have hTl := (envV_len b nm).1
      obtain ⟨T, hT⟩ : ∃ T, envV b nm = T := ⟨_, rfl⟩
      rw [hT] at hTl hA e
      have ka := st_app P T
      have kz : ¬ 9223372036854775807 < P.length + T.length := by omega
      have ej : [40] ++ joinS (envL b (j + 1)) = P ++ T := by
        rw [e, joinS_snoc, hJ, ← hP]
        by_cases hE0 : E = []
        · have hJ0 : J = [] := by rw [← hJ, hE0]; rfl
          rw [if_pos hE0, if_pos hE0, hJ0]
          rfl
        · rw [if_neg hE0, if_neg hE0]
          simp
      replace hA := hA.keepN [4, 5, 8, 15, 16, 17]
      refine wp_exit (xT (xT (xB (nT (wR ?_)))))
      revert a; (iterate 4 refine wo rfl rfl (by decide) (fun ev e h => by simp [go_sem, h, ka, kz, jw] <;> rfl) ?_); intro a hA
      replace hA := hA.keepN [4, 5, 15, 16, 17]
      refine wN (nB (nT (wR ?_)))
      revert a; (iterate 2 refine wo rfl rfl (by decide) (fun ev e h => by simp [go_sem, h, ka, kz, jw] <;> rfl) ?_); intro a hA
      replace hA := hA.keepN [4, 5, 15, 16, 17]
      refine wN (nT ?_)
      refine ⟨g - 1, by omega, j + 1, by omega, HX.trans (HZ.mono HX.size), ?_⟩
      rw [ej]
      exact hA
    case yD =>
      have hi0 : 0 < i := by simp at hq4; omega
      obtain ⟨k, rfl⟩ : ∃ k, i = k + 1 := ⟨i - 1, by omega⟩
      have hkq : k < L.length := by omega
      obtain ⟨x, hx⟩ : ∃ x, L[k]? = some x := ⟨_, List.getElem?_eq_getElem hkq⟩
      have ik : (((k + 1 : Nat) : Int) - 1) = ((k : Nat) : Int) := by omega
      rw [ik] at hA
      have hdrop : L.drop k = x :: L.drop (k + 1) := by
        rw [List.drop_eq_getElem_cons hkq, (List.getElem?_eq_some_iff.1 hx).2]
      have hxm : x ∈ fieldsS b := by rw [hL]; exact List.mem_of_getElem? hx
      have hxv := fields_vlen hxm
      have hxn := hfb.2 x (List.mem_of_getElem? hx)
      obtain ⟨ad, rfl, hadb, hc0, hc1⟩ := (hrF.below (HX.trans (HZ.mono HX.size))).cell hx
      have y0 : wz.cell? (ad.add (k * 2)) = some (.string (St x.n)) := hc0 _ rfl
      have y1 : wz.cell? ⟨(ad.add (k * 2)).block, (ad.add (k * 2)).off + 1, none⟩ = some (.string (St x.v)) := hc1 1 _ (by decide) rfl
      have kk0 : (0 : Int) ≤ (k : Int) := by omega
      have kk1 : (k : Int) < (q : Int) := by omega
      have kk2 : k < q := by omega
      have kw : IntKind.i64.wrap ((k : Int) - 1) = (k : Int) - 1 := IntWalk.i64_in _ (by omega)
      have hal : (lowerS x.n == lowerS nm) = alikeL x.n nl := by rw [alike_low, hlow]
      refine wp_skip (nT ?_)
      refine wp_seq_cut (fun a wv => Below wx.heap.size wx wv ∧ At 52 [(4, .slice (some ad) q cF), (5, .string (St P)), (7, .string (St nl)), (8, .string (St (lastV nm (L.drop k)))), (9, .int .i64 ((k : Nat) : Int)), (15, .slice (some ⟨w1.heap.size, 0, none⟩) 5 5), (16, .int .i64 5), (17, .int .i64 (j : Nat))] a) ?jfS ?jrS
      refine wB (wS (wR ?_))
      revert a; (iterate 6 refine wo rfl rfl (by decide) (fun ev e h => by simp [go_sem, h, y0, y1, kk0, kk1, kk2, kw] <;> rfl) ?_); intro a hA
      refine wl_call hA rfl rfl (by decide) (fun ev h => exec_call Tryz.func38 (by kernel_rfl) rfl (h.f _) (by first | (simp only [mL, h.get 37 rfl, h.get 38 rfl, h.c] <;> rfl) | (simp [mL, h.get 37 rfl, h.get 38 rfl, h.c, y0, y1, kk0, kk1, kk2, kw] <;> rfl))) (lalike_any x.n nl wz (by omega) (by omega)) ?_
      rintro e w4 ⟨rfl, hb4⟩
      refine ⟨_, rfl, fun a hA => ?_⟩
      have HZ4 := HZ.trans (hb4.mono HZ.size)
      have HW4 := hWz.trans (hb4.mono hWz.size)
      have y14 : w4.cell? ⟨(ad.add (k * 2)).block, (ad.add (k * 2)).off + 1, none⟩ = some (.string (St x.v)) := (hb4.cell (p := ⟨(ad.add (k * 2)).block, (ad.add (k * 2)).off + 1, none⟩) (show (ad.add (k * 2)).block < wz.heap.size by rw [block_of_add]; exact hadb)).trans y1
      replace hA := hA.keepN [4, 5, 7, 8, 9, 15, 16, 17, 39]
      refine wN (nT ?_)
      refine wp_if hA 39 _ rfl (fun hq5 => ?yF) (fun hq5 => ?nF)
      case yF =>
        have h5 : alikeL x.n nl = true := hq5
        rw [hdrop, lastV_cons, hal, if_pos h5]
        refine wR ?_
        revert a; (iterate 5 refine wo rfl rfl (by decide) (fun ev e h => by simp [go_sem, h, y14, kk0, kk1, kk2] <;> rfl) ?_); intro a hA
        refine wl_call hA rfl rfl (by decide) (fun ev h => exec_call Tryz.func31 (by kernel_rfl) rfl (h.f _) (by first | (simp only [mL, h.get 44 rfl, h.c] <;> rfl) | (simp [mL, h.get 44 rfl, h.c, y14, kk0, kk1, kk2] <;> rfl))) (string_any x.v m w4 ((HW4.cell (block_lt_of_cell hm)).trans hm) (by omega) (Lib.tabBelow_of_tabIs htab w4 HW4)) ?_
        rintro e w5 ⟨rfl, hb5⟩
        refine ⟨_, rfl, fun a hA => ?_⟩
        revert a; refine wo rfl rfl (by decide) (fun ev e h => by simp [go_sem, h, y14, kk0, kk1, kk2] <;> rfl) ?_; intro a hA
        replace hA := hA.keepN [4, 5, 7, 8, 9, 15, 16, 17]
        refine wN (nB (nT ?_))
        exact ⟨HZ4.trans (hb5.mono HZ4.size), hA⟩
      case nF =>
        have h5 : ¬ alikeL x.n nl = true := by rw [hq5]; simp
        rw [hdrop, lastV_cons, hal, if_neg h5]
        replace hA := hA.keepN [4, 5, 7, 8, 9, 15, 16, 17]
        refine wp_skip (nB (nT ?_))
        exact ⟨HZ4, hA⟩
      clear hA
      rintro a wv ⟨HZ, hA⟩
      refine wR ?_
      revert a; (iterate 3 refine wo rfl rfl (by decide) (fun ev e h => by simp [go_sem, h, kw] <;> rfl) ?_); intro a hA
      replace hA := hA.keepN [4, 5, 7, 8, 9, 15, 16, 17]
      refine wN (nT ?_)
      exact ⟨k, by omega, k, rfl, by omega, HZ, hA⟩
end Go.Proofs.YtjhaccmcjlbllaaGreatDoor
