/-
  Walks by facts on slots: what each slot holds is a list; each operation is one step, shown from what it looks at alone.
-/
import Derived.Test.YtkljkbeahdipfaaGreatDoorLaya
import Derived.Deep.LoopGhost
import Derived.IntWalk
import Derived.Laws.AppendOwn
import Derived.Maps.AppendAt
import Derived.Lib.SliceRun
import Derived.Lib.SplitLaws
import Derived.Test.YtkljkbeahdipfaaGreatDoorChecked
import Derived.Deep.Cut
import Derived.Lib.AppendIntMem
import Derived.BigRegion
import Derived.Deep.RegionLaw
import Derived.Lib.ConvBytes
import Derived.Lib.AppendStr
namespace Go.Proofs.YtkljkbeahdipfaaGreatDoor
open Go Go.RowKit
abbrev Env := List (Nat × Value)
def look : Env → Nat → Option Value
 | [], _ => none
 | (s, v) :: r, t => bif Nat.beq s t then some v else look r t
/-- the same, as it is reckoned out -/
def lookS : Env → Nat → Option Value
 | [], _ => none
 | (s, v) :: r, t => bif s == t then some v else lookS r t
theorem beq_two (s t : Nat) : (s == t) = Nat.beq s t := by
 rw [Bool.eq_iff_iff, beq_iff_eq]
 exact ⟨fun h => h ▸ Nat.beq_refl s, Nat.eq_of_beq_eq_true⟩
theorem lookS_eq (t : Nat) : ∀ Γ : Env, lookS Γ t = look Γ t
 | [] => rfl
 | (s, v) :: r => by
   unfold lookS look
   rw [lookS_eq t r, beq_two]
theorem look_cons (t : Nat) (v : Value) (s : Nat) (Γ : Env) : look ((t, v) :: Γ) s = bif t == s then some v else look Γ s := by rw [beq_two]; rfl
def keepE : List Nat → Env → Env
 | [], _ => []
 | t :: ks, Γ => match lookS Γ t with | some v => (t, v) :: keepE ks Γ | none => keepE ks Γ
theorem look_keep {t : Nat} {v : Value} {Γ : Env} : ∀ {ks : List Nat}, look (keepE ks Γ) t = some v → look Γ t = some v
 | [], h => by cases h
 | k :: ks, h => by
   unfold keepE at h
   cases hk : lookS Γ k with
   | none => rw [hk] at h; exact look_keep h
   | some u =>
     rw [hk] at h
     rw [look_cons] at h
     by_cases e : k = t
     ·subst e
      simp only [beq_self_eq_true, cond_true] at h
      rw [← lookS_eq, hk, h]
     ·have h2 : (k == t) = false := by simpa using e
      rw [h2, cond_false] at h
      exact look_keep h
def argsE : Nat → List Value → Env
 | _, [] => []
 | i, v :: r => (i, v) :: argsE (i + 1) r
theorem look_args {t : Nat} {v : Value} : ∀ {i : Nat} {l : List Value}, look (argsE i l) t = some v → i ≤ t ∧ l[t - i]? = some v
 | _, [], h => by cases h
 | i, x :: r, h => by
   unfold argsE at h
   rw [look_cons] at h
   by_cases e : i = t
   ·subst e
    simp only [beq_self_eq_true, cond_true] at h
    simpa using h
   ·have h2 : (i == t) = false := by simpa using e
    rw [h2, cond_false] at h
    obtain ⟨h3, h4⟩ := look_args h
    refine ⟨by omega, ?_⟩
    rw [show t - i = (t - (i + 1)) + 1 by omega]
    simpa using h4
/-- what a frame holds -/
structure At (n : Nat) (Γ : Env) (a : Act) : Prop where
 size : a.tmps.size = n
 defers : a.defers = []
 env : ∀ t v, look Γ t = some v → a.tmps[t]? = some v
structure EvIn (Γ : Env) (ev : Operand → Value) : Prop where
 ok : EvOk ev
 env : ∀ t v, look Γ t = some v → ev (.tmp t) = v
/-- what an operand is, out of a list -/
def lookD (e : Nat → Value) (t : Nat) : Env → Value
 | [] => e t
 | (s, v) :: r => bif Nat.beq s t then v else lookD e t r
@[go_sem ↓] theorem lookD_hit (e : Nat → Value) (t : Nat) (v : Value) (Γ : Env) : lookD e t ((t, v) :: Γ) = v := by unfold lookD; rw [Nat.beq_refl]; rfl
@[go_sem ↓] theorem lookD_miss (e : Nat → Value) {s t : Nat} (v : Value) (Γ : Env) (h : (s == t) = false) : lookD e t ((s, v) :: Γ) = lookD e t Γ := by
 rw [beq_two] at h
 show (bif Nat.beq s t then v else lookD e t Γ) = _
 rw [h]; rfl
theorem lookD_eq (e : Nat → Value) (t : Nat) : ∀ Γ : Env, (∀ v, look Γ t = some v → e t = v) → lookD e t Γ = e t
 | [], _ => rfl
 | (s, v) :: r, h => by
   unfold lookD
   unfold look at h
   cases hb : Nat.beq s t with
   | true => rw [hb] at h; rw [cond_true]; exact (h v rfl).symm
   | false => rw [hb] at h; rw [cond_false]; exact lookD_eq e t r h
abbrev EvT (Γ : Env) (e : Nat → Value) (ev : Operand → Value) : Prop := (∀ v, ev (.const v) = v) ∧ (∀ g, ev (.global g) = .pointer (some ⟨g, 0, none⟩)) ∧ (∀ f, ev (.func f) = .func (.func f) #[] #[]) ∧ ∀ t, ev (.tmp t) = lookD e t Γ
theorem EvIn.evt {Γ : Env} {ev : Operand → Value} (h : EvIn Γ ev) : EvT Γ (fun t => ev (.tmp t)) ev :=
 ⟨h.ok.const, h.ok.global, h.ok.func, fun t => (lookD_eq (fun t => ev (.tmp t)) t Γ fun v e => h.env t v e).symm⟩
def callOk (fn : Func) : Bool := !(fn.name == "runtime.NumGoroutine") && fn.body.isSome
/-- a call of a function that has a body -/
theorem exec_call {P : Program} {ev : Operand → Value} {o : Oper} {f : FuncId} {fn : Func} {ops : Array Operand} {tys : Array TypeId} {vals : Array Value} {w : World} (hf : P.funcs[f]? = some fn) (hc : callOk fn = true)
 (ho : o.op = .call { callee := .value (.func f), args := ops, argTypes := tys }) (hF : ev (.func f) = .func (.func f) #[] #[]) (hv : ops.map ev = vals) : (execOp ev o).run P w = .ok (.enter f vals) w := by
 unfold callOk at hc
 rw [Bool.and_eq_true, Bool.not_eq_true'] at hc
 have hn : ¬ fn.name = "runtime.NumGoroutine" := by simpa using hc.1
 have hb : ¬ fn.body = none := by
  have := hc.2
  cases h : fn.body with
  | none => rw [h] at this; cases this
  | some c => simp
 unfold execOp
 simp only [ho]
 simp [resolve, Deferred.ofValue, hF, hv, invoke, callFunc, hf, hn, hb]
section
variable {P : Program} {Q Q0 : Exit → Act → World → Prop} {a : Act} {w w' : World} {n : Nat} {Γ Γ' : Env} {l rest : List Oper} {o : Oper} {t : Nat} {v : Value} {ev : Operand → Value} {q b : Bool} {next : Act → World → Prop} {id : Nat}
theorem EvIn.get (h : EvIn Γ ev) (t : Nat) {v : Value} (e : look Γ t = some v) : ev (.tmp t) = v := h.env t v e
theorem EvIn.c (h : EvIn Γ ev) (v : Value) : ev (.const v) = v := h.ok.const v
theorem EvIn.f (h : EvIn Γ ev) (f : FuncId) : ev (.func f) = .func (.func f) #[] #[] := h.ok.func f
theorem At.evin (h : At n Γ a) : EvIn Γ a.eval := ⟨evOk a, fun t v e => by
 have := h.env t v e
 simp [Act.eval, this]⟩
theorem At.getD (h : At n Γ a) (t : Nat) {v : Value} (e : look Γ t = some v) : a.tmps.getD t undef = v := by
 rw [Array.getD_eq_getD_getElem?, h.env t v e]; rfl
theorem At.put (h : At n Γ a) (ht : t < n) (v : Value) : At n ((t, v) :: Γ) (a.put (some t) v) := by
 refine ⟨by rw [put_size, h.size], by rw [put_def, h.defers], fun s u e => ?_⟩
 rw [look_cons] at e
 by_cases hts : t = s
 ·subst hts
  simp only [beq_self_eq_true, cond_true, Option.some.injEq] at e
  subst e
  have : t < a.tmps.size := by rw [h.size]; exact ht
  simp [Act.put, this]
 ·have h2 : (t == s) = false := by simpa using hts
  rw [h2, cond_false] at e
  rw [put_other (fun e => hts (Option.some.inj e))]
  exact h.env s u e
theorem At.keep (h : At n Γ a) (ks : List Nat) : At n (keepE ks Γ) a := ⟨h.size, h.defers, fun t v e => h.env t v (look_keep e)⟩
/-- a call, entered -/
theorem calls_at {f : FuncId} {fn : Func} {c : Code} {args : Array Value} {R : Ending → World → Prop} (n : Nat) (hf : P.funcs[f]? = some fn) (hb : fn.body = some c) (hn : fn.ntmps = n) (ha : args.size ≤ n)
 (h : ∀ a, At n (argsE 0 args.toList) a → c.wp P (bodyPost P fn R) a w) : Calls P f args w R := by
 refine calls_of_wp hf hb (h _ ⟨?_, rfl, fun t v e => ?_⟩)
 ·simp [hn]; omega
 ·have h2 := (look_args e).2
  rw [Nat.sub_zero, Array.getElem?_toList] at h2
  show (args ++ Array.replicate (fn.ntmps - args.size) undef)[t]? = some v
  have hlt := (Array.getElem?_eq_some_iff.1 h2).1
  rw [Array.getElem?_append_left hlt]
  exact h2
-- the ways on
theorem n_then (h : next a w) : Exit.then next Q .normal a w := h
theorem n_block (h : Q .normal a w) : Exit.inBlock id Q .normal a w := h
theorem x_then {k : Nat} (h : Q (.exit k) a w) : Exit.then next Q (.exit k) a w := h
theorem x_block (h : Q .normal a w) : Exit.inBlock id Q (.exit id) a w := by
 show (if id = id then Q .normal a w else Q (.exit id) a w)
 rw [if_pos rfl]; exact h
theorem r_then (h : Q .ret a w) : Exit.then next Q .ret a w := h
theorem r_block (h : Q .ret a w) : Exit.inBlock id Q .ret a w := h
theorem wl_nil {ops : Array Oper} (h : Q .normal a w) : wpList P ops Q [] a w := h
/-- a test -/
theorem wp_if {x y : Code} (hA : At n Γ a) (t : Nat) (q : Bool) (hl : look Γ t = some (.bool q)) (ht : q = true → x.wp P Q a w) (hf : q = false → y.wp P Q a w) : (Code.cond (.tmp t) x y).wp P Q a w :=
 wp_cond_split (hA.evin.get t hl) ht hf
/-- what comes behind a test is shown once -/
theorem wp_join {x y : Code} (R : Act → World → Prop) (h : x.wp P (Exit.then R Q) a w) (hy : ∀ a w, R a w → y.wp P Q a w) : x.wp P (Exit.then (y.wp P Q) Q) a w :=
 wp_mono h fun e a w q => by cases e <;> first | exact hy _ _ q | exact q
/-- a loop; the number goes down -/
theorem wp_loop_at {c : Code} (I : Nat → Act → World → Prop) (k : Nat) (h0 : I k a w) (round : ∀ k a w, I k a w → c.wp P (Exit.then (fun a' w' => ∃ k', k' < k ∧ I k' a' w') Q) a w) : (Code.loop c).wp P Q a w :=
 wp_loop_ghost I k h0 round
-- operations, in the text's order
theorem wl_op {v : Value} (hA : At n Γ a) (hg : o.guard = none) (hd : o.dst = some t) (ht : t < n) (hrun : ∀ ev, EvIn Γ ev → (execOp ev o).run P w = .ok (.value v) w')
 (hk : ∀ a', At n ((t, v) :: Γ) a' → wpList P l.toArray Q rest a' w') : wpList P l.toArray Q (o :: rest) a w := by
 refine wpList_plain hg fun K hK => ?_
 unfold Oper.wp
 rw [hrun _ hA.evin, Oper.upon_value, hd]
 exact hK _ _ (hk _ (hA.put ht v))
/-- new memory -/
theorem wl_new {v : Value} {x : Obj} (hA : At n Γ a) (hg : o.guard = none) (hd : o.dst = some t) (ht : t < n) (hrun : ∀ ev, EvIn Γ ev → (execOp ev o).run P w = .ok (.value v) (w.alloc x))
 (hk : ∀ w1 a', w1.heap[w.heap.size]? = some x → w1.heap.size = w.heap.size + 1 → Below w.heap.size w w1 → At n ((t, v) :: Γ) a' → wpList P l.toArray Q rest a' w1) : wpList P l.toArray Q (o :: rest) a w :=
 wl_op hA hg hd ht hrun fun a' hA' => hk _ a' (heap_alloc_new w x) (by simp) ((Below.refl _ _).alloc (Nat.le_refl _) x) hA'
/-- cells, one behind the other, are set -/
def setAll (w : World) (g : Nat) : Nat → List Value → World
 | _, [] => w
 | i, c :: r => setAll (w.setCell ⟨g, i, none⟩ c) g (i + 1) r
theorem blk_setAll {g : Nat} {T : TypeId} : ∀ (cs : List Value) (i : Nat) (w : World) (z : List Value), Blk w g T z.toArray → i + cs.length = z.length → Blk (setAll w g i cs) g T (z.take i ++ cs).toArray
 | [], i, w, z, h, hl => by
   have e : z.take i = z := List.take_of_length_le (by simp at hl; omega)
   rw [e, List.append_nil]
   exact h
 | c :: r, i, w, z, h, hl => by
   rw [List.length_cons] at hl
   have h2 := h.set_ i c
   rw [List.setIfInBounds_toArray] at h2
   have h3 := blk_setAll r (i + 1) _ _ h2 (by rw [List.length_set]; omega)
   have e : (z.set i c).take (i + 1) ++ r = z.take i ++ c :: r := by
    have hi : i < (z.set i c).length := by rw [List.length_set]; omega
    rw [List.take_succ_eq_append_getElem hi, List.getElem_set_self, List.take_set_of_le (Nat.le_refl i), List.append_assoc]
    rfl
   rw [e] at h3
   exact h3
theorem below_setAll {B g : Nat} {W : World} (hg : B ≤ g) : ∀ (cs : List Value) (i : Nat) (w : World), Below B W w → Below B W (setAll w g i cs)
 | [], _, _, h => h
 | c :: r, i, w, h => below_setAll hg r (i + 1) _ (Below.setCell h (by exact hg) c)
theorem size_setAll {g : Nat} : ∀ (cs : List Value) (i : Nat) (w : World), (setAll w g i cs).heap.size = w.heap.size
 | [], _, _ => rfl
 | c :: r, i, w => by
   show (setAll _ g (i + 1) r).heap.size = _
   rw [size_setAll r]
   simp
/-- a variable of its own, made and set -/
theorem wl_local {o2 : Oper} {T : TypeId} {z : List Value} (cs : List Value) (hA : At n Γ a) (hg : o.guard = none) (hd : o.dst = some t) (ht : t < n) (hrun : ∀ ev, EvIn Γ ev → (execOp ev o).run P w = .ok (.value (.pointer (some ⟨w.heap.size, 0, none⟩))) (w.alloc (.cells z.toArray T)))
 (hg2 : o2.guard = none) (hd2 : o2.dst = none) (hz : cs.length = z.length) (hrun2 : ∀ w1 g ev, Blk w1 g T z.toArray → EvIn ((t, .pointer (some ⟨g, 0, none⟩)) :: Γ) ev → (execOp ev o2).run P w1 = .ok .skip (setAll w1 g 0 cs))
 (hk : ∀ w1 a', Blk w1 w.heap.size T cs.toArray → w1.heap.size = w.heap.size + 1 → Below w.heap.size w w1 → At n ((t, .pointer (some ⟨w.heap.size, 0, none⟩)) :: Γ) a' → wpList P l.toArray Q rest a' w1) : wpList P l.toArray Q (o :: o2 :: rest) a w := by
 refine wl_op hA hg hd ht hrun fun a' hA' => ?_
 have hb : Blk (w.alloc (.cells z.toArray T)) w.heap.size T z.toArray := heap_alloc_new w _
 refine wpList_plain hg2 fun K hK => ?_
 unfold Oper.wp
 rw [hrun2 _ w.heap.size _ hb hA'.evin, Oper.upon_skip, hd2]
 refine hK _ _ (hk _ a' ?_ ?_ ?_ hA')
 ·have := blk_setAll cs 0 _ _ hb (by omega)
  simpa using this
 ·rw [size_setAll]; simp
 ·exact below_setAll (Nat.le_refl _) cs 0 _ ((Below.refl _ _).alloc (Nat.le_refl _) _)
/-- only one block has turned -/
structure Only (g : Nat) (w w' : World) : Prop where
 os : w'.os = w.os
 tape : w'.tape = w.tape
 output : w'.output = w.output
 size : w'.heap.size = w.heap.size
 block : ∀ i, i ≠ g → w'.heap[i]? = w.heap[i]?
theorem Only.refl (g : Nat) (w : World) : Only g w w := ⟨rfl, rfl, rfl, rfl, fun _ _ => rfl⟩
theorem Only.trans {g : Nat} {w w' w'' : World} (h : Only g w w') (k : Only g w' w'') : Only g w w'' := ⟨k.os.trans h.os, k.tape.trans h.tape, k.output.trans h.output, k.size.trans h.size, fun i hi => (k.block i hi).trans (h.block i hi)⟩
theorem Only.set {g i : Nat} {w : World} {u : Value} : Only g w (w.setCell ⟨g, i, none⟩ u) := ⟨rfl, rfl, rfl, by simp, fun j hj => Below.heap_setCell _ _ _ _ hj⟩
theorem Only.setAll {g : Nat} : ∀ (cs : List Value) (i : Nat) (w : World), Only g w (setAll w g i cs)
 | [], _, w => Only.refl g w
 | _ :: r, i, _ => Only.set.trans (Only.setAll r (i + 1) _)
theorem Only.below {g B : Nat} {W w w' : World} (h : Only g w w') (hb : Below B W w) (hg : B ≤ g) : Below B W w' :=
 ⟨h.os.trans hb.os, h.tape.trans hb.tape, h.output.trans hb.output, by rw [h.size]; exact hb.size, fun i hi => (h.block i (by omega)).trans (hb.block i hi)⟩
theorem Only.blk {g k : Nat} {T : TypeId} {cs : Array Value} {w w' : World} (h : Only g w w') (hb : Blk w k T cs) (hk : k ≠ g) : Blk w' k T cs := (h.block k hk).trans hb
/-- a whole variable is set -/
theorem wl_set {g : Nat} {T : TypeId} {z : List Value} (cs : List Value) (hA : At n Γ a) (hg : o.guard = none) (hd : o.dst = none) (hK : Blk w g T z.toArray) (hz : cs.length = z.length) (hrun : ∀ ev, EvIn Γ ev → (execOp ev o).run P w = .ok .skip (setAll w g 0 cs))
 (hk : ∀ w1, Blk w1 g T cs.toArray → Only g w w1 → wpList P l.toArray Q rest a w1) : wpList P l.toArray Q (o :: rest) a w := by
 refine wpList_plain hg fun K hK' => ?_
 unfold Oper.wp
 rw [hrun _ hA.evin, Oper.upon_skip, hd]
 refine hK' _ _ (hk _ ?_ (Only.setAll cs 0 w))
 have := blk_setAll cs 0 _ _ hK (by omega)
 simpa using this
theorem wl_skip (hA : At n Γ a) (hg : o.guard = none) (hd : o.dst = none) (hrun : ∀ ev, EvIn Γ ev → (execOp ev o).run P w = .ok .skip w')
 (hk : wpList P l.toArray Q rest a w') : wpList P l.toArray Q (o :: rest) a w := by
 refine wpList_plain hg fun K hK => ?_
 unfold Oper.wp
 rw [hrun _ hA.evin, Oper.upon_skip, hd]
 exact hK _ _ hk
theorem wl_call {f : FuncId} {args : Array Value} {R : Ending → World → Prop} (hA : At n Γ a) (hg : o.guard = none) (hd : o.dst = some t) (ht : t < n) (hrun : ∀ ev, EvIn Γ ev → (execOp ev o).run P w = .ok (.enter f args) w)
 (hc : Calls P f args w R) (hk : ∀ e w', R e w' → ∃ v, e = .returned v ∧ ∀ a', At n ((t, v) :: Γ) a' → wpList P l.toArray Q rest a' w') : wpList P l.toArray Q (o :: rest) a w := by
 refine wpList_plain hg fun K hK => ?_
 unfold Oper.wp
 rw [hrun _ hA.evin, Oper.upon_enter]
 refine Calls.mono hc fun e w' hR => ?_
 obtain ⟨v, rfl, h⟩ := hk e w' hR
 rw [hd]
 exact hK _ _ (h _ (hA.put ht v))
/-- what a guarded operation leaves -/
def gw (c : Bool) (v : Value) : Value := bif c then v else undef
abbrev gv (q b : Bool) (v : Value) : Value := gw (q == b) v
theorem gw_t {c : Bool} {v : Value} (h : c = true) : gw c v = v := by rw [h]; rfl
theorem gw_a {c d : Bool} {v : Value} (h : c = true) : gw (c && d) v = gw d v := by rw [h]; rfl
theorem beq_t {q b : Bool} (h : q = b) : (q == b) = true := by rw [h]; cases b <;> rfl
theorem and_beq {c r b : Bool} (h : c = true) (k : r = b) : (c && (r == b)) = true := by rw [h, k]; cases b <;> rfl
theorem and_l {c d : Bool} (h : (c && d) = true) : c = true := (Bool.and_eq_true _ _ ▸ h : c = true ∧ d = true).1
theorem gv_tt (v : Value) : gw (true == true) v = v := rfl
theorem gv_ff (v : Value) : gw (false == false) v = v := rfl
theorem gv_or (q r : Bool) : (if q = true then Value.bool true else gw (q == false) (.bool r)) = .bool (q || r) := by cases q <;> rfl
theorem gv_and (q r : Bool) : (if q = true then gw (q == true) (.bool r) else Value.bool false) = .bool (q && r) := by cases q <;> rfl
theorem pick_and {c x y : Operand} {r : Bool} (ho : o.op = .pick c x y) (hc : ev c = .bool q) (hx : ev x = gv q true (.bool r)) (hy : ev y = .bool false) : (execOp ev o).run P w = .ok (.value (.bool (q && r))) w := by
 unfold execOp
 rw [ho]
 cases q <;> simp [go_sem, hc, hx, hy, gw]
theorem pick_or {c x y : Operand} {r : Bool} (ho : o.op = .pick c x y) (hc : ev c = .bool q) (hx : ev x = .bool true) (hy : ev y = gv q false (.bool r)) : (execOp ev o).run P w = .ok (.value (.bool (q || r))) w := by
 unfold execOp
 rw [ho]
 cases q <;> simp [go_sem, hc, hx, hy, gw]
theorem wl_guard {gi gt : Nat} {v : Value} (q : Bool) (hA : At n Γ a) (hg : o.guard = some (gi, b)) (hgd : (l[gi]?).bind (·.dst) = some gt) (hl : look Γ gt = some (.bool q)) (hd : o.dst = some t) (ht : t < n)
 (hrun : q = b → ∀ ev, EvIn Γ ev → (execOp ev o).run P w = .ok (.value v) w) (hk : ∀ a', At n ((t, gv q b v) :: Γ) a' → wpList P l.toArray Q rest a' w) : wpList P l.toArray Q (o :: rest) a w := by
 have hw : Region.wanted o (yielded l.toArray a.tmps) = (q == b) := by
  rw [wanted_eq]
  exact wanted_bool hg hgd (hA.evin.get gt hl) rfl
 refine wpList_step fun K hK => ?_
 rw [hw]
 cases hqb : q == b with
 | true =>
   rw [if_pos rfl]
   unfold Oper.wp
   rw [hrun (by simpa using hqb) _ hA.evin, Oper.upon_value, hd]
   have := hk _ (hA.put ht (gv q b v))
   unfold gv gw at this
   rw [hqb] at this
   exact hK _ _ this
 | false =>
   rw [if_neg (by simp), hd]
   have := hk _ (hA.put ht (gv q b v))
   unfold gv gw at this
   rw [hqb] at this
   exact hK _ _ this
/-- a guard that is guarded itself -/
theorem wl_guard2 {gi gt : Nat} {v : Value} (c r : Bool) (hA : At n Γ a) (hg : o.guard = some (gi, b)) (hgd : (l[gi]?).bind (·.dst) = some gt) (hl : look Γ gt = some (gw c (.bool r))) (hd : o.dst = some t) (ht : t < n)
 (hrun : c = true → r = b → ∀ ev, EvIn Γ ev → (execOp ev o).run P w = .ok (.value v) w) (hk : ∀ a', At n ((t, gw (c && (r == b)) v) :: Γ) a' → wpList P l.toArray Q rest a' w) : wpList P l.toArray Q (o :: rest) a w := by
 have hev := hA.evin.get gt hl
 have hw : Region.wanted o (yielded l.toArray a.tmps) = (c && (r == b)) := by
  rw [wanted_eq]
  unfold wantedBy
  rw [hg]
  simp only [hgd, hev]
  unfold gw
  cases c <;> rfl
 refine wpList_step fun K hK => ?_
 rw [hw]
 have h3 := hk _ (hA.put ht (gw (c && (r == b)) v))
 unfold gw at h3
 cases hcb : c && (r == b) with
 | true =>
   rw [hcb] at h3
   rw [if_pos rfl]
   rw [Bool.and_eq_true, beq_iff_eq] at hcb
   unfold Oper.wp
   rw [hrun hcb.1 hcb.2 _ hA.evin, Oper.upon_value, hd]
   exact hK _ _ h3
 | false =>
   rw [hcb] at h3
   rw [if_neg (by simp), hd]
   exact hK _ _ h3
/-- a guarded call -/
theorem wl_gcall {gi gt : Nat} {f : FuncId} {args : Array Value} {R : Ending → World → Prop} (q : Bool) (hA : At n Γ a) (hg : o.guard = some (gi, b)) (hgd : (l[gi]?).bind (·.dst) = some gt) (hl : look Γ gt = some (.bool q)) (hd : o.dst = some t) (ht : t < n)
 (hrun : q = b → ∀ ev, EvIn Γ ev → (execOp ev o).run P w = .ok (.enter f args) w) (hc : q = b → Calls P f args w R) (K : Value → World → Prop)
 (hR : q = b → ∀ e w', R e w' → ∃ v, e = .returned v ∧ K v w') (hn : q ≠ b → K undef w) (hk : ∀ v a' w', K v w' → At n ((t, gv q b v) :: Γ) a' → wpList P l.toArray Q rest a' w') : wpList P l.toArray Q (o :: rest) a w := by
 have hw : Region.wanted o (yielded l.toArray a.tmps) = (q == b) := by
  rw [wanted_eq]
  exact wanted_bool hg hgd (hA.evin.get gt hl) rfl
 refine wpList_step fun K' hK => ?_
 rw [hw]
 cases hqb : q == b with
 | true =>
   have e : q = b := by simpa using hqb
   rw [if_pos rfl]
   unfold Oper.wp
   rw [hrun e _ hA.evin, Oper.upon_enter]
   refine Calls.mono (hc e) fun e' w' hR' => ?_
   obtain ⟨v, rfl, h⟩ := hR e e' w' hR'
   rw [hd]
   have := hk v _ w' h (hA.put ht (gv q b v))
   unfold gv gw at this
   rw [hqb] at this
   exact hK _ _ this
 | false =>
   rw [if_neg (by simp), hd]
   have := hk undef _ w (hn (by simpa using hqb)) (hA.put ht (gv q b undef))
   unfold gv gw at this
   rw [hqb] at this
   exact hK _ _ this
/-- a guarded call that answers with a value and makes memory alone -/
theorem wl_gcallv {gi gt : Nat} {f : FuncId} {args : Array Value} {v : Value} (q : Bool) (hA : At n Γ a) (hg : o.guard = some (gi, b)) (hgd : (l[gi]?).bind (·.dst) = some gt) (hl : look Γ gt = some (.bool q)) (hd : o.dst = some t) (ht : t < n)
 (hrun : q = b → ∀ ev, EvIn Γ ev → (execOp ev o).run P w = .ok (.enter f args) w) (hc : q = b → Calls P f args w fun e w' => e = .returned v ∧ Below w.heap.size w w')
 (hk : ∀ a' w', Below w.heap.size w w' → At n ((t, gv q b v) :: Γ) a' → wpList P l.toArray Q rest a' w') : wpList P l.toArray Q (o :: rest) a w := by
 have hw : Region.wanted o (yielded l.toArray a.tmps) = (q == b) := by
  rw [wanted_eq]
  exact wanted_bool hg hgd (hA.evin.get gt hl) rfl
 refine wpList_step fun K' hK => ?_
 rw [hw]
 cases hqb : q == b with
 | true =>
   have e : q = b := by simpa using hqb
   rw [if_pos rfl]
   unfold Oper.wp
   rw [hrun e _ hA.evin, Oper.upon_enter]
   refine Calls.mono (hc e) fun e' w' ⟨he, hb⟩ => ?_
   subst he
   rw [hd]
   have := hk _ w' hb (hA.put ht (gv q b v))
   unfold gv gw at this
   rw [hqb] at this
   exact hK _ _ this
 | false =>
   rw [if_neg (by simp), hd]
   have := hk _ w (Below.refl _ _) (hA.put ht (gv q b v))
   unfold gv gw at this
   rw [hqb] at this
   exact hK _ _ this
theorem wl_gcallv2 {gi gt : Nat} {f : FuncId} {args : Array Value} {v : Value} (c r : Bool) (hA : At n Γ a) (hg : o.guard = some (gi, b)) (hgd : (l[gi]?).bind (·.dst) = some gt) (hl : look Γ gt = some (gw c (.bool r))) (hd : o.dst = some t) (ht : t < n)
 (hrun : c = true → r = b → ∀ ev, EvIn Γ ev → (execOp ev o).run P w = .ok (.enter f args) w) (hc : c = true → r = b → Calls P f args w fun e w' => e = .returned v ∧ Below w.heap.size w w')
 (hk : ∀ a' w', Below w.heap.size w w' → At n ((t, gw (c && (r == b)) v) :: Γ) a' → wpList P l.toArray Q rest a' w') : wpList P l.toArray Q (o :: rest) a w := by
 have hev := hA.evin.get gt hl
 have hw : Region.wanted o (yielded l.toArray a.tmps) = (c && (r == b)) := by
  rw [wanted_eq]
  unfold wantedBy
  rw [hg]
  simp only [hgd, hev]
  unfold gw
  cases c <;> rfl
 refine wpList_step fun K' hK => ?_
 rw [hw]
 cases hqb : c && (r == b) with
 | true =>
   have e := hqb
   rw [Bool.and_eq_true, beq_iff_eq] at e
   rw [if_pos rfl]
   unfold Oper.wp
   rw [hrun e.1 e.2 _ hA.evin, Oper.upon_enter]
   refine Calls.mono (hc e.1 e.2) fun e' w' ⟨he, hb⟩ => ?_
   subst he
   rw [hd]
   have := hk _ w' hb (hA.put ht (gw (c && (r == b)) v))
   unfold gw at this
   rw [hqb] at this
   exact hK _ _ this
 | false =>
   rw [if_neg (by simp), hd]
   have := hk _ w (Below.refl _ _) (hA.put ht (gw (c && (r == b)) v))
   unfold gw at this
   rw [hqb] at this
   exact hK _ _ this
-- what is left behind a region whose order is open
def FinE (σ : Nat → Value) (K : Env → Prop) (w : World) : List (Oper × Fact) → Env → Prop
 | [], Γ => K Γ
 | (⟨some t, _, _, _, _, _⟩, .det v) :: r, Γ => FinE σ K w r ((t, v) :: Γ)
 | (⟨some t, _, _, _, _, _⟩, .held p) :: r, Γ => ∀ x, x = σ t → p x w → FinE σ K w r ((t, x) :: Γ)
 | (⟨some t, _, _, _, _, _⟩, .used _) :: r, Γ => ∀ x, x = σ t → FinE σ K w r ((t, x) :: Γ)
 | (⟨none, _, _, _, _, _⟩, _) :: r, Γ => FinE σ K w r Γ
theorem fin_env {σ : Nat → Value} {w : World} {ds : List Deferred} (hds : ds = []) : ∀ (m : List (Oper × Fact)) (arr : Array Value) (Γ : Env), (∀ p ∈ m, ∀ t, p.1.dst = some t → t < n) → At n Γ ⟨arr, ds⟩ → FinE σ (fun Γ => ∀ a', At n Γ a' → Q .normal a' w) w m Γ → FinK σ (fun arr => Q .normal ⟨arr, ds⟩ w) w m arr
 | [], arr, Γ, _, hA, h => h _ hA
 | (⟨d, _, _, _, _, _⟩, f) :: r, arr, Γ, hm, hA, h => by
   have hr := fun p hp => hm p (List.mem_cons_of_mem _ hp)
   cases d with
   | none => exact fin_env hds r arr Γ hr hA h
   | some t =>
     have ht : t < n := hm _ List.mem_cons_self t rfl
     cases f with
     | det v => exact fin_env hds r _ _ hr (hA.put ht v) h
     | held p => exact fun x he hx => fin_env hds r _ _ hr (hA.put ht x) (h x he hx)
     | used p => exact fun x he => fin_env hds r _ _ hr (hA.put ht x) (h x he)
def dstsB (l : List Oper) (n : Nat) : Bool := l.all fun o => match o.dst with | some t => decide (t < n) | none => true
theorem wp_any_at {id : Nat} {d : Bool} (hA : At n Γ a) (F : List Fact) (Ph : List Phase) (C : World → Prop) (T : Nat → World → World → Prop) (hm : P.follows .mixedOrders = true) (hdr : d = true) (hB : checkB l n = true) (hdB : dstsB l n = true) (hFl : F.length = l.length) (hC : C { w with drawn := w.drawn + 1 })
 (hstab : ∀ i j x w w', needB l F i j = true → i ≠ j → C w → (F.getD j (.det undef)).says x w → T i w w' → (F.getD j (.det undef)).says x w')
 (hph0 : ∀ ph ∈ Ph, ph.start = none → ph.p (sig a.eval) { w with drawn := w.drawn + 1 })
 (hph : ∀ i (ph : Phase) σ w w', ph ∈ Ph → ph.start ≠ some i → ph.upto ≠ some i → liveB l i ph.start ph.upto = true → C w → ph.p σ w → T i w w' → ph.p σ w')
 (hpl : ∀ ph ∈ Ph, ∀ a, ph.start = some a → a < l.length)
 (hob : ObAll P l F Ph C T a.tmps 0 l)
 (hlk : lkB l (Ph.map fun ph => (ph.start, ph.looks)) = true)
 (hfin : ∀ σ w', C w' → (∀ ph ∈ Ph, ph.upto = none → ph.p σ w') → FinE σ (fun Γ => ∀ a', At n Γ a' → Q .normal a' w') w' (l.zip F) Γ) : (Code.region id l.toArray d).wp P Q a w := by
 subst hdr
 refine wp_region_facts n F Ph C T hm hA.size hB hFl hC hstab hph0 hph hpl (ob_all hob) hlk fun σ w' hC' hp' => ?_
 refine fin_env hA.defers _ _ Γ (fun p hp t ht => ?_) hA (hfin σ w' hC' hp')
 have hpl := (List.of_mem_zip (a := p.1) (b := p.2) hp).1
 unfold dstsB at hdB
 have := List.all_eq_true.1 hdB p.1 hpl
 rw [ht] at this
 simpa using this
theorem ob_gv {F : List Fact} {Ph : List Phase} {C : World → Prop} {T : Nat → World → World → Prop} {i gi gt : Nat} {o : Oper} {ev : Operand → Value} {w : World} {v u : Value} {b : Bool} (q : Bool) (hg : o.guard = some (gi, b)) (hgd : (l[gi]?).bind (·.dst) = some gt) (hv : ev (.tmp gt) = .bool q) (hF : F.getD i (.det undef) = .det u) (hp : Ph.all (fun ph => ph.start != some i) = true) (hC : C w) (hT : T i w w) (h : q = b → (execOp ev o).run P w = .ok (.value v) w) (hu : u = gv q b v) :
 if wantedBy l o ev = true then Does P ev o w (fun v w' => C w' ∧ T i w w' ∧ (F.getD i (.det undef)).says v w' ∧ ∀ ph ∈ Ph, ph.start = some i → ph.p (sig ev) w') else T i w w ∧ (F.getD i (.det undef)).says undef w ∧ ∀ ph ∈ Ph, ph.start = some i → ph.p (sig ev) w := by
 subst hu
 have hw := wanted_bool (l := l) (r := (q == b)) hg hgd hv rfl
 cases hqb : q == b with
 | true =>
   rw [hqb] at hw
   refine ob_yes hw (does_value (h (by simpa using hqb)) ⟨hC, hT, ?_, no_start hp⟩)
   rw [hF]; unfold gv gw; rw [hqb]; rfl
 | false =>
   rw [hqb] at hw
   refine ob_no hw hT ?_ (no_start hp)
   rw [hF]; unfold gv gw; rw [hqb]; rfl
theorem ob_gw {F : List Fact} {Ph : List Phase} {C : World → Prop} {T : Nat → World → World → Prop} {i gi gt : Nat} {o : Oper} {ev : Operand → Value} {w : World} {v u : Value} {b : Bool} (c r : Bool) (hg : o.guard = some (gi, b)) (hgd : (l[gi]?).bind (·.dst) = some gt) (hv : ev (.tmp gt) = gw c (.bool r)) (hF : F.getD i (.det undef) = .det u) (hp : Ph.all (fun ph => ph.start != some i) = true) (hC : C w) (hT : T i w w) (h : c = true → r = b → (execOp ev o).run P w = .ok (.value v) w) (hu : u = gw (c && (r == b)) v) :
 if wantedBy l o ev = true then Does P ev o w (fun v w' => C w' ∧ T i w w' ∧ (F.getD i (.det undef)).says v w' ∧ ∀ ph ∈ Ph, ph.start = some i → ph.p (sig ev) w') else T i w w ∧ (F.getD i (.det undef)).says undef w ∧ ∀ ph ∈ Ph, ph.start = some i → ph.p (sig ev) w := by
 subst hu
 have hw : wantedBy l o ev = (c && (r == b)) := by
  unfold wantedBy
  rw [hg]
  simp only [hgd, hv]
  unfold gw
  cases c <;> rfl
 cases hqb : c && (r == b) with
 | true =>
   rw [hqb] at hw
   rw [Bool.and_eq_true, beq_iff_eq] at hqb
   refine ob_yes hw (does_value (h hqb.1 hqb.2) ⟨hC, hT, ?_, no_start hp⟩)
   rw [hF]; unfold gw; rw [hqb.1, hqb.2]; cases b <;> rfl
 | false =>
   rw [hqb] at hw
   refine ob_no hw hT ?_ (no_start hp)
   rw [hF]; unfold gw; rw [hqb]; rfl
/-- a call, in a region whose order is open, that answers with a value and makes memory alone -/
theorem ob_dcall {F : List Fact} {Ph : List Phase} {C : World → Prop} {T : Nat → World → World → Prop} {i : Nat} {f : FuncId} {args : Array Value} {o : Oper} {ev : Operand → Value} {w : World} {u v : Value} (hw : wantedBy l o ev = true) (hF : F.getD i (.det undef) = .det u) (hp : Ph.all (fun ph => ph.start != some i) = true)
 (hc : Calls P f args w fun e w' => e = .returned v ∧ Below w.heap.size w w') (h : (execOp ev o).run P w = .ok (.enter f args) w) (hu : u = v) (hk : ∀ w', Below w.heap.size w w' → C w' ∧ T i w w') :
 if wantedBy l o ev = true then Does P ev o w (fun v w' => C w' ∧ T i w w' ∧ (F.getD i (.det undef)).says v w' ∧ ∀ ph ∈ Ph, ph.start = some i → ph.p (sig ev) w') else T i w w ∧ (F.getD i (.det undef)).says undef w ∧ ∀ ph ∈ Ph, ph.start = some i → ph.p (sig ev) w :=
 ob_yes hw (does_enter h (Calls.mono hc fun _ w' ⟨he, hb⟩ => ⟨_, he, (hk w' hb).1, (hk w' hb).2, by rw [hF, hu]; rfl, no_start hp⟩))
theorem no_1 {i : Nat} (h : (none : Option Nat) = some i) : False := by cases h
theorem At.keepN (h : At n Γ a) (ks : List Nat) (e : keepE ks Γ = Γ' := by simp only [argsE, keepE, lookS, Nat.reduceBEq, cond_true, cond_false, Nat.reduceAdd, gv_tt, gv_ff, Bool.true_and, Bool.false_and, Bool.true_or, Bool.false_or] <;> rfl) : At n Γ' a := e ▸ h.keep ks
theorem At.norm (h : At n Γ a) (e : Γ = Γ' := by simp only [argsE, keepE, lookS, Nat.reduceBEq, cond_true, cond_false, Nat.reduceAdd, gv_tt, gv_ff, Bool.true_and, Bool.false_and, Bool.true_or, Bool.false_or] <;> rfl) : At n Γ' a := e ▸ h
theorem nT (h : next a w) : Exit.then next Q .normal a w := h
theorem nB (h : Q .normal a w) : Exit.inBlock id Q .normal a w := h
theorem xT {k : Nat} (h : Q (.exit k) a w) : Exit.then next Q (.exit k) a w := h
theorem xB (h : Q .normal a w) : Exit.inBlock id Q (.exit id) a w := x_block h
theorem rT (h : Q .ret a w) : Exit.then next Q .ret a w := h
theorem rB (h : Q .ret a w) : Exit.inBlock id Q .ret a w := h
theorem wN {ops : Array Oper} (h : Q .normal a w) : wpList P ops Q [] a w := h
theorem wS {x y : Code} (h : x.wp P (Exit.then (y.wp P Q) Q) a w) : (Code.seq x y).wp P Q a w := wp_seq h
theorem wB {c : Code} (h : c.wp P (Exit.inBlock id Q) a w) : (Code.block id c).wp P Q a w := wp_block h
theorem wR {ops : List Oper} (h : wpList P ops.toArray Q ops a w) : (Code.region id ops.toArray false).wp P Q a w := wp_region_lit h
/-- an operation, in a run of such -/
theorem wo {v : Value} (hg : o.guard = none) (hd : o.dst = some t) (ht : t < n) (hrun : ∀ ev e, EvT Γ e ev → (execOp ev o).run P w = .ok (.value v) w)
 (hk : ∀ a', At n ((t, v) :: Γ) a' → wpList P l.toArray Q rest a' w) : ∀ a, At n Γ a → wpList P l.toArray Q (o :: rest) a w :=
 fun _ hA => wl_op hA hg hd ht (fun ev h => hrun ev _ h.evt) hk
theorem w1 {v : Value} (hk : ∀ a', At n ((t, v) :: Γ) a' → wpList P l.toArray Q rest a' w) (hrun : ∀ ev e, EvT Γ e ev → (execOp ev o).run P w = .ok (.value v) w := by intro ev e h; simp [go_sem, h] <;> rfl) (hg : o.guard = none := by rfl) (hd : o.dst = some t := by rfl) (ht : t < n := by decide) : ∀ a, At n Γ a → wpList P l.toArray Q (o :: rest) a w := wo hg hd ht hrun hk
theorem w2 {v : Value} (hrun : ∀ ev e, EvT Γ e ev → (execOp ev o).run P w = .ok (.value v) w) (hk : ∀ a', At n ((t, v) :: Γ) a' → wpList P l.toArray Q rest a' w) (hg : o.guard = none := by rfl) (hd : o.dst = some t := by rfl) (ht : t < n := by decide) : ∀ a, At n Γ a → wpList P l.toArray Q (o :: rest) a w := wo hg hd ht hrun hk
theorem wg {gi gt : Nat} {v : Value} (q : Bool) (hg : o.guard = some (gi, b)) (hgd : (l[gi]?).bind (·.dst) = some gt) (hl : look Γ gt = some (.bool q)) (hd : o.dst = some t) (ht : t < n)
 (hrun : q = b → ∀ ev e, EvT Γ e ev → (execOp ev o).run P w = .ok (.value v) w) (hk : ∀ a', At n ((t, gv q b v) :: Γ) a' → wpList P l.toArray Q rest a' w) : ∀ a, At n Γ a → wpList P l.toArray Q (o :: rest) a w :=
 fun _ hA => wl_guard q hA hg hgd hl hd ht (fun hq ev h => hrun hq ev _ h.evt) hk
theorem wg2 {gi gt : Nat} {v : Value} (c r : Bool) (hg : o.guard = some (gi, b)) (hgd : (l[gi]?).bind (·.dst) = some gt) (hl : look Γ gt = some (gw c (.bool r))) (hd : o.dst = some t) (ht : t < n)
 (hrun : c = true → r = b → ∀ ev e, EvT Γ e ev → (execOp ev o).run P w = .ok (.value v) w) (hk : ∀ a', At n ((t, gw (c && (r == b)) v) :: Γ) a' → wpList P l.toArray Q rest a' w) : ∀ a, At n Γ a → wpList P l.toArray Q (o :: rest) a w :=
 fun _ hA => wl_guard2 c r hA hg hgd hl hd ht (fun hc hq ev h => hrun hc hq ev _ h.evt) hk
theorem wka {tc tx : Nat} {r : Bool} (hg : o.guard = none) (hd : o.dst = some t) (ht : t < n) (ho : o.op = .pick (.tmp tc) (.tmp tx) (.const (.bool false))) (hc : look Γ tc = some (.bool q)) (hx : look Γ tx = some (gv q true (.bool r)))
 (hk : ∀ a', At n ((t, .bool (q && r)) :: Γ) a' → wpList P l.toArray Q rest a' w) : ∀ a, At n Γ a → wpList P l.toArray Q (o :: rest) a w :=
 fun _ hA => wl_op hA hg hd ht (fun _ h => pick_and ho (h.env _ _ hc) (h.env _ _ hx) (h.c _)) hk
theorem wko {tc tx : Nat} {r : Bool} (hg : o.guard = none) (hd : o.dst = some t) (ht : t < n) (ho : o.op = .pick (.tmp tc) (.const (.bool true)) (.tmp tx)) (hc : look Γ tc = some (.bool q)) (hx : look Γ tx = some (gv q false (.bool r)))
 (hk : ∀ a', At n ((t, .bool (q || r)) :: Γ) a' → wpList P l.toArray Q rest a' w) : ∀ a, At n Γ a → wpList P l.toArray Q (o :: rest) a w :=
 fun _ hA => wl_op hA hg hd ht (fun _ h => pick_or ho (h.env _ _ hc) (h.c _) (h.env _ _ hx)) hk
theorem mL : (∀ (f : Operand → Value) (l : List Operand), l.toArray.map f = (l.map f).toArray) ∧ (∀ (f : Operand → Value) (x : Operand) (l : List Operand), (x :: l).map f = f x :: l.map f) ∧ ∀ (f : Operand → Value), ([] : List Operand).map f = [] := ⟨fun f l => by simp, fun _ _ _ => rfl, fun _ => rfl⟩
-- operations of a region whose order is open
section
variable {F : List Fact} {Ph : List Phase} {C : World → Prop} {T : Nat → World → World → Prop} {i : Nat} {a0 : Array Value}
abbrev Slots (l : List Oper) (F : List Fact) (a0 : Array Value) (o : Oper) (ev : Operand → Value) (w : World) : Prop := ∀ t ∈ o.looksAt l.toArray, slotSays l F a0 o t (ev (.tmp t)) w
theorem sd (hs : Slots l F a0 o ev w) (t j : Nat) {v : Value} (h1 : (o.looksAt l.toArray).contains t = true := by kernel_rfl) (h2 : srcOf l o t = some j := by kernel_rfl) (h3 : F.getD j (.det undef) = .det v := by rfl) : ev (.tmp t) = v := see_det hs t j h1 h2 h3
theorem se (hA : At n Γ a) (hs : Slots l F a.tmps o ev w) (t : Nat) {v : Value} (h1 : (o.looksAt l.toArray).contains t = true := by kernel_rfl) (h2 : srcOf l o t = none := by kernel_rfl) (h3 : look Γ t = some v := by rfl) : ev (.tmp t) = v := see_out hs t h1 h2 (hA.env t v h3)
theorem sh {p : Value → World → Prop} (hs : Slots l F a0 o ev w) (t j : Nat) (h1 : (o.looksAt l.toArray).contains t = true := by kernel_rfl) (h2 : srcOf l o t = some j := by kernel_rfl) (h3 : F.getD j (.det undef) = .held p := by rfl) : p (ev (.tmp t)) w := see_held hs t j h1 h2 h3
theorem su {p : Value → World → Prop} (hs : Slots l F a0 o ev w) (t j : Nat) (h1 : (o.looksAt l.toArray).contains t = true := by kernel_rfl) (h2 : srcOf l o t = some j := by kernel_rfl) (h3 : F.getD j (.det undef) = .used p := by rfl) : p (ev (.tmp t)) w := see_used hs t j h1 h2 h3
theorem od {v : Value} (hg : o.guard = none) (hF : F.getD i (.det undef) = .det v) (hp : Ph.all (fun ph => ph.start != some i) = true) (hC : C w) (hT : T i w w) (h : (execOp ev o).run P w = .ok (.value v) w) :
 if wantedBy l o ev = true then Does P ev o w (fun v w' => C w' ∧ T i w w' ∧ (F.getD i (.det undef)).says v w' ∧ ∀ ph ∈ Ph, ph.start = some i → ph.p (sig ev) w') else T i w w ∧ (F.getD i (.det undef)).says undef w ∧ ∀ ph ∈ Ph, ph.start = some i → ph.p (sig ev) w :=
 ob_det (wanted_none hg) hF hp hC hT h
end
-- answers
theorem ret_1 {fn : Func} {R : Ending → World → Prop} (hA : At n Γ a) (t : Nat) {v : Value} (hr : fn.results = #[.tmp t]) (hl : look Γ t = some v) (hR : R (.returned v) w) : bodyPost P fn R .ret a w :=
 ⟨hA.defers, v, by rw [← hA.getD t hl]; simp [results, hr], hR⟩
theorem ret_2 {fn : Func} {R : Ending → World → Prop} (hA : At n Γ a) (t u : Nat) {x y : Value} (hr : fn.results = #[.tmp t, .tmp u]) (hl : look Γ t = some x) (hl2 : look Γ u = some y) (hR : R (.returned (.tuple #[x, y])) w) : bodyPost P fn R .ret a w :=
 ⟨hA.defers, _, by rw [← hA.getD t hl, ← hA.getD u hl2]; simp [results, hr], hR⟩
theorem ret_3 {fn : Func} {R : Ending → World → Prop} (hA : At n Γ a) (t u s : Nat) {x y z : Value} (hr : fn.results = #[.tmp t, .tmp u, .tmp s]) (hl : look Γ t = some x) (hl2 : look Γ u = some y) (hl3 : look Γ s = some z) (hR : R (.returned (.tuple #[x, y, z])) w) : bodyPost P fn R .ret a w :=
 ⟨hA.defers, _, by rw [← hA.getD t hl, ← hA.getD u hl2, ← hA.getD s hl3]; simp [results, hr], hR⟩
theorem end_0 {fn : Func} {R : Ending → World → Prop} (hA : At n Γ a) (hr : fn.results = #[]) (hR : R (.returned (.tuple #[])) w) : bodyPost P fn R .normal a w :=
 ⟨hA.defers, _, by simp [results, hr], hR⟩
end
end Go.Proofs.YtkljkbeahdipfaaGreatDoor
/-
  Rows of bytes that are owned, and what is taken from them, for the walks by facts.
-/
namespace Go.Proofs.YtkljkbeahdipfaaGreatDoor
open Go.RowKit
theorem lit_one (w : World) (c : UInt8) : Reads (w.alloc (.cells #[.int .u8 ((c.toNat : Nat) : Int)] 5)) (w.heap.size + 1) 1 (some ⟨w.heap.size, 0, none⟩) 1 (u8s [c]) := by
 refine ⟨rfl, fun _ => ⟨⟨w.heap.size, 0, none⟩, rfl, Nat.lt_succ_self _, fun j u hu => ?_⟩⟩
 have hb : Blk (w.alloc (.cells #[.int .u8 ((c.toNat : Nat) : Int)] 5)) w.heap.size 5 #[.int .u8 ((c.toNat : Nat) : Int)] := Blk.new w _ _
 rcases j with _ | j
 ·have ha : (⟨w.heap.size, 0, none⟩ : Addr).add 0 = ⟨w.heap.size, 0, none⟩ := by unfold Addr.add; simp
  rw [ha, hb.cell]
  exact hu
 ·cases hu
theorem own8_reads {w : World} {B n : Nat} {v : Value} {l : List UInt8} (h : w.ownsRow B 5 1 v n (u8s l)) : ∃ A c, v = .slice A l.length c ∧ Reads w w.heap.size 1 A l.length (u8s l) := by
 obtain ⟨A, c, rfl, hr, _⟩ := own_reads (own8 h)
 have hn : n = l.length := by have := h.1; rw [u8s_length] at this; omega
 subst hn
 obtain ⟨A, c, e, hr, _⟩ := own_reads h
 injection e with e1 e2 e3
 subst e1 e3
 exact ⟨_, _, rfl, hr⟩
/-- what is taken: a slice that reads as bytes -/
def Took (w : World) (r : Value) (l : List UInt8) : Prop := ∃ A c, r = .slice A l.length c ∧ Reads w w.heap.size 1 A l.length (u8s l)
theorem Took.nil (w : World) : Took w (.slice none 0 0) [] := ⟨none, 0, rfl, Reads.none8⟩
/-- a row of bytes of one's own -/
def Own8 (B : Nat) (w : World) (v : Value) (l : List UInt8) : Prop := w.ownsRow B 5 1 v l.length (u8s l)
section
variable {w w' : World} {B B' : Nat} {v : Value} {l m : List UInt8} {P : Program} {ev : Operand → Value} {o : Oper}
theorem Own8.below (h : Own8 B w v l) (hb : Below w.heap.size w w') : Own8 B w' v l := own_below h hb
theorem Own8.mono (h : Own8 B w v l) (hb : B' ≤ B) : Own8 B' w v l := own_mono h hb
theorem Own8.keep (h : Own8 B w v l) (hk : ∀ g, v.ownBlock = some g → w'.heap[g]? = w.heap[g]?) : Own8 B w' v l := own_keep h hk
theorem Own8.took (h : Own8 B w v l) : Took w v l := own8_reads h
theorem Own8.of {n : Nat} (h : w.ownsRow B 5 1 v n (u8s l)) : Own8 B w v l := own8 h
theorem Own8.nil (w : World) : Own8 B w (.slice none 0 0) [] := World.ownsRow_nil _ _ _ _
theorem exec_append {s x : Operand} {T T' : TypeId} {u r : Value} (ho : o.op = .call { callee := .builtin .append, args := #[s, x], argTypes := #[T, T'] }) (hs : ev s = v) (hx : ev x = u)
 (hr : (Builtin.append_ #[T, T'] o.type #[v, u]).run P w = .ok r w') : (execOp ev o).run P w = .ok (.value r) w' := by
 unfold execOp
 simp only [ho, resolve, invoke, builtin, Sem.run_bind, Sem.run_pure, Result.andThen_ok, List.map_toArray, List.map_cons, List.map_nil, hs, hx, hr]
theorem run_app8 {u : Value} (h : Own8 B w v l) (hu : Took w u m) (hlen : l.length + m.length ≤ 1000000000) (hB : B ≤ w.heap.size) :
 ∃ r w', (Builtin.append_ #[22, 22] 22 #[v, u]).run Tryz.prog w = .ok r w' ∧ Own8 B w' r (l ++ m) ∧ w.grownBy w' v.ownBlock := by
 obtain ⟨A, c, rfl, hr⟩ := hu
 obtain ⟨i0, hi0, hz0, hz1, hz2⟩ := info_parts u8_info
 obtain ⟨v', w', hrun, ho, hg⟩ := run_append_any (P := Tryz.prog) w B 22 22 5 i0 _ 1 1 Tryz.underlying22 hi0 hz0 hz1 hz2 rfl (by omega) v l.length (u8s l) h A m.length c (u8s m) (Gives.of_reads hr (u8s_one m)) (by unfold maxLen; omega) (by omega) hB
 rw [← u8s_append] at ho
 exact ⟨v', w', hrun, .of ho, hg⟩
theorem below_app8 {W : World} {B0 : Nat} (hb : Below B0 W w) (h : Own8 B w v l) (hg : w.grownBy w' v.ownBlock) (h0 : B0 ≤ B) (hB : B0 ≤ w.heap.size) : Below B0 W w' :=
 hb.grown hg hB fun k hk => Nat.le_trans h0 (World.ownsRow.lt h k hk).1
theorem took_blk {g : Nat} {c : UInt8} (h : Blk w g 5 #[.int .u8 ((c.toNat : Nat) : Int)]) : Took w (.slice (some ⟨g, 0, none⟩) 1 1) [c] := by
 refine ⟨_, _, rfl, rfl, fun _ => ⟨⟨g, 0, none⟩, rfl, h.lt, fun j u hu => ?_⟩⟩
 rcases j with _ | j
 ·have ha : (⟨g, 0, none⟩ : Addr).add 0 = ⟨g, 0, none⟩ := by unfold Addr.add; simp
  rw [ha, h.cell]
  exact hu
 ·cases hu
end
end Go.Proofs.YtkljkbeahdipfaaGreatDoor
/-
  Rows of what takes k cells each.
-/
namespace Go.Proofs.YtkljkbeahdipfaaGreatDoor
open Go.RowKit
section
variable {M : Type} {f : M → List Value} {k : Nat}
theorem flatK_len (hf : ∀ x, (f x).length = k) : ∀ l : List M, (l.flatMap f).length = l.length * k
 | [] => by simp
 | x :: r => by rw [List.flatMap_cons, List.length_append, hf, flatK_len hf r, List.length_cons, Nat.succ_mul]; omega
theorem flatK_at (hf : ∀ x, (f x).length = k) : ∀ (l : List M) (i j : Nat) (x : M), l[i]? = some x → j < k → (l.flatMap f)[i * k + j]? = (f x)[j]?
 | y :: r, 0, j, x, h, hj => by
   have e : y = x := by simpa using h
   subst e
   rw [List.flatMap_cons, Nat.zero_mul, Nat.zero_add, List.getElem?_append_left (by rw [hf]; exact hj)]
 | y :: r, i + 1, j, x, h, hj => by
   have ih := flatK_at hf r i j x (by simpa using h) hj
   rw [List.flatMap_cons, List.getElem?_append_right (by rw [hf, Nat.succ_mul]; omega)]
   have e : (i + 1) * k + j - (f y).length = i * k + j := by rw [hf, Nat.succ_mul]; omega
   rw [e]; exact ih
theorem flatK_take (hf : ∀ x, (f x).length = k) (l : List M) (i : Nat) : (l.take i).flatMap f = (l.flatMap f).take (i * k) := by
 induction l generalizing i with
 | nil => simp
 | cons y r ih =>
   cases i with
   | zero => simp
   | succ i =>
     have h1 : (f y).take ((i + 1) * k) = f y := List.take_of_length_le (by rw [hf, Nat.succ_mul]; omega)
     have h2 : (i + 1) * k - (f y).length = i * k := by rw [hf, Nat.succ_mul]; omega
     rw [List.take_succ_cons, List.flatMap_cons, List.flatMap_cons, List.take_append, h1, h2, ih i]
theorem add_kj (ad : Addr) (i j : Nat) (hj : 0 < j) : ad.add (i + j) = ⟨(ad.add i).block, (ad.add i).off + j, none⟩ := by
 unfold Addr.add; by_cases h : i = 0 <;> simp [h] <;> omega
/-- an element's cells -/
theorem rowK_at {w : World} {B n i : Nat} {A : Option Addr} {l : List M} {x : M} (hf : ∀ x, (f x).length = k) (h : Reads w B k A n (l.flatMap f)) (hn : 0 < n) (hx : l[i]? = some x) :
 ∃ ad, A = some ad ∧ ad.block < B ∧ (∀ u, (f x)[0]? = some u → w.cell? (ad.add (i * k)) = some u) ∧ ∀ j u, 0 < j → (f x)[j]? = some u → w.cell? ⟨(ad.add (i * k)).block, (ad.add (i * k)).off + j, none⟩ = some u := by
 obtain ⟨ad, rfl, hb, hc⟩ := h.2 hn
 have hk : ∀ j u, (f x)[j]? = some u → j < k := fun j u hu => by
  have := (List.getElem?_eq_some_iff.1 hu).1
  rw [hf] at this; exact this
 refine ⟨ad, rfl, hb, fun u hu => ?_, fun j u hj hu => ?_⟩
 ·have := hc (i * k + 0) u (by rw [flatK_at hf l i 0 x hx (hk 0 u hu)]; exact hu)
  simpa using this
 ·have := hc (i * k + j) u (by rw [flatK_at hf l i j x hx (hk j u hu)]; exact hu)
  rwa [add_kj _ _ _ hj] at this
end
end Go.Proofs.YtkljkbeahdipfaaGreatDoor
/-
  Walks by facts on slots: a field of a variable is set; appends.
-/
namespace Go.Proofs.YtkljkbeahdipfaaGreatDoor
open Go Go.RowKit
theorem own_kind {w : World} {base n size g : Nat} {v : Value} {e : TypeId} {xs : List Value} (h : w.ownsRow base e size v n xs) (hg : v.ownBlock = some g) : ∃ cs, w.heap[g]? = some (.cells cs e (0, 0)) := by
 rcases h.2 with ⟨rfl, _⟩ | ⟨g', cap, cur, rfl, _, hc, _⟩
 ·cases hg
 ·have : g' = g := by simpa [Value.ownBlock] using hg
  subst this
  exact ⟨cur, hc⟩
theorem own_ne {w : World} {base n size i : Nat} {v : Value} {e t : TypeId} {xs : List Value} {cs : Array Value} (h : w.ownsRow base e size v n xs) (hi : Blk w i t cs) (ht : t ≠ e) : ∀ g, v.ownBlock = some g → g ≠ i := fun g hg he => by
 obtain ⟨cs', hc⟩ := own_kind h hg
 unfold Blk at hi
 rw [he, hi] at hc
 injection hc with hc
 injection hc with _ hc
 exact ht hc
theorem add0 (g k : Nat) : (⟨g, 0, none⟩ : Addr).add k = ⟨g, k, none⟩ := by
 unfold Addr.add
 by_cases h : k = 0 <;> simp [h]
theorem ownsRow_empty {w : World} {B g size : Nat} {T : TypeId} (K : Blk w g T #[]) (hb : B ≤ g) : w.ownsRow B T size (.slice (some ⟨g, 0, none⟩) 0 0) 0 [] :=
 ⟨by simp, .inr ⟨g, 0, #[], rfl, hb, K, Nat.le_refl _, by unfold maxLen; omega, by simp, by simp⟩⟩
theorem nil_eq {P : Program} {t e : TypeId} (ht : P.underlying t = some (.slice e)) (a : Option Addr) (l c : Nat) (w : World) : (binOp .eql t (.slice a l c) (.slice none 0 0)).run P w = .ok (.bool a.isNone) w := Lib.run_eql_slice_nil w t e a l c 0 0 ht
section
variable {P : Program} {Q : Exit → Act → World → Prop} {a : Act} {w w' : World} {n : Nat} {Γ : Env} {l rest : List Oper} {o : Oper} {t : Nat} {v : Value}
/-- a field of a variable is set -/
theorem wl_setf {g j : Nat} {T : TypeId} {z : List Value} (zs : List Value) (c : Value) (hA : At n Γ a) (hg : o.guard = none) (hd : o.dst = none) (hK : Blk w g T z.toArray) (hz : z.set j c = zs) (hrun : ∀ ev, EvIn Γ ev → (execOp ev o).run P w = .ok .skip (w.setCell ⟨g, j, none⟩ c))
 (hk : ∀ w1, Blk w1 g T zs.toArray → Only g w w1 → wpList P l.toArray Q rest a w1) : wpList P l.toArray Q (o :: rest) a w := by
 refine wl_skip hA hg hd hrun (hk _ ?_ Only.set)
 have := hK.set_ j c
 rw [List.setIfInBounds_toArray, hz] at this
 exact this
/-- an operation whose answer goes nowhere -/
theorem wl_val0 {v : Value} (hA : At n Γ a) (hg : o.guard = none) (hd : o.dst = none) (hrun : ∀ ev, EvIn Γ ev → (execOp ev o).run P w = .ok (.value v) w')
 (hk : wpList P l.toArray Q rest a w') : wpList P l.toArray Q (o :: rest) a w := by
 refine wpList_plain hg fun K hK => ?_
 unfold Oper.wp
 rw [hrun _ hA.evin, Oper.upon_value, hd]
 exact hK _ _ hk
end
end Go.Proofs.YtkljkbeahdipfaaGreatDoor
/-
  Rows of structs of one's own: a row that is one's own, the bytes of its parts elsewhere.
-/
namespace Go.Proofs.YtkljkbeahdipfaaGreatDoor
open Go.RowKit
/-- a kind of struct: its type, the type of its rows, its cells, its parts -/
structure Sh (M : Type) where
 T : TypeId
 S : TypeId
 k : Nat
 by_ : Nat
 z : Value
 f : M → List Value
 parts : M → List (Option Addr × List UInt8)
 len : ∀ x, (f x).length = k
 one : ∀ x, ∀ u ∈ f x, u.oneCell' = true
 und : Tryz.prog.underlying S = some (.slice T)
 info : (Tryz.prog.info? T).map (fun i => (i.zero, i.size, i.bytes)) = some (some z, k, by_)
 zk : z.cells.size = k
 pos : 0 < k
 small : by_ ≤ 1000
/-- bytes lie apart from a block -/
def OffP (g : Nat) (p : Option Addr × List UInt8) : Prop := 0 < p.2.length → ∀ ad, p.1 = some ad → ad.block ≠ g
abbrev ReadsP (w : World) (p : Option Addr × List UInt8) : Prop := Reads w w.heap.size 1 p.1 p.2.length (u8s p.2)
structure RowR {M : Type} (s : Sh M) (w : World) (A : Option Addr) (l : List M) : Prop where
 row : Reads w w.heap.size s.k A l.length (l.flatMap s.f)
 octs : ∀ m ∈ l, ∀ p ∈ s.parts m, ReadsP w p
structure OwnR {M : Type} (s : Sh M) (B : Nat) (w : World) (v : Value) (l : List M) : Prop where
 row : w.ownsRow B s.T s.k v l.length (l.flatMap s.f)
 octs : ∀ m ∈ l, ∀ p ∈ s.parts m, ReadsP w p
 off : ∀ g, v.ownBlock = some g → ∀ m ∈ l, ∀ p ∈ s.parts m, OffP g p
theorem ReadsP.below {w w' : World} {p : Option Addr × List UInt8} (h : ReadsP w p) (hb : Below w.heap.size w w') : ReadsP w' p := (Reads.below h hb).more hb.size
theorem readsP_apart {w w' : World} {g : Nat} {p : Option Addr × List UInt8} (h : ReadsP w p) (hg : OffP g p) (hb : ∀ k, k < w.heap.size → k ≠ g → w'.heap[k]? = w.heap[k]?) (hs : w.heap.size ≤ w'.heap.size) : ReadsP w' p := by
 refine ⟨h.1, fun hn => ?_⟩
 obtain ⟨ad, e, hlt, hc⟩ := h.2 hn
 refine ⟨ad, e, by omega, fun j u hu => ?_⟩
 have := hc j u hu
 rwa [← World.cell?_of_block (w' := w') (hb _ (by rw [block_of_add]; exact hlt) (by rw [block_of_add]; exact hg hn ad e))] at this
theorem readsP_off {w : World} {p : Option Addr × List UInt8} (h : ReadsP w p) {g : Nat} (hg : w.heap.size ≤ g) : OffP g p := fun hn ad ha => by
 obtain ⟨ad', e, hlt, _⟩ := h.2 hn
 rw [ha] at e
 injection e with e
 subst e
 omega
/-- no cell of bytes -/
def noB8 : Value → Bool
 | .int .u8 _ => false
 | _ => true
theorem readsP_blk {w : World} {p : Option Addr × List UInt8} {g : Nat} {T : TypeId} {cs : Array Value} (h : ReadsP w p) (K : Blk w g T cs) (hno : cs.toList.all noB8 = true) : OffP g p := fun hn ad ha he => by
 obtain ⟨ad', e, _, hc⟩ := h.2 hn
 rw [ha] at e
 injection e with e
 subst e
 have h0 : (u8s p.2)[0]? = some (.int .u8 (((p.2[0]'hn).toNat : Nat) : Int)) := by rw [u8s_get, List.getElem?_eq_getElem hn]; rfl
 have h1 := hc 0 _ h0
 have h2 : ad.add 0 = ad := by unfold Addr.add; simp
 rw [h2] at h1
 unfold World.cell? at h1
 unfold Blk at K
 rw [he, K] at h1
 simp only at h1
 split at h1
 ·cases h1
 ·have hm : Value.int .u8 (((p.2[0]'hn).toNat : Nat) : Int) ∈ cs.toList := by
   have := Array.mem_of_getElem? h1
   simpa using this
  have := List.all_eq_true.1 hno _ hm
  cases this
/-- bytes stay, as a block without bytes turns -/
theorem reads_only {w w' : World} {A : Option Addr} {n g : Nat} {l : List UInt8} {T : TypeId} {cs : Array Value} (h : Reads w w.heap.size 1 A n (u8s l)) (hs : Only g w w') (K : Blk w g T cs) (hno : cs.toList.all noB8 = true) : Reads w' w'.heap.size 1 A n (u8s l) := by
 have hl : l.length = n := by have := h.1; rw [u8s_length] at this; omega
 subst hl
 exact readsP_apart (p := (A, l)) h (readsP_blk (p := (A, l)) h K hno) (fun j _ hj => hs.block j hj) (by rw [hs.size]; exact Nat.le_refl _)
section
variable {M : Type} {s : Sh M} {B : Nat} {w w' : World} {v : Value} {l : List M}
theorem RowR.below {A : Option Addr} (h : RowR s w A l) (hb : Below w.heap.size w w') : RowR s w' A l := ⟨(h.row.below hb).more hb.size, fun m hm p hp => (h.octs m hm p hp).below hb⟩
theorem RowR.nil (A : Option Addr) : RowR s w A [] := ⟨⟨by simp, fun h => absurd h (by simp)⟩, fun _ h => (by cases h)⟩
theorem OwnR.below (h : OwnR s B w v l) (hb : Below w.heap.size w w') : OwnR s B w' v l := ⟨own_below h.row hb, fun m hm p hp => (h.octs m hm p hp).below hb, h.off⟩
theorem OwnR.mono {B' : Nat} (h : OwnR s B w v l) (hb : B' ≤ B) : OwnR s B' w v l := ⟨own_mono h.row hb, h.octs, h.off⟩
theorem OwnR.reads (h : OwnR s B w v l) : ∃ A c, v = .slice A l.length c ∧ RowR s w A l ∧ l.length ≤ c := by
 obtain ⟨A, c, e, hr, hc⟩ := own_reads h.row
 exact ⟨A, c, e, ⟨hr, h.octs⟩, hc⟩
theorem OwnR.nil (B : Nat) (w : World) : OwnR s B w (.slice none 0 0) [] := ⟨World.ownsRow_nil _ _ _ _, fun _ h => (by cases h), fun _ _ _ h => (by cases h)⟩
/-- an element's cells -/
theorem RowR.cell {A : Option Addr} {i : Nat} {x : M} (h : RowR s w A l) (hx : l[i]? = some x) : ∃ ad, A = some ad ∧ ad.block < w.heap.size ∧ (∀ u, (s.f x)[0]? = some u → w.cell? (ad.add (i * s.k)) = some u) ∧ ∀ j u, 0 < j → (s.f x)[j]? = some u → w.cell? ⟨(ad.add (i * s.k)).block, (ad.add (i * s.k)).off + j, none⟩ = some u :=
 rowK_at s.len h.row (by have := (List.getElem?_eq_some_iff.1 hx).1; omega) hx
theorem OwnR.at_ (h : OwnR s B w v l) (hl : 0 < l.length) : ∃ g c, v = .slice (some ⟨g, 0, none⟩) l.length c ∧ B ≤ g ∧ g < w.heap.size := by
 obtain ⟨g, cap, hv, hg, hlt⟩ := h.row.form hl
 exact ⟨g, cap, hv, hg, hlt⟩
theorem OwnR.only {k : Nat} (h : OwnR s B w v l) (hs : Only k w w') (hne : ∀ g, v.ownBlock = some g → g ≠ k) (hoff : ∀ m ∈ l, ∀ p ∈ s.parts m, OffP k p) : OwnR s B w' v l :=
 ⟨own_keep h.row fun g hg => hs.block g (hne g hg), fun m hm p hp => readsP_apart (h.octs m hm p hp) (hoff m hm p hp) (fun j _ hj => hs.block j hj) (by rw [hs.size]; exact Nat.le_refl _), h.off⟩
theorem OwnR.onlyK {k : Nat} {T : TypeId} {cs : Array Value} (h : OwnR s B w v l) (hs : Only k w w') (K : Blk w k T cs) (hT : T ≠ s.T) (hno : cs.toList.all noB8 = true) : OwnR s B w' v l :=
 h.only hs (own_ne h.row K hT) fun m hm p hp => readsP_blk (h.octs m hm p hp) K hno
theorem run_app0 {P : Program} {t ty e : TypeId} {i : TypeInfo} {base size n : Nat} {xs : List Value} (ht : P.underlying t = some (.slice e)) (hi : P.info? e = some i) (hown : w.ownsRow base e size v n xs) (c : Nat) :
 (Builtin.append_ #[t, t] ty #[v, .slice none 0 c]).run P w = .ok v w := by
 rcases hown.2 with ⟨rfl, rfl⟩ | ⟨g, cap, cur, rfl, _, _, hnc, _⟩
 ·simp [Builtin.append_, run_underlying ht, sizeOf, typeInfo, hi, Builtin.lenOf, Builtin.firstCells, Result.andThen]
 ·have := run_append_room_src (P := P) w t t ty e i ht hi g 0 n cap (.slice none 0 c) 0 [] (Src.ofNil w ht c) (by omega) (fun j hj => by simp at hj) (fun j hj => by simp at hj)
  rw [setCells_nil] at this
  exact this
theorem flat_one' (l : List M) : ∀ u ∈ l.flatMap s.f, u.oneCell' = true := by
 intro u hu
 obtain ⟨m, _, hm⟩ := List.mem_flatMap.1 hu
 exact s.one m u hm
/-- structs are appended -/
theorem run_appR {k : List M} {A : Option Addr} {c : Nat} (h : OwnR s B w v l) (hk : RowR s w A k) (hoff : ∀ g, v.ownBlock = some g → ∀ m ∈ k, ∀ p ∈ s.parts m, OffP g p) (hlen : l.length + k.length ≤ 100000000) (hB : B ≤ w.heap.size) :
 ∃ r w', (Builtin.append_ #[s.S, s.S] s.S #[v, .slice A k.length c]).run Tryz.prog w = .ok r w' ∧ OwnR s B w' r (l ++ k) ∧ w.grownBy w' v.ownBlock ∧ (r.ownBlock = v.ownBlock ∨ r.ownBlock = some w.heap.size) := by
 obtain ⟨i0, hi0, hz0, hz1, hz2⟩ := info_parts s.info
 have hmul : (l.length + k.length) * s.by_ ≤ 140737488355328 := Nat.le_trans (Nat.mul_le_mul hlen s.small) (by omega)
 have key : ∃ r w', (Builtin.append_ #[s.S, s.S] s.S #[v, .slice A k.length c]).run Tryz.prog w = .ok r w' ∧ w'.ownsRow B s.T s.k r (l.length + k.length) (l.flatMap s.f ++ k.flatMap s.f) ∧ w.grownBy w' v.ownBlock ∧ (r.ownBlock = v.ownBlock ∨ r.ownBlock = some w.heap.size) := by
  cases A with
  | some ad =>
    have hc : ∀ j u, (k.flatMap s.f)[j]? = some u → w.cell? (ad.add j) = some u := by
     rcases Nat.eq_zero_or_pos k.length with h0 | h0
     ·intro j u hj
      rw [List.length_eq_zero_iff.1 h0] at hj
      cases hj
     ·obtain ⟨ad', e, _, hc⟩ := hk.row.2 h0
      injection e with e; subst e; exact hc
    obtain ⟨v', w', hr, h2, h3, _, h5⟩ := run_append_own_at (P := Tryz.prog) w B s.S s.S s.T i0 s.z s.k s.by_ s.und hi0 hz0 hz1 hz2 s.zk s.pos v l.length _ h.row ad k.length c _ hk.row.1 hc (flat_one' k) (by unfold maxLen; omega) hmul hB
    exact ⟨v', w', hr, h2, h3, h5⟩
  | none =>
    have h0 : k.length = 0 := by
     rcases Nat.eq_zero_or_pos k.length with h0 | h0
     ·exact h0
     ·obtain ⟨ad, e, _⟩ := hk.row.2 h0; cases e
    have hk0 : k = [] := List.length_eq_zero_iff.1 h0
    subst hk0
    exact ⟨v, w, run_app0 s.und hi0 h.row c, by simpa using h.row, ⟨rfl, rfl, rfl, Nat.le_refl _, fun _ _ _ => rfl⟩, .inl rfl⟩
 obtain ⟨r, w', hr, h2, h3, h4⟩ := key
 have hoffB : ∀ {p : Option Addr × List UInt8}, ReadsP w p → (∀ g, v.ownBlock = some g → OffP g p) → ∀ g, r.ownBlock = some g → OffP g p := fun {p} hm ho g hg => by
  rcases h4 with e | e
  ·exact ho g (e ▸ hg)
  ·rw [e] at hg
   injection hg with hg
   subst hg
   exact readsP_off hm (Nat.le_refl _)
 have hkeep : ∀ {p : Option Addr × List UInt8}, ReadsP w p → (∀ g, v.ownBlock = some g → OffP g p) → ReadsP w' p := fun {p} hm ho => by
  cases hb : v.ownBlock with
  | none => exact (Reads.grown hm h3 (Nat.le_refl _) fun g hg => by rw [hb] at hg; cases hg).more h3.size
  | some g => exact readsP_apart hm (ho g hb) (fun j hj hne => h3.block j hj (fun e => by rw [hb] at e; exact hne (Option.some.inj e))) h3.size
 refine ⟨r, w', hr, ⟨?_, fun m hm p hp => ?_, fun g hg m hm p hp => ?_⟩, h3, h4⟩
 ·rw [List.length_append, List.flatMap_append]; exact h2
 ·rcases List.mem_append.1 hm with hm | hm
  ·exact hkeep (h.octs m hm p hp) fun g hg => h.off g hg m hm p hp
  ·exact hkeep (hk.octs m hm p hp) fun g hg => hoff g hg m hm p hp
 ·rcases List.mem_append.1 hm with hm | hm
  ·exact hoffB (h.octs m hm p hp) (fun g hg => h.off g hg m hm p hp) g hg
  ·exact hoffB (hk.octs m hm p hp) (fun g hg => hoff g hg m hm p hp) g hg
/-- one struct, in a block of its own, as a row -/
theorem rowR_blk {g : Nat} {x : M} (K : Blk w g s.T (s.f x).toArray) (hp : ∀ p ∈ s.parts x, ReadsP w p) : RowR s w (some ⟨g, 0, none⟩) [x] := by
 refine ⟨⟨by simp [s.len], fun _ => ⟨⟨g, 0, none⟩, rfl, K.lt, fun j u hu => ?_⟩⟩, fun m hm => ?_⟩
 ·rw [List.flatMap_cons, List.flatMap_nil, List.append_nil] at hu
  rw [add0]
  unfold World.cell?
  unfold Blk at K
  rw [K]
  simpa using hu
 ·rw [List.mem_singleton.1 hm]; exact hp
theorem below_appR {W : World} {B0 : Nat} (hb : Below B0 W w) (h : OwnR s B w v l) (hg : w.grownBy w' v.ownBlock) (h0 : B0 ≤ B) (hB : B0 ≤ w.heap.size) : Below B0 W w' :=
 hb.grown hg hB fun k hk => Nat.le_trans h0 (World.ownsRow.lt h.row k hk).1
end
end Go.Proofs.YtkljkbeahdipfaaGreatDoor
/-
  Worlds that differ in some blocks alone; rows of structs of one's own: an element set, cut, cleared.
-/
namespace Go.Proofs.YtkljkbeahdipfaaGreatDoor
open Go.RowKit
section
variable {w w' w'' : World} {B B' : Nat}
/-- two worlds differ in some blocks alone -/
structure Apart (S : Nat → Prop) (w w' : World) : Prop where
 os : w'.os = w.os
 tape : w'.tape = w.tape
 output : w'.output = w.output
 size : w.heap.size ≤ w'.heap.size
 block : ∀ i, i < w.heap.size → ¬ S i → w'.heap[i]? = w.heap[i]?
variable {S S' : Nat → Prop}
theorem Apart.refl (S : Nat → Prop) (w : World) : Apart S w w := ⟨rfl, rfl, rfl, Nat.le_refl _, fun _ _ _ => rfl⟩
theorem Apart.mono' (h : Apart S w w') (hs : ∀ i, S i → S' i) : Apart S' w w' := ⟨h.os, h.tape, h.output, h.size, fun i hi hn => h.block i hi fun h' => hn (hs i h')⟩
theorem Apart.below (h : Apart S w w') (k : Below w'.heap.size w' w'') : Apart S w w'' :=
 ⟨k.os.trans h.os, k.tape.trans h.tape, k.output.trans h.output, Nat.le_trans h.size k.size, fun i hi hn => (k.block i (Nat.lt_of_lt_of_le hi h.size)).trans (h.block i hi hn)⟩
theorem Apart.grown {row : Option Nat} (h : Apart S w w') (k : w'.grownBy w'' row) (hs : ∀ g, row = some g → w.heap.size ≤ g ∨ S g) : Apart S w w'' :=
 ⟨k.os.trans h.os, k.tape.trans h.tape, k.output.trans h.output, Nat.le_trans h.size k.size, fun i hi hn => (k.block i (Nat.lt_of_lt_of_le hi h.size) fun e => by
  rcases hs i e.symm with h1 | h1
  ·omega
  ·exact hn h1).trans (h.block i hi hn)⟩
theorem Apart.toBelow (h : Apart S w w') (hs : ∀ i, S i → B ≤ i) (hB : B ≤ w.heap.size) : Below B w w' :=
 ⟨h.os, h.tape, h.output, h.size, fun i hi => h.block i (by omega) fun hS => by have := hs i hS; omega⟩
theorem Apart.blk {g : Nat} {T : TypeId} {cs : Array Value} (h : Apart S w w') (K : Blk w g T cs) (hg : ¬ S g) : Blk w' g T cs := (h.block g K.lt hg).trans K
theorem grown_tr {row : Option Nat} (h : w.grownBy w' row) (k : w'.grownBy w'' row) : w.grownBy w'' row :=
 ⟨k.os.trans h.os, k.tape.trans h.tape, k.output.trans h.output, Nat.le_trans h.size k.size, fun i hi hn => (k.block i (Nat.lt_of_lt_of_le hi h.size) hn).trans (h.block i hi hn)⟩
theorem own_setCells {g n c size : Nat} {e : TypeId} {xs : List Value} : ∀ (vs : List Value) (o : Nat) (w : World), w.ownsRow B e size (.slice (some ⟨g, 0, none⟩) n c) n xs → n * size ≤ o → (w.setCells g o vs).ownsRow B e size (.slice (some ⟨g, 0, none⟩) n c) n xs ∧ w.grownBy (w.setCells g o vs) (some g)
 | [], _, w, h, _ => ⟨h, ⟨rfl, rfl, rfl, Nat.le_refl _, fun _ _ _ => rfl⟩⟩
 | u :: r, o, w, h, ho => by
   obtain ⟨h1, h2⟩ := h.stored o u
   rw [List.set_eq_of_length_le (by rw [h.1]; exact ho)] at h1
   obtain ⟨h3, h4⟩ := own_setCells r (o + 1) _ h1 (by omega)
   exact ⟨h3, grown_tr h2 h4⟩
theorem own_putCells {g n c N size : Nat} {e : TypeId} : ∀ (vs : List Value) (o : Nat) (w : World) (xs : List Value), w.ownsRow B e size (.slice (some ⟨g, 0, none⟩) n c) n xs → o + vs.length ≤ xs.length → (w.setCells g o vs).ownsRow B e size (.slice (some ⟨g, 0, none⟩) n c) n (xs.take o ++ vs ++ xs.drop (o + vs.length)) ∧ w.grownBy (w.setCells g o vs) (some g)
 | [], o, w, xs, h, _ => ⟨(show xs.take o ++ [] ++ xs.drop (o + ([] : List Value).length) = xs by simp).symm ▸ h, ⟨rfl, rfl, rfl, Nat.le_refl _, fun _ _ _ => rfl⟩⟩
 | u :: r, o, w, xs, h, ho => by
   rw [List.length_cons] at ho
   obtain ⟨h1, h2⟩ := h.stored o u
   obtain ⟨h3, h4⟩ := own_putCells (N := N) r (o + 1) _ _ h1 (by rw [List.length_set]; omega)
   refine ⟨?_, grown_tr h2 h4⟩
   have e1 : (xs.set o u).take (o + 1) = xs.take o ++ [u] := by
    rw [List.take_add_one, List.take_set_of_le (Nat.le_refl o), List.getElem?_set_self (by omega)]
    rfl
   have e2 : (xs.set o u).drop (o + 1 + r.length) = xs.drop (o + (u :: r).length) := by
    rw [List.drop_set_of_lt (by omega), List.length_cons]
    congr 1
    omega
   rw [e1, e2, List.append_assoc (xs.take o)] at h3
   exact h3
end
section
variable {M : Type} {s : Sh M} {B : Nat} {w w' : World} {l : List M} {g n c i : Nat}
theorem flatR_set {x y : M} (hy : l[i]? = some y) : (l.set i x).flatMap s.f = (l.flatMap s.f).take (i * s.k) ++ s.f x ++ (l.flatMap s.f).drop (i * s.k + s.k) := by
 have hi := (List.getElem?_eq_some_iff.1 hy).1
 have e0 : l = l.take i ++ y :: l.drop (i + 1) := by
  have h1 : l[i] = y := (List.getElem?_eq_some_iff.1 hy).2
  rw [← h1, ← List.drop_eq_getElem_cons hi, List.take_append_drop]
 have hlt : (l.take i).length = i := by rw [List.length_take]; omega
 have hf : ((l.take i).flatMap s.f).length = i * s.k := by rw [flatK_len s.len, hlt]
 rw [List.set_eq_take_append_cons_drop, if_pos hi, List.flatMap_append, List.flatMap_cons, flatK_take s.len, List.append_assoc]
 congr 1
 congr 1
 conv => rhs; rw [e0, List.flatMap_append, List.flatMap_cons]
 rw [← List.append_assoc, List.drop_left' (by rw [List.length_append, hf, s.len])]
theorem OwnR.len (h : OwnR s B w (.slice (some ⟨g, 0, none⟩) n c) l) : l.length = n := by
 obtain ⟨A, c', e, _⟩ := h.reads
 injection e with _ e _
 exact e.symm
/-- an element is set -/
theorem OwnR.put {x y : M} (h : OwnR s B w (.slice (some ⟨g, 0, none⟩) n c) l) (hy : l[i]? = some y) (ho : ∀ p ∈ s.parts x, ReadsP w p) (hoff : ∀ p ∈ s.parts x, OffP g p) :
 OwnR s B (w.setCells g (i * s.k) (s.f x)) (.slice (some ⟨g, 0, none⟩) n c) (l.set i x) ∧ w.grownBy (w.setCells g (i * s.k) (s.f x)) (some g) := by
 have hi := (List.getElem?_eq_some_iff.1 hy).1
 have hn := h.len
 have hr := h.row
 rw [hn] at hr
 have hle : i * s.k + s.k ≤ (l.flatMap s.f).length := by
  rw [flatK_len s.len, ← Nat.succ_mul]
  exact Nat.mul_le_mul_right _ hi
 obtain ⟨h1, h2⟩ := own_putCells (N := 0) (s.f x) (i * s.k) w _ hr (by rw [s.len]; exact hle)
 rw [s.len, ← flatR_set hy] at h1
 have keep : ∀ {p}, ReadsP w p → OffP g p → ReadsP (w.setCells g (i * s.k) (s.f x)) p := fun {p} hp hg => readsP_apart hp hg (fun j hj hne => h2.block j hj (fun e => hne (Option.some.inj e))) h2.size
 refine ⟨⟨by rw [List.length_set, hn]; exact h1, fun m hm p hp => ?_, fun g' hg' m hm p hp => ?_⟩, h2⟩
 ·rcases List.mem_or_eq_of_mem_set hm with hm | hm
  ·exact keep (h.octs m hm p hp) (h.off g rfl m hm p hp)
  ·subst hm; exact keep (ho p hp) (hoff p hp)
 ·rcases List.mem_or_eq_of_mem_set hm with hm | hm
  ·exact h.off g' hg' m hm p hp
  ·subst hm; rw [← Option.some.inj hg']; exact hoff p hp
/-- the elements ahead alone -/
theorem OwnR.cut (h : OwnR s B w (.slice (some ⟨g, 0, none⟩) n c) l) (hi : i ≤ n) : OwnR s B w (.slice (some ⟨g, 0, none⟩) i c) (l.take i) := by
 have hn := h.len
 have hm : ∀ {m}, m ∈ l.take i → m ∈ l := fun {m} hm => List.mem_of_mem_take hm
 have hl : (l.take i).length = i := by rw [List.length_take]; omega
 refine ⟨?_, fun m h' => h.octs m (hm h'), fun g' hg' m h' => h.off g' hg' m (hm h')⟩
 rw [hl]
 rcases h.row.2 with ⟨e, _⟩ | ⟨g', cap, cur, e, h1, h2, h3, h4, h5, h6⟩
 ·cases e
 ·injection e with e1 e2 e3
  injection e1 with e1
  injection e1 with e1 _
  subst e1 e3
  refine ⟨by rw [flatK_len s.len, hl], .inr ⟨g, c, cur, rfl, h1, h2, by omega, h4, h5, ?_⟩⟩
  rw [flatK_take s.len, ← h6, List.take_take, Nat.min_eq_left (Nat.mul_le_mul_right s.k (by omega))]
/-- the rest of a row is cleared -/
theorem run_clearR {d : Nat} (h : OwnR s B w (.slice (some ⟨g, 0, none⟩) n c) l) (hi : i < n) (hz1 : s.z.cells.toList.all (·.oneCell') = true) :
 ∃ w', (∀ ty, (Builtin.clear_ #[s.S] ty #[.slice (some ⟨g, i * s.k, none⟩) (n - i) d]).run Tryz.prog w = .ok (.tuple #[]) w') ∧ OwnR s B w' (.slice (some ⟨g, 0, none⟩) i c) (l.take i) ∧ w.grownBy w' (some g) := by
 obtain ⟨i0, hi0, hz0, _, _⟩ := info_parts s.info
 have hn := h.len
 have hr := h.row
 rw [hn] at hr
 have hz : ∀ k, ((Builtin.zeroCells s.z.cells k).toList).length = k * s.k := fun k => by simp [Builtin.zeroCells, s.zk]
 have h1z : ∀ k, ∀ u ∈ (Builtin.zeroCells s.z.cells k).toList, u.oneCell' = true := fun k u hu => by
  simp only [Builtin.zeroCells, Array.toList_map, List.mem_map] at hu
  obtain ⟨j, _, rfl⟩ := hu
  have hlt : j % s.z.cells.size < s.z.cells.size := Nat.mod_lt _ (by rw [s.zk]; exact s.pos)
  rw [getElem!_pos s.z.cells _ hlt]
  exact List.all_eq_true.1 hz1 _ (by simp)
 have hst := run_storeCells_cells (P := Tryz.prog) g (i * s.k) (Builtin.zeroCells s.z.cells (n - i)).toList 0 w (fun j hj => by
  rw [hz] at hj
  have hb : i * s.k + (n - i) * s.k = n * s.k := by rw [← Nat.add_mul, Nat.add_sub_cancel' (Nat.le_of_lt hi)]
  rw [Nat.add_zero, hr.cellAt _ (by omega), List.getElem?_eq_getElem (by rw [hr.1]; omega)]
  rfl) (fun j _ => hr.frozenAt _) (h1z _)
 rw [Nat.add_zero] at hst
 have hcut := h.cut (Nat.le_of_lt hi)
 have hl : (l.take i).length = i := by rw [List.length_take]; omega
 have hcr := hcut.row
 rw [hl] at hcr
 obtain ⟨q1, q2⟩ := own_setCells (Builtin.zeroCells s.z.cells (n - i)).toList (i * s.k) w hcr (Nat.le_refl _)
 refine ⟨_, ?_, ⟨by rw [hl]; exact q1, fun m hm p hp => ?_, hcut.off⟩, q2⟩
 ·intro ty
  obtain ⟨m, hm⟩ : ∃ m, n - i = m + 1 := ⟨n - i - 1, by omega⟩
  rw [hm] at hst ⊢
  simp [Builtin.clear_, run_underlying s.und, zeroValue, typeInfo, hi0, hz0, hst]
 ·exact readsP_apart (hcut.octs m hm p hp) (hcut.off g rfl m hm p hp) (fun k hk hne => q2.block k hk (fun e => hne (Option.some.inj e))) q2.size
end
end Go.Proofs.YtkljkbeahdipfaaGreatDoor
/-
  Plain laws on lists of bytes: what stands between signs.
-/
namespace Go.Proofs.YtkljkbeahdipfaaGreatDoor
/-- what stands between the signs c -/
def splitC (c : UInt8) : List UInt8 → List (List UInt8)
 | [] => [[]]
 | b :: l => if b = c then [] :: splitC c l else match splitC c l with
   | [] => [[b]]
   | p :: ps => (b :: p) :: ps
theorem count_nil (c : UInt8) : Lib.count [] [c] = 0 := by rw [Lib.count_one]; rfl
theorem splitK_one (c : UInt8) : ∀ l : List UInt8, Lib.splitK [c] 0 (Lib.count l [c]) l = splitC c l
 | [] => by rw [count_nil]; rfl
 | b :: l => by
   have ih := splitK_one c l
   unfold splitC
   by_cases hb : b = c
   ·subst hb
    rw [if_pos rfl, Lib.count_cons_eq, Nat.add_comm]
    have hi : Lib.index (b :: l) [b] = 0 := by unfold Lib.index; simp
    unfold Lib.splitK
    rw [hi]
    simp [ih]
   ·rw [if_neg hb, Lib.count_cons_ne _ _ _ hb]
    cases hk : Lib.count l [c] with
    | zero =>
      rw [hk] at ih
      rw [← ih]; rfl
    | succ k =>
      rw [hk] at ih
      have hne : ¬ Lib.index l [c] = -1 := fun h => by rw [Lib.count_miss h] at hk; cases hk
      have hge := Lib.index_ge l [c]
      obtain ⟨i, hi⟩ : ∃ i : Nat, Lib.index l [c] = i := ⟨(Lib.index l [c]).toNat, by omega⟩
      have hib : Lib.index (b :: l) [c] = ((i + 1 : Nat) : Int) := by
       unfold Lib.index
       rw [if_neg (by simp [Ne.symm hb]), hi, if_neg (by simp)]; rfl
      have hn1 : ¬ (((i : Nat) : Int) == -1) = true := by simp
      have hn2 : ¬ (((i + 1 : Nat) : Int) == -1) = true := by simp; omega
      rw [← ih]
      unfold Lib.splitK
      rw [hi, hib, if_neg hn1, if_neg hn2]
      simp only [Int.toNat_natCast, List.length_cons, List.length_nil, Nat.add_zero, Nat.zero_add]
      rfl
def splitsB (c : UInt8) (s : ByteArray) : List ByteArray := Lib.splitB ⟨#[c]⟩ 0 (Lib.countB s ⟨#[c]⟩) s
theorem splitsB_data (c : UInt8) (s : ByteArray) : (splitsB c s).map (·.data.toList) = splitC c s.data.toList := by
 unfold splitsB
 rw [Lib.splitB_data]
 exact splitK_one c _
theorem splitsB_length (c : UInt8) (s : ByteArray) : (splitsB c s).length = Lib.countB s ⟨#[c]⟩ + 1 := Lib.splitB_all ⟨#[c]⟩ (by simp [ByteArray.size]) 0 _ s rfl
theorem splitB_size (sep : ByteArray) (save : Nat) : ∀ (k : Nat) (s q : ByteArray), q ∈ Lib.splitB sep save k s → q.size ≤ s.size
 | 0, s, q, h => by simp [Lib.splitB] at h; subst h; exact Nat.le_refl _
 | k + 1, s, q, h => by
   unfold Lib.splitB at h
   split at h
   ·simp at h; subst h; exact Nat.le_refl _
   ·rcases List.mem_cons.1 h with rfl | h
    ·simp; omega
    ·have := splitB_size sep save k _ q h
     simp at this; omega
theorem splitsB_size (c : UInt8) (s q : ByteArray) (h : q ∈ splitsB c s) : q.size ≤ s.size := splitB_size _ _ _ s q h
theorem mem_splitC (c b : UInt8) : ∀ l : List UInt8, b ∈ l → b = c ∨ ∃ p ∈ splitC c l, b ∈ p
 | [], h => by simp at h
 | a :: l, h => by
   unfold splitC
   by_cases ha : a = c
   ·rw [if_pos ha]
    rcases List.mem_cons.1 h with rfl | h
    ·exact .inl ha
    ·rcases mem_splitC c b l h with h | ⟨p, hp, hb⟩
     ·exact .inl h
     ·exact .inr ⟨p, List.mem_cons_of_mem _ hp, hb⟩
   ·rw [if_neg ha]
    rcases List.mem_cons.1 h with rfl | h
    ·right
     cases splitC c l with
     | nil => exact ⟨[b], by simp, by simp⟩
     | cons p ps => exact ⟨b :: p, by simp, by simp⟩
    ·rcases mem_splitC c b l h with h | ⟨p, hp, hb⟩
     ·exact .inl h
     ·right
      cases hs : splitC c l with
      | nil => rw [hs] at hp; cases hp
      | cons q qs =>
        rw [hs] at hp
        rcases List.mem_cons.1 hp with rfl | hp
        ·exact ⟨a :: p, by simp, by simp [hb]⟩
        ·exact ⟨p, by simp [hp], hb⟩
theorem toList_take (s : ByteArray) (k : Nat) (h : k = s.size) : s.data.toList.take k = s.data.toList := List.take_of_length_le (by simp [h])
theorem all_snoc_get {α : Type} (l : List α) (p : α → Bool) (k : Nat) (q : α) (h : l[k]? = some q) (ha : (l.take k).all p = true) (hq : p q = true) : (l.take (k + 1)).all p = true := by
 rw [List.take_add_one, h]; simp [ha, hq]
end Go.Proofs.YtkljkbeahdipfaaGreatDoor
/-
  name.plain, name.Norm, walked.
-/
namespace Go.Proofs.YtkljkbeahdipfaaGreatDoor
open Go.RowKit
def plainI (c : Int) : Bool := decide (97 ≤ c ∧ c ≤ 122 ∨ 65 ≤ c ∧ c ≤ 90 ∨ 48 ≤ c ∧ c ≤ 57 ∨ c = 46 ∨ c = 95 ∨ c = 45)
set_option maxHeartbeats 400000 in
theorem plain_any (c : Int) (h0 : 0 ≤ c) (h1 : c ≤ 255) (w : World) :
 Calls Tryz.prog 189 #[.int .u8 c] w fun e w' => e = .returned (.bool (plainI c)) ∧ w = w' := by
 go_enter Tryz.func189, Tryz.ntmps189
 go_wp2
 all_goals go_ret
 all_goals exact ⟨ret_bool (by unfold plainI; rw [Bool.eq_iff_iff]; simp <;> omega), rfl⟩
def plainB (c : UInt8) : Bool := plainI (c.toNat : Int)
def okPartL (p : List UInt8) : Bool := !(p == []) && p.all plainB
/-- parts with a slash between -/
def nameOK (l : List UInt8) : Bool := (splitC 47 l).all okPartL
def okPart (p : ByteArray) : Bool := okPartL p.data.toList
def slash : ByteArray := ⟨#[47]⟩
def inboxS : ByteArray := ⟨#[73, 78, 66, 79, 88]⟩
/-- the name that a text is -/
def normV (s : ByteArray) : ByteArray × Bool :=
 if 60 < s.size then (⟨#[]⟩, false) else if nameOK s.data.toList then (if (Lib.toUpperA s.data.toList == [73, 78, 66, 79, 88]) = true then (inboxS, true) else (s, true)) else (⟨#[]⟩, false)
theorem parts_ok (s : ByteArray) : (splitsB 47 s).all okPart = nameOK s.data.toList := by
 unfold nameOK; rw [← splitsB_data, List.all_map]; rfl
theorem normV_bad (s q : ByteArray) (hs : s.size ≤ 60) (k : Nat) (h : (splitsB 47 s)[k]? = some q) (hq : okPart q = false) : normV s = (⟨#[]⟩, false) := by
 have hm : q ∈ splitsB 47 s := List.mem_of_getElem? h
 have : nameOK s.data.toList = false := by
  rw [← parts_ok, List.all_eq_false]; exact ⟨q, hm, by simp [hq]⟩
 unfold normV
 rw [if_neg (by omega), this]; rfl
theorem normV_good (s : ByteArray) (hs : s.size ≤ 60) (h : nameOK s.data.toList = true) : normV s = (if (Lib.toUpperA s.data.toList == [73, 78, 66, 79, 88]) = true then (inboxS, true) else (s, true)) := by
 unfold normV
 rw [if_neg (by omega), if_pos h]
theorem okPart_bad (q : ByteArray) (j : Nat) (h : j < q.size) (hp : plainI (q[j].toNat : Int) = false) : okPart q = false := by
 unfold okPart okPartL
 have : q.data.toList.all plainB = false := by
  rw [List.all_eq_false]
  exact ⟨q[j], by rw [show q[j] = q.data.toList[j]'(by simpa using h) from rfl]; exact List.getElem_mem _, by unfold plainB; simp [hp]⟩
 rw [this]; simp
theorem plain_low (c : UInt8) (h : plainB c = true) : c.toNat < 128 := by
 unfold plainB plainI at h; simp at h; omega
theorem nameOK_ascii (l : List UInt8) (h : nameOK l = true) : ∀ (j : Nat) (b : UInt8), l[j]? = some b → b.toNat < 128 := by
 intro j b hb
 rcases mem_splitC 47 b l (List.mem_of_getElem? hb) with rfl | ⟨p, hp, hbp⟩
 ·decide
 ·have h1 := List.all_eq_true.1 h p hp
  unfold okPartL at h1
  simp only [Bool.and_eq_true] at h1
  exact plain_low b (List.all_eq_true.1 h1.2 b hbp)
set_option maxHeartbeats 1000000 in
theorem norm_any (s : ByteArray) (m : Int) (w : World) (hs : s.size ≤ 60) (hm : w.cell? ⟨0, 0, none⟩ = some (.int .i64 m)) :
 Calls Tryz.prog 137 #[.string s] w fun e w' => e = .returned (.tuple #[.string (normV s).1, .bool (normV s).2]) ∧ Below w.heap.size w w' := by
 have hcl := Lib.countB_le slash (by decide) s.size s (Nat.le_refl _)
 go_enter Tryz.func137, Tryz.ntmps137
 go_wp2_with fail
 refine (Tryz.strings_Split s slash m w (by omega) hm (by decide)).mono ?_
 rintro e w1 ⟨rfl, hw1⟩
 have hb1 : Below w.heap.size w w1 := by rw [hw1]; exact (Below.refl _ _).alloc (Nat.le_refl _) _
 have hk1 : Hid (Blk w1 w.heap.size 9 ((splitsB 47 s).map Value.string).toArray) := by rw [hw1]; exact Blk.new _ _ _
 clear hw1 hm
 have hpl : (splitsB 47 s).length = Lib.countB s slash + 1 := splitsB_length 47 s
 have Hpl := Lib.hid hpl; clear hpl
 go_wp2_with fail
 generalize hn : Lib.countB s slash = n at *
 clear hn
 go_loop [13] (fun i => ∃ k : Nat, i = .int .i64 k ∧ k ≤ n + 1 ∧ Hid (((splitsB 47 s).take k).all okPart = true)) (fun i => n + 1 - (intOf i).toNat)
 case atStart => exact ⟨0, rfl, by omega, rfl⟩
 case round =>
  obtain ⟨k, rfl, hk, hall⟩ := hrel
  by_cases hlt : k < n + 1
  ·obtain ⟨q, hq⟩ : ∃ q, (splitsB 47 s)[k]? = some q := ⟨(splitsB 47 s)[k]'(by rw [Hpl.out]; exact hlt), List.getElem?_eq_getElem (by rw [Hpl.out]; exact hlt)⟩
   have hc := hk1.out.cell k
   rw [show (((splitsB 47 s).map Value.string).toArray)[k]? = some (.string q) from by simp [hq]] at hc
   have Hq := Lib.hid hq; clear hq
   have hqs : q.size ≤ 60 := by have := splitsB_size 47 s q (List.mem_of_getElem? Hq.out); omega
   rcases Bool.eq_false_or_eq_true q.toList.isEmpty with he | he
   ·have hv := normV_bad s q hs k Hq.out (by unfold okPart okPartL; rw [← ByteArray.toList_eq]; simp [List.isEmpty_iff.1 he])
    have Hv := Lib.hid hv; clear hv
    go_wp2
    go_ret2
    exact ⟨by rw [Hv.out]; rfl, hb1⟩
   ·go_wp2
    go_loop [21] (fun i => ∃ j : Nat, i = .int .i64 j ∧ j ≤ q.size ∧ Hid ((q.data.toList.take j).all plainB = true)) (fun i => q.size - (intOf i).toNat)
    case atStart => exact ⟨0, rfl, by omega, rfl⟩
    case round =>
     obtain ⟨j, rfl, hj, hpl⟩ := hrel
     by_cases hjl : j < q.size
     ·rcases Bool.eq_false_or_eq_true (plainI (q[j].toNat : Int)) with hp | hp
      ·go_wp2_with (go_at_call 189; refine (plain_any _ (by omega) (by have := q[j].toNat_lt; omega) _).mono ?_; rintro e w' ⟨rfl, rfl⟩; rw [hp])
       go_round
       case rel =>
        refine ⟨j + 1, by go_num, by omega, ?_⟩
        have h1 := hpl.out
        show (q.data.toList.take (j + 1)).all plainB = true
        rw [take_snoc q j hjl]; simp only [List.all_append, h1, Bool.true_and, List.all_cons, List.all_nil, Bool.and_true]; exact hp
       case measure => simp [intOf] <;> omega
      ·have hv := normV_bad s q hs k Hq.out (okPart_bad q j hjl hp)
       have Hv := Lib.hid hv; clear hv
       go_wp2_with (go_at_call 189; refine (plain_any _ (by omega) (by have := q[j].toNat_lt; omega) _).mono ?_; rintro e w' ⟨rfl, rfl⟩; rw [hp])
       go_ret2
       exact ⟨by rw [Hv.out]; rfl, hb1⟩
     ·obtain rfl : j = q.size := by omega
      go_wp2
      go_round
      case rel =>
       refine ⟨k + 1, by go_num, by omega, all_snoc_get _ _ _ _ Hq.out hall.out ?_⟩
       have h1 := hpl.out
       rw [toList_take q _ rfl] at h1
       unfold okPart okPartL
       rw [h1, ← ByteArray.toList_eq]
       cases hq : q.toList with
       | nil => rw [hq] at he; cases he
       | cons a b => rfl
      case measure => simp [intOf] <;> omega
  ·have hall' : nameOK s.data.toList = true := by
    have := hall.out
    rw [List.take_of_length_le (by rw [Hpl.out]; omega), parts_ok] at this
    exact this
   have hasc := nameOK_ascii _ hall'
   have hv := normV_good s hs hall'
   have Hv := Lib.hid hv; clear hv hall'
   have Ha := Lib.hid hasc; clear hasc
   rcases Bool.eq_false_or_eq_true (Lib.toUpperA s.data.toList == [73, 78, 66, 79, 88]) with he | he
   ·have Hw : Hid (normV s = (inboxS, true)) := by rw [Hv.out, if_pos he]; rfl
    clear Hv
    go_wp2_with fail
    refine (Tryz.strings_ToUpper_ascii s w1 (by omega) Ha.out).mono ?_
    rintro e w2 ⟨rfl, hb2⟩
    go_wp2
    go_ret2
    exact ⟨by rw [Hw.out]; rfl, hb1.trans (hb2.mono hb1.size)⟩
   ·have Hw : Hid (normV s = (s, true)) := by rw [Hv.out, if_neg (by rw [he]; decide)]; rfl
    clear Hv
    go_wp2_with fail
    refine (Tryz.strings_ToUpper_ascii s w1 (by omega) Ha.out).mono ?_
    rintro e w2 ⟨rfl, hb2⟩
    go_wp2
    go_ret2
    exact ⟨by rw [Hw.out]; rfl, hb1.trans (hb2.mono hb1.size)⟩
theorem norm_long (s : ByteArray) (w : World) (hs : 60 < s.size) (hl : s.size ≤ 9223372036854775807) :
 Calls Tryz.prog 137 #[.string s] w fun e w' => e = .returned (.tuple #[.string (normV s).1, .bool (normV s).2]) ∧ Below w.heap.size w w' := by
 have Hv : Hid (normV s = (⟨#[]⟩, false)) := by show normV s = _; unfold normV; rw [if_pos hs]
 go_enter Tryz.func137, Tryz.ntmps137
 go_wp2
 go_ret2
 exact ⟨by rw [Hv.out]; rfl, Below.refl _ _⟩
/-- name.Norm at every text -/
theorem norm_all (s : ByteArray) (m : Int) (w : World) (hl : s.size ≤ 9223372036854775807) (hm : w.cell? ⟨0, 0, none⟩ = some (.int .i64 m)) :
 Calls Tryz.prog 137 #[.string s] w fun e w' => e = .returned (.tuple #[.string (normV s).1, .bool (normV s).2]) ∧ Below w.heap.size w w' := by
 by_cases hs : s.size ≤ 60
 ·exact norm_any s m w hs hm
 ·exact norm_long s w (by omega) hl
end Go.Proofs.YtkljkbeahdipfaaGreatDoor
/-
  cubbyref06.small, Alike, Norm, walked.
-/
namespace Go.Proofs.YtkljkbeahdipfaaGreatDoor
open Go.RowKit
def smallI (c : Int) : Int := if 65 ≤ c ∧ c ≤ 90 then c + 32 else c
def smallB (c : UInt8) : Int := smallI (c.toNat : Int)
def alikeL (a b : List UInt8) : Bool := a.map smallB == b.map smallB
/-- the reference's scan: at a part's beginning, or inside one -/
def nameScan : Bool → List UInt8 → Bool
 | st, [] => !st
 | st, c :: l => if c = 47 then !st && nameScan true l else plainB c && nameScan false l
def refNormV (s : ByteArray) : ByteArray × Bool :=
 if nameScan true s.data.toList && decide (s.size ≤ 60) then (if alikeL s.data.toList [105, 110, 98, 111, 120] = true then (inboxS, true) else (s, true)) else (⟨#[]⟩, false)
theorem scan_slash (st : Bool) (c : UInt8) (l : List UInt8) (h : c = 47) : nameScan st (c :: l) = (!st && nameScan true l) := by rw [nameScan, if_pos h]
theorem scan_other (st : Bool) (c : UInt8) (l : List UInt8) (h : c ≠ 47) : nameScan st (c :: l) = (plainB c && nameScan false l) := by rw [nameScan, if_neg h]
end Go.Proofs.YtkljkbeahdipfaaGreatDoor
/-
  The program's names are the document's (plain values; lines of NameNorms).
-/
namespace Go.Proofs.YtkljkbeahdipfaaGreatDoor
theorem scan_ok : ∀ l : List UInt8, nameScan true l = nameOK l ∧ nameScan false l = (match splitC 47 l with | [] => true | p :: ps => p.all plainB && ps.all okPartL)
 | [] => by constructor <;> rfl
 | c :: l => by
   obtain ⟨ih1, ih2⟩ := scan_ok l
   unfold nameOK at ih1 ⊢
   by_cases h : c = 47
   ·subst h
    rw [scan_slash _ _ _ rfl, scan_slash _ _ _ rfl]
    have e : splitC 47 (47 :: l) = [] :: splitC 47 l := by rw [splitC]; simp
    rw [e]
    exact ⟨rfl, by simp [ih1]⟩
   ·rw [scan_other _ _ _ h, scan_other _ _ _ h, ih2]
    have e : splitC 47 (c :: l) = (match splitC 47 l with | [] => [[c]] | p :: ps => (c :: p) :: ps) := by rw [splitC, if_neg h]; try (cases splitC 47 l <;> rfl)
    rw [e]
    cases splitC 47 l with
    | nil => simp [okPartL]
    | cons p ps => simp [okPartL, Bool.and_assoc]
theorem byte_all (P : UInt8 → Bool) (h : (List.range 256).all (fun n => P (UInt8.ofNat n)) = true) (c : UInt8) : P c = true := by
 have := List.all_eq_true.1 h c.toNat (by simp; exact c.toNat_lt)
 simpa using this
theorem upper_small (c : UInt8) : (((Lib.upperB c == 73) == (smallB c == 105)) && ((Lib.upperB c == 78) == (smallB c == 110)) && ((Lib.upperB c == 66) == (smallB c == 98)) && ((Lib.upperB c == 79) == (smallB c == 111)) && ((Lib.upperB c == 88) == (smallB c == 120))) = true :=
 byte_all (fun c => ((Lib.upperB c == 73) == (smallB c == 105)) && ((Lib.upperB c == 78) == (smallB c == 110)) && ((Lib.upperB c == 66) == (smallB c == 98)) && ((Lib.upperB c == 79) == (smallB c == 111)) && ((Lib.upperB c == 88) == (smallB c == 120))) (by decide +kernel) c
theorem inbox_same (l : List UInt8) : (Lib.toUpperA l == [73, 78, 66, 79, 88]) = alikeL l [105, 110, 98, 111, 120] := by
 unfold Lib.toUpperA alikeL
 match l with
 | [] => rfl
 | [a] => simp
 | [a, b] => simp
 | [a, b, c] => simp
 | [a, b, c, d] => simp
 | a :: b :: c :: d :: e :: f :: l => simp
 | [a, b, c, d, e] =>
   have ha := upper_small a
   have hb := upper_small b
   have hc := upper_small c
   have hd := upper_small d
   have he := upper_small e
   simp only [Bool.and_eq_true, beq_iff_eq] at ha hb hc hd he
   have k1 : smallB 105 = 105 := by decide
   have k2 : smallB 110 = 110 := by decide
   have k3 : smallB 98 = 98 := by decide
   have k4 : smallB 111 = 111 := by decide
   have k5 : smallB 120 = 120 := by decide
   simp only [List.map_cons, List.map_nil, k1, k2, k3, k4, k5, List.cons_beq_cons]
   rw [ha.1.1.1.1, hb.1.1.1.2, hc.1.1.2, hd.1.2, he.2]
   rfl
theorem norm_same (s : ByteArray) : normV s = refNormV s := by
 unfold normV refNormV
 rw [(scan_ok _).1, inbox_same]
 by_cases h : 60 < s.size
 ·rw [if_pos h, show decide (s.size ≤ 60) = false from by simp; omega]; simp
 ·rw [if_neg h, show decide (s.size ≤ 60) = true from by simp; omega]; simp
theorem normV_size (s : ByteArray) : (normV s).1.size ≤ 60 := by
 unfold normV
 split
 ·decide
 ·split
  ·split
   ·decide
   ·simp; omega
  ·decide
end Go.Proofs.YtkljkbeahdipfaaGreatDoor
/-
  Walk: is a text a name, as it should be (the document's)?
-/
namespace Go.Proofs.YtkljkbeahdipfaaGreatDoor
open Go.RowKit
def nameIs (s : ByteArray) : Bool := (normV s).2 && ((normV s).1.toList == s.toList)
theorem nameIs_size {s : ByteArray} (h : nameIs s = true) : s.size ≤ 60 := by
 unfold nameIs at h
 simp only [Bool.and_eq_true, beq_iff_eq] at h
 have h2 := h.2
 rw [ByteArray.toList_eq, ByteArray.toList_eq] at h2
 have h3 := normV_size s
 have : (normV s).1.size = s.size := by
  have := congrArg List.length h2
  simpa using this
 omega
/-- the table's cell that the search reads -/
def MaxCell (w : World) : Prop := ∃ m, w.cell? ⟨0, 0, none⟩ = some (.int .i64 m)
theorem MaxCell.below {w w' : World} {B : Nat} (h : MaxCell w) (hg : 0 < B) (hb : Below B w w') : MaxCell w' := by
 obtain ⟨m, hm⟩ := h
 exact ⟨m, (hb.cell hg).trans hm⟩
end Go.Proofs.YtkljkbeahdipfaaGreatDoor
/-
  Messages and mailboxes: what they are in memory.
-/
namespace Go.Proofs.YtkljkbeahdipfaaGreatDoor
open Go.RowKit
set_option linter.unusedSimpArgs false
set_option linter.unusedVariables false
structure MsgV where
 uid : Nat
 date : Int
 flags : Int
 a : Option Addr
 c : Nat
 b : List UInt8
def msgC (m : MsgV) : List Value := [.int .u32 (m.uid : Nat), .int .i64 m.date, .int .i64 m.flags, .slice m.a m.b.length m.c]
theorem msgC_len (m : MsgV) : (msgC m).length = 4 := rfl
/-- messages whose octets read -/
structure Msgs (w : World) (A : Option Addr) (n : Nat) (l : List MsgV) : Prop where
 len : l.length = n
 row : Reads w w.heap.size 4 A n (l.flatMap msgC)
 octs : ∀ m ∈ l, Reads w w.heap.size 1 m.a m.b.length (u8s m.b)
 uids : ∀ m ∈ l, m.uid < 4294967296
 caps : ∀ m ∈ l, m.b.length ≤ m.c ∧ m.c ≤ 9223372036854775807
theorem Msgs.below {w w' : World} {A : Option Addr} {n : Nat} {l : List MsgV} (h : Msgs w A n l) (hb : Below w.heap.size w w') : Msgs w' A n l :=
 ⟨h.len, (h.row.below hb).more hb.size, fun m hm => ((h.octs m hm).below hb).more hb.size, h.uids, h.caps⟩
theorem Msgs.at_ {w : World} {A : Option Addr} {n i : Nat} {l : List MsgV} {m : MsgV} (h : Msgs w A n l) (hm : l[i]? = some m) : ∃ ad, A = some ad ∧ (ad.add (i * 4)).block < w.heap.size ∧
 w.cell? (ad.add (i * 4)) = some (.int .u32 (m.uid : Nat)) ∧ w.cell? ⟨(ad.add (i * 4)).block, (ad.add (i * 4)).off + 1, none⟩ = some (.int .i64 m.date) ∧ w.cell? ⟨(ad.add (i * 4)).block, (ad.add (i * 4)).off + 2, none⟩ = some (.int .i64 m.flags) ∧ w.cell? ⟨(ad.add (i * 4)).block, (ad.add (i * 4)).off + 3, none⟩ = some (.slice m.a m.b.length m.c) := by
 have hlt := (List.getElem?_eq_some_iff.1 hm).1
 have := h.len
 obtain ⟨ad, e, hb, h0, hj⟩ := rowK_at msgC_len h.row (by omega) hm
 exact ⟨ad, e, by rw [block_of_add]; exact hb, h0 _ rfl, hj 1 _ (by omega) rfl, hj 2 _ (by omega) rfl, hj 3 _ (by omega) rfl⟩
/-- a mailbox's cells -/
def boxC (nm : ByteArray) (e nx : Nat) (A : Option Addr) (n c : Nat) : Array Value := #[.string nm, .int .u32 (e : Nat), .int .u32 (nx : Nat), .slice A n c]
end Go.Proofs.YtkljkbeahdipfaaGreatDoor
/-
  Plain laws of days: the day that so many days since 1970 is, and back.
-/
namespace Go.Proofs.YtkljkbeahdipfaaGreatDoor
/-- days ahead of a year of an era that begins in March -/
def cS (y : Nat) : Nat := 365 * y + y / 4 - y / 100
def cF (o : Nat) : Nat := o - o / 1460 + o / 36524 - o / 146096
theorem cF_mono (a b : Nat) (h : a ≤ b) (hb : b ≤ 146095) : cF a ≤ cF b := by
 unfold cF
 have e1 : a / 146096 = 0 := Nat.div_eq_of_lt (by omega)
 have e2 : b / 146096 = 0 := Nat.div_eq_of_lt (by omega)
 have h2 : a / 36524 ≤ b / 36524 := Nat.div_le_div_right h
 have h3 : a - a / 1460 ≤ b - b / 1460 := by omega
 omega
theorem cS_table : ((List.range 400).all fun y => cF (cS y) / 365 == y && cF (cS (y + 1) - 1) / 365 == y && decide (cS y < cS (y + 1))) = true := by decide +kernel
theorem cS_find (o : Nat) : ∀ n, o < cS n → ∃ y, y < n ∧ cS y ≤ o ∧ o < cS (y + 1)
 | 0, h => by simp [cS] at h
 | n + 1, h => by
   by_cases hn : o < cS n
   ·obtain ⟨y, h1, h2, h3⟩ := cS_find o n hn
    exact ⟨y, by omega, h2, h3⟩
   ·exact ⟨n, by omega, by omega, h⟩
theorem cS_step (a : Nat) : cS a ≤ cS (a + 1) := by unfold cS; omega
theorem cS_mono (a b : Nat) (h : a ≤ b) : cS a ≤ cS b := by
 obtain ⟨k, rfl⟩ : ∃ k, b = a + k := ⟨b - a, by omega⟩
 clear h
 induction k with
 | zero => exact Nat.le_refl _
 | succ k ih => exact Nat.le_trans ih (cS_step _)
theorem yoe_of (o y : Nat) (hy : y < 400) (h1 : cS y ≤ o) (h2 : o < cS (y + 1)) : cF o / 365 = y := by
 have ht := List.all_eq_true.1 cS_table y (by simpa using hy)
 simp only [Bool.and_eq_true, beq_iff_eq, decide_eq_true_eq] at ht
 have hm : cS (y + 1) ≤ cS 400 := cS_mono _ _ (by omega)
 have h400 : cS 400 = 146096 := by decide
 have a1 := cF_mono (cS y) o h1 (by omega)
 have a2 := cF_mono o (cS (y + 1) - 1) (by omega) (by omega)
 omega
theorem yoe_spec (o : Nat) (h : o < 146097) : cF o / 365 ≤ 399 ∧ cS (cF o / 365) ≤ o ∧ (o < cS (cF o / 365 + 1) ∨ (cF o / 365 = 399 ∧ o = 146096)) := by
 by_cases h1 : o = 146096
 ·subst h1; decide
 ·have h400 : cS 400 = 146096 := by decide
  obtain ⟨y, hy, a1, a2⟩ := cS_find o 400 (by omega)
  rw [yoe_of o y hy a1 a2]
  exact ⟨by omega, a1, .inl a2⟩
def leapN (y : Int) : Bool := (y % 4 == 0) && ((y % 100 != 0) || (y % 400 == 0))
/-- the days of a month -/
def dimN (y m : Int) : Int := if m = 2 then (if leapN y then 29 else 28) else if m = 4 ∨ m = 6 ∨ m = 9 ∨ m = 11 then 30 else 31
theorem leap_table : ((List.range 400).all fun y => decide (cS (y + 1) ≤ cS y + 365) || leapN ((y : Int) + 1)) = true := by decide +kernel
/-- month and day of a day of such a year -/
theorem mp_table : ((List.range 366).all fun d => decide ((5 * d + 2) / 153 ≤ 11) && decide ((153 * ((5 * d + 2) / 153) + 2) / 5 ≤ d) &&
 decide (d + 1 - (153 * ((5 * d + 2) / 153) + 2) / 5 ≤ (if (5 * d + 2) / 153 = 11 then 29 else if (5 * d + 2) / 153 = 1 ∨ (5 * d + 2) / 153 = 3 ∨ (5 * d + 2) / 153 = 6 ∨ (5 * d + 2) / 153 = 8 then 30 else 31)) &&
 decide ((5 * d + 2) / 153 = 11 → d + 1 - (153 * ((5 * d + 2) / 153) + 2) / 5 = 29 → d = 365)) = true := by decide +kernel
/-- days since 1970 of a day -/
def sinceN (y m d : Int) : Int :=
 let y' := if m ≤ 2 then y - 1 else y
 let m' := if m ≤ 2 then m + 12 else m
 365 * y' + y' / 4 - y' / 100 + y' / 400 + (153 * (m' - 3) + 2) / 5 + d - 1 - 719468
def Valid (y m d : Int) : Prop := 1 ≤ m ∧ m ≤ 12 ∧ 1 ≤ d ∧ d ≤ dimN y m
theorem era_split (e q : Int) (h0 : 0 ≤ q) (h1 : q ≤ 399) : 365 * (q + e * 400) + (q + e * 400) / 4 - (q + e * 400) / 100 + (q + e * 400) / 400 = 146097 * e + (365 * q + q / 4 - q / 100) := by omega
/-- the steps of date.civil -/
def cEra (n : Int) : Int := (n + 719468) / 146097
def cOf (n : Int) : Int := n + 719468 - cEra n * 146097
def cYoe (n : Int) : Int := (cOf n - cOf n / 1460 + cOf n / 36524 - cOf n / 146096) / 365
def cDay (n : Int) : Int := cOf n - (365 * cYoe n + cYoe n / 4 - cYoe n / 100)
def cMp (n : Int) : Int := (5 * cDay n + 2) / 153
def civY (n : Int) : Int := if cMp n < 10 then cYoe n + cEra n * 400 else cYoe n + cEra n * 400 + 1
def civM (n : Int) : Int := if cMp n < 10 then cMp n + 3 else cMp n - 9
def civD (n : Int) : Int := cDay n - (153 * cMp n + 2) / 5 + 1
theorem cOf_nat (n : Int) : ∃ o : Nat, cOf n = o ∧ o < 146097 := by
 refine ⟨(cOf n).toNat, ?_, ?_⟩ <;> unfold cOf cEra <;> omega
theorem cYoe_nat (n : Int) (o : Nat) (ho : cOf n = o) (h : o < 146097) : cYoe n = ((cF o / 365 : Nat) : Int) := by
 unfold cYoe cF
 rw [ho]
 have h1 : o / 1460 ≤ o := Nat.div_le_self _ _
 have h2 : o / 146096 ≤ o - o / 1460 + o / 36524 := by omega
 omega
/-- what the steps come to: the year of the era and the day of that year -/
theorem day_spec (n : Int) : ∃ y d : Nat, cYoe n = y ∧ cDay n = d ∧ y ≤ 399 ∧ d ≤ 365 ∧ (d = 365 → leapN ((y : Int) + 1) = true) ∧ cOf n = (cS y : Int) + d := by
 obtain ⟨o, ho, hlt⟩ := cOf_nat n
 have hy := cYoe_nat n o ho hlt
 obtain ⟨h1, h2, h3⟩ := yoe_spec o hlt
 generalize cF o / 365 = y at *
 have hd : cDay n = ((o - cS y : Nat) : Int) := by
  unfold cDay
  rw [ho, hy]
  unfold cS at h2 ⊢
  omega
 refine ⟨y, o - cS y, hy, hd, h1, ?_, ?_, by rw [ho]; omega⟩
 ·rcases h3 with h3 | ⟨rfl, rfl⟩
  ·unfold cS at *; omega
  ·decide
 ·intro h365
  rcases h3 with h3 | ⟨rfl, rfl⟩
  ·have ht := List.all_eq_true.1 leap_table y (by simp; omega)
   rw [Bool.or_eq_true, decide_eq_true_eq] at ht
   rcases ht with ht | ht
   ·omega
   ·exact ht
  ·decide
theorem cDay_bd (n : Int) : 0 ≤ cDay n ∧ cDay n ≤ 365 := by
 obtain ⟨y, d, _, hd, _, h, _⟩ := day_spec n
 omega
theorem cMp_bd (n : Int) : 0 ≤ cMp n ∧ cMp n ≤ 11 := by
 have := cDay_bd n
 unfold cMp; omega
theorem leap_era (y e : Int) : leapN (y + e * 400) = leapN y := by
 unfold leapN
 have h1 : (y + e * 400) % 4 = y % 4 := by omega
 have h2 : (y + e * 400) % 100 = y % 100 := by omega
 have h3 : (y + e * 400) % 400 = y % 400 := by omega
 rw [h1, h2, h3]
theorem civ_valid (n : Int) : Valid (civY n) (civM n) (civD n) := by
 obtain ⟨y, d, hy, hd, hy1, hd1, hl, _⟩ := day_spec n
 have ht := List.all_eq_true.1 mp_table d (by simp; omega)
 simp only [Bool.and_eq_true, decide_eq_true_eq] at ht
 obtain ⟨⟨⟨t1, t2⟩, t3⟩, t4⟩ := ht
 have hm : cMp n = (((5 * d + 2) / 153 : Nat) : Int) := by unfold cMp; rw [hd]; omega
 have hD : civD n = ((d + 1 - (153 * ((5 * d + 2) / 153) + 2) / 5 : Nat) : Int) := by unfold civD; rw [hd, hm]; omega
 have hle := leap_era ((y : Int) + 1) (cEra n)
 generalize (5 * d + 2) / 153 = m at *
 generalize hq : d + 1 - (153 * m + 2) / 5 = q at *
 unfold Valid civY civM
 rw [hm, hD, hy]
 have hq1 : 1 ≤ q := by omega
 unfold dimN
 by_cases c1 : (m : Int) < 10
 ·rw [if_pos c1, if_pos c1, if_neg (by omega)]
  refine ⟨by omega, by omega, by omega, ?_⟩
  rw [if_neg (by omega)] at t3
  split at t3 <;> split <;> omega
 ·rw [if_neg c1, if_neg c1]
  refine ⟨by omega, by omega, by omega, ?_⟩
  by_cases c2 : m = 11
  ·subst c2
   rw [if_pos rfl] at t3
   rw [if_pos (by omega)]
   by_cases c3 : q = 29
   ·have := hl (t4 rfl c3)
    rw [show (y : Int) + cEra n * 400 + 1 = (y : Int) + 1 + cEra n * 400 from by omega, hle, this]
    simp; omega
   ·split <;> omega
  ·rw [if_neg c2] at t3
   rw [if_neg (by omega)]
   split at t3 <;> split <;> omega
theorem since_civ (n : Int) : sinceN (civY n) (civM n) (civD n) = n := by
 obtain ⟨y, d, hy, hd, hy1, hd1, _, ho⟩ := day_spec n
 have hb := cMp_bd n
 have he := era_split (cEra n) (y : Int) (by omega) (by omega)
 have hS : (cS y : Int) = 365 * (y : Int) + (y : Int) / 4 - (y : Int) / 100 := by unfold cS; omega
 unfold cOf at ho
 unfold sinceN civY civM civD
 rw [hd, hy]
 generalize cMp n = m at *
 generalize cEra n = e at *
 by_cases c1 : m < 10
 ·simp only [c1, if_true]
  rw [if_neg (by omega), if_neg (by omega), show m + 3 - 3 = m from by omega]
  omega
 ·simp only [c1, if_false]
  rw [if_pos (by omega), if_pos (by omega), show m - 9 + 12 - 3 = m from by omega, show (y : Int) + e * 400 + 1 - 1 = (y : Int) + e * 400 from by omega]
  omega
end Go.Proofs.YtkljkbeahdipfaaGreatDoor
/-
  Walk: a time's text is none just if the time may not be.
-/
namespace Go.Proofs.YtkljkbeahdipfaaGreatDoor
open Go.RowKit
set_option linter.unusedSimpArgs false
set_option linter.unusedVariables false
theorem ret_tup3 {y y' m m' d d' : Int} (h1 : y = y') (h2 : m = m') (h3 : d = d') : Ending.returned (.tuple #[.int .i64 y, .int .i64 m, .int .i64 d]) = .returned (.tuple #[.int .i64 y', .int .i64 m', .int .i64 d']) := by rw [h1, h2, h3]
set_option maxHeartbeats 1000000 in
theorem civil_any (n : Int) (h0 : -719468 ≤ n) (h1 : n ≤ 4000000) (w : World) :
 Calls Tryz.prog 236 #[.int .i64 n] w fun e w' => e = .returned (.tuple #[.int .i64 (civY n), .int .i64 (civM n), .int .i64 (civD n)]) ∧ w' = w := by
 go_enter Tryz.func236, Tryz.ntmps236
 go_upto_region 3 with (fail)
 have bE : 0 ≤ (n + 719468) / 146097 ∧ (n + 719468) / 146097 ≤ 40 := by omega
 have bO : 0 ≤ n + 719468 - (n + 719468) / 146097 * 146097 ∧ n + 719468 - (n + 719468) / 146097 * 146097 < 146097 := by omega
 have eE : Hid (cEra n = (n + 719468) / 146097) := rfl
 have eO : Hid (cOf n = n + 719468 - (n + 719468) / 146097 * 146097) := rfl
 generalize (n + 719468) / 146097 = E at *
 go_upto_region 4 with (fail)
 generalize n + 719468 - E * 146097 = O at *
 have bY : 0 ≤ (O - O / 1460 + O / 36524 - O / 146096) / 365 ∧ (O - O / 1460 + O / 36524 - O / 146096) / 365 ≤ 400 := by omega
 have eY : Hid (cYoe n = (O - O / 1460 + O / 36524 - O / 146096) / 365) := by show _ = _; unfold cYoe; rw [eO.out]
 go_upto_region 5 with (fail)
 generalize (O - O / 1460 + O / 36524 - O / 146096) / 365 = Y at *
 have eD : Hid (cDay n = O - (365 * Y + Y / 4 - Y / 100)) := by show _ = _; unfold cDay; rw [eO.out, eY.out]
 have bD : 0 ≤ O - (365 * Y + Y / 4 - Y / 100) ∧ O - (365 * Y + Y / 4 - Y / 100) ≤ 365 := by have := cDay_bd n; rw [eD.out] at this; exact this
 go_upto_region 6 with (fail)
 generalize O - (365 * Y + Y / 4 - Y / 100) = D at *
 have bM : 0 ≤ (5 * D + 2) / 153 ∧ (5 * D + 2) / 153 ≤ 11 := by omega
 have eM : Hid (cMp n = (5 * D + 2) / 153) := by show _ = _; unfold cMp; rw [eD.out]
 go_upto_region 7 with (fail)
 generalize (5 * D + 2) / 153 = M at *
 have hY : Hid (civY n = if M < 10 then Y + E * 400 else Y + E * 400 + 1) := by show _ = _; unfold civY; rw [eM.out, eY.out, eE.out]
 have hM : Hid (civM n = if M < 10 then M + 3 else M - 9) := by show _ = _; unfold civM; rw [eM.out]
 have hD : Hid (civD n = D - (153 * M + 2) / 5 + 1) := by show _ = _; unfold civD; rw [eM.out, eD.out]
 by_cases hlt : M < 10
 ·go_wp2
  go_ret3
  exact ⟨ret_tup3 (by rw [hY.out, if_pos hlt]) (by rw [hM.out, if_pos hlt]) (by rw [hD.out]), rfl⟩
 ·go_wp2
  go_ret3
  exact ⟨ret_tup3 (by rw [hY.out, if_neg (by omega)]) (by rw [hM.out, if_neg (by omega)]) (by rw [hD.out]), rfl⟩
def digL (v : Nat) : Nat → List UInt8
 | 0 => []
 | n + 1 => UInt8.ofNat (48 + v / 10 ^ n % 10) :: digL v n
theorem digL_length (v : Nat) : ∀ n, (digL v n).length = n
 | 0 => rfl
 | n + 1 => by simp [digL, digL_length v n]
theorem dec_three (v : Nat) (h : v ≤ 99) : Lib.itoa ((100 : Int) + v) = 49 :: digL v 2 := by
 have e : ((100 : Int) + v) = ((100 + v : Nat) : Int) := by omega
 rw [e]
 unfold Lib.itoa
 rw [if_neg (by omega), Int.toNat_natCast]
 unfold Lib.decDigits
 rw [dif_neg (by omega)]
 unfold Lib.decDigits
 rw [dif_neg (by omega)]
 unfold Lib.decDigits
 rw [dif_pos (by omega), show (100 + v) / 10 / 10 = 1 from by omega, show (100 + v) / 10 % 10 = v / 10 % 10 from by omega, show (100 + v) % 10 = v % 10 from by omega]
 simp [digL]
theorem dec_five (v : Nat) (h : v ≤ 9999) : Lib.itoa ((10000 : Int) + v) = 49 :: digL v 4 := by
 have e : ((10000 : Int) + v) = ((10000 + v : Nat) : Int) := by omega
 rw [e]
 unfold Lib.itoa
 rw [if_neg (by omega), Int.toNat_natCast]
 unfold Lib.decDigits
 rw [dif_neg (by omega)]
 unfold Lib.decDigits
 rw [dif_neg (by omega)]
 unfold Lib.decDigits
 rw [dif_neg (by omega)]
 unfold Lib.decDigits
 rw [dif_neg (by omega)]
 unfold Lib.decDigits
 rw [dif_pos (by omega), show (10000 + v) / 10 / 10 / 10 / 10 = 1 from by omega, show (10000 + v) / 10 / 10 / 10 % 10 = v / 1000 % 10 from by omega, show (10000 + v) / 10 / 10 % 10 = v / 100 % 10 from by omega, show (10000 + v) / 10 % 10 = v / 10 % 10 from by omega, show (10000 + v) % 10 = v % 10 from by omega]
 simp [digL]
theorem below_grow (w : World) (k : Nat) (os : Array Obj) : Below w.heap.size w (Sort.grow (w.drewN k) os) :=
 ⟨rfl, rfl, rfl, by simp [Sort.grow], fun i hi => by simp [Sort.grow, Array.getElem?_append, hi]⟩
/-- FormatInt(100 + n, 10) and FormatInt(10000 + n, 10) -/
theorem fmt_three (v : Nat) (hv : v ≤ 99) (w : World) (htab : Lib.TabIs Tryz.prog w "internal/strconv.uint64pow10" .u64 Lib.pow10Tab) :
 Calls Tryz.prog 239 #[.int .i64 (100 + (v : Int)), .int .i64 10] w fun e w' => e = .returned (.string ⟨(49 :: digL v 2).toArray⟩) ∧ Below w.heap.size w w' := by
 have hc := Tryz.strconv_FormatInt_10 (100 + (v : Int)) (by omega) (by omega) w htab
 rw [dec_three v hv] at hc
 exact hc.mono fun e w' ⟨he, k, os, hw⟩ => ⟨he, by rw [hw]; exact below_grow w k os⟩
theorem fmt_five (v : Nat) (hv : v ≤ 9999) (w : World) (htab : Lib.TabIs Tryz.prog w "internal/strconv.uint64pow10" .u64 Lib.pow10Tab) :
 Calls Tryz.prog 239 #[.int .i64 (10000 + (v : Int)), .int .i64 10] w fun e w' => e = .returned (.string ⟨(49 :: digL v 4).toArray⟩) ∧ Below w.heap.size w w' := by
 have hc := Tryz.strconv_FormatInt_10 (10000 + (v : Int)) (by omega) (by omega) w htab
 rw [dec_five v hv] at hc
 exact hc.mono fun e w' ⟨he, k, os, hw⟩ => ⟨he, by rw [hw]; exact below_grow w k os⟩
theorem dimN_bd (y m : Int) : 28 ≤ dimN y m ∧ dimN y m ≤ 31 := by
 unfold dimN
 split
 ·split <;> omega
 ·split <;> omega
theorem civ_bd (n : Int) (h0 : 0 ≤ n) (h1 : n ≤ 2932896) : 1970 ≤ civY n ∧ civY n ≤ 9999 ∧ 1 ≤ civM n ∧ civM n ≤ 12 ∧ 1 ≤ civD n ∧ civD n ≤ 31 := by
 have hs := since_civ n
 have hv := civ_valid n
 obtain ⟨v1, v2, v3, v4⟩ := hv
 have hd := (dimN_bd (civY n) (civM n)).2
 generalize civY n = y at *
 generalize civM n = m at *
 generalize civD n = d at *
 unfold sinceN at hs
 dsimp only at hs
 have a0 : 1969 ≤ y := by split at hs <;> omega
 have a1 : 1970 ≤ y := by
  by_cases e : y = 1969
  ·subst e; split at hs <;> omega
  ·omega
 have a2 : y ≤ 10000 := by split at hs <;> omega
 have a3 : y ≤ 9999 := by
  by_cases e : y = 10000
  ·subst e; split at hs <;> omega
  ·omega
 omega
theorem asize (s : ByteArray) (l : List UInt8) : (s ++ ⟨l.toArray⟩).size = s.size + l.length := by
 rw [ByteArray.size_append]
 show s.size + l.toArray.size = _
 rw [List.size_toArray]
theorem app_ne (s : ByteArray) (c : UInt8) (l : List UInt8) : (s ++ ⟨(c :: l).toArray⟩).toList.isEmpty = false := by
 rw [ByteArray.toList_eq, ByteArray.data_append]
 simp
theorem five_int (y : Int) (h0 : 0 ≤ y) (h1 : y ≤ 9999) (w : World) (htab : Lib.TabIs Tryz.prog w "internal/strconv.uint64pow10" .u64 Lib.pow10Tab) :
 Calls Tryz.prog 239 #[.int .i64 (10000 + y), .int .i64 10] w fun e w' => e = .returned (.string ⟨(49 :: digL y.toNat 4).toArray⟩) ∧ Below w.heap.size w w' := by
 obtain ⟨n, rfl⟩ : ∃ n : Nat, y = n := ⟨y.toNat, by omega⟩
 exact fmt_five n (by omega) w htab
theorem month_some (m : Int) (h1 : 1 ≤ m) (h2 : m ≤ 12) (w : World) :
 Calls Tryz.prog 238 #[.int .i64 m] w fun e w' => ∃ s : ByteArray, e = .returned (.string s) ∧ s.size ≤ 36 ∧ Below w.heap.size w w' := by
 have q1 : IntKind.i64.wrap (m - 1) = m - 1 := IntWalk.i64_in _ (by omega)
 have q2 : IntKind.i64.wrap (3 * (m - 1)) = 3 * (m - 1) := IntWalk.i64_in _ (by omega)
 have q3 : IntKind.i64.wrap (3 * m) = 3 * m := IntWalk.i64_in _ (by omega)
 refine calls_at 9 Tryz.func238 rfl rfl (Nat.le_of_ble_eq_true rfl) ?_
 intro a hA; replace hA := hA.norm
 refine wS (wR ?_)
 revert a; refine wo rfl rfl (by decide) (fun ev e h => by simp [go_sem, h, q1, q2, q3] <;> rfl) ?_; intro a hA
 replace hA := hA.keepN [0]
 refine wN (nT (wS (wR ?_)))
 revert a; (iterate 5 refine wo rfl rfl (by decide) (fun ev e h => by simp [go_sem, h, q1, q2, q3] <;> rfl) ?_); intro a hA
 refine wl_op hA rfl rfl (by decide) (fun ev h => by simp [go_sem, h.c, h.get 5 rfl, h.get 7 rfl, q1, q2, q3]; (rw [if_pos (by omega), if_pos (by omega)]; try first | exact ⟨rfl, rfl⟩ | rfl)) fun a hA => ?_
 revert a; refine wo rfl rfl (by decide) (fun ev e h => by simp [go_sem, h, q1, q2, q3] <;> rfl) ?_; intro a hA
 replace hA := hA.keepN [2]
 refine wN (nT (wp_ret ?_))
 refine ret_1 hA 2 rfl rfl ?_
 refine ⟨_, rfl, ?_, Below.refl _ _⟩
 rw [ByteArray.size_extract]
 exact Nat.le_trans (Nat.sub_le _ _) (Nat.min_le_right _ _)
theorem two_some (v : Int) (h0 : 0 ≤ v) (h1 : v ≤ 99) (w : World) (htab : Lib.TabIs Tryz.prog w "internal/strconv.uint64pow10" .u64 Lib.pow10Tab) :
 Calls Tryz.prog 237 #[.int .i64 v] w fun e w' => ∃ s : ByteArray, e = .returned (.string s) ∧ 1 ≤ s.size ∧ s.size ≤ 10 ∧ Below w.heap.size w w' := by
 obtain ⟨n, rfl⟩ : ∃ n : Nat, v = n := ⟨v.toNat, by omega⟩
 have q1 : IntKind.i64.wrap (100 + (n : Int)) = 100 + (n : Int) := IntWalk.i64_in _ (by omega)
 refine calls_at 7 Tryz.func237 rfl rfl (Nat.le_of_ble_eq_true rfl) ?_
 intro a hA; replace hA := hA.norm
 refine wS (wR ?_)
 revert a; refine wo rfl rfl (by decide) (fun ev e h => by simp [go_sem, h, q1] <;> rfl) ?_; intro a hA
 replace hA := hA.keepN [0]
 refine wN (nT (wS (wR ?_)))
 revert a; (iterate 2 refine wo rfl rfl (by decide) (fun ev e h => by simp [go_sem, h, q1] <;> rfl) ?_); intro a hA
 refine wl_call hA rfl rfl (by decide) (fun ev h => exec_call Tryz.func239 (by kernel_rfl) rfl (h.f _) (by first | (simp only [mL, h.get 4 rfl, h.c] <;> rfl) | (simp [mL, h.get 4 rfl, h.c, q1] <;> rfl))) (fmt_three n (by omega) w htab) ?_
 rintro e w1 ⟨rfl, hb⟩
 refine ⟨_, rfl, fun a hA => ?_⟩
 revert a; (iterate 2 refine wo rfl rfl (by decide) (fun ev e h => by simp [go_sem, h, q1] <;> rfl) ?_); intro a hA
 replace hA := hA.keepN [2]
 refine wN (nT (wp_ret ?_))
 refine ret_1 hA 2 rfl rfl ?_
 have h3 : (⟨(49 :: digL n 2).toArray⟩ : ByteArray).size = 3 := by show (49 :: digL n 2).toArray.size = 3; simp [digL_length]
 exact ⟨_, rfl, by simp [digL_length, h3], by simp [digL_length, h3], hb⟩
/-- may a time be? -/
def dateOk (t : Int) : Bool := decide (0 ≤ t) && decide (t ≤ 253402300799)
set_option maxRecDepth 100000 in
set_option maxHeartbeats 1000000 in
theorem print_some (t : Int) (w : World) (htab : Lib.TabIs Tryz.prog w "internal/strconv.uint64pow10" .u64 Lib.pow10Tab) :
 Calls Tryz.prog 191 #[.int .i64 t] w fun e w' => ∃ s : ByteArray, e = .returned (.string s) ∧ s.toList.isEmpty = !dateOk t ∧ Below w.heap.size w w' := by
 have Ht := Lib.tabBelow_of_tabIs htab
 refine calls_at 58 Tryz.func191 rfl rfl (Nat.le_of_ble_eq_true rfl) ?_
 intro a hA; replace hA := hA.norm
 refine wS (wR ?_)
 revert a; refine wo rfl rfl (by decide) (fun ev e h => by simp [go_sem, h] <;> rfl) ?_; intro a hA
 replace hA := hA.keepN [0]
 refine wN (nT (wS (wS (wR ?_))))
 revert a; (iterate 3 refine wo rfl rfl (by decide) (fun ev e h => by simp [go_sem, h] <;> rfl) ?_); (iterate 2 refine wg _ rfl rfl rfl rfl (by decide) (fun hq ev e h => by simp [go_sem, h, ↓gw_t (beq_t hq)] <;> rfl) ?_); refine wko rfl rfl (by decide) rfl rfl rfl ?_; intro a hA
 replace hA := hA.keepN [0, 13]
 refine wN (nT ?_)
 refine wp_if hA 13 _ rfl (fun hq => ?yA) (fun hq => ?nA)
 case yA =>
  refine wS (wR ?_)
  revert a; refine wo rfl rfl (by decide) (fun ev e h => by simp [go_sem, h] <;> rfl) ?_; intro a hA
  replace hA := hA.keepN [2]
  refine wN (nT (wp_ret (rT ?_)))
  refine ret_1 hA 2 rfl rfl ?_
  refine ⟨_, rfl, ?_, Below.refl _ _⟩
  unfold dateOk
  simp at hq
  rw [Bool.eq_iff_iff]
  simp
  omega
 case nA =>
  obtain ⟨h0, h1⟩ : 0 ≤ t ∧ t ≤ 253402300799 := by simp at hq; omega
  have q1 : IntKind.i64.wrap (t.tdiv 86400) = t / 86400 := IntWalk.i64_quo _ _ (by omega)
  have q2 : t.tmod 86400 = t % 86400 := Int.tmod_eq_emod_of_nonneg h0
  obtain ⟨y0, y1, m0, m1, d0, d1⟩ := civ_bd (t / 86400) (by omega) (by omega)
  refine wp_skip (nT (wS (wR ?_)))
  revert a; (iterate 2 refine wo rfl rfl (by decide) (fun ev e h => by simp [go_sem, h, q1, q2] <;> rfl) ?_); intro a hA
  refine wl_call hA rfl rfl (by decide) (fun ev h => exec_call Tryz.func236 (by kernel_rfl) rfl (h.f _) (by first | (simp only [mL, h.get 16 rfl, h.c] <;> rfl) | (simp [mL, h.get 16 rfl, h.c, q1, q2] <;> rfl))) (civil_any (t / 86400) (by omega) (by omega) w) ?_
  rintro e w1 ⟨rfl, hw⟩
  refine ⟨_, rfl, fun a hA => ?_⟩
  obtain rfl : w = w1 := hw.symm
  revert a; (iterate 7 refine wo rfl rfl (by decide) (fun ev e h => by simp [go_sem, h, q1, q2] <;> rfl) ?_); intro a hA
  replace hA := hA.keepN [0, 3, 4, 5]
  refine wN (nT (wS (wR ?_)))
  revert a; (iterate 3 refine wo rfl rfl (by decide) (fun ev e h => by simp [go_sem, h, q1, q2] <;> rfl) ?_); intro a hA
  replace hA := hA.keepN [3, 4, 5, 6]
  refine wN (nT (wS (wR ?_)))
  revert a; refine wo rfl rfl (by decide) (fun ev e h => by simp [go_sem, h, q1, q2] <;> rfl) ?_; intro a hA
  refine wl_call hA rfl rfl (by decide) (fun ev h => exec_call Tryz.func237 (by kernel_rfl) rfl (h.f _) (by first | (simp only [mL, h.get 23 rfl, h.c] <;> rfl) | (simp [mL, h.get 23 rfl, h.c, q1, q2] <;> rfl))) (two_some (civD (t / 86400)) (by omega) (by omega) w htab) ?_
  rintro e w2 ⟨s, rfl, hs, hs2, hb⟩
  refine ⟨_, rfl, fun a hA => ?_⟩
  have hs3 : (1 : Int) ≤ (s.size : Int) := by omega
  have hs4 : ¬ (9223372036854775807 < 1 + (s.size - 1)) := by omega
  revert a; refine wo rfl rfl (by decide) (fun ev e h => by simp [go_sem, h, q1, q2] <;> rfl) ?_; intro a hA
  replace hA := hA.keepN [3, 4, 5, 6, 7]
  refine wN (nT (wS (wS (wR ?_))))
  revert a; (iterate 2 refine wo rfl rfl (by decide) (fun ev e h => by simp [go_sem, h, q1, q2] <;> rfl) ?_); intro a hA
  replace hA := hA.keepN [3, 4, 6, 7, 26]
  refine wN (nT ?_)
  refine wp_join (fun a wx => ∃ s7 : ByteArray, At 58 [(3, .int .i64 (civY (t / 86400))), (4, .int .i64 (civM (t / 86400))), (6, .int .i64 (t % 86400)), (7, .string s7)] a ∧ s7.size ≤ 20 ∧ Below w.heap.size w wx) ?jfJ ?jrJ
  case jfJ =>
   refine wp_if hA 26 _ rfl (fun hd => ?yD) (fun hd => ?nD)
   case yD =>
    refine wR ?_
    revert a; (iterate 4 refine wo rfl rfl (by decide) (fun ev e h => by simp [go_sem, h, hs3, hs4] <;> rfl) ?_); intro a hA
    replace hA := hA.keepN [3, 4, 6, 7]
    refine wN (nT ?_)
    exact ⟨_, hA, by rw [ByteArray.size_append, ByteArray.size_extract]; show (1 : Nat) + _ ≤ 20; omega, hb⟩
   case nD =>
    replace hA := hA.keepN [3, 4, 6, 7]
    refine wp_skip (nT ?_)
    exact ⟨_, hA, by omega, hb⟩
  rintro a wx ⟨s7, hA, hs7, hb⟩
  have q3 : IntKind.i64.wrap (10000 + civY (t / 86400)) = 10000 + civY (t / 86400) := IntWalk.i64_in _ (by omega)
  have q4 : IntKind.i64.wrap ((t % 86400).tdiv 3600) = t % 86400 / 3600 := IntWalk.i64_quo _ _ (by omega)
  have q5 : (t % 86400).tmod 3600 = t % 86400 % 3600 := Int.tmod_eq_emod_of_nonneg (by omega)
  have q6 : IntKind.i64.wrap ((t % 3600).tdiv 60) = t % 3600 / 60 := IntWalk.i64_quo _ _ (by omega)
  have q7 : (t % 86400).tmod 60 = t % 86400 % 60 := Int.tmod_eq_emod_of_nonneg (by omega)
  refine wS ?_
  refine wp_any_at hA [(.det ?dA0), (.det (.string (s7 ++ ⟨#[45]⟩))), (.det ?dA2), (.used (fun v _ => ∃ s : ByteArray, v = .string s ∧ s.size ≤ 36)), (.used (fun v _ => ∃ s : ByteArray, v = .string s ∧ s.size ≤ 60)), (.used (fun v _ => ∃ s : ByteArray, v = .string s ∧ s.size ≤ 61)), (.det ?dA6), (.det ?dA7), (.det (.string ⟨(49 :: digL (civY (t / 86400)).toNat 4).toArray⟩)), (.det ?dA9), (.used (fun v _ => ∃ s : ByteArray, v = .string s ∧ s.size ≤ 70)), (.used (fun v _ => ∃ s : ByteArray, v = .string s ∧ s.size ≤ 71)), (.det ?dA12), (.det ?dA13), (.used (fun v _ => ∃ s : ByteArray, v = .string s ∧ s.size ≤ 10)), (.used (fun v _ => ∃ s : ByteArray, v = .string s ∧ s.size ≤ 90)), (.used (fun v _ => ∃ s : ByteArray, v = .string s ∧ s.size ≤ 91)), (.det ?dA17), (.det ?dA18), (.det ?dA19), (.used (fun v _ => ∃ s : ByteArray, v = .string s ∧ s.size ≤ 10)), (.used (fun v _ => ∃ s : ByteArray, v = .string s ∧ s.size ≤ 110)), (.used (fun v _ => ∃ s : ByteArray, v = .string s ∧ s.size ≤ 111)), (.det ?dA23), (.det ?dA24), (.used (fun v _ => ∃ s : ByteArray, v = .string s ∧ s.size ≤ 10)), (.used (fun v _ => ∃ s : ByteArray, v = .string s ∧ s.size ≤ 130)), (.held (fun v _ => ∃ s : ByteArray, v = .string s ∧ s.toList.isEmpty = false)), (.held (fun v _ => ∃ s : ByteArray, v = .string s ∧ s.toList.isEmpty = false))] [] (fun wy => Below w.heap.size w wy) (TSp [] Grows) (by kernel_rfl) rfl (by kernel_rfl) (by kernel_rfl) rfl (hb.drew) (stab_sp [] [true, true, true, false, false, false, true, true, true, true, false, false, true, true, false, false, false, true, true, true, false, false, false, true, true, false, false, false, false] [true, true, true, false, false, false, true, true, true, true, false, false, true, true, false, false, false, true, true, true, false, false, false, true, true, false, false, true, true] [] rfl rfl rfl (by kernel_rfl) ⟨trivial, trivial, trivial, (fun _ _ _ _ hp _ => hp), (fun _ _ _ _ hp _ => hp), (fun _ _ _ _ hp _ => hp), trivial, trivial, trivial, trivial, (fun _ _ _ _ hp _ => hp), (fun _ _ _ _ hp _ => hp), trivial, trivial, (fun _ _ _ _ hp _ => hp), (fun _ _ _ _ hp _ => hp), (fun _ _ _ _ hp _ => hp), trivial, trivial, trivial, (fun _ _ _ _ hp _ => hp), (fun _ _ _ _ hp _ => hp), (fun _ _ _ _ hp _ => hp), trivial, trivial, (fun _ _ _ _ hp _ => hp), (fun _ _ _ _ hp _ => hp), (fun _ _ _ _ hp _ => hp), (fun _ _ _ _ hp _ => hp), trivial⟩ trivial) (fun _ h => by cases h) (fun _ _ _ _ _ h => by cases h) (fun _ h => by cases h) ⟨?oA0, ?oA1, ?oA2, ?oA3, ?oA4, ?oA5, ?oA6, ?oA7, ?oA8, ?oA9, ?oA10, ?oA11, ?oA12, ?oA13, ?oA14, ?oA15, ?oA16, ?oA17, ?oA18, ?oA19, ?oA20, ?oA21, ?oA22, ?oA23, ?oA24, ?oA25, ?oA26, ?oA27, ?oA28, trivial⟩ (by kernel_rfl) ?fA
  case oA0 => intro ev wo hev hC hs hph; have x0 := se hA hs 7; exact od rfl rfl (by kernel_rfl) hC (TSp.of rfl (Grows.refl _)) (by simp [go_sem, x0] <;> rfl)
  case oA1 =>
   intro ev wo hev hC hs hph
   have e30 := sd hs 30 0
   exact ob_yes (wanted_none rfl) (does_value (by simp [go_sem, e30, hev.const]; omega) ⟨hC, TSp.of rfl (Grows.refl _), rfl, no_start (by kernel_rfl)⟩)
  case oA2 => intro ev wo hev hC hs hph; have x0 := se hA hs 4; exact od rfl rfl (by kernel_rfl) hC (TSp.of rfl (Grows.refl _)) (by simp [go_sem, x0] <;> rfl)
  case oA3 =>
   intro ev wo hev hC hs hph
   have e32 := sd hs 32 2
   exact ob_yes (wanted_none rfl) (does_enter (by simp [go_sem, e32, hev.func, hev.const]; try first | exact ⟨rfl, rfl⟩ | rfl) (Calls.mono (month_some (civM (t / 86400)) m0 m1 wo) (by
    rintro ev2 w3 ⟨s, rfl, hz, hb3⟩
    exact ⟨_, rfl, hC.trans (hb3.mono hC.size), TSp.of rfl hb3, ⟨s, rfl, hz⟩, no_start (by kernel_rfl)⟩)))
  case oA4 =>
   intro ev wo hev hC hs hph
   have e31 := sd hs 31 1
   have u33 := su hs 33 3
   obtain ⟨s33, f33, z33⟩ := u33
   exact ob_yes (wanted_none rfl) (does_value (by simp [go_sem, e31, f33, hev.const, digL_length]; rw [if_neg (by omega)]; try first | exact ⟨rfl, rfl⟩ | rfl) ⟨hC, TSp.of rfl (Grows.refl _), ⟨_, rfl, by rw [ByteArray.size_append]; rw [asize]; simp; omega⟩, no_start (by kernel_rfl)⟩)
  case oA5 =>
   intro ev wo hev hC hs hph
   have u34 := su hs 34 4
   obtain ⟨s34, f34, z34⟩ := u34
   exact ob_yes (wanted_none rfl) (does_value (by simp [go_sem, f34, hev.const, digL_length]; rw [if_neg (by omega)]; try first | exact ⟨rfl, rfl⟩ | rfl) ⟨hC, TSp.of rfl (Grows.refl _), ⟨_, rfl, by rw [asize]; simp; omega⟩, no_start (by kernel_rfl)⟩)
  case oA6 => intro ev wo hev hC hs hph; have x0 := se hA hs 3; exact od rfl rfl (by kernel_rfl) hC (TSp.of rfl (Grows.refl _)) (by simp [go_sem, x0] <;> rfl)
  case oA7 => intro ev wo hev hC hs hph; have x0 := sd hs 36 6; exact od rfl rfl (by kernel_rfl) hC (TSp.of rfl (Grows.refl _)) (by simp [go_sem, x0, hev.const, q3] <;> rfl)
  case oA8 =>
   intro ev wo hev hC hs hph
   have e37 := sd hs 37 7
   exact ob_yes (wanted_none rfl) (does_enter (by simp [go_sem, e37, hev.func, hev.const]; try first | exact ⟨rfl, rfl⟩ | rfl) (Calls.mono (five_int (civY (t / 86400)) (by omega) y1 wo (Ht wo hC)) (by
    rintro ev2 w3 ⟨rfl, hb3⟩
    exact ⟨_, rfl, hC.trans (hb3.mono hC.size), TSp.of rfl hb3, rfl, no_start (by kernel_rfl)⟩)))
  case oA9 => intro ev wo hev hC hs hph; have x0 := sd hs 38 8; exact od rfl rfl (by kernel_rfl) hC (TSp.of rfl (Grows.refl _)) (by simp [go_sem, x0, hev.const] <;> rfl)
  case oA10 =>
   intro ev wo hev hC hs hph
   have u35 := su hs 35 5
   have e39 := sd hs 39 9
   obtain ⟨s35, f35, z35⟩ := u35
   exact ob_yes (wanted_none rfl) (does_value (by simp [go_sem, f35, e39, hev.const, digL_length]; rw [if_neg (by omega)]; try first | exact ⟨rfl, rfl⟩ | rfl) ⟨hC, TSp.of rfl (Grows.refl _), ⟨_, rfl, by rw [ByteArray.size_append, ByteArray.size_extract]; omega⟩, no_start (by kernel_rfl)⟩)
  case oA11 =>
   intro ev wo hev hC hs hph
   have u40 := su hs 40 10
   obtain ⟨s40, f40, z40⟩ := u40
   exact ob_yes (wanted_none rfl) (does_value (by simp [go_sem, f40, hev.const, digL_length]; rw [if_neg (by omega)]; try first | exact ⟨rfl, rfl⟩ | rfl) ⟨hC, TSp.of rfl (Grows.refl _), ⟨_, rfl, by rw [asize]; simp; omega⟩, no_start (by kernel_rfl)⟩)
  case oA12 => intro ev wo hev hC hs hph; have x0 := se hA hs 6; exact od rfl rfl (by kernel_rfl) hC (TSp.of rfl (Grows.refl _)) (by simp [go_sem, x0] <;> rfl)
  case oA13 => intro ev wo hev hC hs hph; have x0 := sd hs 42 12; exact od rfl rfl (by kernel_rfl) hC (TSp.of rfl (Grows.refl _)) (by simp [go_sem, x0, hev.const, q4] <;> rfl)
  case oA14 =>
   intro ev wo hev hC hs hph
   have e43 := sd hs 43 13
   exact ob_yes (wanted_none rfl) (does_enter (by simp [go_sem, e43, hev.func, hev.const]; try first | exact ⟨rfl, rfl⟩ | rfl) (Calls.mono (two_some (t % 86400 / 3600) (by omega) (by omega) wo (Ht wo hC)) (by
    rintro ev2 w3 ⟨s, rfl, _, hz, hb3⟩
    exact ⟨_, rfl, hC.trans (hb3.mono hC.size), TSp.of rfl hb3, ⟨s, rfl, hz⟩, no_start (by kernel_rfl)⟩)))
  case oA15 =>
   intro ev wo hev hC hs hph
   have u41 := su hs 41 11
   have u44 := su hs 44 14
   obtain ⟨s41, f41, z41⟩ := u41
   obtain ⟨s44, f44, z44⟩ := u44
   exact ob_yes (wanted_none rfl) (does_value (by simp [go_sem, f41, f44, hev.const, digL_length]; rw [if_neg (by omega)]; try first | exact ⟨rfl, rfl⟩ | rfl) ⟨hC, TSp.of rfl (Grows.refl _), ⟨_, rfl, by rw [ByteArray.size_append]; omega⟩, no_start (by kernel_rfl)⟩)
  case oA16 =>
   intro ev wo hev hC hs hph
   have u45 := su hs 45 15
   obtain ⟨s45, f45, z45⟩ := u45
   exact ob_yes (wanted_none rfl) (does_value (by simp [go_sem, f45, hev.const, digL_length]; rw [if_neg (by omega)]; try first | exact ⟨rfl, rfl⟩ | rfl) ⟨hC, TSp.of rfl (Grows.refl _), ⟨_, rfl, by rw [asize]; simp; omega⟩, no_start (by kernel_rfl)⟩)
  case oA17 => intro ev wo hev hC hs hph; have x0 := se hA hs 6; exact od rfl rfl (by kernel_rfl) hC (TSp.of rfl (Grows.refl _)) (by simp [go_sem, x0] <;> rfl)
  case oA18 => intro ev wo hev hC hs hph; have x0 := sd hs 47 17; exact od rfl rfl (by kernel_rfl) hC (TSp.of rfl (Grows.refl _)) (by simp [go_sem, x0, hev.const, q5] <;> rfl)
  case oA19 => intro ev wo hev hC hs hph; have x0 := sd hs 48 18; exact od rfl rfl (by kernel_rfl) hC (TSp.of rfl (Grows.refl _)) (by simp [go_sem, x0, hev.const, q6] <;> rfl)
  case oA20 =>
   intro ev wo hev hC hs hph
   have e49 := sd hs 49 19
   exact ob_yes (wanted_none rfl) (does_enter (by simp [go_sem, e49, hev.func, hev.const]; try first | exact ⟨rfl, rfl⟩ | rfl) (Calls.mono (two_some (t % 3600 / 60) (by omega) (by omega) wo (Ht wo hC)) (by
    rintro ev2 w3 ⟨s, rfl, _, hz, hb3⟩
    exact ⟨_, rfl, hC.trans (hb3.mono hC.size), TSp.of rfl hb3, ⟨s, rfl, hz⟩, no_start (by kernel_rfl)⟩)))
  case oA21 =>
   intro ev wo hev hC hs hph
   have u46 := su hs 46 16
   have u50 := su hs 50 20
   obtain ⟨s46, f46, z46⟩ := u46
   obtain ⟨s50, f50, z50⟩ := u50
   exact ob_yes (wanted_none rfl) (does_value (by simp [go_sem, f46, f50, hev.const, digL_length]; rw [if_neg (by omega)]; try first | exact ⟨rfl, rfl⟩ | rfl) ⟨hC, TSp.of rfl (Grows.refl _), ⟨_, rfl, by rw [ByteArray.size_append]; omega⟩, no_start (by kernel_rfl)⟩)
  case oA22 =>
   intro ev wo hev hC hs hph
   have u51 := su hs 51 21
   obtain ⟨s51, f51, z51⟩ := u51
   exact ob_yes (wanted_none rfl) (does_value (by simp [go_sem, f51, hev.const, digL_length]; rw [if_neg (by omega)]; try first | exact ⟨rfl, rfl⟩ | rfl) ⟨hC, TSp.of rfl (Grows.refl _), ⟨_, rfl, by rw [asize]; simp; omega⟩, no_start (by kernel_rfl)⟩)
  case oA23 => intro ev wo hev hC hs hph; have x0 := se hA hs 6; exact od rfl rfl (by kernel_rfl) hC (TSp.of rfl (Grows.refl _)) (by simp [go_sem, x0] <;> rfl)
  case oA24 => intro ev wo hev hC hs hph; have x0 := sd hs 53 23; exact od rfl rfl (by kernel_rfl) hC (TSp.of rfl (Grows.refl _)) (by simp [go_sem, x0, hev.const, q7] <;> rfl)
  case oA25 =>
   intro ev wo hev hC hs hph
   have e54 := sd hs 54 24
   exact ob_yes (wanted_none rfl) (does_enter (by simp [go_sem, e54, hev.func, hev.const]; try first | exact ⟨rfl, rfl⟩ | rfl) (Calls.mono (two_some (t % 86400 % 60) (by omega) (by omega) wo (Ht wo hC)) (by
    rintro ev2 w3 ⟨s, rfl, _, hz, hb3⟩
    exact ⟨_, rfl, hC.trans (hb3.mono hC.size), TSp.of rfl hb3, ⟨s, rfl, hz⟩, no_start (by kernel_rfl)⟩)))
  case oA26 =>
   intro ev wo hev hC hs hph
   have u52 := su hs 52 22
   have u55 := su hs 55 25
   obtain ⟨s52, f52, z52⟩ := u52
   obtain ⟨s55, f55, z55⟩ := u55
   exact ob_yes (wanted_none rfl) (does_value (by simp [go_sem, f52, f55, hev.const, digL_length]; rw [if_neg (by omega)]; try first | exact ⟨rfl, rfl⟩ | rfl) ⟨hC, TSp.of rfl (Grows.refl _), ⟨_, rfl, by rw [ByteArray.size_append]; omega⟩, no_start (by kernel_rfl)⟩)
  case oA27 =>
   intro ev wo hev hC hs hph
   have u56 := su hs 56 26
   obtain ⟨s56, f56, z56⟩ := u56
   exact ob_yes (wanted_none rfl) (does_value (v := .string (s56 ++ ⟨#[32, 43, 48, 48, 48, 48]⟩)) (by simp [go_sem, f56, hev.const]; omega) ⟨hC, TSp.of rfl (Grows.refl _), ⟨_, rfl, app_ne _ _ _⟩, no_start (by kernel_rfl)⟩)
  case oA28 =>
   intro ev wo hev hC hs hph
   have u57 := sh hs 57 27
   exact ob_yes (wanted_none rfl) (does_value (v := ev (.tmp 57)) (by simp [go_sem]) ⟨hC, TSp.of rfl (Grows.refl _), u57, no_start (by kernel_rfl)⟩)
  intro sg wf hC hph
  intro x33 hx33
  intro x34 hx34
  intro x35 hx35
  intro x40 hx40
  intro x41 hx41
  intro x44 hx44
  intro x45 hx45
  intro x46 hx46
  intro x50 hx50
  intro x51 hx51
  intro x52 hx52
  intro x55 hx55
  intro x56 hx56
  intro x57 hx57 h57
  intro x2 hx2 h2
  intro a hA
  replace hA := hA.keepN [2]
  refine nT (wp_ret ?_)
  refine ret_1 hA 2 rfl rfl ?_
  obtain ⟨s, rfl, hs⟩ := h2
  refine ⟨s, rfl, ?_, hC⟩
  rw [hs]
  unfold dateOk
  simp
  omega
end Go.Proofs.YtkljkbeahdipfaaGreatDoor
/-
  Messages: what they are in memory; which may be.
-/
namespace Go.Proofs.YtkljkbeahdipfaaGreatDoor
open Go.RowKit
set_option linter.unusedSimpArgs false
set_option linter.unusedVariables false
/-- may a time and flags be? -/
def fitsDF (d f : Int) : Bool := dateOk d && decide (0 ≤ f) && decide (f ≤ 31)
def fitsV (m : MsgV) : Bool := fitsDF m.date m.flags
def lastU (l : List MsgV) : Nat → Nat
 | 0 => 0
 | j + 1 => match l[j]? with | some y => y.uid | none => 0
theorem lastU_succ {l : List MsgV} {j : Nat} {x : MsgV} (hx : l[j]? = some x) : lastU l (j + 1) = x.uid := by
 show (match l[j]? with | some y => y.uid | none => 0) = _
 rw [hx]
/-- is a message right where it stands? -/
def msgStep (nx : Nat) (l : List MsgV) (j : Nat) (m : MsgV) : Bool := decide (lastU l j < m.uid) && decide (m.uid < nx) && fitsV m && decide (m.b.length ≤ 20000)
def msgAt (nx : Nat) (l : List MsgV) (j : Nat) : Bool := match l[j]? with | some m => msgStep nx l j m | none => true
def msgsN (nx : Nat) (l : List MsgV) (j : Nat) : Bool := (List.range j).all (msgAt nx l)
theorem msgsN_succ {nx : Nat} {l : List MsgV} {j : Nat} {x : MsgV} (hx : l[j]? = some x) : msgsN nx l (j + 1) = (msgsN nx l j && msgStep nx l j x) := by
 unfold msgsN
 rw [List.range_succ, List.all_append]
 simp [msgAt, hx]
theorem msgs_no {nx : Nat} {l : List MsgV} {j : Nat} {x : MsgV} (hx : l[j]? = some x) (h : msgStep nx l j x = false) : msgsN nx l l.length = false := by
 unfold msgsN
 rw [List.all_eq_false]
 exact ⟨j, List.mem_range.2 (List.getElem?_eq_some_iff.1 hx).1, by unfold msgAt; rw [hx]; simp only [h]; simp⟩
/-- is a mailbox right? -/
def boxRight (nm : ByteArray) (e nx : Nat) (l : List MsgV) : Bool := nameIs nm && decide (1 ≤ e) && decide (1 ≤ nx) && decide (l.length ≤ 500) && msgsN nx l l.length
end Go.Proofs.YtkljkbeahdipfaaGreatDoor
/-
  Notes: what they are; walks: which are formed, by both sides.
-/
namespace Go.Proofs.YtkljkbeahdipfaaGreatDoor
open Go.RowKit
set_option linter.unusedSimpArgs false
set_option linter.unusedVariables false
section
variable {P : Program} {Q : Exit → Act → World → Prop} {a : Act} {w : World} {n : Nat} {Γ : Env} {l rest : List Oper} {o : Oper} {t : Nat} {b : Bool}
/-- a guarded call that answers with some text and makes memory alone -/
theorem wl_gcalls {gi gt : Nat} {f : FuncId} {args : Array Value} {R : ByteArray → Prop} (q : Bool) (hA : At n Γ a) (hg : o.guard = some (gi, b)) (hgd : (l[gi]?).bind (·.dst) = some gt) (hl : look Γ gt = some (.bool q)) (hd : o.dst = some t) (ht : t < n)
 (hrun : q = b → ∀ ev, EvIn Γ ev → (execOp ev o).run P w = .ok (.enter f args) w) (hc : q = b → Calls P f args w fun e w' => ∃ s, e = .returned (.string s) ∧ R s ∧ Below w.heap.size w w')
 (hk : ∀ (s : ByteArray) a' w', (q = b → R s) → Below w.heap.size w w' → At n ((t, gv q b (.string s)) :: Γ) a' → wpList P l.toArray Q rest a' w') : wpList P l.toArray Q (o :: rest) a w := by
 refine wl_gcall q hA hg hgd hl hd ht hrun hc (fun v w' => (∃ s, v = .string s ∧ (q = b → R s) ∧ Below w.heap.size w w') ∨ (q ≠ b ∧ Below w.heap.size w w')) (fun _ e w' ⟨s, h1, h2, h3⟩ => ⟨_, h1, .inl ⟨s, rfl, fun _ => h2, h3⟩⟩) (fun h => .inr ⟨h, Below.refl _ _⟩) ?_
 rintro v a' w' (⟨s, rfl, h2, h3⟩ | ⟨h2, h3⟩) hA'
 ·exact hk s a' w' h2 h3 hA'
 ·refine hk ⟨#[]⟩ a' w' (fun e => absurd e h2) h3 ?_
  have e : gv q b v = gv q b (.string ⟨#[]⟩) := by
   have : (q == b) = false := by simpa using h2
   unfold gv gw
   rw [this]
   rfl
  rw [← e]
  exact hA'
end
structure NoteV where
 kind : Int
 ep : Nat
 nm : ByteArray
 m : MsgV
def noteC (k : Int) (e : Nat) (nm : ByteArray) (m : MsgV) : Array Value := #[.int .i64 k, .int .u32 (e : Nat), .string nm, .int .u32 (m.uid : Nat), .int .i64 m.date, .int .i64 m.flags, .slice m.a m.b.length m.c]
def bareV (d f : Int) (n : Nat) : Bool := d == 0 && f == 0 && (n : Int) == 0
def fullV (m : MsgV) : Bool := decide (1 ≤ m.uid) && (fitsDF m.date m.flags && decide (m.b.length ≤ 20000))
/-- may a note be? -/
def formedV (k : Int) (e : Nat) (nm : ByteArray) (m : MsgV) : Bool := decide (1 ≤ e) && (bif k == 1 then nameIs nm && bareV m.date m.flags m.b.length && m.uid == 0 else bif k == 2 then nameIs nm && fullV m else k == 3 && nm.toList.isEmpty && bareV m.date m.flags m.b.length && decide (1 ≤ m.uid))
theorem le1 (u : Nat) : decide ((1 : Int) ≤ (u : Int)) = decide (1 ≤ u) := by rw [Bool.eq_iff_iff]; simp; omega
theorem eq0 (u : Nat) : ((u : Int) == 0) = (u == 0) := by rw [Bool.eq_iff_iff]; simp
theorem le20000 (n : Nat) : decide ((n : Int) ≤ 20000) = decide (n ≤ 20000) := by rw [Bool.eq_iff_iff]; simp; omega
theorem formed_0 {k : Int} {e : Nat} (nm : ByteArray) (m : MsgV) (h : decide ((e : Int) < 1) = true) : formedV k e nm m = false := by
 have : ¬ 1 ≤ e := by simp at h; omega
 unfold formedV
 simp [this]
theorem formed_1 {k : Int} {e : Nat} (nm : ByteArray) (m : MsgV) (h : decide ((e : Int) < 1) = false) (h1 : (k == 1) = true) : formedV k e nm m = (nameIs nm && bareV m.date m.flags m.b.length && (m.uid : Int) == 0) := by
 have : 1 ≤ e := by simp at h; omega
 unfold formedV
 rw [h1, eq0]
 simp [this]
theorem formed_2 {k : Int} {e : Nat} (nm : ByteArray) (m : MsgV) (h : decide ((e : Int) < 1) = false) (h1 : (k == 1) = false) (h2 : (k == 2) = true) : formedV k e nm m = (nameIs nm && fullV m) := by
 have : 1 ≤ e := by simp at h; omega
 unfold formedV
 rw [h1, h2]
 simp [this]
theorem formed_3 {k : Int} {e : Nat} (nm : ByteArray) (m : MsgV) (h : decide ((e : Int) < 1) = false) (h1 : (k == 1) = false) (h2 : (k == 2) = false) : formedV k e nm m = (k == 3 && nm.toList.isEmpty && bareV m.date m.flags m.b.length && decide ((1 : Int) ≤ (m.uid : Int))) := by
 have : 1 ≤ e := by simp at h; omega
 unfold formedV
 rw [h1, h2, le1]
 simp [this]
theorem bNamed_any (s : ByteArray) (hs : s.size ≤ 9223372036854775807) (w : World) (hm : MaxCell w) :
 Calls Tryz.prog 173 #[.string s] w fun ev w' => ev = .returned (.bool (nameIs s)) ∧ Below w.heap.size w w' := by
 obtain ⟨mx, hmx⟩ := hm
 refine calls_at 16 Tryz.func173 rfl rfl (Nat.le_of_ble_eq_true rfl) ?_
 intro a hA; replace hA := hA.norm
 refine wS (wR ?_)
 revert a; refine wo rfl rfl (by decide) (fun ev e h => by simp [go_sem, h] <;> rfl) ?_; intro a hA
 replace hA := hA.keepN [0]
 refine wN (nT (wS (wR ?_)))
 revert a; refine wo rfl rfl (by decide) (fun ev e h => by simp [go_sem, h] <;> rfl) ?_; intro a hA
 refine wl_call hA rfl rfl (by decide) (fun ev h => exec_call Tryz.func137 (by kernel_rfl) rfl (h.f _) (by first | (simp only [mL, h.get 6 rfl, h.c] <;> rfl) | (simp [mL, h.get 6 rfl, h.c] <;> rfl))) (norm_all s mx _ hs hmx) ?_
 rintro e w1 ⟨rfl, hb⟩
 refine ⟨_, rfl, fun a hA => ?_⟩
 revert a; (iterate 5 refine wo rfl rfl (by decide) (fun ev e h => by simp [go_sem, h] <;> rfl) ?_); intro a hA
 replace hA := hA.keepN [0, 3, 4]
 refine wN (nT (wS (wR ?_)))
 revert a; (iterate 2 refine wo rfl rfl (by decide) (fun ev e h => by simp [go_sem, h] <;> rfl) ?_); (iterate 3 refine wg _ rfl rfl rfl rfl (by decide) (fun hq ev e h => by simp [go_sem, h, ↓gw_t (beq_t hq)] <;> rfl) ?_); refine wka rfl rfl (by decide) rfl rfl rfl ?_; refine wo rfl rfl (by decide) (fun ev e h => by simp [go_sem, h] <;> rfl) ?_; intro a hA
 replace hA := hA.keepN [2]
 refine wN (nT (wp_ret ?_))
 refine ret_1 hA 2 rfl rfl ?_
 exact ⟨ret_bool (by unfold nameIs; rfl), hb⟩
theorem bare_any (u d f : Int) (A : Option Addr) (n c : Nat) (w : World) :
 Calls Tryz.prog 174 #[.agg #[.int .u32 u, .int .i64 d, .int .i64 f, .slice A n c]] w fun ev w' => ev = .returned (.bool (bareV d f n)) ∧ Below w.heap.size w w' := by
 refine calls_at 17 Tryz.func174 rfl rfl (Nat.le_of_ble_eq_true rfl) ?_
 intro a hA; replace hA := hA.norm
 refine wS (wR ?_)
 refine wl_new hA rfl rfl (by decide) (fun ev h => by simp [go_sem, h.get 0 rfl]; try first | exact ⟨rfl, rfl⟩ | rfl) fun w1 a (K : Blk _ _ _ _) hz hb hA => ?_
 revert a; refine wo rfl rfl (by decide) (fun ev e h => by simp [go_sem, h, K.cell] <;> rfl) ?_; intro a hA
 replace hA := hA.keepN [1]
 refine wN (nT (wS (wR ?_)))
 revert a; (iterate 4 refine wo rfl rfl (by decide) (fun ev e h => by simp [go_sem, h, K.cell] <;> rfl) ?_); (iterate 3 refine wg _ rfl rfl rfl rfl (by decide) (fun hq ev e h => by simp [go_sem, h, ↓gw_t (beq_t hq), K.cell] <;> rfl) ?_); refine wka rfl rfl (by decide) rfl rfl rfl ?_; refine wo rfl rfl (by decide) (fun ev e h => by simp [go_sem, h, K.cell] <;> rfl) ?_; refine wg _ rfl rfl rfl rfl (by decide) (fun hq ev e h => by simp [go_sem, h, ↓gw_t (beq_t hq), K.cell] <;> rfl) ?_; intro a hA
 replace hA := hA.keepN [11, 12]
 revert a; (iterate 3 refine wg _ rfl rfl rfl rfl (by decide) (fun hq ev e h => by simp [go_sem, h, ↓gw_t (beq_t hq), K.cell] <;> rfl) ?_); refine wka rfl rfl (by decide) rfl rfl rfl ?_; refine wo rfl rfl (by decide) (fun ev e h => by simp [go_sem, h, K.cell] <;> rfl) ?_; intro a hA
 replace hA := hA.keepN [2]
 refine wN (nT (wp_ret ?_))
 refine ret_1 hA 2 rfl rfl ?_
 exact ⟨rfl, hb⟩
theorem full_eq (m : MsgV) (s : ByteArray) (hs : decide ((1 : Int) ≤ (m.uid : Int)) = true → s.toList.isEmpty = !dateOk m.date) : (decide ((1 : Int) ≤ (m.uid : Int)) && !s.toList.isEmpty && decide (0 ≤ m.flags) && decide (m.flags ≤ 31) && decide ((m.b.length : Int) ≤ 20000)) = fullV m := by
 unfold fullV fitsDF
 rw [le20000]
 rw [le1] at *
 cases hu : decide (1 ≤ m.uid) with
 | false => simp
 | true => rw [hs hu]; simp [Bool.and_assoc]
theorem rightMsg_any (m : MsgV) (w : World) (htab : Lib.TabIs Tryz.prog w "internal/strconv.uint64pow10" .u64 Lib.pow10Tab) :
 Calls Tryz.prog 175 #[.agg #[.int .u32 (m.uid : Nat), .int .i64 m.date, .int .i64 m.flags, .slice m.a m.b.length m.c]] w fun ev w' => ev = .returned (.bool (fullV m)) ∧ Below w.heap.size w w' := by
 have Ht := Lib.tabBelow_of_tabIs htab
 refine calls_at 28 Tryz.func175 rfl rfl (Nat.le_of_ble_eq_true rfl) ?_
 intro a hA; replace hA := hA.norm
 refine wS (wR ?_)
 refine wl_new hA rfl rfl (by decide) (fun ev h => by simp [go_sem, h.get 0 rfl]; try first | exact ⟨rfl, rfl⟩ | rfl) fun w1 a (K : Blk _ _ _ _) hz hb hA => ?_
 revert a; refine wo rfl rfl (by decide) (fun ev e h => by simp [go_sem, h, K.cell] <;> rfl) ?_; intro a hA
 replace hA := hA.keepN [1]
 refine wN (nT (wS (wR ?_)))
 revert a; (iterate 4 refine wo rfl rfl (by decide) (fun ev e h => by simp [go_sem, h, K.cell] <;> rfl) ?_); (iterate 2 refine wg _ rfl rfl rfl rfl (by decide) (fun hq ev e h => by simp [go_sem, h, ↓gw_t (beq_t hq), K.cell] <;> rfl) ?_); intro a hA
 refine wl_gcalls _ hA rfl rfl rfl rfl (by decide) (fun hq ev h => exec_call Tryz.func191 (by kernel_rfl) rfl (h.f _) (by first | (simp only [mL, ((h.get 8 rfl).trans (gw_t (beq_t hq))), h.c] <;> rfl) | (simp [mL, ((h.get 8 rfl).trans (gw_t (beq_t hq))), h.c, K.cell] <;> rfl))) (fun hq => print_some m.date _ (Ht _ hb)) fun s a w2 hs hb2 hA => ?_
 replace K := K.below hb2 K.lt
 revert a; refine wg _ rfl rfl rfl rfl (by decide) (fun hq ev e h => by simp [go_sem, h, ↓gw_t (beq_t hq), K.cell] <;> rfl) ?_; refine wka rfl rfl (by decide) rfl rfl rfl ?_; refine wo rfl rfl (by decide) (fun ev e h => by simp [go_sem, h, K.cell] <;> rfl) ?_; refine wg _ rfl rfl rfl rfl (by decide) (fun hq ev e h => by simp [go_sem, h, ↓gw_t (beq_t hq), K.cell] <;> rfl) ?_; intro a hA
 replace hA := hA.keepN [1, 12, 13]
 revert a; (iterate 2 refine wg _ rfl rfl rfl rfl (by decide) (fun hq ev e h => by simp [go_sem, h, ↓gw_t (beq_t hq), K.cell] <;> rfl) ?_); refine wka rfl rfl (by decide) rfl rfl rfl ?_; refine wo rfl rfl (by decide) (fun ev e h => by simp [go_sem, h, K.cell] <;> rfl) ?_; (iterate 3 refine wg _ rfl rfl rfl rfl (by decide) (fun hq ev e h => by simp [go_sem, h, ↓gw_t (beq_t hq), K.cell] <;> rfl) ?_); refine wka rfl rfl (by decide) rfl rfl rfl ?_; refine wo rfl rfl (by decide) (fun ev e h => by simp [go_sem, h, K.cell] <;> rfl) ?_; refine wg _ rfl rfl rfl rfl (by decide) (fun hq ev e h => by simp [go_sem, h, ↓gw_t (beq_t hq), K.cell] <;> rfl) ?_; intro a hA
 replace hA := hA.keepN [22, 23]
 revert a; (iterate 3 refine wg _ rfl rfl rfl rfl (by decide) (fun hq ev e h => by simp [go_sem, h, ↓gw_t (beq_t hq), K.cell] <;> rfl) ?_); refine wka rfl rfl (by decide) rfl rfl rfl ?_; refine wo rfl rfl (by decide) (fun ev e h => by simp [go_sem, h, K.cell] <;> rfl) ?_; intro a hA
 replace hA := hA.keepN [2]
 refine wN (nT (wp_ret ?_))
 refine ret_1 hA 2 rfl rfl ?_
 exact ⟨ret_bool (full_eq m s hs), hb.trans (hb2.mono hb.size)⟩
set_option maxRecDepth 100000 in
set_option maxHeartbeats 1000000 in
theorem formed_any (k : Int) (e : Nat) (nm : ByteArray) (m : MsgV) (w : World) (hm : MaxCell w) (hg : 0 < w.heap.size) (htab : Lib.TabIs Tryz.prog w "internal/strconv.uint64pow10" .u64 Lib.pow10Tab) (hs : nm.size ≤ 9223372036854775807) :
 Calls Tryz.prog 116 #[.agg (noteC k e nm m)] w fun ev w' => ev = .returned (.bool (formedV k e nm m)) ∧ Below w.heap.size w w' := by
 have Ht := Lib.tabBelow_of_tabIs htab
 have hm0 := fun (w' : World) (hb : Below w.heap.size w w') => hm.below hg hb
 refine calls_at 56 Tryz.func116 rfl rfl (Nat.le_of_ble_eq_true rfl) ?_
 intro a hA; replace hA := hA.norm
 refine wS (wR ?_)
 refine wl_new hA rfl rfl (by decide) (fun ev h => by simp [go_sem, h.get 0 rfl]; try first | exact ⟨rfl, rfl⟩ | rfl) fun w1 a (K : Blk _ _ _ _) hz hb0 hA => ?_
 unfold noteC at K
 revert a; refine wo rfl rfl (by decide) (fun ev e h => by simp [go_sem, h, K.cell] <;> rfl) ?_; intro a hA
 replace hA := hA.keepN [1]
 refine wN (nT (wS (wB (wS (wR ?_)))))
 revert a; (iterate 4 refine wo rfl rfl (by decide) (fun ev e h => by simp [go_sem, h, K.cell] <;> rfl) ?_); intro a hA
 replace hA := hA.keepN [1, 3]
 refine wN (nT ?_)
 refine wp_if hA 3 _ rfl (fun hq => ?yA) (fun hq => ?nA)
 case yA =>
  refine wS (wR ?_)
  revert a; refine wo rfl rfl (by decide) (fun ev e h => by simp [go_sem, h, K.cell] <;> rfl) ?_; intro a hA
  replace hA := hA.keepN [2]
  refine wN (nT (wp_ret (rB (rT ?_))))
  refine ret_1 hA 2 rfl rfl ?_
  exact ⟨ret_bool ((formed_0 nm m hq).symm), hb0⟩
 case nA =>
  refine wS (wR ?_)
  revert a; (iterate 4 refine wo rfl rfl (by decide) (fun ev e h => by simp [go_sem, h, K.cell] <;> rfl) ?_); intro a hA
  replace hA := hA.keepN [1, 7]
  refine wN (nT ?_)
  refine wp_if hA 7 _ rfl (fun hq1 => ?yB) (fun hq1 => ?nB)
  case yB =>
   refine wS (wR ?_)
   revert a; (iterate 2 refine wo rfl rfl (by decide) (fun ev e h => by simp [go_sem, h, K.cell] <;> rfl) ?_); intro a hA
   refine wl_call hA rfl rfl (by decide) (fun ev h => exec_call Tryz.func173 (by kernel_rfl) rfl (h.f _) (by first | (simp only [mL, h.get 12 rfl, h.c] <;> rfl) | (simp [mL, h.get 12 rfl, h.c, K.cell] <;> rfl))) (bNamed_any nm hs _ (hm0 _ hb0)) ?_
   rintro e w2 ⟨rfl, hb⟩
   refine ⟨_, rfl, fun a hA => ?_⟩
   replace K := K.below hb K.lt
   revert a; refine wo rfl rfl (by decide) (fun ev e h => by simp [go_sem, h, K.cell] <;> rfl) ?_; (iterate 2 refine wg _ rfl rfl rfl rfl (by decide) (fun hq ev e h => by simp [go_sem, h, ↓gw_t (beq_t hq), K.cell] <;> rfl) ?_); intro a hA
   refine wl_gcallv _ hA rfl rfl rfl rfl (by decide) (fun hq ev h => exec_call Tryz.func174 (by kernel_rfl) rfl (h.f _) (by first | (simp only [mL, ((h.get 16 rfl).trans (gw_t (beq_t hq))), h.c] <;> rfl) | (simp [mL, ((h.get 16 rfl).trans (gw_t (beq_t hq))), h.c, K.cell] <;> rfl))) (fun hq => bare_any (m.uid : Nat) m.date m.flags m.a m.b.length m.c _) fun a w3 hb3 hA => ?_
   replace K := K.below hb3 K.lt
   revert a; refine wka rfl rfl (by decide) rfl rfl rfl ?_; refine wo rfl rfl (by decide) (fun ev e h => by simp [go_sem, h, K.cell] <;> rfl) ?_; (iterate 3 refine wg _ rfl rfl rfl rfl (by decide) (fun hq ev e h => by simp [go_sem, h, ↓gw_t (beq_t hq), K.cell] <;> rfl) ?_); intro a hA
   replace hA := hA.keepN [19, 22]
   revert a; refine wg _ rfl rfl rfl rfl (by decide) (fun hq ev e h => by simp [go_sem, h, ↓gw_t (beq_t hq), K.cell] <;> rfl) ?_; refine wka rfl rfl (by decide) rfl rfl rfl ?_; refine wo rfl rfl (by decide) (fun ev e h => by simp [go_sem, h, K.cell] <;> rfl) ?_; intro a hA
   replace hA := hA.keepN [2]
   refine wN (nT (wp_ret (rB (rT ?_))))
   refine ret_1 hA 2 rfl rfl ?_
   exact ⟨ret_bool ((formed_1 nm m hq hq1).symm), (hb0.trans (hb.mono hb0.size)).trans (hb3.mono (Nat.le_trans hb0.size hb.size))⟩
  case nB =>
   refine wS (wR ?_)
   revert a; (iterate 4 refine wo rfl rfl (by decide) (fun ev e h => by simp [go_sem, h, K.cell] <;> rfl) ?_); intro a hA
   replace hA := hA.keepN [1, 25]
   refine wN (nT ?_)
   refine wp_if hA 25 _ rfl (fun hq2 => ?yC) (fun hq2 => ?nC)
   case yC =>
    refine wS (wR ?_)
    revert a; (iterate 2 refine wo rfl rfl (by decide) (fun ev e h => by simp [go_sem, h, K.cell] <;> rfl) ?_); intro a hA
    refine wl_call hA rfl rfl (by decide) (fun ev h => exec_call Tryz.func173 (by kernel_rfl) rfl (h.f _) (by first | (simp only [mL, h.get 30 rfl, h.c] <;> rfl) | (simp [mL, h.get 30 rfl, h.c, K.cell] <;> rfl))) (bNamed_any nm hs _ (hm0 _ hb0)) ?_
    rintro e w2 ⟨rfl, hb⟩
    refine ⟨_, rfl, fun a hA => ?_⟩
    replace K := K.below hb K.lt
    revert a; refine wo rfl rfl (by decide) (fun ev e h => by simp [go_sem, h, K.cell] <;> rfl) ?_; (iterate 2 refine wg _ rfl rfl rfl rfl (by decide) (fun hq ev e h => by simp [go_sem, h, ↓gw_t (beq_t hq), K.cell] <;> rfl) ?_); intro a hA
    refine wl_gcallv _ hA rfl rfl rfl rfl (by decide) (fun hq ev h => exec_call Tryz.func175 (by kernel_rfl) rfl (h.f _) (by first | (simp only [mL, ((h.get 34 rfl).trans (gw_t (beq_t hq))), h.c] <;> rfl) | (simp [mL, ((h.get 34 rfl).trans (gw_t (beq_t hq))), h.c, K.cell] <;> rfl))) (fun hq => rightMsg_any m _ (Ht _ (hb0.trans (hb.mono hb0.size)))) fun a w3 hb3 hA => ?_
    replace K := K.below hb3 K.lt
    revert a; refine wka rfl rfl (by decide) rfl rfl rfl ?_; refine wo rfl rfl (by decide) (fun ev e h => by simp [go_sem, h, K.cell] <;> rfl) ?_; intro a hA
    replace hA := hA.keepN [2]
    refine wN (nT (wp_ret (rB (rT ?_))))
    refine ret_1 hA 2 rfl rfl ?_
    exact ⟨ret_bool ((formed_2 nm m hq hq1 hq2).symm), (hb0.trans (hb.mono hb0.size)).trans (hb3.mono (Nat.le_trans hb0.size hb.size))⟩
   case nC =>
    refine wp_skip (nB (nT (wS (wR ?_))))
    revert a; (iterate 4 refine wo rfl rfl (by decide) (fun ev e h => by simp [go_sem, h, K.cell] <;> rfl) ?_); (iterate 3 refine wg _ rfl rfl rfl rfl (by decide) (fun hq ev e h => by simp [go_sem, h, ↓gw_t (beq_t hq), K.cell] <;> rfl) ?_); refine wka rfl rfl (by decide) rfl rfl rfl ?_; refine wo rfl rfl (by decide) (fun ev e h => by simp [go_sem, h, K.cell] <;> rfl) ?_; refine wg _ rfl rfl rfl rfl (by decide) (fun hq ev e h => by simp [go_sem, h, ↓gw_t (beq_t hq), K.cell] <;> rfl) ?_; intro a hA
    replace hA := hA.keepN [1, 45, 46]
    revert a; refine wg _ rfl rfl rfl rfl (by decide) (fun hq ev e h => by simp [go_sem, h, ↓gw_t (beq_t hq), K.cell] <;> rfl) ?_; intro a hA
    refine wl_gcallv _ hA rfl rfl rfl rfl (by decide) (fun hq ev h => exec_call Tryz.func174 (by kernel_rfl) rfl (h.f _) (by first | (simp only [mL, ((h.get 47 rfl).trans (gw_t (beq_t hq))), h.c] <;> rfl) | (simp [mL, ((h.get 47 rfl).trans (gw_t (beq_t hq))), h.c, K.cell] <;> rfl))) (fun hq => bare_any (m.uid : Nat) m.date m.flags m.a m.b.length m.c _) fun a w3 hb3 hA => ?_
    replace K := K.below hb3 K.lt
    revert a; refine wka rfl rfl (by decide) rfl rfl rfl ?_; refine wo rfl rfl (by decide) (fun ev e h => by simp [go_sem, h, K.cell] <;> rfl) ?_; (iterate 4 refine wg _ rfl rfl rfl rfl (by decide) (fun hq ev e h => by simp [go_sem, h, ↓gw_t (beq_t hq), K.cell] <;> rfl) ?_); refine wka rfl rfl (by decide) rfl rfl rfl ?_; refine wo rfl rfl (by decide) (fun ev e h => by simp [go_sem, h, K.cell] <;> rfl) ?_; intro a hA
    replace hA := hA.keepN [2]
    refine wN (nT (wp_ret ?_))
    refine ret_1 hA 2 rfl rfl ?_
    exact ⟨ret_bool ((formed_3 nm m hq hq1 hq2).symm), hb0.trans (hb3.mono hb0.size)⟩
end Go.Proofs.YtkljkbeahdipfaaGreatDoor
/-
  Walks: live messages that go are taken from a log's row.
-/
namespace Go.Proofs.YtkljkbeahdipfaaGreatDoor
open Go.RowKit
set_option linter.unusedSimpArgs false
set_option linter.unusedVariables false
structure LiveV where
 m : MsgV
 ep : Nat
 at_ : Nat
def liveC (x : LiveV) : List Value := [.int .u32 (x.m.uid : Nat), .int .i64 x.m.date, .int .i64 x.m.flags, .slice x.m.a x.m.b.length x.m.c, .int .u32 (x.ep : Nat), .int .i64 (x.at_ : Nat)]
theorem liveC_one (x : LiveV) : ∀ u ∈ liveC x, u.oneCell' = true := by
 intro u hu
 unfold liveC at hu
 simp only [List.mem_cons, List.not_mem_nil, or_false] at hu
 rcases hu with rfl | rfl | rfl | rfl | rfl | rfl <;> rfl
def liveSh : Sh LiveV := ⟨201, 116, 6, 64, .agg #[.int .u32 0, .int .i64 0, .int .i64 0, .slice none 0 0, .int .u32 0, .int .i64 0], liveC, fun x => [(x.m.a, x.m.b)], fun _ => rfl, liveC_one, Tryz.underlying116, by kernel_rfl, rfl, by decide, by decide⟩
/-- does a note take it away? -/
def goesL (ep uid : Nat) (x : LiveV) : Bool := x.ep == ep && x.m.uid == uid
def leftV (ep uid : Nat) (l : List LiveV) : List LiveV := l.filter fun x => !goesL ep uid x
theorem leftV_succ {ep uid j : Nat} {l : List LiveV} {x : LiveV} (hx : l[j]? = some x) : leftV ep uid (l.take (j + 1)) = leftV ep uid (l.take j) ++ bif goesL ep uid x then [] else [x] := by
 unfold leftV
 rw [List.take_add_one, hx, List.filter_append]
 congr 1
 cases hg : goesL ep uid x <;> simp [hg]
abbrev closL (pn : Nat) : Value := .func (.func 181) #[] #[.pointer (some ⟨pn, 0, none⟩)]
theorem nat_eq (a b : Nat) : ((a : Int) == (b : Int)) = (a == b) := by rw [Bool.eq_iff_iff, beq_iff_eq, beq_iff_eq]; omega
theorem take1_any (pn : Nat) (k : Int) (e : Nat) (nm : ByteArray) (m : MsgV) (x : LiveV) (w : World) (Kn : Blk w pn 109 (noteC k e nm m)) :
 Calls Tryz.prog 181 #[.agg #[.int .u32 (x.m.uid : Nat), .int .i64 x.m.date, .int .i64 x.m.flags, .slice x.m.a x.m.b.length x.m.c, .int .u32 (x.ep : Nat), .int .i64 (x.at_ : Nat)], .pointer (some ⟨pn, 0, none⟩)] w
  fun ev w' => ev = .returned (.bool (goesL e m.uid x)) ∧ Below w.heap.size w w' := by
 unfold noteC at Kn
 refine calls_at 18 Tryz.func181 rfl rfl (Nat.le_of_ble_eq_true rfl) ?_
 intro a hA; replace hA := hA.norm
 refine wS (wR ?_)
 refine wl_new hA rfl rfl (by decide) (fun ev h => by simp [go_sem, h.get 0 rfl]; try first | exact ⟨rfl, rfl⟩ | rfl) fun w1 a (K : Blk _ _ _ _) hz1 hb1 hA => ?_
 replace Kn := Kn.below hb1 Kn.lt
 revert a; refine wo rfl rfl (by decide) (fun ev e h => by simp [go_sem, h, K.cell, Kn.cell, nat_eq] <;> rfl) ?_; intro a hA
 replace hA := hA.keepN [1, 2]
 refine wN (nT (wS (wR ?_)))
 revert a; (iterate 6 refine wo rfl rfl (by decide) (fun ev e h => by simp [go_sem, h, K.cell, Kn.cell, nat_eq] <;> rfl) ?_); (iterate 4 refine wg _ rfl rfl rfl rfl (by decide) (fun hq ev e h => by simp [go_sem, h, ↓gw_t (beq_t hq), K.cell, Kn.cell, nat_eq] <;> rfl) ?_); intro a hA
 replace hA := hA.keepN [9, 12, 13]
 revert a; (iterate 3 refine wg _ rfl rfl rfl rfl (by decide) (fun hq ev e h => by simp [go_sem, h, ↓gw_t (beq_t hq), K.cell, Kn.cell, nat_eq] <;> rfl) ?_); refine wka rfl rfl (by decide) rfl rfl rfl ?_; refine wo rfl rfl (by decide) (fun ev e h => by simp [go_sem, h, K.cell, Kn.cell, nat_eq] <;> rfl) ?_; intro a hA
 replace hA := hA.keepN [3]
 refine wN (nT (wp_ret ?_))
 refine ret_1 hA 3 rfl rfl ?_
 exact ⟨ret_bool (by unfold goesL; rfl), hb1⟩
set_option maxRecDepth 100000 in
set_option maxHeartbeats 1000000 in
theorem indexL_any (pn : Nat) (k : Int) (e : Nat) (nm : ByteArray) (m : MsgV) (A : Option Addr) (c n : Nat) (l : List LiveV) (w : World) (Kn : Blk w pn 109 (noteC k e nm m)) (hl : l.length = n) (hn : n ≤ 16000000) (hr : RowR liveSh w A l) :
 Calls Tryz.prog 228 #[.slice A n c, closL pn] w
  fun ev w' => ∃ r : Int, ev = .returned (.int .i64 r) ∧ (r = -1 ∧ leftV e m.uid l = l ∨ ∃ i : Nat, i < n ∧ r = (i : Nat) ∧ leftV e m.uid (l.take (i + 1)) = l.take i) ∧ Below w.heap.size w w' := by
 have HB := Below.refl w.heap.size w
 unfold closL
 refine calls_at 19 Tryz.func228 rfl rfl (Nat.le_of_ble_eq_true rfl) ?_
 intro a hA; replace hA := hA.norm
 refine wS (wR ?_)
 revert a; refine wo rfl rfl (by decide) (fun ev e h => by simp [go_sem, h] <;> rfl) ?_; intro a hA
 replace hA := hA.keepN [0, 1]
 refine wN (nT (wS (wS (wR ?_))))
 revert a; (iterate 3 refine wo rfl rfl (by decide) (fun ev e h => by simp [go_sem, h] <;> rfl) ?_); intro a hA
 replace hA := hA.keepN [0, 1, 7, 8]
 refine wN (nT (wB ?_))
 refine wp_loop_at (fun kk a wx => ∃ (j : Nat), j + kk = n ∧ At 19 [(0, .slice A n c), (1, .func (.func 181) #[] #[.pointer (some ⟨pn, 0, none⟩)]), (7, .int .i64 (n : Nat)), (8, .int .i64 (j : Nat))] a ∧ leftV e m.uid (l.take j) = l.take j ∧ Below w.heap.size w wx) (n) ?_ ?_
 ·exact ⟨0, by omega, hA, rfl, HB⟩
 clear HB
 rintro kk a wx ⟨j, hjk, hA, hleft, HB⟩
 refine wS (wR ?_)
 revert a; refine wo rfl rfl (by decide) (fun ev e h => by simp [go_sem, h] <;> rfl) ?_; intro a hA
 replace hA := hA.keepN [0, 1, 7, 8, 9]
 refine wN (nT (wS ?_))
 refine wp_if hA 9 _ rfl (fun hq => ?yL) (fun hq => ?nL)
 case yL =>
  have hlt : j < n := by simp at hq; omega
  obtain ⟨x, hx⟩ : ∃ x, l[j]? = some x := ⟨_, List.getElem?_eq_getElem (by omega)⟩
  obtain ⟨ad, rfl, hadl, kz, kk'⟩ := hr.cell hx
  have z0 := (HB.cell (by rw [block_of_add]; exact hadl)).trans (kz _ rfl)
  have z1 := (HB.cell (p := ⟨(ad.add (j * 6)).block, (ad.add (j * 6)).off + 1, none⟩) (by show (ad.add _).block < _; rw [block_of_add]; exact hadl)).trans (kk' 1 _ (by decide) rfl)
  have z2 := (HB.cell (p := ⟨(ad.add (j * 6)).block, (ad.add (j * 6)).off + 2, none⟩) (by show (ad.add _).block < _; rw [block_of_add]; exact hadl)).trans (kk' 2 _ (by decide) rfl)
  have z3 := (HB.cell (p := ⟨(ad.add (j * 6)).block, (ad.add (j * 6)).off + 3, none⟩) (by show (ad.add _).block < _; rw [block_of_add]; exact hadl)).trans (kk' 3 _ (by decide) rfl)
  have z4 := (HB.cell (p := ⟨(ad.add (j * 6)).block, (ad.add (j * 6)).off + 4, none⟩) (by show (ad.add _).block < _; rw [block_of_add]; exact hadl)).trans (kk' 4 _ (by decide) rfl)
  have z5 := (HB.cell (p := ⟨(ad.add (j * 6)).block, (ad.add (j * 6)).off + 5, none⟩) (by show (ad.add _).block < _; rw [block_of_add]; exact hadl)).trans (kk' 5 _ (by decide) rfl)
  have z0 : wx.cell? (ad.add (j * 6)) = some (.int .u32 (x.m.uid : Nat)) := z0
  have jj0 : (0 : Int) ≤ (j : Int) := by omega
  have jj1 : (j : Int) < (n : Int) := by omega
  have hwj : IntKind.i64.wrap ((j : Int) + 1) = (j : Int) + 1 := IntWalk.i64_in _ (by omega)
  refine wp_skip (nT (wS (wB (wS (wR ?_)))))
  revert a; (iterate 2 refine wo rfl rfl (by decide) (fun ev e h => by simp [go_sem, h, z0, z1, z2, z3, z4, z5, jj0, jj1, hwj] <;> rfl) ?_); intro a hA
  replace hA := hA.keepN [0, 1, 5, 7, 8]
  refine wN (nT (wS (wR ?_)))
  revert a; (iterate 5 refine wo rfl rfl (by decide) (fun ev e h => by simp [go_sem, h, z0, z1, z2, z3, z4, z5, jj0, jj1, hwj] <;> rfl) ?_); intro a hA
  refine wl_call hA rfl rfl (by decide) (fun ev h => by simp [go_sem, h.get 11 rfl, h.get 15 rfl, z0, z1, z2, z3, z4, z5, jj0, jj1, hwj]; try first | exact ⟨rfl, rfl⟩ | rfl) (take1_any pn k e nm m x _ (Kn.below HB Kn.lt)) ?_
  rintro e w2 ⟨rfl, hb2⟩
  refine ⟨_, rfl, fun a hA => ?_⟩
  have HB := HB.trans (hb2.mono HB.size)
  replace hA := hA.keepN [0, 1, 5, 7, 8, 16]
  refine wN (nT ?_)
  obtain ⟨q, hqe⟩ : ∃ q, goesL e m.uid x = q := ⟨_, rfl⟩
  rw [hqe] at hA
  have hl1 := leftV_succ (ep := e) (uid := m.uid) hx
  rw [hqe, hleft] at hl1
  refine wp_if hA 16 _ rfl (fun hq2 => ?yR) (fun hq2 => ?nR)
  case yR =>
   subst hq2
   refine wS (wR ?_)
   revert a; (iterate 2 refine wo rfl rfl (by decide) (fun ev e h => by simp [go_sem, h, z0, z1, z2, z3, z4, z5, jj0, jj1, hwj] <;> rfl) ?_); intro a hA
   replace hA := hA.keepN [4]
   refine wN (nT (wp_ret (rB (rT (rT (rB (rT ?_)))))))
   refine ret_1 hA 4 rfl rfl ?_
   exact ⟨_, rfl, .inr ⟨j, hlt, rfl, by rw [hl1]; simp⟩, HB⟩
  case nR =>
   subst hq2
   refine wp_skip (nB (nT (wR ?_)))
   revert a; (iterate 2 refine wo rfl rfl (by decide) (fun ev e h => by simp [go_sem, h, z0, z1, z2, z3, z4, z5, jj0, jj1, hwj] <;> rfl) ?_); intro a hA
   replace hA := hA.keepN [0, 1, 7, 8]
   refine wN (nT ?_)
   rw [show ((j : Int) + 1) = ((j + 1 : Nat) : Int) by omega] at hA
   exact ⟨kk - 1, by omega, j + 1, by omega, hA, by rw [hl1, List.take_add_one, hx]; rfl, HB⟩
 case nL =>
  have hjn : j = n := by simp at hq; omega
  subst hjn
  rw [← hl, List.take_length] at hleft
  replace hA := hA.keepN []
  refine wp_exit (xT (xT (xB (nT (wS (wR ?_))))))
  revert a; refine wo rfl rfl (by decide) (fun ev e h => by simp [go_sem, h] <;> rfl) ?_; intro a hA
  replace hA := hA.keepN [4]
  refine wN (nT (wp_ret ?_))
  refine ret_1 hA 4 rfl rfl ?_
  exact ⟨_, rfl, .inl ⟨rfl, hleft⟩, HB⟩
set_option maxRecDepth 100000 in
set_option maxHeartbeats 2000000 in
theorem deleteL_any (pn B : Nat) (k : Int) (e : Nat) (nm : ByteArray) (m : MsgV) (A : Option Addr) (c n : Nat) (l : List LiveV) (w : World) (Kn : Blk w pn 109 (noteC k e nm m)) (hBw : B ≤ w.heap.size) (hn : n ≤ 16000000) (hl : l.length = n) (ho : OwnR liveSh B w (.slice A n c) l) :
 Calls Tryz.prog 180 #[.slice A n c, closL pn] w
  fun ev w' => ∃ v, ev = .returned v ∧ OwnR liveSh B w' v (leftV e m.uid l) ∧ Apart (fun i => (Value.slice A n c).ownBlock = some i) w w' := by
 have hrr : RowR liveSh w A l := by
  obtain ⟨A', c', e', hm, _⟩ := ho.reads
  injection e' with e1 _ e3
  subst e1
  exact hm
 have Idx := indexL_any pn k e nm m A c n l w Kn hl hn hrr
 unfold closL at Idx ⊢
 refine calls_at 42 Tryz.func180 rfl rfl (Nat.le_of_ble_eq_true rfl) ?_
 intro a hA; replace hA := hA.norm
 refine wS (wR ?_)
 revert a; refine wo rfl rfl (by decide) (fun ev e h => by simp [go_sem, h] <;> rfl) ?_; intro a hA
 replace hA := hA.keepN [0, 1]
 refine wN (nT (wS (wR ?_)))
 revert a; (iterate 2 refine wo rfl rfl (by decide) (fun ev e h => by simp [go_sem, h] <;> rfl) ?_); intro a hA
 refine wl_call hA rfl rfl (by decide) (fun ev h => exec_call Tryz.func228 (by kernel_rfl) rfl (h.f _) (by first | (simp only [mL, h.get 8 rfl, h.get 9 rfl, h.c] <;> rfl) | (simp [mL, h.get 8 rfl, h.get 9 rfl, h.c] <;> rfl))) (Idx) ?_
 rintro e w1 ⟨r, rfl, hI, hb1⟩
 refine ⟨_, rfl, fun a hA => ?_⟩
 revert a; refine wo rfl rfl (by decide) (fun ev e h => by simp [go_sem, h] <;> rfl) ?_; intro a hA
 replace hA := hA.keepN [0, 1, 5]
 refine wN (nT (wS (wS (wR ?_))))
 revert a; (iterate 2 refine wo rfl rfl (by decide) (fun ev e h => by simp [go_sem, h] <;> rfl) ?_); intro a hA
 replace hA := hA.keepN [0, 1, 5, 12]
 refine wN (nT ?_)
 refine wp_if hA 12 _ rfl (fun hq => ?yA) (fun hq => ?nA)
 case yA =>
  have hr1 : r = -1 := by simpa using hq
  refine wS (wR ?_)
  revert a; (iterate 2 refine wo rfl rfl (by decide) (fun ev e h => by simp [go_sem, h] <;> rfl) ?_); intro a hA
  replace hA := hA.keepN [4]
  refine wN (nT (wp_ret (rT ?_)))
  refine ret_1 hA 4 rfl rfl ?_
  rcases hI with ⟨_, h1⟩ | ⟨i, _, h1, _⟩
  ·refine ⟨_, rfl, by rw [h1]; exact ho.below hb1, ?_⟩
   exact (Apart.refl _ w).below hb1
  ·omega
 case nA =>
  have hr1 : ¬ r = -1 := by simpa using hq
  obtain ⟨i0, hi0, hr0, hleft0⟩ : ∃ i : Nat, i < n ∧ r = (i : Nat) ∧ leftV e m.uid (l.take (i + 1)) = l.take i := by
   rcases hI with ⟨h, _⟩ | h
   ·exact absurd h hr1
   ·exact h
  clear hI hq hr1 Idx
  subst hr0
  obtain ⟨g, cc, hv, hgB, hglt⟩ := ho.at_ (by omega)
  injection hv with hv1 _ hv3
  subst hv1 hv3
  have hgpn : g ≠ pn := own_ne ho.row Kn (by decide) g rfl
  have hoffS : ∀ x ∈ l, ∀ p ∈ liveSh.parts x, 0 < p.2.length → ∀ ad, p.1 = some ad → ¬ (ad.block = g) := fun x hx p hp hn ad ha h => ho.off g rfl x hx p hp hn ad ha h
  have hap : Apart (fun q => q = g) w w1 := (Apart.refl _ w).below hb1
  have ho1 := ho.below hb1
  have hwi : IntKind.i64.wrap ((i0 : Int) + 1) = (i0 : Int) + 1 := IntWalk.i64_in _ (by omega)
  refine wp_skip (nT (wS (wS (wR ?_))))
  revert a; (iterate 3 refine wo rfl rfl (by decide) (fun ev e h => by simp [go_sem, h, hwi] <;> rfl) ?_); intro a hA
  replace hA := hA.keepN [0, 1, 5, 6]
  refine wN (nT (wB ?_))
  rw [show ((i0 : Int) + 1) = ((i0 + 1 : Nat) : Int) by omega] at hA
  refine wp_loop_at (fun kk a wx => ∃ (i j : Nat) (l' : List LiveV), j + kk = n ∧ i < j ∧ At 42 [(0, .slice (some ⟨g, 0, none⟩) n c), (1, .func (.func 181) #[] #[.pointer (some ⟨pn, 0, none⟩)]), (5, .int .i64 (i : Nat)), (6, .int .i64 (j : Nat))] a ∧ OwnR liveSh B wx (.slice (some ⟨g, 0, none⟩) n c) l' ∧ l'.take i = leftV e m.uid (l.take j) ∧ l'.drop j = l.drop j ∧ (∀ x ∈ l', x ∈ l) ∧ Apart (fun q => q = g) w wx) (n - (i0 + 1)) ?_ ?_
  ·exact ⟨i0, i0 + 1, l, by omega, by omega, hA, ho1, hleft0.symm, rfl, fun _ h => h, hap⟩
  clear hap ho1 hleft0
  rintro kk a wx ⟨i, j, l', hjk, hij, hA, ho', htake, hdrop, hmem, hap⟩
  have hlen' : l'.length = n := ho'.len
  have hBb : Below B w wx := hap.toBelow (fun q hq => by omega) hBw
  have hsz := hap.size
  refine wS (wS (wR ?_))
  revert a; (iterate 4 refine wo rfl rfl (by decide) (fun ev e h => by simp [go_sem, h] <;> rfl) ?_); intro a hA
  replace hA := hA.keepN [0, 1, 5, 6, 19]
  refine wN (nT ?_)
  refine wp_if hA 19 _ rfl (fun hq => ?yL) (fun hq => ?nL)
  case yL =>
   have hlt : j < n := by simp at hq; omega
   obtain ⟨x, hx⟩ : ∃ x, l[j]? = some x := ⟨_, List.getElem?_eq_getElem (by omega)⟩
   have hx' : l'[j]? = some x := by
    have h1 := congrArg List.head? hdrop
    rwa [List.head?_drop, List.head?_drop, hx] at h1
   obtain ⟨y, hy⟩ : ∃ y, l'[i]? = some y := ⟨_, List.getElem?_eq_getElem (by omega)⟩
   have hfr := ho'.row
   rw [ho'.len] at hfr
   have cell : ∀ {q z}, l'[q]? = some z → ∀ d u, (liveC z)[d]? = some u → d < 6 → wx.cell? ⟨g, q * 6 + d, none⟩ = some u := fun {q z} hz d u hu hd => by
    rw [hfr.cellAt _ (by have := (List.getElem?_eq_some_iff.1 hz).1; show _ < n * 6; omega)]
    exact (flatK_at liveSh.len l' q d z hz hd).trans hu
   have k0 : wx.cell? ⟨g, j * 6, none⟩ = some (.int .u32 (x.m.uid : Nat)) := cell hx' 0 _ rfl (by decide)
   have k1 := cell hx' 1 _ rfl (by decide)
   have k2 := cell hx' 2 _ rfl (by decide)
   have k3 := cell hx' 3 _ rfl (by decide)
   have k4 := cell hx' 4 _ rfl (by decide)
   have k5 := cell hx' 5 _ rfl (by decide)
   have jj0 : (0 : Int) ≤ (j : Int) := by omega
   have jj1 : (j : Int) < (n : Int) := by omega
   have ii0 : (0 : Int) ≤ (i : Int) := by omega
   have ii1 : (i : Int) < (n : Int) := by omega
   have hwj : IntKind.i64.wrap ((j : Int) + 1) = (j : Int) + 1 := IntWalk.i64_in _ (by omega)
   have hwi : IntKind.i64.wrap ((i : Int) + 1) = (i : Int) + 1 := IntWalk.i64_in _ (by omega)
   have hl1 := leftV_succ (ep := e) (uid := m.uid) hx
   refine wp_skip (nT (wS (wB (wS (wR ?_)))))
   revert a; (iterate 4 refine wo rfl rfl (by decide) (fun ev e h => by simp [go_sem, h, add0, k0, k1, k2, k3, k4, k5, jj0, jj1] <;> rfl) ?_); intro a hA
   refine wl_local [.int .u32 (x.m.uid : Nat), .int .i64 x.m.date, .int .i64 x.m.flags, .slice x.m.a x.m.b.length x.m.c, .int .u32 (x.ep : Nat), .int .i64 (x.at_ : Nat)] hA rfl rfl (by decide) (fun ev h => by simp [go_sem, add0, k0, k1, k2, k3, k4, k5, jj0, jj1]; try first | exact ⟨rfl, rfl⟩ | rfl) rfl rfl (by rfl) (fun w1 g ev hb h => by simp [go_sem, h.get 7 rfl, h.get 25 rfl, add0, k0, k1, k2, k3, k4, k5, jj0, jj1, setAll, hb.cell, hb.frozen]) fun w5 a (K7 : Blk _ _ _ _) hz5 hb5 hA => ?_
   replace ho' := ho'.below hb5
   replace hap := hap.below hb5
   replace hBb := hBb.trans (hb5.mono (Nat.le_trans hBw hsz))
   replace hA := hA.keepN [0, 1, 5, 6, 7]
   refine wN (nT (wS (wR ?_)))
   revert a; (iterate 2 refine wo rfl rfl (by decide) (fun ev e h => by simp [go_sem, h, K7.cell] <;> rfl) ?_); intro a hA
   refine wl_call hA rfl rfl (by decide) (fun ev h => by simp [go_sem, h.get 26 rfl, h.get 27 rfl, K7.cell]; try first | exact ⟨rfl, rfl⟩ | rfl) (take1_any pn k e nm m x _ (hap.blk Kn (fun h => hgpn h.symm))) ?_
   rintro e w7 ⟨rfl, hb7⟩
   refine ⟨_, rfl, fun a hA => ?_⟩
   replace ho' := ho'.below hb7
   replace K7 := K7.below hb7 K7.lt
   replace hBb := hBb.trans (hb7.mono (Nat.le_trans hBw hap.size))
   replace hap := hap.below hb7
   revert a; refine wo rfl rfl (by decide) (fun ev e h => by simp [go_sem, h, K7.cell] <;> rfl) ?_; intro a hA
   replace hA := hA.keepN [0, 1, 5, 6, 7, 29]
   refine wN (nT ?_)
   obtain ⟨q, hqe⟩ : ∃ q, goesL e m.uid x = q := ⟨_, rfl⟩
   rw [hqe] at hA
   rw [hqe] at hl1
   have hdrop1 : l'.drop (j + 1) = l.drop (j + 1) := by rw [← List.tail_drop, hdrop, List.tail_drop]
   have hmx : x ∈ l' := List.mem_of_getElem? hx'
   clear k0 k1 k2 k3 k4 k5 cell hfr
   refine wp_if hA 29 _ rfl (fun hq2 => ?yR) (fun hq2 => ?nR)
   case yR =>
    have hq2 : q = false := by simpa using hq2
    subst hq2
    rw [cond_false] at hl1
    have hfr := ho'.row
    rw [ho'.len] at hfr
    obtain ⟨h8, h9⟩ := ho'.put hy (ho'.octs x hmx) (ho'.off g rfl x hmx)
    have cell : ∀ {q z}, l'[q]? = some z → ∀ d u, (liveC z)[d]? = some u → d < 6 → w7.cell? ⟨g, q * 6 + d, none⟩ = some u := fun {q z} hz d u hu hd => by
     rw [hfr.cellAt _ (by have := (List.getElem?_eq_some_iff.1 hz).1; show _ < n * 6; omega)]
     exact (flatK_at liveSh.len l' q d z hz hd).trans hu
    have q0 : w7.cell? ⟨g, i * 6, none⟩ = some (.int .u32 (y.m.uid : Nat)) := cell hy 0 _ rfl (by decide)
    have q1 := cell hy 1 _ rfl (by decide)
    have q2 := cell hy 2 _ rfl (by decide)
    have q3 := cell hy 3 _ rfl (by decide)
    have q4 := cell hy 4 _ rfl (by decide)
    have q5 := cell hy 5 _ rfl (by decide)
    have hap9 := hap.grown h9 (fun q hq => .inr (Option.some.inj hq).symm)
    clear cell
    refine wS (wR ?_)
    revert a; (iterate 4 refine wo rfl rfl (by decide) (fun ev e h => by simp [go_sem, h, add0, ii0, ii1, K7.cell, q0, q1, q2, q3, q4, q5, hfr.frozenAt] <;> rfl) ?_); intro a hA
    refine wl_skip hA rfl rfl (fun ev h => by simp [go_sem, h.get 33 rfl, h.get 32 rfl, add0, ii0, ii1, K7.cell, q0, q1, q2, q3, q4, q5, hfr.frozenAt]; try first | exact ⟨rfl, rfl⟩ | rfl) ?_
    replace hA := hA.keepN [0, 1, 5, 6]
    refine wN (nT (wR ?_))
    revert a; (iterate 3 refine wo rfl rfl (by decide) (fun ev e h => by simp [go_sem, h, hwi, hwj] <;> rfl) ?_); intro a hA
    replace hA := hA.keepN [0, 1, 5, 6]
    refine wN (nB (nT (wR ?_)))
    revert a; (iterate 3 refine wo rfl rfl (by decide) (fun ev e h => by simp [go_sem, h, hwi, hwj] <;> rfl) ?_); intro a hA
    replace hA := hA.keepN [0, 1, 5, 6]
    refine wN (nT ?_)
    rw [show ((j : Int) + 1) = ((j + 1 : Nat) : Int) by omega, show ((i : Int) + 1) = ((i + 1 : Nat) : Int) by omega] at hA
    refine ⟨kk - 1, by omega, i + 1, j + 1, _, by omega, by omega, hA, h8, ?_, ?_, ?_, hap9⟩
    ·rw [List.take_add_one, List.take_set_of_le (Nat.le_refl i), List.getElem?_set_self (by omega), htake, hl1]; rfl
    ·rw [List.drop_set_of_lt (by omega)]; exact hdrop1
    ·intro m' hm'
     rcases List.mem_or_eq_of_mem_set hm' with h | h
     ·exact hmem _ h
     ·subst h; exact hmem _ hmx
   case nR =>
    have hq2 : q = true := by simpa using hq2
    subst hq2
    rw [cond_true] at hl1
    refine wp_skip (nB (nT (wR ?_)))
    revert a; (iterate 3 refine wo rfl rfl (by decide) (fun ev e h => by simp [go_sem, h, hwj] <;> rfl) ?_); intro a hA
    replace hA := hA.keepN [0, 1, 5, 6]
    refine wN (nT ?_)
    rw [show ((j : Int) + 1) = ((j + 1 : Nat) : Int) by omega] at hA
    exact ⟨kk - 1, by omega, i, j + 1, l', by omega, by omega, hA, ho', by rw [htake, hl1, List.append_nil], hdrop1, hmem, hap⟩
  case nL =>
   have hjn : j = n := by simp at hq; omega
   subst hjn
   obtain ⟨A9, c9, e9, _, hc9⟩ := ho'.reads
   injection e9 with _ _ e9
   subst e9
   rw [hlen'] at hc9
   have hij2 : i ≤ j := by omega
   have hci : ¬ c = i := by omega
   have hjc : j ≤ c := hc9
   obtain ⟨w9, hcl, ho9, hg9⟩ := run_clearR (d := c - i) ho' hij (by rfl)
   have hcl : ∀ ty, (Builtin.clear_ #[116] ty #[.slice (some ⟨g, i * 6, none⟩) (j - i) (c - i)]).run Tryz.prog wx = .ok (.tuple #[]) w9 := hcl
   have hap9 := hap.grown hg9 (fun q hq => .inr (Option.some.inj hq).symm)
   rw [← hl, List.take_length] at htake
   rw [htake] at ho9
   have hic : i ≤ c := by omega
   replace hA := hA.keepN [0, 5]
   refine wp_exit (xT (xT (xB (nT (wS (wR ?_))))))
   revert a; (iterate 3 refine wo rfl rfl (by decide) (fun ev e h => by simp [go_sem, h, add0, hij2, hci, hjc] <;> rfl) ?_); intro a hA
   refine wl_val0 hA rfl rfl (fun ev h => by simp [go_sem, h.get 38 rfl, add0, hij2, hci, hjc, hcl]; try first | exact ⟨rfl, rfl⟩ | rfl) ?_
   replace hA := hA.keepN [0, 5]
   refine wN (nT (wS (wR ?_)))
   revert a; (iterate 4 refine wo rfl rfl (by decide) (fun ev e h => by simp [go_sem, h, hic, add0] <;> rfl) ?_); intro a hA
   replace hA := hA.keepN [4]
   refine wN (nT (wp_ret ?_))
   refine ret_1 hA 4 rfl rfl ?_
   refine ⟨_, rfl, ho9, hap9.mono' fun q hq => ?_⟩
   rw [hq]; rfl
end Go.Proofs.YtkljkbeahdipfaaGreatDoor
/-
  Numbers in bytes, sums, pages, and what is read back, as plain values.
-/
namespace Go.Proofs.YtkljkbeahdipfaaGreatDoor
/-- a number in n bytes -/
def be : Nat → Nat → List UInt8
 | 0, _ => []
 | n + 1, v => UInt8.ofNat (v / 256 ^ n) :: be n v
theorem be_length : ∀ n v, (be n v).length = n
 | 0, _ => rfl
 | n + 1, v => by rw [be, List.length_cons, be_length n v]
theorem be_snoc : ∀ n v, be (n + 1) v = be n (v / 256) ++ [UInt8.ofNat v]
 | 0, v => by simp [be]
 | n + 1, v => by
   rw [be, be_snoc n v, be, List.cons_append]
   congr 2
   rw [Nat.div_div_eq_div_mul, Nat.pow_succ, Nat.mul_comm]
/-- what bytes say -/
def beVal (l : List UInt8) : Nat := l.foldl (fun a c => a * 256 + c.toNat) 0
theorem beVal_snoc (l : List UInt8) (c : UInt8) : beVal (l ++ [c]) = beVal l * 256 + c.toNat := by simp [beVal, List.foldl_append]
theorem beVal_lt (l : List UInt8) : beVal l < 256 ^ l.length := by
 suffices h : ∀ (n : Nat) (l : List UInt8), l.length = n → beVal l < 256 ^ n from h _ l rfl
 intro n
 induction n with
 | zero => intro l h; rw [List.length_eq_zero_iff.1 h]; decide
 | succ n ih =>
   intro l h
   have hne : l ≠ [] := by intro e; rw [e] at h; cases h
   have e := (List.dropLast_concat_getLast hne).symm
   have hd : l.dropLast.length = n := by rw [List.length_dropLast]; omega
   have h1 := ih _ hd
   have h2 := (l.getLast hne).toNat_lt
   rw [e, beVal_snoc, Nat.pow_succ]
   omega
theorem beVal_be : ∀ n v, v < 256 ^ n → beVal (be n v) = v
 | 0, v, h => by simp at h; subst h; rfl
 | n + 1, v, h => by
   rw [be_snoc, beVal_snoc, beVal_be n (v / 256) (by rw [Nat.pow_succ] at h; exact Nat.div_lt_of_lt_mul (by omega))]
   have : (UInt8.ofNat v).toNat = v % 256 := by simp
   omega
/-- one bit of a sum -/
def crcBit (c : Nat) : Nat := if c % 2 = 1 then (c / 2) ^^^ 3988292384 else c / 2
def crcBits : Nat → Nat → Nat
 | 0, c => c
 | n + 1, c => crcBits n (crcBit c)
def crcByte (c : Nat) (x : UInt8) : Nat := crcBits 8 (c ^^^ x.toNat)
def crcGo (c : Nat) (l : List UInt8) : Nat := l.foldl crcByte c
def crc (l : List UInt8) : Nat := crcGo 4294967295 l ^^^ 4294967295
theorem crcBit_lt {c : Nat} (h : c < 2 ^ 32) : crcBit c < 2 ^ 32 := by
 unfold crcBit
 have : c / 2 < 2 ^ 32 := by omega
 split
 ·exact Nat.xor_lt_two_pow this (by decide)
 ·exact this
theorem crcBits_lt : ∀ (n : Nat) {c : Nat}, c < 2 ^ 32 → crcBits n c < 2 ^ 32
 | 0, _, h => h
 | n + 1, _, h => crcBits_lt n (crcBit_lt h)
theorem crcByte_lt {c : Nat} (h : c < 2 ^ 32) (x : UInt8) : crcByte c x < 2 ^ 32 :=
 crcBits_lt 8 (Nat.xor_lt_two_pow h (by have := x.toNat_lt; omega))
theorem crcGo_lt : ∀ (l : List UInt8) {c : Nat}, c < 2 ^ 32 → crcGo c l < 2 ^ 32
 | [], _, h => h
 | x :: r, _, h => crcGo_lt r (crcByte_lt h x)
theorem crc_lt (l : List UInt8) : crc l < 2 ^ 32 := Nat.xor_lt_two_pow (crcGo_lt l (by decide)) (by decide)
theorem crcGo_snoc (c : Nat) (l : List UInt8) (x : UInt8) : crcGo c (l ++ [x]) = crcByte (crcGo c l) x := by simp [crcGo, List.foldl_append]
theorem crcBits_succ : ∀ (n c : Nat), crcBits (n + 1) c = crcBit (crcBits n c)
 | 0, _ => rfl
 | n + 1, c => by
   show crcBits (n + 1) (crcBit c) = crcBit (crcBits n (crcBit c))
   exact crcBits_succ n (crcBit c)
/-- a page -/
def pageHead (k : Nat) (p : List UInt8) : List UInt8 := [112, 97, 103, UInt8.ofNat k] ++ be 4 p.length ++ p
def pageB (k : Nat) (p : List UInt8) : List UInt8 := pageHead k p ++ be 4 (crc (pageHead k p))
theorem pageHead_length (k : Nat) (p : List UInt8) : (pageHead k p).length = p.length + 8 := by
 unfold pageHead; simp [be_length]; omega
theorem pageB_length (k : Nat) (p : List UInt8) : (pageB k p).length = p.length + 12 := by
 unfold pageB; rw [List.length_append, pageHead_length, be_length]
def midOf (b : List UInt8) : List UInt8 := (b.drop 8).take (b.length - 12)
/-- what a page holds; none: it is damaged -/
def pageGet (k : Nat) (b : List UInt8) : Option (List UInt8) := if 12 ≤ b.length ∧ (midOf b).length ≤ 60000 ∧ pageB k (midOf b) = b then some (midOf b) else none
/-- a text, with its length ahead -/
def textB (s : ByteArray) : List UInt8 := be 2 s.size ++ s.data.toList
/-- what is left to be read; whether something wasn't there -/
structure InM where
 rest : List UInt8
 bad : Bool
def inTake (s : InM) (n : Int) : List UInt8 × InM :=
 if s.bad = true then ([], s) else if n < 0 ∨ (s.rest.length : Int) < n then ([], ⟨[], true⟩) else (s.rest.take n.toNat, ⟨s.rest.drop n.toNat, false⟩)
def inN (s : InM) (n : Nat) : Nat × InM := (beVal (inTake s n).1, (inTake s n).2)
def inText (s : InM) : ByteArray × InM := (⟨(inTake (inN s 2).2 (inN s 2).1).1.toArray⟩, (inTake (inN s 2).2 (inN s 2).1).2)
theorem inTake_append (l r : List UInt8) (n : Nat) (h : l.length = n) : inTake ⟨l ++ r, false⟩ n = (l, ⟨r, false⟩) := by
 unfold inTake
 rw [if_neg (by simp), if_neg (by simp; omega)]
 subst h
 simp
theorem inN_be (n v : Nat) (r : List UInt8) (h : v < 256 ^ n) : inN ⟨be n v ++ r, false⟩ n = (v, ⟨r, false⟩) := by
 unfold inN
 rw [inTake_append _ _ n (be_length n v), beVal_be n v h]
theorem inText_textB (s : ByteArray) (r : List UInt8) (h : s.size < 65536) : inText ⟨textB s ++ r, false⟩ = (s, ⟨r, false⟩) := by
 unfold inText textB
 rw [List.append_assoc, inN_be 2 s.size _ (by omega)]
 simp only
 rw [inTake_append _ _ s.size (by simp)]
end Go.Proofs.YtkljkbeahdipfaaGreatDoor
/-
  SHA-256, plainly: words are numbers below 2^32.
-/
namespace Go.Proofs.YtkljkbeahdipfaaGreatDoor
def rotr (x n : Nat) : Nat := (x >>> n ||| x <<< (32 - n)) % 4294967296
theorem rotr_lt (x n : Nat) : rotr x n < 4294967296 := Nat.mod_lt _ (by decide)
def shaK : List Nat := [
 0x428a2f98, 0x71374491, 0xb5c0fbcf, 0xe9b5dba5, 0x3956c25b, 0x59f111f1, 0x923f82a4, 0xab1c5ed5,
 0xd807aa98, 0x12835b01, 0x243185be, 0x550c7dc3, 0x72be5d74, 0x80deb1fe, 0x9bdc06a7, 0xc19bf174,
 0xe49b69c1, 0xefbe4786, 0x0fc19dc6, 0x240ca1cc, 0x2de92c6f, 0x4a7484aa, 0x5cb0a9dc, 0x76f988da,
 0x983e5152, 0xa831c66d, 0xb00327c8, 0xbf597fc7, 0xc6e00bf3, 0xd5a79147, 0x06ca6351, 0x14292967,
 0x27b70a85, 0x2e1b2138, 0x4d2c6dfc, 0x53380d13, 0x650a7354, 0x766a0abb, 0x81c2c92e, 0x92722c85,
 0xa2bfe8a1, 0xa81a664b, 0xc24b8b70, 0xc76c51a3, 0xd192e819, 0xd6990624, 0xf40e3585, 0x106aa070,
 0x19a4c116, 0x1e376c08, 0x2748774c, 0x34b0bcb5, 0x391c0cb3, 0x4ed8aa4a, 0x5b9cca4f, 0x682e6ff3,
 0x748f82ee, 0x78a5636f, 0x84c87814, 0x8cc70208, 0x90befffa, 0xa4506ceb, 0xbef9a3f7, 0xc67178f2]
/-- bytes up to whole blocks -/
def shaZeros (n : Nat) : Nat := (119 - n % 64) % 64
def shaPad (b : List UInt8) : List UInt8 := b ++ [128] ++ List.replicate (shaZeros b.length) 0 ++ be 8 (b.length * 8)
theorem shaPad_length (b : List UInt8) : (shaPad b).length % 64 = 0 := by
 unfold shaPad shaZeros
 simp only [List.length_append, List.length_cons, List.length_nil, List.length_replicate, be_length]
 omega
def smallS (x : Nat) : Nat := rotr x 7 ^^^ rotr x 18 ^^^ x >>> 3
def smallT (x : Nat) : Nat := rotr x 17 ^^^ rotr x 19 ^^^ x >>> 10
/-- a block's words: the next one -/
def shaNext (w : List Nat) (i : Nat) : Nat := (w.getD (i - 16) 0 + smallS (w.getD (i - 15) 0) + w.getD (i - 7) 0 + smallT (w.getD (i - 2) 0)) % 4294967296
def shaWord (b : List UInt8) (i : Nat) : Nat := beVal ((b.drop (4 * i)).take 4)
/-- the first words of a block -/
def shaW (b : List UInt8) : Nat → List Nat
 | 0 => []
 | i + 1 => shaW b i ++ [if i < 16 then shaWord b i else shaNext (shaW b i) i]
theorem shaW_length (b : List UInt8) : ∀ n, (shaW b n).length = n
 | 0 => rfl
 | n + 1 => by unfold shaW; rw [List.length_append, shaW_length b n]; rfl
def bigS (x : Nat) : Nat := rotr x 6 ^^^ rotr x 11 ^^^ rotr x 25
def bigT (x : Nat) : Nat := rotr x 2 ^^^ rotr x 13 ^^^ rotr x 22
def choose (e f g : Nat) : Nat := (e &&& f) ^^^ ((4294967295 - e) &&& g)
def most (a b c : Nat) : Nat := (a &&& b) ^^^ (a &&& c) ^^^ (b &&& c)
structure ShaS where
 a : Nat
 b : Nat
 c : Nat
 d : Nat
 e : Nat
 f : Nat
 g : Nat
 h : Nat
def ShaS.l (s : ShaS) : List Nat := [s.a, s.b, s.c, s.d, s.e, s.f, s.g, s.h]
def shaStep (k w : Nat) (s : ShaS) : ShaS :=
 ⟨(s.h + bigS s.e + choose s.e s.f s.g + k + w + bigT s.a + most s.a s.b s.c) % 4294967296, s.a, s.b, s.c, (s.d + (s.h + bigS s.e + choose s.e s.f s.g + k + w)) % 4294967296, s.e, s.f, s.g⟩
def shaSteps (w : List Nat) (s : ShaS) : Nat → ShaS
 | 0 => s
 | i + 1 => shaStep (shaK.getD i 0) (w.getD i 0) (shaSteps w s i)
def shaAdd (s t : ShaS) : ShaS := ⟨(s.a + t.a) % 4294967296, (s.b + t.b) % 4294967296, (s.c + t.c) % 4294967296, (s.d + t.d) % 4294967296, (s.e + t.e) % 4294967296, (s.f + t.f) % 4294967296, (s.g + t.g) % 4294967296, (s.h + t.h) % 4294967296⟩
def shaMix (s : ShaS) (blk : List UInt8) : ShaS := shaAdd (shaSteps (shaW blk 64) s 64) s
def sha0 : ShaS := ⟨0x6a09e667, 0xbb67ae85, 0x3c6ef372, 0xa54ff53a, 0x510e527f, 0x9b05688c, 0x1f83d9ab, 0x5be0cd19⟩
/-- so many blocks -/
def shaGo (all : List UInt8) : Nat → ShaS
 | 0 => sha0
 | i + 1 => shaMix (shaGo all i) ((all.drop (64 * i)).take 64)
def digest (b : List UInt8) : List UInt8 := (shaGo (shaPad b) ((shaPad b).length / 64)).l.flatMap (be 4)
-- bits
theorem compl_bit {e : Nat} (he : e < 2 ^ 32) (i : Nat) : (4294967295 - e).testBit i = (decide (i < 32) && !e.testBit i) := by
 have h := Nat.testBit_two_pow_sub_succ he i
 rw [show 2 ^ 32 - (e + 1) = 4294967295 - e by omega] at h
 exact h
/-- a word turned, in 32 bits -/
theorem rotr_u32 {x n : Nat} (hx : x < 4294967296) : (x <<< (32 - n)) % 4294967296 ||| x >>> n = rotr x n := by
 unfold rotr
 have h1 : x >>> n < 4294967296 := Nat.lt_of_le_of_lt (by rw [Nat.shiftRight_eq_div_pow]; exact Nat.div_le_self _ _) hx
 rw [show (4294967296 : Nat) = 2 ^ 32 from rfl] at *
 rw [Nat.or_mod_two_pow, Nat.mod_eq_of_lt h1, Nat.or_comm]
end Go.Proofs.YtkljkbeahdipfaaGreatDoor
/-
  Frames and scans, plainly.
-/
namespace Go.Proofs.YtkljkbeahdipfaaGreatDoor
def frameHd (k : Nat) (p : List UInt8) : List UInt8 := [99, 117, 98, UInt8.ofNat k] ++ be 4 p.length
def frameB (k : Nat) (p : List UInt8) : List UInt8 := frameHd k p ++ be 4 (crc (frameHd k p)) ++ digest p ++ p
theorem ShaS.l_len (s : ShaS) : (s.l.flatMap (be 4)).length = 32 := by
 simp [ShaS.l, be_length]
theorem digest_length (b : List UInt8) : (digest b).length = 32 := ShaS.l_len _
theorem frameHd_length (k : Nat) (p : List UInt8) : (frameHd k p).length = 8 := by unfold frameHd; simp [be_length]
theorem frameB_length (k : Nat) (p : List UInt8) : (frameB k p).length = 44 + p.length := by
 unfold frameB; simp [be_length, frameHd_length, digest_length]; omega
/-- what a head tells -/
def hdKind (b : List UInt8) : Nat := (b.getD 3 0).toNat
def hdLen (b : List UInt8) : Nat := beVal ((b.drop 4).take 4)
def hdCrc (b : List UInt8) : Nat := beVal ((b.drop 8).take 4)
def headOk (b : List UInt8) : Bool := decide (44 ≤ b.length) && (b.take 3 == [99, 117, 98]) && (decide (1 ≤ hdKind b) && decide (hdKind b ≤ 3) && decide (hdLen b ≤ 30000) && (hdCrc b == crc (b.take 8)))
theorem headOk_len {b : List UInt8} (h : headOk b = true) : 44 ≤ b.length := by
 unfold headOk at h
 simp only [Bool.and_eq_true, decide_eq_true_eq] at h
 exact h.1.1
theorem headOk_short {b : List UInt8} (h : b.length < 44) : headOk b = false := by
 cases hb : headOk b with
 | false => rfl
 | true => have := headOk_len hb; omega
/-- a record: where, of which kind, what -/
structure RecB where
 at_ : Nat
 kind : Nat
 b : List UInt8
def payOf (b : List UInt8) : List UInt8 := (b.drop 44).take (hdLen b)
def recsAt (b : List UInt8) (at_ : Nat) : List RecB := bif digest (payOf (b.drop at_)) == ((b.drop at_).drop 12).take 32 then [⟨at_, hdKind (b.drop at_), payOf (b.drop at_)⟩] else []
/-- all records from a place on; where the rest is torn -/
def scanAt (b : List UInt8) (at_ torn : Nat) (l : List RecB) : List RecB × Nat :=
 if h : at_ < b.length then
  if headOk (b.drop at_) = true then
   if hdLen (b.drop at_) + 44 + at_ > b.length then (l, at_)
   else scanAt b (at_ + 44 + hdLen (b.drop at_)) (at_ + 44 + hdLen (b.drop at_)) (l ++ recsAt b at_)
  else scanAt b (at_ + 1) torn l
 else (l, torn)
termination_by b.length - at_
def scan (b : List UInt8) : List RecB × Nat := scanAt b 0 0 []
section
variable {b : List UInt8} {at_ torn : Nat} {l : List RecB}
theorem scan_end (h : b.length ≤ at_) : scanAt b at_ torn l = (l, torn) := by
 rw [scanAt, dif_neg (by omega)]
theorem scan_torn (h : headOk (b.drop at_) = true) (h2 : b.length < hdLen (b.drop at_) + 44 + at_) : scanAt b at_ torn l = (l, at_) := by
 have h3 := headOk_len h
 rw [List.length_drop] at h3
 rw [scanAt, dif_pos (by omega), if_pos h, if_pos h2]
theorem scan_rec (h : headOk (b.drop at_) = true) (h2 : hdLen (b.drop at_) + 44 + at_ ≤ b.length) : scanAt b at_ torn l = scanAt b (at_ + 44 + hdLen (b.drop at_)) (at_ + 44 + hdLen (b.drop at_)) (l ++ recsAt b at_) := by
 have h3 := headOk_len h
 rw [List.length_drop] at h3
 rw [scanAt, dif_pos (by omega), if_pos h, if_neg (by omega)]
theorem scan_next (h : headOk (b.drop at_) = false) (h2 : at_ < b.length) : scanAt b at_ torn l = scanAt b (at_ + 1) torn l := by
 rw [scanAt, dif_pos h2, if_neg (by rw [h]; decide)]
/-- nothing stands between -/
theorem scan_skip : ∀ (k at_ : Nat), (∀ j, at_ ≤ j → j < at_ + k → headOk (b.drop j) = false) → at_ + k ≤ b.length → scanAt b at_ torn l = scanAt b (at_ + k) torn l
 | 0, _, _, _ => rfl
 | k + 1, at_, h, hl => by
   rw [scan_next (h at_ (Nat.le_refl _) (by omega)) (by omega)]
   have := scan_skip k (at_ + 1) (fun j h1 h2 => h j (by omega) (by omega)) (by omega)
   rw [this]
   congr 1
   omega
theorem scan_none (h : ∀ j, at_ ≤ j → headOk (b.drop j) = false) : scanAt b at_ torn l = (l, torn) := by
 rcases Nat.lt_or_ge at_ b.length with h1 | h1
 ·rw [scan_skip (b.length - at_) at_ (fun j h2 _ => h j h2) (by omega)]
  exact scan_end (by omega)
 ·exact scan_end h1
end
-- frames are found
theorem frame_parts (k : Nat) (p r : List UInt8) : frameB k p ++ r = [99, 117, 98, UInt8.ofNat k] ++ (be 4 p.length ++ (be 4 (crc (frameHd k p)) ++ (digest p ++ (p ++ r)))) := by
 unfold frameB frameHd
 simp only [List.append_assoc]
theorem crc_bound (l : List UInt8) : crc l < 4294967296 := by
 unfold crc
 exact Nat.xor_lt_two_pow (n := 32) (crcGo_lt _ (by decide)) (by decide)
theorem beVal_be' (n v : Nat) (h : v < 256 ^ n) : beVal (be n v) = v := by
 exact beVal_be n v h
theorem frame_head {k : Nat} {p : List UInt8} (r : List UInt8) (h1 : 1 ≤ k) (h2 : k ≤ 3) (hp : p.length ≤ 30000) : headOk (frameB k p ++ r) = true ∧ hdKind (frameB k p ++ r) = k ∧ hdLen (frameB k p ++ r) = p.length ∧ payOf (frameB k p ++ r) = p ∧ ((frameB k p ++ r).drop 12).take 32 = digest p := by
 have e1 : hdKind (frameB k p ++ r) = k := by
  rw [frame_parts]
  unfold hdKind
  show (UInt8.ofNat k).toNat = k
  simp; omega
 have e2 : hdLen (frameB k p ++ r) = p.length := by
  rw [frame_parts]
  unfold hdLen
  rw [List.drop_left' (by rfl), List.take_left' (be_length _ _)]
  exact beVal_be' 4 _ (by show _ < 4294967296; omega)
 have e3 : hdCrc (frameB k p ++ r) = crc (frameHd k p) := by
  rw [frame_parts]
  unfold hdCrc
  rw [← List.append_assoc, List.drop_left' (by simp [be_length]), List.take_left' (be_length _ _)]
  exact beVal_be' 4 _ (crc_bound _)
 have e4 : (frameB k p ++ r).take 8 = frameHd k p := by
  unfold frameB
  rw [List.append_assoc, List.append_assoc, List.append_assoc, List.take_left' (frameHd_length k p)]
 have e5 : (frameB k p ++ r).take 3 = [99, 117, 98] := by rw [frame_parts]; rfl
 refine ⟨?_, e1, e2, ?_, ?_⟩
 ·unfold headOk
  rw [e1, e2, e3, e4, e5, List.length_append, frameB_length]
  simp [h1, h2, hp]
  omega
 ·unfold payOf
  rw [e2, frame_parts, ← List.append_assoc, ← List.append_assoc, ← List.append_assoc, List.drop_left' (by simp [be_length, digest_length]), List.take_left' rfl]
 ·rw [frame_parts, ← List.append_assoc, ← List.append_assoc, List.drop_left' (by simp [be_length]), List.take_left' (digest_length p)]
theorem scan_frame {b r : List UInt8} {k at_ torn : Nat} {p : List UInt8} {l : List RecB} (hb : b.drop at_ = frameB k p ++ r) (h1 : 1 ≤ k) (h2 : k ≤ 3) (hp : p.length ≤ 30000) : scanAt b at_ torn l = scanAt b (at_ + 44 + p.length) (at_ + 44 + p.length) (l ++ [⟨at_, k, p⟩]) := by
 obtain ⟨e1, e2, e3, e4, e5⟩ := frame_head r h1 h2 hp
 have hl := congrArg List.length hb
 rw [List.length_drop, List.length_append, frameB_length] at hl
 rw [← hb] at e1 e2 e3 e4 e5
 rw [scan_rec e1 (by rw [e3]; omega), e3]
 congr 2
 unfold recsAt
 rw [e4, e5, e2]
 simp
end Go.Proofs.YtkljkbeahdipfaaGreatDoor
/-
  bytes.Equal.
-/
namespace Go.Proofs.YtkljkbeahdipfaaGreatDoor
open Go.RowKit
theorem bytesIn8 {w : World} {B n : Nat} {A : Option Addr} {l : List UInt8} (hl : l.length = n) (hr : Reads w B 1 A n (u8s l)) : Lib.BytesIn w A n (ints8 l) := by
 cases A with
 | none =>
   obtain ⟨rfl, rfl⟩ := hr.empty8
   exact Lib.BytesIn.nil _ _ _
 | some a => exact Lib.BytesIn.of_cells (ints8_at hl hr)
theorem equal_any (A1 A2 : Option Addr) (n c m d : Nat) (l1 l2 : List UInt8) (w : World) (h1 : l1.length = n) (h2 : l2.length = m) (r1 : Reads w w.heap.size 1 A1 n (u8s l1)) (r2 : Reads w w.heap.size 1 A2 m (u8s l2)) :
 Calls Tryz.prog 68 #[.slice A1 n c, .slice A2 m d] w fun e w' => e = .returned (.bool (l1 == l2)) ∧ w' = w := by
 have h := Tryz.bytes_Equal_all A1 A2 n c m d (ints8 l1) (ints8 l2) w (by simpa [ints8] using h1) (by simpa [ints8] using h2) (bytesIn8 h1 r1) (bytesIn8 h2 r2)
 rw [bytesOf_ints8, bytesOf_ints8] at h
 exact h
end Go.Proofs.YtkljkbeahdipfaaGreatDoor
/-
  Walk of the document's numbers in bytes.
-/
namespace Go.Proofs.YtkljkbeahdipfaaGreatDoor
open Go.RowKit
theorem made8 (n : Nat) : madeCells (Value.int IntKind.u8 0).cells n = (u8s (List.replicate n 0)).toArray := by
 unfold madeCells u8s
 apply Array.ext
 ·simp
 ·intro i h1 h2; simp [Value.cells, Nat.mod_one]
end Go.Proofs.YtkljkbeahdipfaaGreatDoor
/-
  Numbers, texts and bytes that are put: the program's codec.Out.
-/
namespace Go.Proofs.YtkljkbeahdipfaaGreatDoor
open Go.RowKit
/-- a block of bytes -/
def U8Row (w : World) (g : Nat) : Prop := ∃ cs p, w.heap[g]? = some (.cells cs 5 p)
theorem U8Row.same {w w' : World} {g : Nat} (h : U8Row w g) (e : w'.heap[g]? = w.heap[g]?) : U8Row w' g := by
 obtain ⟨cs, p, hg⟩ := h
 exact ⟨cs, p, e.trans hg⟩
theorem lt_of_get {w : World} {g : Nat} {o : Obj} (h : w.heap[g]? = some o) : g < w.heap.size := by
 rcases Nat.lt_or_ge g w.heap.size with h' | h'
 ·exact h'
 ·rw [Array.getElem?_eq_none h'] at h; cases h
theorem U8Row.lt {w : World} {g : Nat} (h : U8Row w g) : g < w.heap.size := by
 obtain ⟨cs, p, hg⟩ := h
 exact lt_of_get hg
/-- but for one block and for rows of bytes that are not older than B nothing has turned -/
structure OBut (B o : Nat) (w w' : World) : Prop where
 os : w'.os = w.os
 tape : w'.tape = w.tape
 output : w'.output = w.output
 size : w.heap.size ≤ w'.heap.size
 block : ∀ i, i < w.heap.size → i ≠ o → (i < B ∨ ¬ U8Row w i) → w'.heap[i]? = w.heap[i]?
section
variable {B o : Nat} {w w' w'' : World}
theorem OBut.refl (B o : Nat) (w : World) : OBut B o w w := ⟨rfl, rfl, rfl, Nat.le_refl _, fun _ _ _ _ => rfl⟩
theorem OBut.trans (h : OBut B o w w') (k : OBut B o w' w'') : OBut B o w w'' := by
 refine ⟨k.os.trans h.os, k.tape.trans h.tape, k.output.trans h.output, Nat.le_trans h.size k.size, fun i hi h1 h2 => ?_⟩
 have e := h.block i hi h1 h2
 refine (k.block i (Nat.lt_of_lt_of_le hi h.size) h1 ?_).trans e
 rcases h2 with h2 | h2
 ·exact .inl h2
 ·exact .inr fun hf => h2 (hf.same e.symm)
theorem OBut.of_below (k : Below w.heap.size w w') : OBut B o w w' := ⟨k.os, k.tape, k.output, k.size, fun i hi _ _ => k.block i hi⟩
theorem OBut.below (h : OBut B o w w') (k : Below w'.heap.size w' w'') : OBut B o w w'' := h.trans (.of_below k)
theorem OBut.set_ (h : OBut B o w w') (i : Nat) (u : Value) : OBut B o w (w'.setCell ⟨o, i, none⟩ u) :=
 h.trans ⟨rfl, rfl, rfl, by simp [World.setCell], fun j _ h1 _ => Below.heap_setCell _ _ _ _ h1⟩
theorem OBut.grown (h : OBut B o w w') {base : Nat} {v : Value} {n : Nat} {xs : List Value} (hv : w'.ownsRow base 5 1 v n xs) (hB : B ≤ base) (g : w'.grownBy w'' v.ownBlock) : OBut B o w w'' := by
 refine h.trans ⟨g.os, g.tape, g.output, g.size, fun i hi _ h2 => g.block i hi (fun e => ?_)⟩
 have hlt := hv.lt i e.symm
 rcases h2 with h2 | h2
 ·omega
 ·refine h2 ?_
  rcases hv.2 with ⟨rfl, _⟩ | ⟨g', cap, cur, rfl, _, hg, _⟩
  ·cases e
  ·injection e with e
   subst e
   exact ⟨cur, _, hg⟩
theorem OBut.toBelow (h : OBut B o w w') {C : Nat} (hC : C ≤ w.heap.size) (hB : C ≤ B) (ho : C ≤ o) : Below C w w' :=
 ⟨h.os, h.tape, h.output, h.size, fun i hi => h.block i (by omega) (by omega) (.inl (by omega))⟩
theorem Blk.obut {g : Nat} {t : TypeId} {cs : Array Value} (h : Blk w g t cs) (hb : OBut B o w w') (hg : g ≠ o) (ht : t ≠ 5) : Blk w' g t cs := by
 refine (hb.block g h.lt hg (.inr ?_)).trans h
 rintro ⟨cs', p, h'⟩
 unfold Blk at h
 rw [h] at h'
 injection h' with h'
 injection h' with _ h'
 exact ht h'
end
structure OutAt (w : World) (B o : Nat) (l : List UInt8) (sp : Bool) (v : Value) : Prop where
 le : B ≤ o
 cells : Blk w o 206 #[v, .bool sp]
 own : w.ownsRow B 5 1 v l.length (u8s l)
theorem OutAt.below {w w' : World} {B o : Nat} {l : List UInt8} {sp : Bool} {v : Value} (h : OutAt w B o l sp v) (hb : Below w.heap.size w w') : OutAt w' B o l sp v :=
 ⟨h.le, h.cells.below hb h.cells.lt, own_below h.own hb⟩
theorem OutAt.c0 {w : World} {B o : Nat} {l : List UInt8} {sp : Bool} {v : Value} (h : OutAt w B o l sp v) : w.cell? ⟨o, 0, none⟩ = some v := by rw [h.cells.cell]; rfl
theorem OutAt.c1 {w : World} {B o : Nat} {l : List UInt8} {sp : Bool} {v : Value} (h : OutAt w B o l sp v) : w.cell? ⟨o, 1, none⟩ = some (.bool sp) := by rw [h.cells.cell]; rfl
theorem out_new {w : World} {B : Nat} (hB : B ≤ w.heap.size) : OutAt (w.alloc (.cells #[.slice none 0 0, .bool false] 206)) B w.heap.size [] false (.slice none 0 0) :=
 ⟨hB, Blk.new w _ _, World.ownsRow_nil _ _ _ _⟩
/-- append of bytes, shut: so that a run equation serves the walk -/
def append8S (args : Array Value) : Sem Next := do pure (.value (← Builtin.append_ #[22, 22] 22 args))
theorem builtin_append8 (cs : Array Bool) (args : Array Value) : builtin .append #[22, 22] 22 cs args = append8S args := rfl
theorem run_append8 {w : World} {B : Nat} {v : Value} {l m : List UInt8} (h : w.ownsRow B 5 1 v l.length (u8s l)) {A : Option Addr} {n : Nat} (c : Nat) {Bd : Nat} (hn : n = m.length) (hr : Reads w Bd 1 A n (u8s m)) (hlen : l.length + m.length ≤ 1000000000) (hB : B ≤ w.heap.size) :
 ∃ A' c' w', (append8S #[v, .slice A n c]).run Tryz.prog w = .ok (.value (.slice A' (l ++ m).length c')) w' ∧ w'.ownsRow B 5 1 (.slice A' (l ++ m).length c') (l ++ m).length (u8s (l ++ m)) ∧ w.grownBy w' v.ownBlock := by
 subst hn
 obtain ⟨i0, hi0, hz0, hz1, hz2⟩ := info_parts u8_info
 obtain ⟨v', w', hrun, ho, hg⟩ := run_append_any (P := Tryz.prog) w B 22 22 5 i0 _ 1 1 Tryz.underlying22 hi0 hz0 hz1 hz2 rfl (by omega) v l.length (u8s l) h A m.length c (u8s m) (Gives.of_reads hr (u8s_one m)) (by unfold maxLen; omega) (by omega) hB
 rw [← u8s_append, ← List.length_append] at ho
 obtain ⟨A', c', rfl, _, _⟩ := own_reads ho
 exact ⟨A', c', w', by unfold append8S; simp only [Sem.run_bind, hrun, Result.andThen_ok, Sem.run_pure], ho, hg⟩
theorem out_ne {w : World} {B o : Nat} {l : List UInt8} {sp : Bool} {v : Value} (h : OutAt w B o l sp v) : some o ≠ v.ownBlock := fun e => by
 rcases h.own.2 with ⟨rfl, _⟩ | ⟨g', cap, cur, rfl, _, hgg, _⟩
 ·cases e
 ·injection e with e
  subst e
  have := h.cells
  unfold Blk at this
  rw [this] at hgg
  injection hgg with hgg
  injection hgg with _ hgg
  exact absurd hgg (by decide)
theorem out_push {X w2 : World} {B o : Nat} {l l2 : List UInt8} {sp : Bool} {v v2 : Value} (h : OutAt X B o l sp v) (hg : X.grownBy w2 v.ownBlock) (hown : w2.ownsRow B 5 1 v2 l2.length (u8s l2)) :
 Blk w2 o 206 #[v, .bool sp] ∧ OutAt (w2.setCell ⟨o, 0, none⟩ v2) B o l2 sp v2 ∧ OBut B o X (w2.setCell ⟨o, 0, none⟩ v2) := by
 have ho2 := h.cells.grown hg (out_ne h)
 refine ⟨ho2, ⟨h.le, ho2.set_ 0 _, own_keep hown fun g hgg => Below.heap_setCell _ _ _ _ (fun e => ?_)⟩, ((OBut.refl B o X).grown h.own (Nat.le_refl B) hg).set_ 0 _⟩
 rcases hown.2 with ⟨h0, _⟩ | ⟨g', cap, cur, h0, _, hgg', _⟩
 ·rw [h0] at hgg; cases hgg
 ·rw [h0] at hgg
  injection hgg with hgg
  subst hgg
  simp only at e
  subst e
  unfold Blk at ho2
  rw [ho2] at hgg'
  injection hgg' with hgg'
  injection hgg' with _ hgg'
  exact absurd hgg' (by decide)
theorem shr_bytes (v m : Nat) : (v : Int) / 2 ^ (8 * m) = ((v / 256 ^ m : Nat) : Int) := by
 have e : (256 : Nat) ^ m = 2 ^ (8 * m) := by rw [Nat.pow_mul]
 rw [e, Int.natCast_ediv, Int.natCast_pow]; rfl
section
attribute [local go_sem ↓ 100000] builtin_append8
set_option maxRecDepth 100000 in
theorem out_N {w : World} {B o : Nat} {l : List UInt8} {sp : Bool} {v0 : Value} (h : OutAt w B o l sp v0) (hB : B ≤ w.heap.size) (hl : l.length ≤ 900000000) (v n : Nat) (hn : 1 ≤ n ∧ n ≤ 7) (hv : v < 256 ^ n) :
 Calls Tryz.prog 129 #[.pointer (some ⟨o, 0, none⟩), .int .i64 (v : Nat), .int .i64 (n : Nat)] w fun e w' => e = .returned (.tuple #[]) ∧ (∃ v', OutAt w' B o (l ++ be n v) sp v') ∧ OBut B o w w' := by
 have hv7 : v < 72057594037927936 := Nat.lt_of_lt_of_le hv (Nat.le_trans (Nat.pow_le_pow_right (by omega) hn.2) (by decide))
 have H := Lib.hid h
 have n1 : decide ((n : Int) < 1) = false := by simp; omega
 have n2 : decide (7 < (n : Int)) = false := by simp; omega
 have n3 : decide ((v : Int) < 0) = false := by simp
 have hz : (v : Int) / 2 ^ (8 * n) = 0 := by
  rw [shr_bytes, Nat.div_eq_of_lt hv]; rfl
 go_enter Tryz.func129, Tryz.ntmps129
 go_wp2
 go_loopw [6] (fun i wr => ∃ (m : Nat) (l1 : List UInt8) (v1 : Value), i = .int .i64 ((m : Int) - 1) ∧ m ≤ n ∧ Hid (l1 ++ be m v = l ++ be n v) ∧ Hid (OutAt wr B o l1 sp v1) ∧ Hid (OBut B o w wr)) (fun i _ => (intOf i + 1).toNat)
 case atStart => exact ⟨n, l, v0, by go_num, Nat.le_refl _, rfl, H, OBut.refl _ _ _⟩
 case round =>
  obtain ⟨m, l1, v1, rfl, hm, hl1, ho, hb⟩ := hrel
  rcases m with _ | m
  ·go_wp2
   go_end0
   have h1 := ho.out
   have h2 := hl1.out
   rw [be, List.append_nil] at h2
   rw [h2] at h1
   exact ⟨rfl, ⟨v1, h1⟩, hb.out⟩
  ·have e : (((m + 1 : Nat) : Int) - 1) = (m : Int) := by omega
   rw [e]
   obtain ⟨qm, hqm⟩ : ∃ qm, v / 256 ^ m = qm := ⟨_, rfl⟩
   have hq : (v : Int) / 2 ^ (8 * m) = (qm : Int) := by rw [shr_bytes, hqm]
   have hs8 : (((UInt8.ofNat qm).toNat : Nat) : Int) = (qm : Int) % 256 := by simp
   have hll : l1.length ≤ 900000010 := by
    have := congrArg List.length hl1.out
    rw [List.length_append, List.length_append, be_length, be_length] at this
    omega
   have hbx := ((Below.refl wr.heap.size wr).alloc (Nat.le_refl _) (.cells #[.int .u8 (((UInt8.ofNat qm).toNat : Nat) : Int)] 5)).drew
   have hox := ho.out.below hbx
   obtain ⟨A2, c2, w2, E1, hown, hg⟩ := run_append8 (n := 1) (m := [UInt8.ofNat qm]) hox.own 1 rfl (lit_one wr (UInt8.ofNat qm)).drew (by simp; omega) (Nat.le_trans (Nat.le_trans hB hb.out.size) hbx.size)
   have hl2 : (l1 ++ [UInt8.ofNat qm]) ++ be m v = l ++ be n v := by rw [List.append_assoc, ← hl1.out, ← hqm]; rfl
   obtain ⟨l2, hl2e⟩ : ∃ l2, l1 ++ [UInt8.ofNat qm] = l2 := ⟨_, rfl⟩
   rw [hl2e] at E1 hown hl2
   obtain ⟨ho2, p1, p2⟩ := out_push hox hg hown
   have HFIN : Hid (OutAt (w2.setCell ⟨o, 0, none⟩ (.slice A2 l2.length c2)) B o l2 sp (.slice A2 l2.length c2) ∧ OBut B o w (w2.setCell ⟨o, 0, none⟩ (.slice A2 l2.length c2))) := ⟨p1, (hb.out.below hbx).trans p2⟩
   rw [hs8] at E1
   have c0 := ho.out.c0
   have hol := ho.out.cells.lt
   have z0 : w2.cell? ⟨o, 0, none⟩ = some v1 := by rw [ho2.cell]; rfl
   have zf := ho2.frozen 0
   have m0 : (0 : Int) ≤ (m : Int) := by omega
   have hm7 : m ≤ 7 := by omega
   have HL2 := Lib.hid hl2
   clear hbx hox hown hg ho2 p1 p2 hl2 hl2e hs8 e hqm hll hl1
   go_wp2
   go_region
   all_goals (try go_wp2)
   go_roundw
   case rel => exact ⟨m, l2, _, by go_num, by omega, HL2, HFIN.out.1, HFIN.out.2⟩
   case measure => simp [intOf]
end
end Go.Proofs.YtkljkbeahdipfaaGreatDoor
/-
  Bytes and texts that are put, and what all of it is: the program's codec.Out; the clone of bytes.
-/
namespace Go.Proofs.YtkljkbeahdipfaaGreatDoor
open Go.RowKit
attribute [local go_sem ↓ 100000] builtin_append8
theorem empty_new (w : World) : (w.alloc (.cells #[] 5)).ownsRow w.heap.size 5 1 (.slice (some ⟨w.heap.size, 0, none⟩) 0 0) ([] : List UInt8).length (u8s []) := bytes_empty w
theorem nil_nil (w : World) : (binOp .eql 22 (.slice none 0 0) (.slice none 0 0)).run Tryz.prog w = .ok (.bool true) w := by kernel_rfl
theorem some_nil (g n c : Nat) (w : World) : (binOp .eql 22 (.slice (some ⟨g, 0, none⟩) n c) (.slice none 0 0)).run Tryz.prog w = .ok (.bool false) w := by kernel_rfl
set_option maxRecDepth 100000 in
theorem sclone_any {w : World} {B n : Nat} {v : Value} {l : List UInt8} (h : w.ownsRow B 5 1 v n (u8s l)) (hl : l.length = n) (hn : n ≤ 900000000) :
 Calls Tryz.prog 136 #[v] w fun e w' => ∃ v, e = .returned v ∧ w'.ownsRow w.heap.size 5 1 v n (u8s l) ∧ Below w.heap.size w w' := by
 obtain ⟨_, _, _, hr, _⟩ := own_reads h
 rcases h.2 with ⟨rfl, rfl⟩ | ⟨g, c, cur, rfl, _⟩
 ·obtain rfl := List.length_eq_zero_iff.1 hl
  have he := nil_nil w
  go_enter Tryz.func136, Tryz.ntmps136
  go_wp2
  go_ret
  exact ⟨_, rfl, World.ownsRow_nil _ _ _ _, Below.refl _ _⟩
 ·have hr := Reads.of_own h
  have he := some_nil g n c w
  have hbx := (Below.refl w.heap.size w).alloc (Nat.le_refl _) (.cells #[] 5)
  obtain ⟨A2, c2, w2, E1, hown, hg⟩ := run_append8 (n := n) (m := l) (empty_new w) c hl.symm (hr.below hbx) (by simp; omega) hbx.size
  have hb2 := hbx.grown hg hbx.size (fun k hk => ((empty_new w).lt k hk).1)
  simp only [List.nil_append] at E1 hown
  rw [hl] at E1 hown
  have HO := Lib.hid hown
  have HB2 := Lib.hid hb2
  clear hr hbx hown hg hb2
  go_enter Tryz.func136, Tryz.ntmps136
  go_wp2
  go_ret
  exact ⟨_, rfl, HO.out, HB2.out⟩
set_option maxRecDepth 100000 in
theorem out_Raw {w : World} {B o : Nat} {l : List UInt8} {sp : Bool} {v0 : Value} (h : OutAt w B o l sp v0) (hB : B ≤ w.heap.size) (hl : l.length ≤ 800000000) (A : Option Addr) (n c : Nat) (m : List UInt8) (hm : m.length = n) (hn : n ≤ 100000000) (hr : Reads w w.heap.size 1 A n (u8s m)) :
 Calls Tryz.prog 176 #[.pointer (some ⟨o, 0, none⟩), .slice A n c] w fun e w' => e = .returned (.tuple #[]) ∧ (∃ v', OutAt w' B o (l ++ m) sp v') ∧ OBut B o w w' := by
 obtain ⟨A2, c2, w2, E1, hown, hg⟩ := run_append8 (n := n) (m := m) h.own c hm.symm hr (by omega) hB
 obtain ⟨ho2, p1, p2⟩ := out_push h hg hown
 have c0 := h.c0
 have z0 : w2.cell? ⟨o, 0, none⟩ = some v0 := by rw [ho2.cell]; rfl
 have zf := ho2.frozen 0
 obtain ⟨l2, hl2⟩ : ∃ l2, l ++ m = l2 := ⟨_, rfl⟩
 rw [hl2] at E1 p1 p2 ⊢
 have H1 := Lib.hid p1
 have H2 := Lib.hid p2
 clear h hr hown hg ho2 p1 p2 hl2
 go_enter Tryz.func176, Tryz.ntmps176
 go_wp2
 go_end0
 exact ⟨rfl, ⟨_, H1.out⟩, H2.out⟩
set_option maxRecDepth 100000 in
theorem out_Text {w : World} {B o : Nat} {l : List UInt8} {sp : Bool} {v0 : Value} (h : OutAt w B o l sp v0) (hB : B ≤ w.heap.size) (hl : l.length ≤ 700000000) (s : ByteArray) (hs : s.size < 65536) :
 Calls Tryz.prog 128 #[.pointer (some ⟨o, 0, none⟩), .string s] w fun e w' => e = .returned (.tuple #[]) ∧ (∃ v', OutAt w' B o (l ++ textB s) sp v') ∧ OBut B o w w' := by
 have HN := Lib.hid (out_N h hB (by omega) s.size 2 (by omega) (by omega))
 have hcv : ∀ w1 : World, (convert 9 22 (.string s)).run Tryz.prog w1 = .ok (.slice (some ⟨w1.heap.size, 0, none⟩) s.size (grownCap w1 s.size 0 5)) (Lib.bytesWorld w1 5 s) := fun w1 => Lib.run_convert_string_bytes w1 9 22 5 s Tryz.underlying9 Tryz.underlying22 Tryz.underlying5
 go_enter Tryz.func128, Tryz.ntmps128
 go_wp2_with fail
 refine HN.out.mono ?_
 rintro e w1 ⟨rfl, ⟨v1, h1⟩, hb1⟩
 have hbx : Below w1.heap.size w1 (Lib.bytesWorld w1 5 s) := ⟨rfl, rfl, rfl, by rw [Lib.bytesWorld_size]; omega, fun k hk => Lib.bytesWorld_at_old w1 5 s k hk⟩
 have hx := h1.below hbx
 have hrd : Reads (Lib.bytesWorld w1 5 s) (Lib.bytesWorld w1 5 s).heap.size 1 (some ⟨w1.heap.size, 0, none⟩) s.size (u8s s.data.toList) := by
  refine ⟨by rw [u8s_length, Array.length_toList, Nat.mul_one]; rfl, fun _ => ⟨_, rfl, by rw [Lib.bytesWorld_size]; exact Nat.lt_succ_self _, fun j u hu => ?_⟩⟩
  have hj : j < s.size := by
   rcases Nat.lt_or_ge j s.size with h | h
   ·exact h
   ·rw [u8s_get, List.getElem?_eq_none (by simpa using h)] at hu; cases hu
  have ha : (⟨w1.heap.size, 0, none⟩ : Addr).add j = ⟨w1.heap.size, j, none⟩ := by unfold Addr.add; split <;> simp_all
  rw [ha, Lib.bytesWorld_cell w1 5 s j hj, ← hu, u8s_get]
  have hj2 : j < s.data.toList.length := by simpa using hj
  rw [List.getD_eq_getElem?_getD, List.getElem?_eq_getElem hj2]
  rfl
 have HR := Lib.hid (out_Raw hx (Nat.le_trans (Nat.le_trans hB hb1.size) hbx.size) (by rw [List.length_append, be_length]; omega) (some ⟨w1.heap.size, 0, none⟩) s.size (grownCap w1 s.size 0 5) s.data.toList rfl (by omega) hrd)
 have HB1 := Lib.hid (hb1.below hbx)
 have hcv1 := hcv w1
 clear hcv hx hrd h1 hb1 hbx
 go_wp2_with fail
 refine HR.out.mono ?_
 rintro e w2 ⟨rfl, ⟨v2, h2⟩, hb2⟩
 have H2 := Lib.hid h2
 have HB2 := Lib.hid (HB1.out.trans hb2)
 clear h2 hb2
 go_wp2
 go_end0
 refine ⟨rfl, ⟨v2, ?_⟩, HB2.out⟩
 have := H2.out
 rw [List.append_assoc] at this
 exact this
set_option maxRecDepth 100000 in
theorem out_End {w : World} {B o : Nat} {l : List UInt8} {v0 : Value} (h : OutAt w B o l false v0) (hl : l.length ≤ 800000000) :
 Calls Tryz.prog 177 #[.pointer (some ⟨o, 0, none⟩)] w fun e w' => ∃ v, e = .returned (.tuple #[v, .int .i64 0]) ∧ w'.ownsRow w.heap.size 5 1 v l.length (u8s l) ∧ Below w.heap.size w w' := by
 have HC := Lib.hid (sclone_any h.own rfl (by omega))
 have c0 := h.c0
 have c1 := h.c1
 clear h
 go_enter Tryz.func177, Tryz.ntmps177
 go_wp2_with fail
 refine HC.out.mono ?_
 rintro e w2 ⟨v, rfl, ho, hb⟩
 go_wp2
 go_ret2
 exact ⟨v, rfl, ho, hb⟩
end Go.Proofs.YtkljkbeahdipfaaGreatDoor
/-
  Walk of the document's text.
-/
namespace Go.Proofs.YtkljkbeahdipfaaGreatDoor
open Go.RowKit
attribute [local go_sem ↓ 100000] builtin_append8
def append8T (args : Array Value) : Sem Next := do pure (.value (← Builtin.append_ #[22, 9] 22 args))
theorem builtin_append8T (cs : Array Bool) (args : Array Value) : builtin .append #[22, 9] 22 cs args = append8T args := rfl
attribute [local go_sem ↓ 100000] builtin_append8T
end Go.Proofs.YtkljkbeahdipfaaGreatDoor
/-
  What is read back: the program's codec.In.
-/
namespace Go.Proofs.YtkljkbeahdipfaaGreatDoor
open Go.RowKit
/-- but for one block nothing has turned -/
structure IBut (i : Nat) (w w' : World) : Prop where
 os : w'.os = w.os
 tape : w'.tape = w.tape
 output : w'.output = w.output
 size : w.heap.size ≤ w'.heap.size
 block : ∀ j, j < w.heap.size → j ≠ i → w'.heap[j]? = w.heap[j]?
section
variable {i : Nat} {w w' w'' : World}
theorem IBut.refl (i : Nat) (w : World) : IBut i w w := ⟨rfl, rfl, rfl, Nat.le_refl _, fun _ _ _ => rfl⟩
theorem IBut.trans (h : IBut i w w') (k : IBut i w' w'') : IBut i w w'' :=
 ⟨k.os.trans h.os, k.tape.trans h.tape, k.output.trans h.output, Nat.le_trans h.size k.size, fun j hj h1 => (k.block j (Nat.lt_of_lt_of_le hj h.size) h1).trans (h.block j hj h1)⟩
theorem IBut.of_below (k : Below w.heap.size w w') : IBut i w w' := ⟨k.os, k.tape, k.output, k.size, fun j hj _ => k.block j hj⟩
theorem IBut.below (h : IBut i w w') (k : Below w'.heap.size w' w'') : IBut i w w'' := h.trans (.of_below k)
theorem IBut.set_ (h : IBut i w w') (j : Nat) (u : Value) : IBut i w (w'.setCell ⟨i, j, none⟩ u) :=
 h.trans ⟨rfl, rfl, rfl, by simp [World.setCell], fun k _ h1 => Below.heap_setCell _ _ _ _ h1⟩
theorem IBut.toBelow (h : IBut i w w') {C : Nat} (hC : C ≤ w.heap.size) (hi : C ≤ i) : Below C w w' :=
 ⟨h.os, h.tape, h.output, h.size, fun j hj => h.block j (by omega) (by omega)⟩
theorem Reads.ibut {B n : Nat} {A : Option Addr} {l : List UInt8} (h : Reads w B 1 A n (u8s l)) (hB : B ≤ w.heap.size) {t : TypeId} {cs : Array Value} (hi : Blk w i t cs) (hcs : ∀ (k : Int) (j : Nat), cs[j]? ≠ some (.int .u8 k)) (hb : IBut i w w') : Reads w' w'.heap.size 1 A n (u8s l) := by
 refine ⟨h.1, fun hn => ?_⟩
 obtain ⟨ad, e, hlt, hc⟩ := h.2 hn
 have hl : 0 < l.length := by have := h.1; rw [u8s_length] at this; omega
 have h0 := hc 0 _ (by rw [u8s_get, List.getElem?_eq_getElem hl]; rfl)
 have a2 : ad.block ≠ i := by
  intro e
  have hcell := h0
  unfold World.cell? at hcell
  rw [block_of_add, e] at hcell
  unfold Blk at hi
  rw [hi] at hcell
  simp only at hcell
  split at hcell
  ·cases hcell
  ·exact hcs _ _ hcell
 refine ⟨ad, e, Nat.lt_of_lt_of_le hlt (Nat.le_trans hB hb.size), fun j u hu => ?_⟩
 have hk := hb.block ad.block (by omega) a2
 exact (World.cell?_of_block (by rw [block_of_add]; exact hk)).trans (hc j u hu)
end
structure InAt (w : World) (i : Nat) (s : InM) (v : Value) : Prop where
 cells : Blk w i 252 #[v, .bool s.bad]
 row : (v = .slice none 0 0 ∧ s.rest = []) ∨ ∃ ad c, v = .slice (some ad) s.rest.length c ∧ s.rest.length ≤ c ∧ Reads w w.heap.size 1 (some ad) s.rest.length (u8s s.rest) ∧ U8Row w ad.block
section
variable {w w' : World} {i : Nat} {s : InM} {v : Value}
theorem InAt.below (h : InAt w i s v) (hb : Below w.heap.size w w') : InAt w' i s v := by
 refine ⟨h.cells.below hb h.cells.lt, ?_⟩
 rcases h.row with h | ⟨ad, c, e, hc, hr, hu⟩
 ·exact .inl h
 ·exact .inr ⟨ad, c, e, hc, (hr.below hb).more hb.size, hu.same (hb.block _ hu.lt)⟩
theorem InAt.c0 (h : InAt w i s v) : w.cell? ⟨i, 0, none⟩ = some v := by rw [h.cells.cell]; rfl
theorem InAt.c1 (h : InAt w i s v) : w.cell? ⟨i, 1, none⟩ = some (.bool s.bad) := by rw [h.cells.cell]; rfl
theorem in_no8 {A : Option Addr} {n c : Nat} {b : Bool} : ∀ (k : Int) (j : Nat), (#[.slice A n c, .bool b] : Array Value)[j]? ≠ some (.int .u8 k) := by
 intro k j h
 rcases j with _ | _ | j <;> simp at h
set_option maxRecDepth 100000 in
theorem in_take (h : InAt w i s v) (hl : s.rest.length ≤ 1000000) (n : Int) :
 Calls Tryz.prog 172 #[.pointer (some ⟨i, 0, none⟩), .int .i64 n] w fun e w' => ∃ r, e = .returned r ∧ Took w' r (inTake s n).1 ∧ (∃ v', InAt w' i (inTake s n).2 v') ∧ IBut i w w' := by
 obtain ⟨rest, bad⟩ := s
 have c0 := h.c0
 have c1 := h.c1
 have f0 := h.cells.frozen 0
 have f1 := h.cells.frozen 1
 have H := Lib.hid h
 cases bad with
 | true =>
   have e : inTake ⟨rest, true⟩ n = ([], ⟨rest, true⟩) := by unfold inTake; rw [if_pos rfl]
   rw [e]
   clear h
   go_enter Tryz.func172, Tryz.ntmps172
   go_wp2
   go_ret
   exact ⟨_, rfl, Took.nil _, ⟨v, H.out⟩, IBut.refl _ _⟩
 | false =>
   obtain ⟨m, hm⟩ : ∃ m, rest.length = m := ⟨_, rfl⟩
   by_cases hbad : n < 0 ∨ (m : Int) < n
   ·have e : inTake ⟨rest, false⟩ n = ([], ⟨[], true⟩) := by unfold inTake; rw [if_neg (by simp), if_pos (by simpa [hm] using hbad)]
    rw [e]
    have HF : Hid (InAt ((w.setCell ⟨i, 0, none⟩ (.slice none 0 0)).setCell ⟨i, 1, none⟩ (.bool true)) i ⟨[], true⟩ (.slice none 0 0) ∧ IBut i w ((w.setCell ⟨i, 0, none⟩ (.slice none 0 0)).setCell ⟨i, 1, none⟩ (.bool true))) :=
     ⟨⟨(h.cells.set_ 0 _).set_ 1 _, .inl ⟨rfl, rfl⟩⟩, ((IBut.refl i w).set_ 0 _).set_ 1 _⟩
    have hv : ∃ A c, v = .slice A m c := by
     rcases h.row with ⟨e1, e2⟩ | ⟨ad, c, e1, _⟩
     ·simp only at e2; subst e2; exact ⟨none, 0, by rw [← hm]; exact e1⟩
     ·exact ⟨some ad, c, by rw [← hm]; exact e1⟩
    obtain ⟨A, c, rfl⟩ := hv
    clear h
    rcases (show n < 0 ∨ (0 ≤ n ∧ (m : Int) < n) by omega) with hneg | ⟨hpos, hbig⟩
    ·have g1 : decide (n < 0) = true := by simp; omega
     go_enter Tryz.func172, Tryz.ntmps172
     go_wp2
     go_ret
     exact ⟨_, rfl, Took.nil _, ⟨_, HF.out.1⟩, HF.out.2⟩
    ·have g1 : decide (n < 0) = false := by simp; omega
     have g2 : decide ((m : Int) < n) = true := by simp; omega
     go_enter Tryz.func172, Tryz.ntmps172
     go_wp2
     go_ret
     exact ⟨_, rfl, Took.nil _, ⟨_, HF.out.1⟩, HF.out.2⟩
   ·obtain ⟨k, rfl⟩ : ∃ k : Nat, n = k := ⟨n.toNat, by omega⟩
    have hkm : k ≤ m := by omega
    have e : inTake ⟨rest, false⟩ k = (rest.take k, ⟨rest.drop k, false⟩) := by unfold inTake; rw [if_neg (by simp), if_neg (by simpa [hm] using hbad)]; rfl
    rw [e]
    have htl : (rest.take k).length = k := by rw [List.length_take]; omega
    have hdl : (rest.drop k).length = m - k := by rw [List.length_drop, hm]
    have g1 : decide ((k : Int) < 0) = false := by simp
    have g2 : decide ((m : Int) < (k : Int)) = false := by simp; omega
    have i0 : (0 : Int) ≤ (k : Int) := by omega
    have i1 : (k : Int) ≤ (m : Int) := by omega
    rcases h.row with ⟨rfl, e2⟩ | ⟨ad, c, rfl, hc, hr, hu⟩
    ·simp only at e2
     subst e2
     obtain rfl : m = 0 := by rw [← hm]; rfl
     obtain rfl : k = 0 := by omega
     have HF : Hid (InAt (w.setCell ⟨i, 0, none⟩ (.slice none 0 0)) i ⟨[], false⟩ (.slice none 0 0) ∧ IBut i w (w.setCell ⟨i, 0, none⟩ (.slice none 0 0))) :=
      ⟨⟨h.cells.set_ 0 _, .inl ⟨rfl, rfl⟩⟩, (IBut.refl i w).set_ 0 _⟩
     clear h htl hdl
     go_enter Tryz.func172, Tryz.ntmps172
     go_wp2
     go_ret
     exact ⟨_, rfl, Took.nil _, ⟨_, HF.out.1⟩, HF.out.2⟩
    ·simp only at hc hr c0 f0 H
     rw [hm] at hc hr c0 H
     have hsk : Reads w w.heap.size 1 (if c = k then some ad else some (ad.add k)) (m - k) (u8s (rest.drop k)) := hr.drop8 hkm hc
     have htk := hr.take8 hkm
     obtain ⟨ad2, had2, hblk⟩ : ∃ ad2, (if c = k then some ad else some (ad.add k)) = some ad2 ∧ ad2.block = ad.block := by
      split
      ·exact ⟨_, rfl, rfl⟩
      ·exact ⟨_, rfl, block_of_add _ _⟩
     rw [had2] at hsk
     have hI := h.cells.set_ 0 (.slice (some ad2) (m - k) (c - k))
     have hB : IBut i w (w.setCell ⟨i, 0, none⟩ (.slice (some ad2) (m - k) (c - k))) := (IBut.refl i w).set_ 0 _
     have hs2 := hsk.ibut (Nat.le_refl _) h.cells in_no8 hB
     have ht2 := htk.ibut (Nat.le_refl _) h.cells in_no8 hB
     have HF : Hid (Took (w.setCell ⟨i, 0, none⟩ (.slice (some ad2) (m - k) (c - k))) (.slice (some ad) k c) (rest.take k) ∧ (∃ v', InAt (w.setCell ⟨i, 0, none⟩ (.slice (some ad2) (m - k) (c - k))) i ⟨rest.drop k, false⟩ v') ∧ IBut i w (w.setCell ⟨i, 0, none⟩ (.slice (some ad2) (m - k) (c - k)))) :=
      ⟨⟨some ad, c, by rw [htl], by rw [htl]; exact ht2⟩, ⟨_, ⟨hI, .inr ⟨ad2, c - k, by simp only; rw [hdl], by simp only; omega, by simp only; rw [hdl]; exact hs2, by
       rw [hblk]
       refine hu.same (hB.block _ hu.lt (fun e => ?_))
       obtain ⟨cs, p, hg⟩ := hu
       have hx := h.cells
       unfold Blk at hx
       rw [e, hx] at hg
       injection hg with hg
       injection hg with _ hg
       exact absurd hg (by decide)⟩⟩⟩, hB⟩
     have i2 : (k : Int) ≤ (c : Int) := by omega
     have i3 : (m : Int) ≤ (c : Int) := by omega
     clear h hsk htk hI hB hs2 ht2 hr htl hdl e hbad hu hblk
     by_cases hck : c = k
     ·rw [if_pos hck] at had2
      injection had2 with had2
      subst had2
      subst hck
      rw [show m - c = 0 by omega, Nat.sub_self] at HF
      go_enter Tryz.func172, Tryz.ntmps172
      go_wp2
      go_ret
      exact ⟨_, rfl, HF.out⟩
     ·rw [if_neg hck] at had2
      injection had2 with had2
      go_enter Tryz.func172, Tryz.ntmps172
      go_wp2
      go_ret
      exact ⟨_, rfl, HF.out⟩
end
end Go.Proofs.YtkljkbeahdipfaaGreatDoor
/-
  Walk: a note's payload.
-/
namespace Go.Proofs.YtkljkbeahdipfaaGreatDoor
open Go.RowKit
set_option linter.unusedSimpArgs false
set_option linter.unusedVariables false
def enc1 (k : Int) (m : MsgV) : List UInt8 := bif k == 1 then [] else be 4 m.uid
def enc2 (k : Int) (m : MsgV) : List UInt8 := bif k == 2 then be 6 m.date.toNat ++ be 1 m.flags.toNat else []
def enc3 (k : Int) (nm : ByteArray) : List UInt8 := bif k == 3 then [] else textB nm
/-- a note's octets -/
def encV (k : Int) (e : Nat) (nm : ByteArray) (m : MsgV) : List UInt8 := be 4 e ++ enc1 k m ++ enc2 k m ++ enc3 k nm ++ m.b
theorem textB_size (s : ByteArray) : (textB s).length = 2 + s.size := by unfold textB; simp [be_length]
theorem enc1_len (k : Int) (m : MsgV) : (enc1 k m).length ≤ 4 := by unfold enc1; cases k == 1 <;> simp [be_length]
theorem enc2_len (k : Int) (m : MsgV) : (enc2 k m).length ≤ 7 := by unfold enc2; cases k == 2 <;> simp [be_length]
theorem enc3_len (k : Int) (nm : ByteArray) : (enc3 k nm).length ≤ 2 + nm.size := by unfold enc3; cases k == 3 <;> simp [textB_size]
theorem bare_len {d f : Int} {n : Nat} (h : bareV d f n = true) : n = 0 := by
 unfold bareV at h
 simp only [Bool.and_eq_true, beq_iff_eq] at h
 omega
theorem full_parts {m : MsgV} (h : fullV m = true) : m.b.length ≤ 20000 ∧ 1 ≤ m.uid ∧ 0 ≤ m.date ∧ m.date ≤ 253402300799 ∧ 0 ≤ m.flags ∧ m.flags ≤ 31 := by
 unfold fullV fitsDF dateOk at h
 simp only [Bool.and_eq_true, decide_eq_true_eq] at h
 omega
theorem formed_parts {k : Int} {e : Nat} {nm : ByteArray} {m : MsgV} (h : formedV k e nm m = true) : 1 ≤ e ∧ nm.size ≤ 60 ∧ m.b.length ≤ 20000 ∧ (k = 1 ∨ k = 2 ∨ k = 3) ∧ ((k == 2) = true → 0 ≤ m.date ∧ m.date ≤ 253402300799 ∧ 0 ≤ m.flags ∧ m.flags ≤ 31) := by
 unfold formedV at h
 rw [Bool.and_eq_true, decide_eq_true_eq] at h
 obtain ⟨h0, h⟩ := h
 refine ⟨h0, ?_⟩
 cases h1 : k == 1 with
 | true =>
   have e1 : k = 1 := by simpa using h1
   rw [h1, cond_true, Bool.and_eq_true, Bool.and_eq_true] at h
   refine ⟨nameIs_size h.1.1, by rw [bare_len h.1.2]; omega, .inl e1, fun h2 => ?_⟩
   rw [e1] at h2
   cases h2
 | false =>
   rw [h1, cond_false] at h
   cases h2 : k == 2 with
   | true =>
     rw [h2, cond_true, Bool.and_eq_true] at h
     obtain ⟨p1, p2, p3⟩ := full_parts h.2
     exact ⟨nameIs_size h.1, p1, .inr (.inl (by simpa using h2)), fun _ => p3⟩
   | false =>
     rw [h2, cond_false] at h
     simp only [Bool.and_eq_true, beq_iff_eq] at h
     have hz : nm.size = 0 := by
      have := h.1.1.2
      rw [ByteArray.toList_eq] at this
      have h4 := congrArg List.length (List.isEmpty_iff.1 this)
      rw [Array.length_toList] at h4
      exact h4
     exact ⟨by omega, by rw [bare_len h.1.2]; omega, .inr (.inr h.1.1.1), fun e => by cases e⟩
set_option maxRecDepth 100000 in
set_option maxHeartbeats 2000000 in
theorem encode_any (k : Int) (e : Nat) (nm : ByteArray) (m : MsgV) (w : World) (hm : MaxCell w) (hg : 0 < w.heap.size) (htab : Lib.TabIs Tryz.prog w "internal/strconv.uint64pow10" .u64 Lib.pow10Tab) (hs : nm.size ≤ 9223372036854775807) (he : e < 4294967296) (hu : m.uid < 4294967296) (hr : Reads w w.heap.size 1 m.a m.b.length (u8s m.b)) :
 Calls Tryz.prog 117 #[.agg (noteC k e nm m)] w fun ev w' => ∃ r, ev = .returned (.tuple #[r, .int .i64 (bif formedV k e nm m then 0 else 1)]) ∧ Own8 w.heap.size w' r (bif formedV k e nm m then encV k e nm m else []) ∧ Below w.heap.size w w' := by
 have Ht := Lib.tabBelow_of_tabIs htab
 refine calls_at 44 Tryz.func117 rfl rfl (Nat.le_of_ble_eq_true rfl) ?_
 intro a hA; replace hA := hA.norm
 refine wS (wR ?_)
 refine wl_new hA rfl rfl (by decide) (fun ev h => by simp [go_sem, h.get 0 rfl]; try first | exact ⟨rfl, rfl⟩ | rfl) fun w1 a (K : Blk _ _ _ _) hz hb0 hA => ?_
 unfold noteC at K
 revert a; (iterate 2 refine wo rfl rfl (by decide) (fun ev e h => by simp [go_sem, h, K.cell] <;> rfl) ?_); intro a hA
 replace hA := hA.keepN [1]
 refine wN (nT (wS (wS (wR ?_))))
 revert a; refine wo rfl rfl (by decide) (fun ev e h => by simp [go_sem, h, K.cell] <;> rfl) ?_; intro a hA
 have HB := Below.refl w1.heap.size w1
 refine wl_call hA rfl rfl (by decide) (fun ev h => exec_call Tryz.func116 (by kernel_rfl) rfl (h.f _) (by first | (simp only [mL, h.get 5 rfl, h.c] <;> rfl) | (simp [mL, h.get 5 rfl, h.c, K.cell] <;> rfl))) (formed_any k e nm m _ (hm.below hg hb0) (Nat.lt_of_lt_of_le hg hb0.size) (htab := Ht _ hb0) hs) ?_
 rintro e w2 ⟨rfl, hb⟩
 refine ⟨_, rfl, fun a hA => ?_⟩
 replace HB := HB.trans (hb.mono HB.size)
 revert a; refine wo rfl rfl (by decide) (fun ev e h => by simp [go_sem, h, K.cell] <;> rfl) ?_; intro a hA
 replace hA := hA.keepN [1, 7]
 refine wN (nT ?_)
 refine wp_if hA 7 _ rfl (fun hv => ?yA) (fun hv => ?nA)
 case yA =>
  have hv : formedV k e nm m = false := by simpa using hv
  rw [hv, cond_false, cond_false]
  refine wS (wR ?_)
  revert a; (iterate 2 refine wo rfl rfl (by decide) (fun ev e h => by simp [go_sem, h, K.cell] <;> rfl) ?_); intro a hA
  replace hA := hA.keepN [2, 3]
  refine wN (nT (wp_ret (rT ?_)))
  refine ret_2 hA 2 3 rfl rfl rfl ?_
  exact ⟨_, rfl, Own8.nil _, hb0.trans (HB.mono hb0.size)⟩
 case nA =>
  have hv : formedV k e nm m = true := by simpa using hv
  rw [hv, cond_true, cond_true]
  obtain ⟨h1e, h60, h20, hk, hdf⟩ := formed_parts hv
  have l1 := enc1_len k m
  have l2 := enc2_len k m
  have l3 := enc3_len k nm
  refine wp_skip (nT (wS (wR ?_)))
  have hB2 := HB.size
  refine wl_new hA rfl rfl (by decide) (fun ev h => by simp [go_sem, K.cell]; try first | exact ⟨rfl, rfl⟩ | rfl) fun w3 a (Ko : Blk _ _ _ _) hz hb hA => ?_
  replace HB := HB.trans (hb.mono HB.size)
  obtain ⟨o, hoe⟩ : ∃ o, w2.heap.size = o := ⟨_, rfl⟩
  rw [hoe] at Ko hA hB2
  have hO : OutAt w3 w1.heap.size o [] false (.slice none 0 0) := ⟨hB2, Ko, World.ownsRow_nil _ _ _ _⟩
  have K0 := K.below HB K.lt
  have hwe : IntKind.i64.wrap (e : Int) = (e : Int) := IntWalk.i64_in _ (by omega)
  have hwu : IntKind.i64.wrap (m.uid : Int) = (m.uid : Int) := IntWalk.i64_in _ (by omega)
  replace hA := hA.keepN [1, 4]
  refine wN (nT (wS (wR ?_)))
  revert a; (iterate 2 refine wo rfl rfl (by decide) (fun ev e h => by simp [go_sem, h, K0.cell, hwe] <;> rfl) ?_); intro a hA
  refine wl_op hA rfl rfl (by decide) (fun ev h => by simp [go_sem, h.get 9 rfl, K0.cell, hwe]; try first | exact ⟨rfl, rfl⟩ | rfl) fun a hA => ?_
  refine wl_call hA rfl rfl (by decide) (fun ev h => exec_call Tryz.func129 (by kernel_rfl) rfl (h.f _) (by first | (simp only [mL, h.get 4 rfl, h.get 10 rfl, h.c] <;> rfl) | (simp [mL, h.get 4 rfl, h.get 10 rfl, h.c, K0.cell, hwe] <;> rfl))) (out_N hO HB.size (by simp) e 4 (by omega) (show e < 256 ^ 4 from he)) ?_
  rintro e w4 ⟨rfl, ⟨v4, hO⟩, hob⟩
  refine ⟨_, rfl, fun a hA => ?_⟩
  replace HB := HB.trans (hob.toBelow HB.size (Nat.le_refl _) hB2)
  have K0 := K.below HB K.lt
  rw [List.nil_append] at hO
  replace hA := hA.keepN [1, 4]
  refine wN (nT (wS (wS (wR ?_))))
  revert a; (iterate 3 refine wo rfl rfl (by decide) (fun ev e h => by simp [go_sem, h, K0.cell] <;> rfl) ?_); intro a hA
  replace hA := hA.keepN [1, 4, 14]
  refine wN (nT ?_)
  refine wp_join (fun a wx => ∃ v, At 44 [(1, .pointer (some ⟨w.heap.size, 0, none⟩)), (4, .pointer (some ⟨o, 0, none⟩))] a ∧ OutAt wx w1.heap.size o (be 4 e ++ enc1 k m) false v ∧ Below w1.heap.size w1 wx) ?jfJ ?jrJ
  case jfJ =>
   refine wp_if hA 14 _ rfl (fun hq => ?yD) (fun hq => ?nD)
   case yD =>
    have hq : (k == 1) = false := by simpa using hq
    refine wR ?_
    revert a; (iterate 3 refine wo rfl rfl (by decide) (fun ev e h => by simp [go_sem, h, K0.cell, hwu] <;> rfl) ?_); intro a hA
    refine wl_op hA rfl rfl (by decide) (fun ev h => by simp [go_sem, h.get 17 rfl, K0.cell, hwu]; try first | exact ⟨rfl, rfl⟩ | rfl) fun a hA => ?_
    refine wl_call hA rfl rfl (by decide) (fun ev h => exec_call Tryz.func129 (by kernel_rfl) rfl (h.f _) (by first | (simp only [mL, h.get 4 rfl, h.get 18 rfl, h.c] <;> rfl) | (simp [mL, h.get 4 rfl, h.get 18 rfl, h.c, K0.cell, hwu] <;> rfl))) (out_N hO HB.size (by simp [be_length]) m.uid 4 (by omega) (show m.uid < 256 ^ 4 from hu)) ?_
    rintro e w5 ⟨rfl, ⟨v5, hO⟩, hob⟩
    refine ⟨_, rfl, fun a hA => ?_⟩
    replace HB := HB.trans (hob.toBelow HB.size (Nat.le_refl _) hB2)
    replace hA := hA.keepN [1, 4]
    refine wN (nT ?_)
    exact ⟨_, hA, by unfold enc1; rw [hq, cond_false]; exact hO, HB⟩
   case nD =>
    have hq : (k == 1) = true := by simpa using hq
    replace hA := hA.keepN [1, 4]
    refine wp_skip (nT ?_)
    exact ⟨_, hA, by unfold enc1; rw [hq, cond_true, List.append_nil]; exact hO, HB⟩
  clear hO HB K0
  rintro a wx ⟨v6, hA, hO, HB⟩
  have K0 := K.below HB K.lt
  refine wS (wS (wR ?_))
  revert a; (iterate 3 refine wo rfl rfl (by decide) (fun ev e h => by simp [go_sem, h, K0.cell] <;> rfl) ?_); intro a hA
  replace hA := hA.keepN [1, 4, 22]
  refine wN (nT ?_)
  refine wp_join (fun a wx => ∃ v, At 44 [(1, .pointer (some ⟨w.heap.size, 0, none⟩)), (4, .pointer (some ⟨o, 0, none⟩))] a ∧ OutAt wx w1.heap.size o (be 4 e ++ enc1 k m ++ enc2 k m) false v ∧ Below w1.heap.size w1 wx) ?jfL ?jrL
  case jfL =>
   refine wp_if hA 22 _ rfl (fun hq => ?yD2) (fun hq => ?nD2)
   case yD2 =>
    obtain ⟨d0, d1, f0, f1⟩ := hdf hq
    obtain ⟨dt, hdt⟩ : ∃ dt : Nat, m.date = (dt : Int) := ⟨m.date.toNat, by omega⟩
    obtain ⟨ft, hft⟩ : ∃ ft : Nat, m.flags = (ft : Int) := ⟨m.flags.toNat, by omega⟩
    refine wS (wR ?_)
    revert a; (iterate 3 refine wo rfl rfl (by decide) (fun ev e h => by simp [go_sem, h, K0.cell, hdt] <;> rfl) ?_); intro a hA
    refine wl_call hA rfl rfl (by decide) (fun ev h => exec_call Tryz.func129 (by kernel_rfl) rfl (h.f _) (by first | (simp only [mL, h.get 4 rfl, h.get 25 rfl, h.c] <;> rfl) | (simp [mL, h.get 4 rfl, h.get 25 rfl, h.c, K0.cell, hdt] <;> rfl))) (out_N hO HB.size (by simp only [List.length_append, be_length]; omega) dt 6 (by omega) (show dt < 256 ^ 6 by omega)) ?_
    rintro e w7 ⟨rfl, ⟨v7, hO⟩, hob⟩
    refine ⟨_, rfl, fun a hA => ?_⟩
    replace HB := HB.trans (hob.toBelow HB.size (Nat.le_refl _) hB2)
    have K0 := K.below HB K.lt
    replace hA := hA.keepN [1, 4]
    refine wN (nT (wR ?_))
    revert a; (iterate 3 refine wo rfl rfl (by decide) (fun ev e h => by simp [go_sem, h, K0.cell, hft] <;> rfl) ?_); intro a hA
    refine wl_call hA rfl rfl (by decide) (fun ev h => exec_call Tryz.func129 (by kernel_rfl) rfl (h.f _) (by first | (simp only [mL, h.get 4 rfl, h.get 29 rfl, h.c] <;> rfl) | (simp [mL, h.get 4 rfl, h.get 29 rfl, h.c, K0.cell, hft] <;> rfl))) (out_N hO HB.size (by simp only [List.length_append, be_length]; omega) ft 1 (by omega) (show ft < 256 ^ 1 by omega)) ?_
    rintro e w8 ⟨rfl, ⟨v8, hO⟩, hob⟩
    refine ⟨_, rfl, fun a hA => ?_⟩
    replace HB := HB.trans (hob.toBelow HB.size (Nat.le_refl _) hB2)
    replace hA := hA.keepN [1, 4]
    refine wN (nT ?_)
    exact ⟨_, hA, by unfold enc2; rw [hq, cond_true, hdt, hft, Int.toNat_natCast, Int.toNat_natCast, ← List.append_assoc]; exact hO, HB⟩
   case nD2 =>
    replace hA := hA.keepN [1, 4]
    refine wp_skip (nT ?_)
    exact ⟨_, hA, by unfold enc2; rw [hq, cond_false, List.append_nil]; exact hO, HB⟩
  clear hO HB K0
  rintro a wx ⟨v9, hA, hO, HB⟩
  have K0 := K.below HB K.lt
  refine wS (wS (wR ?_))
  revert a; (iterate 3 refine wo rfl rfl (by decide) (fun ev e h => by simp [go_sem, h, K0.cell] <;> rfl) ?_); intro a hA
  replace hA := hA.keepN [1, 4, 33]
  refine wN (nT ?_)
  refine wp_join (fun a wx => ∃ v, At 44 [(1, .pointer (some ⟨w.heap.size, 0, none⟩)), (4, .pointer (some ⟨o, 0, none⟩))] a ∧ OutAt wx w1.heap.size o (be 4 e ++ enc1 k m ++ enc2 k m ++ enc3 k nm) false v ∧ Below w1.heap.size w1 wx) ?jfM ?jrM
  case jfM =>
   refine wp_if hA 33 _ rfl (fun hq => ?yD3) (fun hq => ?nD3)
   case yD3 =>
    have hq : (k == 3) = false := by simpa using hq
    refine wR ?_
    revert a; (iterate 2 refine wo rfl rfl (by decide) (fun ev e h => by simp [go_sem, h, K0.cell] <;> rfl) ?_); intro a hA
    refine wl_call hA rfl rfl (by decide) (fun ev h => exec_call Tryz.func128 (by kernel_rfl) rfl (h.f _) (by first | (simp only [mL, h.get 4 rfl, h.get 35 rfl, h.c] <;> rfl) | (simp [mL, h.get 4 rfl, h.get 35 rfl, h.c, K0.cell] <;> rfl))) (out_Text hO HB.size (by simp only [List.length_append, be_length]; omega) nm (by omega)) ?_
    rintro e w10 ⟨rfl, ⟨v10, hO⟩, hob⟩
    refine ⟨_, rfl, fun a hA => ?_⟩
    replace HB := HB.trans (hob.toBelow HB.size (Nat.le_refl _) hB2)
    replace hA := hA.keepN [1, 4]
    refine wN (nT ?_)
    exact ⟨_, hA, by unfold enc3; rw [hq, cond_false]; exact hO, HB⟩
   case nD3 =>
    have hq : (k == 3) = true := by simpa using hq
    replace hA := hA.keepN [1, 4]
    refine wp_skip (nT ?_)
    exact ⟨_, hA, by unfold enc3; rw [hq, cond_true, List.append_nil]; exact hO, HB⟩
  clear hO HB K0
  rintro a wx ⟨v11, hA, hO, HB⟩
  have K0 := K.below HB K.lt
  have HW := hb0.trans (HB.mono hb0.size)
  refine wS (wR ?_)
  revert a; (iterate 3 refine wo rfl rfl (by decide) (fun ev e h => by simp [go_sem, h, K0.cell] <;> rfl) ?_); intro a hA
  refine wl_call hA rfl rfl (by decide) (fun ev h => exec_call Tryz.func176 (by kernel_rfl) rfl (h.f _) (by first | (simp only [mL, h.get 4 rfl, h.get 39 rfl, h.c] <;> rfl) | (simp [mL, h.get 4 rfl, h.get 39 rfl, h.c, K0.cell] <;> rfl))) (out_Raw hO HB.size (by simp only [List.length_append, be_length]; omega) m.a m.b.length m.c m.b rfl (by omega) ((hr.below HW).more HW.size)) ?_
  rintro e w12 ⟨rfl, ⟨v12, hO⟩, hob⟩
  refine ⟨_, rfl, fun a hA => ?_⟩
  replace HB := HB.trans (hob.toBelow HB.size (Nat.le_refl _) hB2)
  replace hA := hA.keepN [4]
  refine wN (nT (wS (wR ?_)))
  refine wl_call hA rfl rfl (by decide) (fun ev h => exec_call Tryz.func177 (by kernel_rfl) rfl (h.f _) (by first | (simp only [mL, h.get 4 rfl, h.c] <;> rfl) | (simp [mL, h.get 4 rfl, h.c] <;> rfl))) (out_End hO (by simp only [List.length_append, be_length]; omega)) ?_
  rintro e w13 ⟨r, rfl, hown, hb⟩
  refine ⟨_, rfl, fun a hA => ?_⟩
  have HW := (hb0.trans (HB.mono hb0.size))
  revert a; (iterate 4 refine wo rfl rfl (by decide) (fun ev e h => by simp [go_sem, h] <;> rfl) ?_); intro a hA
  replace hA := hA.keepN [2, 3]
  refine wN (nT (wp_ret ?_))
  refine ret_2 hA 2 3 rfl rfl rfl ?_
  exact ⟨r, rfl, (Own8.of hown).mono HW.size, HW.trans (hb.mono HW.size)⟩
end Go.Proofs.YtkljkbeahdipfaaGreatDoor
/-
  bytes.Clone.
-/
namespace Go.Proofs.YtkljkbeahdipfaaGreatDoor
open Go.RowKit
theorem clone_any (A : Option Addr) (n c : Nat) (l : List UInt8) (w : World) (hl : l.length = n) (hn : n ≤ 1000000000) (hr : Reads w w.heap.size 1 A n (u8s l)) :
 Calls Tryz.prog 55 #[.slice A n c] w fun e w' => ∃ v, e = .returned v ∧ w'.ownsRow w.heap.size 5 1 v n (u8s l) ∧ Below w.heap.size w w' := by
 cases A with
 | none =>
   obtain ⟨rfl, rfl⟩ := hr.empty8
   refine (Tryz.bytes_Clone_nil 0 c w).mono ?_
   rintro e w' ⟨rfl, rfl⟩
   exact ⟨_, rfl, World.ownsRow_nil _ _ _ _, Below.refl _ _⟩
 | some a =>
   refine (Tryz.bytes_Clone_at a n c (ints8 l) w (by simpa [ints8] using hl) (by omega) (ints8_at hl hr)).mono ?_
   rintro e w' ⟨v', rfl, ho, _, hb⟩
   refine ⟨v', rfl, ?_, hb⟩
   unfold ints8 at ho
   rw [List.map_map] at ho
   exact ho
end Go.Proofs.YtkljkbeahdipfaaGreatDoor
/-
  Numbers and texts that are read back: the program's codec.In.
-/
namespace Go.Proofs.YtkljkbeahdipfaaGreatDoor
open Go.RowKit
theorem wrap_i64_small (n : Int) (h0 : 0 ≤ n) (h1 : n < 9223372036854775808) : IntKind.i64.wrap n = n := by
 simp [IntKind.wrap, IntKind.bits, IntKind.signed]
 split <;> omega
theorem i64_or_nat (a b : Nat) (ha : a < 9223372036854775808) (hb : b < 9223372036854775808) : bits .or .i64 (a : Int) (b : Int) = ((a ||| b : Nat) : Int) := by
 show IntKind.i64.wrap ((BitVec.ofInt 64 (a : Int) ||| BitVec.ofInt 64 (b : Int)).toNat : Int) = _
 rw [BitVec.toNat_or, ofInt_u64 a (by omega), ofInt_u64 b (by omega)]
 have h : a ||| b < 2 ^ 63 := Nat.or_lt_two_pow (by omega) (by omega)
 exact wrap_i64_small _ (by omega) (by omega)
theorem i64_join (v c : Nat) (hv : v < 281474976710656) (hc : c < 256) : bits .or .i64 ((v : Int) * 256) (c : Int) = ((v * 256 + c : Nat) : Int) := by
 have h := i64_or_nat (v * 256) c (by omega) (by omega)
 rw [nat_join 8 (v * 256) c (by omega) (by omega)] at h
 rw [← h]; rfl
theorem beVal_step {l : List UInt8} {j : Nat} {x : UInt8} (hx : l[j]? = some x) : beVal (l.take (j + 1)) = beVal (l.take j) * 256 + x.toNat := by
 rw [List.take_add_one, hx, ← beVal_snoc]; rfl
theorem inTake_len (s : InM) (n : Nat) : (inTake s n).1.length ≤ n := by
 unfold inTake
 split
 ·simp
 ·split
  ·simp
  ·simp only [Int.toNat_natCast, List.length_take]; omega
theorem inTake_rest (s : InM) (n : Int) : (inTake s n).2.rest.length ≤ s.rest.length := by
 unfold inTake
 split
 ·exact Nat.le_refl _
 ·split
  ·simp
  ·simp
theorem inN_lt (s : InM) (n : Nat) : (inN s n).1 < 256 ^ n := Nat.lt_of_lt_of_le (beVal_lt _) (Nat.pow_le_pow_right (by omega) (inTake_len s n))
section
variable {w w' : World} {i : Nat} {s : InM} {v : Value}
set_option maxRecDepth 100000 in
theorem in_N (h : InAt w i s v) (hl : s.rest.length ≤ 1000000) (n : Nat) (hn : 1 ≤ n ∧ n ≤ 7) :
 Calls Tryz.prog 111 #[.pointer (some ⟨i, 0, none⟩), .int .i64 (n : Nat)] w fun e w' => e = .returned (.int .i64 ((inN s n).1 : Nat)) ∧ (∃ v', InAt w' i (inN s n).2 v') ∧ IBut i w w' := by
 have H := Lib.hid (in_take h hl n)
 have n1 : decide ((n : Int) < 1) = false := by simp; omega
 have n2 : decide (7 < (n : Int)) = false := by simp; omega
 unfold inN
 have hlen := inTake_len s n
 dsimp only
 generalize inTake s n = r at *
 obtain ⟨l, s2⟩ := r
 simp only at H hlen ⊢
 clear h
 go_enter Tryz.func111, Tryz.ntmps111
 go_wp2_with fail
 refine H.out.mono ?_
 rintro e w1 ⟨r, rfl, ⟨A, c, rfl, hr⟩, hi, hb⟩
 obtain ⟨m, hm⟩ : ∃ m, l.length = m := ⟨_, rfl⟩
 rw [hm] at hr hlen ⊢
 have HR := Lib.hid hr
 have HI : Hid (∃ v', InAt w1 i s2 v') := hi
 have HB := Lib.hid hb
 clear hr hi hb H
 go_wp2
 go_loopw [5, 18] (fun z k wr => ∃ (j cc : Nat), k = .int .i64 j ∧ j ≤ m ∧ z = .int .i64 cc ∧ Hid (cc = beVal (l.take j)) ∧ wr = w1) (fun _ k _ => m - (intOf k).toNat)
 case atStart => exact ⟨0, 0, rfl, by omega, rfl, rfl, rfl⟩
 case round =>
  obtain ⟨j, cc, rfl, hj, rfl, hcc, rfl⟩ := hrel
  by_cases hlt : j < m
  ·obtain ⟨x, hx⟩ : ∃ x, l[j]? = some x := ⟨_, List.getElem?_eq_getElem (by omega)⟩
   obtain ⟨ad, rfl, _, hc⟩ := HR.out.2 (by omega)
   have hcx := hc j (.int .u8 (x.toNat : Int)) (by rw [u8s_get, hx]; rfl)
   have hst := beVal_step hx
   rw [← hcc.out] at hst
   obtain ⟨xn, hxn⟩ : ∃ xn, x.toNat = xn := ⟨_, rfl⟩
   have hx8 : xn < 256 := by rw [← hxn]; exact x.toNat_lt
   have hcl : cc < 281474976710656 := by
    rw [hcc.out]
    have h1 := beVal_lt (l.take j)
    refine Nat.lt_of_lt_of_le h1 (Nat.le_trans (Nat.pow_le_pow_right (by omega) (show _ ≤ 6 from ?_)) (by decide))
    rw [List.length_take]; omega
   rw [hxn] at hcx hst
   have HST := Lib.hid hst
   have hjn := i64_join cc xn hcl hx8
   clear hst hx hc hxn
   go_wp2
   go_roundw
   case rel => exact ⟨j + 1, cc * 256 + xn, by go_num, by omega, rfl, HST.out.symm, by first | rfl | trivial⟩
   case measure => simp [intOf]; omega
  ·obtain rfl : j = m := by omega
   go_wp2
   go_ret
   refine ⟨?_, HI.out, HB.out⟩
   rw [hcc.out, List.take_of_length_le (by omega)]
   rfl
theorem inText_rest (s : InM) : (inText s).2.rest.length ≤ s.rest.length := Nat.le_trans (inTake_rest _ _) (inTake_rest _ _)
set_option maxRecDepth 100000 in
theorem in_Text (h : InAt w i s v) (hl : s.rest.length ≤ 1000000) :
 Calls Tryz.prog 112 #[.pointer (some ⟨i, 0, none⟩)] w fun e w' => e = .returned (.string (inText s).1) ∧ (∃ v', InAt w' i (inText s).2 v') ∧ IBut i w w' := by
 have R1 := Lib.hid (in_N h hl 2 (by omega))
 have hle : (inN s 2).2.rest.length ≤ 1000000 := Nat.le_trans (inTake_rest s _) hl
 unfold inText
 generalize inN s 2 = r at *
 obtain ⟨nn, s2⟩ := r
 simp only at R1 hle ⊢
 clear h
 go_enter Tryz.func112, Tryz.ntmps112
 go_wp2_with fail
 refine R1.out.mono ?_
 rintro e w1 ⟨rfl, ⟨v1, h1⟩, hb1⟩
 have R2 := Lib.hid (in_take h1 hle (nn : Int))
 have HB1 := Lib.hid hb1
 clear h1 hb1 R1
 go_wp2_with fail
 refine R2.out.mono ?_
 rintro e w2 ⟨r, rfl, ⟨A, c, rfl, hr⟩, hi, hb2⟩
 have hcv := conv_reads (c := c) rfl hr
 have HI : Hid (∃ v', InAt w2 i (inTake s2 nn).2 v') := hi
 have HB2 := Lib.hid (HB1.out.trans hb2)
 clear hr hi hb2
 go_wp2
 go_ret
 exact ⟨rfl, HI.out, HB2.out⟩
end
theorem own_or {w : World} {B n : Nat} {v : Value} {l : List UInt8} (h : w.ownsRow B 5 1 v n (u8s l)) (hn : l.length = n) : (v = .slice none 0 0 ∧ l = []) ∨ ∃ ad c, v = .slice (some ad) l.length c ∧ l.length ≤ c ∧ Reads w w.heap.size 1 (some ad) l.length (u8s l) ∧ U8Row w ad.block := by
 subst hn
 rcases h.2 with ⟨rfl, h0⟩ | ⟨g, c, cur, rfl, _, hgg, hc, _⟩
 ·exact .inl ⟨rfl, List.length_eq_zero_iff.1 h0⟩
 ·exact .inr ⟨_, c, rfl, hc, Reads.of_own h, ⟨cur, _, hgg⟩⟩
set_option maxRecDepth 100000 in
theorem in_new (A : Option Addr) (n c : Nat) (l : List UInt8) (hl : l.length = n) (hn : n ≤ 1000000) (w : World) (hr : Reads w w.heap.size 1 A n (u8s l)) :
 Calls Tryz.prog 110 #[.slice A n c] w fun e w' => ∃ i v, e = .returned (.pointer (some ⟨i, 0, none⟩)) ∧ InAt w' i ⟨l, false⟩ v ∧ w.heap.size ≤ i ∧ Below w.heap.size w w' := by
 have R1 := Lib.hid (clone_any A n c l w hl (by omega) hr)
 clear hr
 go_enter Tryz.func110, Tryz.ntmps110
 go_wp2_with fail
 refine R1.out.mono ?_
 rintro e w1 ⟨v, rfl, ho, hb⟩
 have hx := (Below.refl w1.heap.size w1).alloc (Nat.le_refl _) (.cells #[v, .bool false] 252)
 have HI : Hid (InAt (w1.alloc (.cells #[v, .bool false] 252)) w1.heap.size ⟨l, false⟩ v) := ⟨Blk.new w1 _ _, own_or (own_below ho hx) hl⟩
 have HB := Lib.hid (hb.trans (hx.mono hb.size))
 have HS : Hid (w.heap.size ≤ w1.heap.size) := hb.size
 have hv : ∃ A c, v = .slice A n c := by
  obtain ⟨A, c, e, _⟩ := own_reads ho
  exact ⟨A, c, e⟩
 obtain ⟨A', c', rfl⟩ := hv
 clear ho hb hx
 go_wp2
 go_ret
 exact ⟨_, _, rfl, HI.out, HS.out, HB.out⟩
end Go.Proofs.YtkljkbeahdipfaaGreatDoor
