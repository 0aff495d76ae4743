/-
  A region that draws its order, by facts: of each operation what its slot then holds is said once (a value, or a word on the value and the world); each operation is shown to do so from the words on what it looks at; in whatever order they come up, at the end all words hold.
-/
import Derived.Test.YtgjlpgijlicppaaGreatDoorXaa
import Derived.Orders
import Derived.OrdersHeld
import Derived.Below
import Derived.Deep.LoopGhost
import Derived.IntWalk
import Derived.Deep.AppendSrc
import Derived.Lib.ConvBytes
import Derived.Laws.AppendOwn
import Derived.Maps.AppendAt
import Derived.ChangeMaps
import Derived.Test.YtgjlpgijlicppaaGreatDoorCards
import Derived.Test.YtgjlpgijlicppaaGreatDoorTie
import Derived.SevenTiedAt
namespace Go.Proofs.YtgjlpgijlicppaaGreatDoor
open Go Go.RowKit
/-- what is said of an operation's slot: it is a value; a word holds of it, to the end; a word holds of it, till it is used -/
inductive Fact where
  | det (v : Value)
  | held (p : Value → World → Prop)
  | used (p : Value → World → Prop)
def Fact.says : Fact → Value → World → Prop
  | .det v, x, _ => x = v
  | .held p, x, w => p x w
  | .used p, x, w => p x w
def Fact.keeps : Fact → Bool
  | .used _ => false
  | _ => true
/-- what holds of the world from behind one operation up to another -/
structure Phase where
  start : Option Nat
  upto : Option Nat
  looks : List Nat
  p : (Nat → Value) → World → Prop
  ext : ∀ σ σ' w, (∀ t ∈ looks, σ t = σ' t) → p σ w → p σ' w
/-- what the slots hold -/
def sig (ev : Operand → Value) : Nat → Value := fun t => ev (.tmp t)
def onB (o : Oper) (j : Nat) : Bool := o.after.any fun e => Region.binds .any e && e.on == j
def dstIs (l : List Oper) (j t : Nat) : Bool := match l[j]? with | some o => o.dst == some t | none => false
/-- k waits for i -/
def blk (l : List Oper) (i : Nat) : Nat → Nat → Bool
  | 0, _ => false
  | f + 1, k => k == i || (match l[k]? with | some o => o.after.any fun e => Region.binds .any e && blk l i f e.on | none => false)
/-- an operation looks at what another one ahead has yielded -/
def usesB (l : List Oper) (o : Oper) (j : Nat) : Bool := onB o j && (match l[j]? with | some oj => (match oj.dst with | some t => (o.looksAt l.toArray).contains t | none => false) | none => false)
def needB (l : List Oper) (F : List Fact) (i j : Nat) : Bool :=
  !blk l i l.length j && ((F.getD j (.det undef)).keeps || (List.range l.length).any fun k => (k != i && !blk l k l.length i) && (match l[k]? with | some o => usesB l o j | none => false))
/-- which operation ahead has written a slot -/
def srcOf (l : List Oper) (o : Oper) (t : Nat) : Option Nat := (List.range l.length).find? fun j => onB o j && dstIs l j t
def slotSays (l : List Oper) (F : List Fact) (a0 : Array Value) (o : Oper) (t : Nat) (x : Value) (w : World) : Prop :=
  match srcOf l o t with
  | some j => (F.getD j (.det undef)).says x w
  | none => x = a0.getD t undef
/-- an operation finds a phase alive -/
def seesB (l : List Oper) (i : Nat) (s u : Option Nat) : Bool :=
  (match s with | some a => a != i && blk l a l.length i | none => true) && (match u with | some b => blk l i l.length b | none => true)
/-- an operation may come up while a phase is alive -/
def liveB (l : List Oper) (i : Nat) (s u : Option Nat) : Bool :=
  (match s with | some a => !blk l i l.length a | none => true) && (match u with | some b => !blk l b l.length i | none => true)
def lookB (l : List Oper) (i : Nat) (o : Oper) (t : Nat) : Bool :=
  (List.range l.length).all fun j => !dstIs l j t || onB o j || blk l i l.length j
def checkB (l : List Oper) (n : Nat) : Bool :=
  (List.range l.length).all fun i => match l[i]? with
    | none => true
    | some o => (match o.dst with | some t => decide (t < n) && (List.range l.length).all fun j => j == i || !dstIs l j t | none => true) && (o.after.all fun e => !Region.binds .any e || decide (e.on < i)) &&
        (o.looksAt l.toArray).all fun t => lookB l i o t
/-- slots that a phase looks at are written ahead of its start alone -/
def lkB (l : List Oper) (ps : List (Option Nat × List Nat)) : Bool :=
  (List.range l.length).all fun i => match l[i]? with
    | some o => (match o.dst with
      | some d => ps.all fun q => !q.2.contains d || (match q.1 with | some s => s != i && blk l i l.length s | none => false)
      | none => true)
    | none => true
structure EvOk (ev : Operand → Value) : Prop where
  const : ∀ v, ev (.const v) = v
  global : ∀ g, ev (.global g) = .pointer (some ⟨g, 0, none⟩)
  func : ∀ f, ev (.func f) = .func (.func f) #[] #[]
def Does (P : Program) (ev : Operand → Value) (o : Oper) (w : World) (K : Value → World → Prop) : Prop :=
  match (execOp ev o).run P w with
  | .ok (.value v) w' => K v w'
  | .ok .skip w' => K undef w'
  | .ok (.enter f args) w' => Calls P f args w' fun e w'' => ∃ v, e = .returned v ∧ K v w''
  | _ => False
def wantedBy (l : List Oper) (o : Oper) (ev : Operand → Value) : Bool :=
  match o.guard with
  | none => true
  | some (g, b) => match (l[g]?).bind (·.dst) with
    | some t => (match ev (.tmp t) with | .bool q => q == b | _ => false)
    | none => false
section
variable {P : Program} {l : List Oper} {F : List Fact} {Ph : List Phase} {C : World → Prop} {T : Nat → World → World → Prop} {a0 : Array Value}
/-- what is to be shown of an operation -/
def Ob (P : Program) (l : List Oper) (F : List Fact) (Ph : List Phase) (C : World → Prop) (T : Nat → World → World → Prop) (a0 : Array Value) (i : Nat) (o : Oper) : Prop :=
  ∀ (ev : Operand → Value) (w : World), EvOk ev → C w → (∀ t ∈ o.looksAt l.toArray, slotSays l F a0 o t (ev (.tmp t)) w) → (∀ ph ∈ Ph, seesB l i ph.start ph.upto = true → ph.p (sig ev) w) →
    if wantedBy l o ev = true then Does P ev o w (fun v w' => C w' ∧ T i w w' ∧ (F.getD i (.det undef)).says v w' ∧ ∀ ph ∈ Ph, ph.start = some i → ph.p (sig ev) w') else T i w w ∧ (F.getD i (.det undef)).says undef w ∧ ∀ ph ∈ Ph, ph.start = some i → ph.p (sig ev) w
theorem does_value {P : Program} {ev : Operand → Value} {o : Oper} {w w' : World} {v : Value} {K : Value → World → Prop} (h : (execOp ev o).run P w = .ok (.value v) w') (hK : K v w') : Does P ev o w K := by
  unfold Does; rw [h]; exact hK
theorem does_skip {P : Program} {ev : Operand → Value} {o : Oper} {w w' : World} {K : Value → World → Prop} (h : (execOp ev o).run P w = .ok .skip w') (hK : K undef w') : Does P ev o w K := by
  unfold Does; rw [h]; exact hK
theorem does_enter {P : Program} {ev : Operand → Value} {o : Oper} {w w' : World} {f : FuncId} {args : Array Value} {K : Value → World → Prop} (h : (execOp ev o).run P w = .ok (.enter f args) w') (hK : Calls P f args w' fun e w'' => ∃ v, e = .returned v ∧ K v w'') : Does P ev o w K := by
  unfold Does; rw [h]; exact hK
theorem ob_yes {i : Nat} {o : Oper} {ev : Operand → Value} {w : World} (hw : wantedBy l o ev = true) (h : Does P ev o w (fun v w' => C w' ∧ T i w w' ∧ (F.getD i (.det undef)).says v w' ∧ ∀ ph ∈ Ph, ph.start = some i → ph.p (sig ev) w')) :
    if wantedBy l o ev = true then Does P ev o w (fun v w' => C w' ∧ T i w w' ∧ (F.getD i (.det undef)).says v w' ∧ ∀ ph ∈ Ph, ph.start = some i → ph.p (sig ev) w') else T i w w ∧ (F.getD i (.det undef)).says undef w ∧ ∀ ph ∈ Ph, ph.start = some i → ph.p (sig ev) w := by
  rw [if_pos hw]; exact h
theorem ob_no {i : Nat} {o : Oper} {ev : Operand → Value} {w : World} (hw : wantedBy l o ev = false) (hT : T i w w) (h : (F.getD i (.det undef)).says undef w) (hs : ∀ ph ∈ Ph, ph.start = some i → ph.p (sig ev) w) :
    if wantedBy l o ev = true then Does P ev o w (fun v w' => C w' ∧ T i w w' ∧ (F.getD i (.det undef)).says v w' ∧ ∀ ph ∈ Ph, ph.start = some i → ph.p (sig ev) w') else T i w w ∧ (F.getD i (.det undef)).says undef w ∧ ∀ ph ∈ Ph, ph.start = some i → ph.p (sig ev) w := by
  rw [if_neg (by simp [hw])]; exact ⟨hT, h, hs⟩
/-- what is left behind the region: the slots are set to what is said of them -/
def FinK (σ : Nat → Value) (K : Array Value → Prop) (w : World) : List (Oper × Fact) → Array Value → Prop
  | [], arr => K arr
  | (⟨some t, _, _, _, _, _⟩, .det v) :: r, arr => FinK σ K w r (arr.setIfInBounds t v)
  | (⟨some t, _, _, _, _, _⟩, .held p) :: r, arr => ∀ x, x = σ t → p x w → FinK σ K w r (arr.setIfInBounds t x)
  | (⟨some t, _, _, _, _, _⟩, .used _) :: r, arr => ∀ x, x = σ t → FinK σ K w r (arr.setIfInBounds t x)
  | (⟨none, _, _, _, _, _⟩, _) :: r, arr => FinK σ K w r arr
structure Inv (l : List Oper) (F : List Fact) (Ph : List Phase) (C : World → Prop) (a0 : Array Value) (ds : List Deferred) (listed : Array Bool) (a : Act) (w : World) : Prop where
  world : C w
  lsize : listed.size = l.length
  size : a.tmps.size = a0.size
  defers : a.defers = ds
  closed : ∀ j oj, l[j]? = some oj → listed.getD j false = true → ∀ e ∈ oj.after, Region.binds .any e = true → listed.getD e.on false = true
  same : ∀ t, (∀ j o, l[j]? = some o → listed.getD j false = true → o.dst ≠ some t) → a.tmps[t]? = a0[t]?
  fact : ∀ j o t, l[j]? = some o → listed.getD j false = true → o.dst = some t →
    ((F.getD j (.det undef)).keeps = true ∨ ∃ (k : Nat) (ok : Oper), l[k]? = some ok ∧ listed.getD k false = false ∧ usesB l ok j = true) → (F.getD j (.det undef)).says (a.tmps.getD t undef) w
  phase : ∀ ph ∈ Ph, (∀ a, ph.start = some a → listed.getD a false = true) → (∀ b, ph.upto = some b → listed.getD b false = false) → ph.p (sig a.eval) w
theorem getD_two {listed : Array Bool} {i : Nat} (h : listed.getD i true = false) : listed.getD i false = false := by
  rcases Nat.lt_or_ge i listed.size with h' | h'
  · simp [h'] at h ⊢; exact h
  · simp [Array.getElem?_eq_none h'] at h
theorem getD_inn {listed : Array Bool} {i : Nat} (hi : i < listed.size) (h : listed.getD i false = false) : listed.getD i true = false := by
  simp [hi] at h ⊢; exact h
theorem onB_spec {o : Oper} {j : Nat} (h : onB o j = true) : ∃ e ∈ o.after, Region.binds .any e = true ∧ e.on = j := by
  unfold onB at h
  obtain ⟨e, he, hb⟩ := Array.any_eq_true'.1 h
  simp only [Bool.and_eq_true, beq_iff_eq] at hb
  exact ⟨e, he, hb.1, hb.2⟩
theorem blk_listed {listed : Array Bool} (hc : ∀ j oj, l[j]? = some oj → listed.getD j false = true → ∀ e ∈ oj.after, Region.binds .any e = true → listed.getD e.on false = true) (i : Nat) :
    ∀ (f k : Nat), blk l i f k = true → listed.getD k false = true → listed.getD i false = true
  | 0, _, h, _ => by simp [blk] at h
  | f + 1, k, h, hk => by
    unfold blk at h
    rw [Bool.or_eq_true, beq_iff_eq] at h
    rcases h with rfl | h
    · exact hk
    · cases ho : l[k]? with
      | none => rw [ho] at h; cases h
      | some o =>
        rw [ho] at h
        obtain ⟨e, he, hb⟩ := Array.any_eq_true'.1 h
        simp only [Bool.and_eq_true] at hb
        exact blk_listed hc i f e.on hb.2 (hc k o ho hk e he hb.1)
theorem srcOf_some {o : Oper} {t j : Nat} (h : srcOf l o t = some j) : onB o j = true ∧ ∃ oj, l[j]? = some oj ∧ oj.dst = some t := by
  have := List.find?_some h
  rw [Bool.and_eq_true] at this
  refine ⟨this.1, ?_⟩
  have h2 := this.2
  unfold dstIs at h2
  cases ho : l[j]? with
  | none => rw [ho] at h2; cases h2
  | some oj => rw [ho] at h2; exact ⟨oj, rfl, by simpa using h2⟩
theorem srcOf_none {o : Oper} {t : Nat} (h : srcOf l o t = none) {j : Nat} {oj : Oper} (hj : l[j]? = some oj) (hd : oj.dst = some t) : onB o j = false := by
  have h2 := (List.find?_eq_none.1 h) j (List.mem_range.2 (List.getElem?_eq_some_iff.1 hj).1)
  have h3 : dstIs l j t = true := by unfold dstIs; rw [hj]; simp [hd]
  rw [h3, Bool.and_true] at h2
  simpa using h2
theorem checkB_look {n i : Nat} {o : Oper} (h : checkB l n = true) (hi : l[i]? = some o) : ∀ t ∈ o.looksAt l.toArray, ∀ j oj, l[j]? = some oj → oj.dst = some t → onB o j = true ∨ blk l i l.length j = true := by
  intro t ht j oj hj hd
  have h1 := List.all_eq_true.1 h i (List.mem_range.2 (List.getElem?_eq_some_iff.1 hi).1)
  rw [hi] at h1
  simp only [Bool.and_eq_true] at h1
  have h2 := List.all_eq_true.1 h1.2 t ht
  have h3 := List.all_eq_true.1 h2 j (List.mem_range.2 (List.getElem?_eq_some_iff.1 hj).1)
  have h4 : dstIs l j t = true := by unfold dstIs; rw [hj]; simp [hd]
  rw [h4] at h3
  simpa using h3
theorem checkB_dst {n i : Nat} {o : Oper} {t : Nat} (h : checkB l n = true) (hi : l[i]? = some o) (hd : o.dst = some t) : t < n ∧ ∀ j oj, l[j]? = some oj → oj.dst = some t → j = i := by
  have h1 := List.all_eq_true.1 h i (List.mem_range.2 (List.getElem?_eq_some_iff.1 hi).1)
  rw [hi] at h1
  simp only [Bool.and_eq_true, hd, decide_eq_true_eq] at h1
  refine ⟨h1.1.1.1, fun j oj hj hdj => ?_⟩
  have h3 := List.all_eq_true.1 h1.1.1.2 j (List.mem_range.2 (List.getElem?_eq_some_iff.1 hj).1)
  have h4 : dstIs l j t = true := by unfold dstIs; rw [hj]; simp [hdj]
  rw [h4] at h3
  simpa using h3
theorem checkB_back {n i : Nat} {o : Oper} (h : checkB l n = true) (hi : l[i]? = some o) : ∀ e ∈ o.after, Region.binds .any e = true → e.on < i := by
  intro e he hb
  have h1 := List.all_eq_true.1 h i (List.mem_range.2 (List.getElem?_eq_some_iff.1 hi).1)
  rw [hi] at h1
  simp only [Bool.and_eq_true] at h1
  have h2 := Array.all_eq_true'.1 h1.1.2 e he
  rw [hb] at h2
  simpa using h2
theorem wanted_eq {o : Oper} {a : Act} : Region.wanted o (yielded l.toArray a.tmps) = wantedBy l o a.eval := by
  unfold Region.wanted wantedBy
  cases o.guard with
  | none => rfl
  | some g =>
    obtain ⟨g, b⟩ := g
    simp only [yielded, List.getElem?_toArray]
    cases hd : (l[g]?).bind (·.dst) with
    | none => simp
    | some t =>
      simp only [Option.bind_some, Act.eval]
      cases ht : a.tmps[t]? with
      | none => simp [ht, undef]
      | some v => cases v <;> simp [ht]
theorem evOk (a : Act) : EvOk a.eval := ⟨fun _ => rfl, fun _ => rfl, fun _ => rfl⟩
theorem does_wp {Q : Exit → Act → World → Prop} {a : Act} {o : Oper} {w : World} {K : Value → World → Prop} {next : Act → World → Prop} (h : Does P a.eval o w K) (hn : ∀ v w', K v w' → next (a.put o.dst v) w') : o.wp P a w next Q := by
  unfold Does at h
  unfold Oper.wp
  generalize (execOp a.eval o).run P w = r at *
  cases r with
  | ok nx w' =>
    cases nx <;> first
      | exact hn _ _ h
      | exact h.elim
      | exact Calls.mono h fun e w'' ⟨v, he, hk⟩ => by subst he; exact hn _ _ hk
  | halt x w' => exact h.elim
theorem put_get {a : Act} {t : Nat} {v : Value} (h : t < a.tmps.size) : (a.put (some t) v).tmps.getD t undef = v := by
  simp [Act.put, h]
theorem put_other {a : Act} {d : Option Tmp} {t : Nat} {v : Value} (h : d ≠ some t) : (a.put d v).tmps[t]? = a.tmps[t]? := by
  cases d with
  | none => rfl
  | some d =>
    have : d ≠ t := fun e => h (by rw [e])
    simp [Act.put, Array.getElem?_setIfInBounds_ne this]
theorem getD_of_get {x y : Array Value} {t : Nat} (h : x[t]? = y[t]?) : x.getD t undef = y.getD t undef := by
  rw [Array.getD_eq_getD_getElem?, Array.getD_eq_getD_getElem?, h]
theorem put_size (a : Act) (d : Option Tmp) (v : Value) : (a.put d v).tmps.size = a.tmps.size := by cases d <;> simp [Act.put]
theorem put_def (a : Act) (d : Option Tmp) (v : Value) : (a.put d v).defers = a.defers := by cases d <;> rfl
theorem listed_ne {listed : Array Bool} {i j : Nat} (hij : i ≠ j) : (listed.setIfInBounds i true).getD j false = listed.getD j false := getD_set_ne false hij
theorem sig_eval (a : Act) : sig a.eval = fun t => a.tmps.getD t undef := rfl
theorem sig_put {a : Act} {d : Option Tmp} {t : Nat} {v : Value} (h : d ≠ some t) : sig a.eval t = sig (a.put d v).eval t := by
  rw [sig_eval, sig_eval]
  exact (getD_of_get (put_other h)).symm
theorem Inv.step {n : Nat} {ds : List Deferred} {listed : Array Bool} {a : Act} {w w' : World} {i : Nat} {o : Oper} {v : Value} (h : Inv l F Ph C a0 ds listed a w) (hB : checkB l n = true) (hn : a0.size = n) (hi : l[i]? = some o) (hr : i ∈ Region.ready .any l.toArray listed)
    (hstab : ∀ i j x w w', needB l F i j = true → i ≠ j → C w → (F.getD j (.det undef)).says x w → T i w w' → (F.getD j (.det undef)).says x w')
    (hph : ∀ i (ph : Phase) σ w w', ph ∈ Ph → ph.start ≠ some i → ph.upto ≠ some i → liveB l i ph.start ph.upto = true → C w → ph.p σ w → T i w w' → ph.p σ w')
    (hC : C w') (hT : T i w w') (hF : (F.getD i (.det undef)).says v w') (hS : ∀ ph ∈ Ph, ph.start = some i → ph.p (sig a.eval) w') (hlk : lkB l (Ph.map fun ph => (ph.start, ph.looks)) = true) : Inv l F Ph C a0 ds (listed.setIfInBounds i true) (a.put o.dst v) w' := by
  obtain ⟨hun, o', ho', hall⟩ := mem_ready.1 hr
  have hoo : o' = o := by
    rw [List.getElem?_toArray, hi] at ho'
    exact (Option.some.inj ho').symm
  subst hoo
  have hil : i < listed.size := by rw [h.lsize]; exact (List.getElem?_eq_some_iff.1 hi).1
  have hun2 := getD_two hun
  refine ⟨hC, by simp [h.lsize], by rw [put_size, h.size], by rw [put_def, h.defers], ?_, ?_, ?_, ?_⟩
  · intro j oj hj hl e he hb
    by_cases hij : i = j
    · subst hij
      have : oj = o' := Option.some.inj (hj.symm.trans hi)
      subst this
      exact getD_set_true (hall e he hb)
    · rw [listed_ne hij] at hl
      exact getD_set_true (h.closed j oj hj hl e he hb)
  · intro t ht
    have hd : o'.dst ≠ some t := ht i o' hi (by simp [hil])
    rw [put_other hd]
    exact h.same t fun j oj hj hl => ht j oj hj (getD_set_true hl)
  · intro j oj t hj hl hd hne
    by_cases hij : i = j
    · subst hij
      have : oj = o' := Option.some.inj (hj.symm.trans hi)
      subst this
      have hlt := (checkB_dst hB hi hd).1
      rw [hd, put_get (by rw [h.size, hn]; exact hlt)]
      exact hF
    · rw [listed_ne hij] at hl
      have hd2 : o'.dst ≠ some t := fun e => hij ((checkB_dst hB hj hd).2 i o' hi e)
      rw [getD_of_get (put_other hd2)]
      have hne2 : (F.getD j (.det undef)).keeps = true ∨ ∃ (k : Nat) (ok : Oper), l[k]? = some ok ∧ listed.getD k false = false ∧ usesB l ok j = true := by
        rcases hne with hk | ⟨k, ok, hk, hkl, hon⟩
        · exact .inl hk
        · refine .inr ⟨k, ok, hk, ?_, hon⟩
          by_cases hik : i = k
          · subst hik; exact hun2
          · rw [listed_ne hik] at hkl; exact hkl
      refine hstab i j _ w w' ?_ hij h.world (h.fact j oj t hj hl hd hne2) hT
      unfold needB
      have hnb : blk l i l.length j = false := by
        cases hb : blk l i l.length j with
        | false => rfl
        | true =>
          have := blk_listed h.closed i l.length j hb hl
          rw [hun2] at this
          cases this
      rw [hnb, Bool.not_false, Bool.true_and, Bool.or_eq_true]
      rcases hne with hk | ⟨k, ok, hk, hkl, hon⟩
      · exact .inl hk
      · refine .inr (List.any_eq_true.2 ⟨k, List.mem_range.2 (List.getElem?_eq_some_iff.1 hk).1, ?_⟩)
        rw [hk]
        have hik : k ≠ i := fun e => by
          subst e
          simp [hil] at hkl
        rw [listed_ne (fun e => hik e.symm)] at hkl
        have hbk : blk l k l.length i = false := by
          cases hbb : blk l k l.length i with
          | false => rfl
          | true =>
            exfalso
            obtain ⟨f, hf⟩ : ∃ f, l.length = f + 1 := ⟨l.length - 1, by have := (List.getElem?_eq_some_iff.1 hi).1; omega⟩
            rw [hf] at hbb
            unfold blk at hbb
            rw [Bool.or_eq_true, beq_iff_eq] at hbb
            rcases hbb with e | hbb
            · exact hik e.symm
            · rw [hi] at hbb
              obtain ⟨e, he, hb2⟩ := Array.any_eq_true'.1 hbb
              simp only [Bool.and_eq_true] at hb2
              have := blk_listed h.closed k f e.on hb2.2 (hall e he hb2.1)
              rw [hkl] at this
              cases this
        simp [hik, hon, hbk]
  · intro ph hp hfrom hupto
    have hlook : ∀ d, o'.dst = some d → d ∈ ph.looks → ∃ s, ph.start = some s ∧ s ≠ i ∧ blk l i l.length s = true := fun d hd hdl => by
      have h1 := List.all_eq_true.1 hlk i (List.mem_range.2 (List.getElem?_eq_some_iff.1 hi).1)
      rw [hi] at h1
      simp only [hd] at h1
      have h2 := List.all_eq_true.1 h1 _ (List.mem_map.2 ⟨ph, hp, rfl⟩)
      simp only [Bool.or_eq_true, Bool.not_eq_true'] at h2
      rcases h2 with h2 | h2
      · simp [hdl] at h2
      · cases hst : ph.start with
        | none => rw [hst] at h2; cases h2
        | some s =>
          rw [hst] at h2
          simp only [Bool.and_eq_true, bne_iff_ne] at h2
          exact ⟨s, rfl, h2.1, h2.2⟩
    by_cases hs : ph.start = some i
    · refine ph.ext _ _ w' (fun t ht => sig_put fun hd => ?_) (hS ph hp hs)
      obtain ⟨s, h1, h2, _⟩ := hlook t hd ht
      rw [hs] at h1
      exact h2 (Option.some.inj h1).symm
    · have hu : ph.upto ≠ some i := fun e => by
        have := hupto i e
        simp [hil] at this
      have hf2 : ∀ a, ph.start = some a → listed.getD a false = true := fun a ha => by
        have h1 := hfrom a ha
        rwa [listed_ne (fun e => hs (by rw [e]; exact ha))] at h1
      have hu2 : ∀ b, ph.upto = some b → listed.getD b false = false := fun b hb => by
        have h1 := hupto b hb
        rwa [listed_ne (fun e => hu (by rw [e]; exact hb))] at h1
      refine ph.ext _ _ w' (fun t ht => sig_put fun hd => ?_) (hph i ph _ w w' hp hs hu ?_ h.world (h.phase ph hp hf2 hu2) hT)
      · obtain ⟨s, h1, _, h3⟩ := hlook t hd ht
        have := blk_listed h.closed i l.length s h3 (hf2 s h1)
        rw [hun2] at this
        cases this
      unfold liveB
      rw [Bool.and_eq_true]
      constructor
      · cases ha : ph.start with
        | none => rfl
        | some a =>
          cases hb : blk l i l.length a with
          | false => simp [hb]
          | true =>
            have := blk_listed h.closed i l.length a hb (hf2 a ha)
            rw [hun2] at this
            cases this
      · cases hb : ph.upto with
        | none => rfl
        | some b =>
          cases hc : blk l b l.length i with
          | false => simp [hc]
          | true =>
            exfalso
            have hbl := hu2 b hb
            have hpos : 0 < l.length := Nat.lt_of_le_of_lt (Nat.zero_le _) (List.getElem?_eq_some_iff.1 hi).1
            obtain ⟨f, hf⟩ : ∃ f, l.length = f + 1 := ⟨l.length - 1, by omega⟩
            rw [hf] at hc
            unfold blk at hc
            rw [Bool.or_eq_true, beq_iff_eq] at hc
            rcases hc with e | hc
            · exact hu (by rw [hb, e])
            · rw [hi] at hc
              obtain ⟨e, he, hbb⟩ := Array.any_eq_true'.1 hc
              simp only [Bool.and_eq_true] at hbb
              have := blk_listed h.closed b f e.on hbb.2 (hall e he hbb.1)
              rw [hbl] at this
              cases this
theorem fin_of (K : Array Value → Prop) (w : World) (g : Nat → Value) : ∀ (m : List (Oper × Fact)) (arr : Array Value), FinK g K w m arr → (∀ p ∈ m, ∀ t, p.1.dst = some t → p.2.keeps = true → p.2.says (g t) w) →
    K (m.foldl (fun arr p => match p.1.dst with | some t => arr.setIfInBounds t (g t) | none => arr) arr)
  | [], arr, h, _ => h
  | (⟨d, _, _, _, _, _⟩, f) :: r, arr, h, hs => by
    cases d with
    | none => exact fin_of K w g r arr h fun p hp => hs p (List.mem_cons_of_mem _ hp)
    | some t =>
      have h0 := hs _ (List.mem_cons_self) t rfl
      have hr := fun p hp => hs p (List.mem_cons_of_mem _ hp)
      cases f with
      | det v =>
        have hv : g t = v := h0 rfl
        subst hv
        exact fin_of K w g r _ h hr
      | held p => exact fin_of K w g r _ (h (g t) rfl (h0 rfl)) hr
      | used p => exact fin_of K w g r _ (h (g t) rfl) hr
theorem fold_get (g : Nat → Value) : ∀ (m : List (Oper × Fact)) (arr : Array Value) (t : Nat),
    (m.foldl (fun arr p => match p.1.dst with | some t => arr.setIfInBounds t (g t) | none => arr) arr)[t]? = if (∃ p ∈ m, p.1.dst = some t) ∧ t < arr.size then some (g t) else arr[t]?
  | [], arr, t => by simp
  | (o, f) :: r, arr, t => by
    rw [List.foldl_cons, fold_get g r]
    cases hd : o.dst with
    | none =>
      have e : (∃ p, p ∈ (o, f) :: r ∧ p.1.dst = some t) ↔ ∃ p, p ∈ r ∧ p.1.dst = some t := by simp [hd]
      simp only [e]
    | some d =>
      simp only [Array.size_setIfInBounds, List.mem_cons, exists_eq_or_imp]
      by_cases hr : ∃ p ∈ r, p.1.dst = some t
      · by_cases hlt : t < arr.size
        · rw [if_pos ⟨hr, hlt⟩, if_pos ⟨.inr hr, hlt⟩]
        · rw [if_neg (fun h => hlt h.2), if_neg (fun h => hlt h.2), Array.getElem?_eq_none (by simp; omega), Array.getElem?_eq_none (by omega)]
      · rw [if_neg (fun h => hr h.1)]
        by_cases hdt : d = t
        · subst hdt
          by_cases hlt : d < arr.size
          · rw [if_pos ⟨.inl hd, hlt⟩]
            simp [hlt]
          · have e : arr.setIfInBounds d (g d) = arr := by simp [Array.setIfInBounds, hlt]
            rw [if_neg (fun h => hlt h.2), e]
        · rw [Array.getElem?_setIfInBounds_ne hdt, if_neg]
          rintro ⟨h | h, _⟩
          · rw [hd] at h; exact hdt (Option.some.inj h)
          · exact hr h
theorem wpAny_facts {Q : Exit → Act → World → Prop} {a : Act} {w : World} (n : Nat) (F : List Fact) (Ph : List Phase) (C : World → Prop) (T : Nat → World → World → Prop) (hn : a.tmps.size = n) (hB : checkB l n = true) (hFl : F.length = l.length) (hC : C { w with drawn := w.drawn + 1 })
    (hstab : ∀ i j x w w', needB l F i j = true → i ≠ j → C w → (F.getD j (.det undef)).says x w → T i w w' → (F.getD j (.det undef)).says x w')
    (hph0 : ∀ ph ∈ Ph, ph.start = none → ph.p (sig a.eval) { w with drawn := w.drawn + 1 })
    (hph : ∀ i (ph : Phase) σ w w', ph ∈ Ph → ph.start ≠ some i → ph.upto ≠ some i → liveB l i ph.start ph.upto = true → C w → ph.p σ w → T i w w' → ph.p σ w')
    (hpl : ∀ ph ∈ Ph, ∀ a, ph.start = some a → a < l.length)
    (hob : ∀ i o, l[i]? = some o → Ob P l F Ph C T a.tmps i o)
    (hlk : lkB l (Ph.map fun ph => (ph.start, ph.looks)) = true)
    (hfin : ∀ σ w', C w' → (∀ ph ∈ Ph, ph.upto = none → ph.p σ w') → FinK σ (fun arr => Q .normal ⟨arr, a.defers⟩ w') w' (l.zip F) a.tmps) : wpAny P .any l.toArray Q l.toArray.size (Array.replicate l.toArray.size false) a { w with drawn := w.drawn + 1 } := by
  have main : ∀ (fuel : Nat) (listed : Array Bool) (a' : Act) (w' : World), Inv l F Ph C a.tmps a.defers listed a' w' → listed.toList.countP (fun b => !b) ≤ fuel → wpAny P .any l.toArray Q fuel listed a' w' := by
    have done : ∀ (listed : Array Bool) (a' : Act) (w' : World), Inv l F Ph C a.tmps a.defers listed a' w' → Region.ready .any l.toArray listed = [] → (∀ j, j < l.length → listed.getD j false = true) → Q .normal a' w' := by
      intro listed a' w' hI _ hall
      have h1 := fin_of (fun arr => Q .normal ⟨arr, a.defers⟩ w') w' (fun t => a'.tmps.getD t undef) (l.zip F) a.tmps (hfin (fun t => a'.tmps.getD t undef) w' hI.world fun ph hp hu => sig_eval a' ▸ hI.phase ph hp (fun a ha => hall a (hpl ph hp a ha)) (fun b hb => by rw [hu] at hb; cases hb)) (by
        intro p hp t hd hk
        obtain ⟨j, hj, e⟩ := List.getElem_of_mem hp
        have hjl : j < l.length := by rw [List.length_zip] at hj; omega
        have hjF : j < F.length := by omega
        rw [List.getElem_zip] at e
        have e1 : l[j]? = some p.1 := by rw [List.getElem?_eq_getElem hjl, ← e]
        have e2 : F.getD j (.det undef) = p.2 := by rw [List.getD_eq_getElem?_getD, List.getElem?_eq_getElem hjF, ← e]; rfl
        have := hI.fact j p.1 t e1 (hall j hjl) hd (.inl (by rw [e2]; exact hk))
        rw [e2] at this
        exact this)
      have h2 : ((l.zip F).foldl (fun arr p => match p.1.dst with | some t => arr.setIfInBounds t (a'.tmps.getD t undef) | none => arr) a.tmps) = a'.tmps := by
        apply Array.ext_getElem?
        intro t
        rw [fold_get]
        by_cases hex : ∃ p ∈ l.zip F, p.1.dst = some t
        · obtain ⟨p, hp, hd⟩ := hex
          obtain ⟨j, hj, e⟩ := List.getElem_of_mem hp
          have hjl : j < l.length := by rw [List.length_zip] at hj; omega
          rw [List.getElem_zip] at e
          have e1 : l[j]? = some p.1 := by rw [List.getElem?_eq_getElem hjl, ← e]
          have hlt := (checkB_dst hB e1 hd).1
          rw [if_pos ⟨⟨p, hp, hd⟩, by omega⟩, Array.getD_eq_getD_getElem?, Array.getElem?_eq_getElem (by rw [hI.size]; omega)]
          rfl
        · rw [if_neg (fun h => hex h.1)]
          refine (hI.same t fun j o hj _ hd => hex ?_).symm
          have hjl := (List.getElem?_eq_some_iff.1 hj).1
          have hjF : j < F.length := by omega
          refine ⟨(l[j], F[j]), ?_, ?_⟩
          · have hz : j < (l.zip F).length := by rw [List.length_zip]; omega
            have : (l.zip F)[j] = (l[j], F[j]) := List.getElem_zip
            rw [← this]
            exact List.getElem_mem hz
          · have : l[j] = o := (List.getElem?_eq_some_iff.1 hj).2
            rw [this]; exact hd
      rw [h2, ← hI.defers] at h1
      exact h1
    have allOf : ∀ (listed : Array Bool), listed.size = l.length → listed.toList.countP (fun b => !b) = 0 → ∀ j, j < l.length → listed.getD j false = true := by
      intro listed hs hc j hj
      rw [List.countP_eq_zero] at hc
      have h1 : j < listed.size := by omega
      have h2 := hc listed[j] (by simp)
      simpa [h1] using h2
    intro fuel
    induction fuel with
    | zero =>
      intro listed a' w' hI hf
      have hall := allOf listed hI.lsize (by omega)
      have hr : Region.ready .any l.toArray listed = [] := by
        rw [List.eq_nil_iff_forall_not_mem]
        intro i hi
        obtain ⟨hun, o, ho, _⟩ := mem_ready.1 hi
        have hlt : i < l.length := by
          rw [List.getElem?_toArray] at ho
          exact (List.getElem?_eq_some_iff.1 ho).1
        have := hall i hlt
        rw [getD_two hun] at this
        cases this
      exact ⟨hr, done listed a' w' hI hr hall⟩
    | succ fuel ih =>
      intro listed a' w' hI hf
      have stepd : ∀ i ∈ Region.ready .any l.toArray listed, wpOp P l.toArray Q i (wpAny P .any l.toArray Q fuel (listed.setIfInBounds i true)) a' w' := by
        intro i hi
        obtain ⟨hun, o, ho, hall⟩ := mem_ready.1 hi
        rw [List.getElem?_toArray] at ho
        have hlt := (List.getElem?_eq_some_iff.1 ho).1
        have hcount : (listed.setIfInBounds i true).toList.countP (fun b => !b) ≤ fuel := by
          have hls : i < listed.size := by rw [hI.lsize]; exact hlt
          have hget : listed[i] = false := by simpa [hls] using hun
          have := List.countP_set (p := fun b => !b) (l := listed.toList) (i := i) (a := true) (by simpa using hls)
          have hpos : 0 < listed.toList.countP (fun b => !b) := List.countP_pos_iff.2 ⟨listed[i], by simp, by simp [hget]⟩
          rw [Array.toList_setIfInBounds, this, if_pos (by simp [hget]), if_neg (by simp)]
          omega
        have hob1 := hob i o ho a'.eval w' (evOk a') hI.world (by
          intro t ht
          unfold slotSays
          cases hs : srcOf l o t with
          | some j =>
            obtain ⟨hon, oj, hj, hd⟩ := srcOf_some hs
            obtain ⟨e, he, hb, rfl⟩ := onB_spec hon
            exact hI.fact e.on oj t hj (hall e he hb) hd (.inr ⟨i, o, ho, getD_two hun, by unfold usesB; rw [hon, hj]; simp only [hd, Bool.true_and]; simpa using ht⟩)
          | none =>
            refine getD_of_get (hI.same t fun j oj hj hl hd => ?_)
            rcases checkB_look hB ho t ht j oj hj hd with h | h
            · rw [srcOf_none hs hj hd] at h; cases h
            · have := blk_listed hI.closed i l.length j h hl
              rw [getD_two hun] at this
              cases this) (by
          intro ph hp hs
          unfold seesB at hs
          rw [Bool.and_eq_true] at hs
          refine hI.phase ph hp (fun a ha => ?_) (fun b hb => ?_)
          · have h1 := hs.1
            rw [ha] at h1
            simp only [Bool.and_eq_true, bne_iff_ne] at h1
            obtain ⟨f, hf⟩ : ∃ f, l.length = f + 1 := ⟨l.length - 1, by omega⟩
            have h2 := h1.2
            rw [hf] at h2
            unfold blk at h2
            rw [Bool.or_eq_true, beq_iff_eq] at h2
            rcases h2 with e | h2
            · exact absurd e.symm h1.1
            · rw [ho] at h2
              obtain ⟨e, he, hbb⟩ := Array.any_eq_true'.1 h2
              simp only [Bool.and_eq_true] at hbb
              exact blk_listed hI.closed a f e.on hbb.2 (hall e he hbb.1)
          · have h1 := hs.2
            rw [hb] at h1
            cases hl : listed.getD b false with
            | false => rfl
            | true =>
              have := blk_listed hI.closed i l.length b h1 hl
              rw [getD_two hun] at this
              cases this)
        unfold wpOp
        simp only [List.getElem?_toArray, ho]
        rw [wanted_eq]
        by_cases hw : wantedBy l o a'.eval = true
        · rw [if_pos hw] at hob1 ⊢
          exact .inl (does_wp hob1 fun v w'' ⟨hC2, hT2, hF2, hS2⟩ => ih _ _ _ (hI.step hB hn ho hi hstab hph hC2 hT2 hF2 hS2 hlk) hcount)
        · rw [if_neg hw] at hob1 ⊢
          exact ih _ _ _ (hI.step hB hn ho hi hstab hph hI.world hob1.1 hob1.2.1 hob1.2.2 hlk) hcount
      refine ⟨fun hr => ?_, stepd⟩
      refine done listed a' w' hI hr ?_
      intro j
      induction j using Nat.strongRecOn with
      | _ j jh =>
        intro hj
        cases hl : listed.getD j false with
        | true => rfl
        | false =>
          exfalso
          have hnr : j ∉ Region.ready .any l.toArray listed := by rw [hr]; simp
          refine hnr (mem_ready.2 ⟨getD_inn (by rw [hI.lsize]; exact hj) hl, l[j], by rw [List.getElem?_toArray, List.getElem?_eq_getElem hj], fun e he hb => ?_⟩)
          have hlt := checkB_back hB (List.getElem?_eq_getElem hj) e he hb
          exact jh e.on hlt (by omega)
  have hrep : ∀ j, (Array.replicate l.toArray.size false).getD j false = false := fun j => by
    rw [Array.getD_eq_getD_getElem?]
    by_cases h : j < l.toArray.size
    · rw [Array.getElem?_replicate, if_pos h]; rfl
    · rw [Array.getElem?_replicate, if_neg h]; rfl
  refine main _ _ _ _ ⟨hC, by simp, rfl, rfl, ?_, fun _ _ => rfl, ?_, ?_⟩ ?_
  · intro j oj hj hl
    rw [hrep j] at hl
    cases hl
  · intro j o t hj hl
    rw [hrep j] at hl
    cases hl
  · intro ph hp hs _
    cases ha : ph.start with
    | none => exact hph0 ph hp ha
    | some a =>
      have := hs a ha
      rw [hrep a] at this
      cases this
  · rw [Array.toList_replicate]
    exact Nat.le_trans List.countP_le_length (by simp)
theorem wp_region_facts {id : Nat} {Q : Exit → Act → World → Prop} {a : Act} {w : World} (n : Nat) (F : List Fact) (Ph : List Phase) (C : World → Prop) (T : Nat → World → World → Prop) (hm : P.follows .mixedOrders = true) (hn : a.tmps.size = n) (hB : checkB l n = true) (hFl : F.length = l.length) (hC : C { w with drawn := w.drawn + 1 })
    (hstab : ∀ i j x w w', needB l F i j = true → i ≠ j → C w → (F.getD j (.det undef)).says x w → T i w w' → (F.getD j (.det undef)).says x w')
    (hph0 : ∀ ph ∈ Ph, ph.start = none → ph.p (sig a.eval) { w with drawn := w.drawn + 1 })
    (hph : ∀ i (ph : Phase) σ w w', ph ∈ Ph → ph.start ≠ some i → ph.upto ≠ some i → liveB l i ph.start ph.upto = true → C w → ph.p σ w → T i w w' → ph.p σ w')
    (hpl : ∀ ph ∈ Ph, ∀ a, ph.start = some a → a < l.length)
    (hob : ∀ i o, l[i]? = some o → Ob P l F Ph C T a.tmps i o)
    (hlk : lkB l (Ph.map fun ph => (ph.start, ph.looks)) = true)
    (hfin : ∀ σ w', C w' → (∀ ph ∈ Ph, ph.upto = none → ph.p σ w') → FinK σ (fun arr => Q .normal ⟨arr, a.defers⟩ w') w' (l.zip F) a.tmps) : (Code.region id l.toArray true).wp P Q a w :=
  wp_region_any hm (wpAny_facts n F Ph C T hn hB hFl hC hstab hph0 hph hpl hob hlk hfin)
def ObAll (P : Program) (l : List Oper) (F : List Fact) (Ph : List Phase) (C : World → Prop) (T : Nat → World → World → Prop) (a0 : Array Value) : Nat → List Oper → Prop
  | _, [] => True
  | i, o :: r => Ob P l F Ph C T a0 i o ∧ ObAll P l F Ph C T a0 (i + 1) r
theorem obAll_go : ∀ (r : List Oper) (k : Nat), ObAll P l F Ph C T a0 k r → ∀ i o, r[i]? = some o → Ob P l F Ph C T a0 (k + i) o
  | [], _, _, i, o, h => by simp at h
  | o :: r, k, h, 0, o', ho => by
    have : o = o' := by simpa using ho
    subst this
    exact h.1
  | o :: r, k, h, i + 1, o', ho => by
    have := obAll_go r (k + 1) h.2 i o' (by simpa using ho)
    rw [show k + (i + 1) = k + 1 + i by omega]
    exact this
theorem ob_all (h : ObAll P l F Ph C T a0 0 l) : ∀ i o, l[i]? = some o → Ob P l F Ph C T a0 i o := fun i o ho => by
  have := obAll_go l 0 h i o ho
  rwa [Nat.zero_add] at this
theorem see_out {o : Oper} {ev : Operand → Value} {w : World} {v : Value} (hs : ∀ t ∈ o.looksAt l.toArray, slotSays l F a0 o t (ev (.tmp t)) w) (t : Nat) (h1 : (o.looksAt l.toArray).contains t = true) (h2 : srcOf l o t = none) (h3 : a0[t]? = some v) : ev (.tmp t) = v := by
  have := hs t (by simpa using h1)
  unfold slotSays at this
  rw [h2] at this
  simp only at this
  rw [this, Array.getD_eq_getD_getElem?, h3]; rfl
theorem see_det {o : Oper} {ev : Operand → Value} {w : World} {v : Value} (hs : ∀ t ∈ o.looksAt l.toArray, slotSays l F a0 o t (ev (.tmp t)) w) (t j : Nat) (h1 : (o.looksAt l.toArray).contains t = true) (h2 : srcOf l o t = some j) (h3 : F.getD j (.det undef) = .det v) : ev (.tmp t) = v := by
  have := hs t (by simpa using h1)
  unfold slotSays at this
  rw [h2] at this
  simp only at this
  rw [h3] at this
  exact this
theorem see_held {o : Oper} {ev : Operand → Value} {w : World} {p : Value → World → Prop} (hs : ∀ t ∈ o.looksAt l.toArray, slotSays l F a0 o t (ev (.tmp t)) w) (t j : Nat) (h1 : (o.looksAt l.toArray).contains t = true) (h2 : srcOf l o t = some j) (h3 : F.getD j (.det undef) = .held p) : p (ev (.tmp t)) w := by
  have := hs t (by simpa using h1)
  unfold slotSays at this
  rw [h2] at this
  simp only at this
  rw [h3] at this
  exact this
theorem see_used {o : Oper} {ev : Operand → Value} {w : World} {p : Value → World → Prop} (hs : ∀ t ∈ o.looksAt l.toArray, slotSays l F a0 o t (ev (.tmp t)) w) (t j : Nat) (h1 : (o.looksAt l.toArray).contains t = true) (h2 : srcOf l o t = some j) (h3 : F.getD j (.det undef) = .used p) : p (ev (.tmp t)) w := by
  have := hs t (by simpa using h1)
  unfold slotSays at this
  rw [h2] at this
  simp only at this
  rw [h3] at this
  exact this
theorem wanted_none {o : Oper} {ev : Operand → Value} (h : o.guard = none) : wantedBy l o ev = true := by unfold wantedBy; rw [h]
theorem wanted_bool {o : Oper} {ev : Operand → Value} {g : Nat} {b q r : Bool} {t : Nat} (h : o.guard = some (g, b)) (hd : (l[g]?).bind (·.dst) = some t) (hv : ev (.tmp t) = .bool q) (hr : (q == b) = r) : wantedBy l o ev = r := by
  unfold wantedBy
  rw [h]
  simp only [hd, hv]
  exact hr
theorem no_start {i : Nat} (hp : Ph.all (fun ph => ph.start != some i) = true) {w : World} {σ : Nat → Value} : ∀ ph ∈ Ph, ph.start = some i → ph.p σ w := fun ph h1 h2 => by
  have := List.all_eq_true.1 hp ph h1
  rw [h2] at this
  simp at this
/-- an operation that yields a value and leaves the world -/
theorem ob_det {i : Nat} {o : Oper} {ev : Operand → Value} {w : World} {v : Value} (hw : wantedBy l o ev = true) (hF : F.getD i (.det undef) = .det v) (hp : Ph.all (fun ph => ph.start != some i) = true) (hC : C w) (hT : T i w w) (h : (execOp ev o).run P w = .ok (.value v) w) :
    if wantedBy l o ev = true then Does P ev o w (fun v w' => C w' ∧ T i w w' ∧ (F.getD i (.det undef)).says v w' ∧ ∀ ph ∈ Ph, ph.start = some i → ph.p (sig ev) w') else T i w w ∧ (F.getD i (.det undef)).says undef w ∧ ∀ ph ∈ Ph, ph.start = some i → ph.p (sig ev) w :=
  ob_yes hw (does_value h ⟨hC, hT, by rw [hF]; rfl, no_start hp⟩)
theorem ob_undef {i : Nat} {o : Oper} {ev : Operand → Value} {w : World} (hw : wantedBy l o ev = false) (hF : F.getD i (.det undef) = .det undef) (hp : Ph.all (fun ph => ph.start != some i) = true) (hT : T i w w) :
    if wantedBy l o ev = true then Does P ev o w (fun v w' => C w' ∧ T i w w' ∧ (F.getD i (.det undef)).says v w' ∧ ∀ ph ∈ Ph, ph.start = some i → ph.p (sig ev) w') else T i w w ∧ (F.getD i (.det undef)).says undef w ∧ ∀ ph ∈ Ph, ph.start = some i → ph.p (sig ev) w :=
  ob_no hw hT (by rw [hF]; rfl) (no_start hp)
def StabF (C : World → Prop) (R : World → World → Prop) : Fact → Prop
  | .det _ => True
  | .held p => ∀ x w w', C w → p x w → R w w' → p x w'
  | .used p => ∀ x w w', C w → p x w → R w w' → p x w'
def StabAll (C : World → Prop) (R : World → World → Prop) : List Fact → Prop
  | [] => True
  | f :: r => StabF C R f ∧ StabAll C R r
theorem StabF.use {R : World → World → Prop} {f : Fact} (h : StabF C R f) {x : Value} {w w' : World} (hC : C w) (hx : f.says x w) (hR : R w w') : f.says x w' := by
  cases f with
  | det v => exact hx
  | held p => exact h x w w' hC hx hR
  | used p => exact h x w w' hC hx hR
theorem stabAll_at {R : World → World → Prop} : ∀ {F : List Fact}, StabAll C R F → ∀ j, StabF C R (F.getD j (.det undef))
  | [], _, j => by simp [StabF]
  | f :: r, h, 0 => h.1
  | f :: r, h, j + 1 => by
    have := stabAll_at h.2 j
    simpa using this
theorem stab_uniform {R : World → World → Prop} (h : StabAll C R F) : ∀ i j x w w', needB l F i j = true → i ≠ j → C w → (F.getD j (.det undef)).says x w → (fun (_ : Nat) => R) i w w' → (F.getD j (.det undef)).says x w' :=
  fun _ j _ _ _ _ _ hC hx hR => (stabAll_at h j).use hC hx hR
def Fact.isDet : Fact → Bool
  | .det _ => true
  | _ => false
/-- what an operation does to the world: some do what is said of them, the others what all do -/
def TSp (sp : List (Nat × (World → World → Prop))) (R : World → World → Prop) (i : Nat) (w w' : World) : Prop := match sp.find? (fun p => p.1 == i) with | some p => p.2 w w' | none => R w w'
theorem TSp.of {sp : List (Nat × (World → World → Prop))} {R : World → World → Prop} {i : Nat} {w w' : World} (hn : sp.find? (fun p => p.1 == i) = none) (h : R w w') : TSp sp R i w w' := by unfold TSp; rw [hn]; exact h
theorem TSp.sp {sp : List (Nat × (World → World → Prop))} {R : World → World → Prop} {i : Nat} {p : Nat × (World → World → Prop)} {w w' : World} (hn : sp.find? (fun p => p.1 == i) = some p) (h : p.2 w w') : TSp sp R i w w' := by unfold TSp; rw [hn]; exact h
def stabChk (l : List Oper) (ds ks : List Bool) (js : List (Nat × Nat)) (apps : List Nat) : Bool :=
  apps.all fun i => (List.range l.length).all fun j => ds.getD j true || j == i || blk l i l.length j ||
    !(ks.getD j true || (List.range l.length).any fun k => (k != i && !blk l k l.length i) && (match l[k]? with | some o => usesB l o j | none => false)) || js.contains (i, j)
def phChk (l : List Oper) (ps : List (Option Nat × Option Nat)) (jp : List (Nat × Nat)) (apps : List Nat) : Bool :=
  apps.all fun i => (List.range ps.length).all fun k => match ps[k]? with
    | some q => q.1 == some i || q.2 == some i || !liveB l i q.1 q.2 || jp.contains (i, k)
    | none => true
theorem map_getD {B : Type} (f : Fact → B) (d : Fact) {db : B} (hd : f d = db) (j : Nat) : (F.map f).getD j db = f (F.getD j d) := by
  rw [List.getD_eq_getElem?_getD, List.getD_eq_getElem?_getD, List.getElem?_map]
  cases F[j]? with
  | none => exact hd.symm
  | some x => rfl
def JsAll (F : List Fact) (C : World → Prop) (sp : List (Nat × (World → World → Prop))) : List (Nat × Nat) → Prop
  | [] => True
  | p :: r => (match sp.find? (fun q => q.1 == p.1) with | some q => StabF C q.2 (F.getD p.2 (.det undef)) | none => False) ∧ JsAll F C sp r
theorem jsAll_at {sp : List (Nat × (World → World → Prop))} : ∀ {js : List (Nat × Nat)}, JsAll F C sp js → ∀ i j, (i, j) ∈ js → (match sp.find? (fun q => q.1 == i) with | some q => StabF C q.2 (F.getD j (.det undef)) | none => False)
  | [], _, _, _, h => by cases h
  | p :: r, h, i, j, hm => by
    rcases List.mem_cons.1 hm with e | e
    · subst e; exact h.1
    · exact jsAll_at h.2 i j e
theorem stab_sp {R : World → World → Prop} (sp : List (Nat × (World → World → Prop))) (ds ks : List Bool) (js : List (Nat × Nat)) (hds : F.map Fact.isDet = ds) (hks : F.map Fact.keeps = ks) (hFl : F.length = l.length) (hchk : stabChk l ds ks js (sp.map (·.1)) = true) (h : StabAll C R F) (hjs : JsAll F C sp js) :
    ∀ i j x w w', needB l F i j = true → i ≠ j → C w → (F.getD j (.det undef)).says x w → TSp sp R i w w' → (F.getD j (.det undef)).says x w' := by
  intro i j x w w' hn hij hC hx hT
  unfold TSp at hT
  cases ha : sp.find? (fun p => p.1 == i) with
  | none => rw [ha] at hT; exact (stabAll_at h j).use hC hx hT
  | some p =>
    rw [ha] at hT
    have hpm := List.mem_of_find?_eq_some ha
    have hpi : p.1 = i := by simpa using List.find?_some ha
    cases hd : (F.getD j (.det undef)).isDet with
    | true =>
      generalize F.getD j (.det undef) = f at *
      cases f with
      | det v => exact hx
      | held p => cases hd
      | used p => cases hd
    | false =>
      have hj : j < l.length := by
        rcases Nat.lt_or_ge j l.length with h | h
        · exact h
        · rw [List.getD_eq_getElem?_getD, List.getElem?_eq_none (by omega)] at hd; cases hd
      have h1 := List.all_eq_true.1 (List.all_eq_true.1 hchk i (List.mem_map.2 ⟨p, hpm, hpi⟩)) j (List.mem_range.2 hj)
      have e1 : ds.getD j true = (F.getD j (.det undef)).isDet := by rw [← hds]; exact map_getD Fact.isDet (.det undef) rfl j
      have e2 : ks.getD j true = (F.getD j (.det undef)).keeps := by rw [← hks]; exact map_getD Fact.keeps (.det undef) rfl j
      rw [e1, e2, hd] at h1
      unfold needB at hn
      rw [Bool.and_eq_true, Bool.not_eq_true'] at hn
      rw [hn.1, hn.2, show (j == i) = false from by simpa using fun e => hij e.symm] at h1
      have hm : (i, j) ∈ js := by simpa using h1
      have h2 := jsAll_at hjs i j hm
      rw [ha] at h2
      exact StabF.use h2 hC hx hT
def JpAll (Ph : List Phase) (C : World → Prop) (sp : List (Nat × (World → World → Prop))) : List (Nat × Nat) → Prop
  | [] => True
  | p :: r => (match sp.find? (fun q => q.1 == p.1), Ph[p.2]? with | some q, some ph => ∀ σ w w', C w → ph.p σ w → q.2 w w' → ph.p σ w' | _, _ => False) ∧ JpAll Ph C sp r
theorem jpAll_at {sp : List (Nat × (World → World → Prop))} : ∀ {jp : List (Nat × Nat)}, JpAll Ph C sp jp → ∀ i k, (i, k) ∈ jp → (match sp.find? (fun q => q.1 == i), Ph[k]? with | some q, some ph => ∀ σ w w', C w → ph.p σ w → q.2 w w' → ph.p σ w' | _, _ => False)
  | [], _, _, _, h => by cases h
  | p :: r, h, i, k, hm => by
    rcases List.mem_cons.1 hm with e | e
    · subst e; exact h.1
    · exact jpAll_at h.2 i k e
theorem phase_sp {R : World → World → Prop} (sp : List (Nat × (World → World → Prop))) (ps : List (Option Nat × Option Nat)) (jp : List (Nat × Nat)) (hps : Ph.map (fun ph => (ph.start, ph.upto)) = ps) (hchk : phChk l ps jp (sp.map (·.1)) = true) (h : ∀ ph ∈ Ph, ∀ σ w w', C w → ph.p σ w → R w w' → ph.p σ w') (hjp : JpAll Ph C sp jp) :
    ∀ i (ph : Phase) σ w w', ph ∈ Ph → ph.start ≠ some i → ph.upto ≠ some i → liveB l i ph.start ph.upto = true → C w → ph.p σ w → TSp sp R i w w' → ph.p σ w' := by
  intro i ph σ w w' hp hs hu hl hC hx hT
  unfold TSp at hT
  cases ha : sp.find? (fun p => p.1 == i) with
  | none => rw [ha] at hT; exact h ph hp σ w w' hC hx hT
  | some p =>
    rw [ha] at hT
    have hpm := List.mem_of_find?_eq_some ha
    have hpi : p.1 = i := by simpa using List.find?_some ha
    obtain ⟨k, hk, hke⟩ := List.getElem_of_mem hp
    have hkp : ps[k]? = some (ph.start, ph.upto) := by
      rw [← hps, List.getElem?_map, List.getElem?_eq_getElem hk, hke]; rfl
    have h1 := List.all_eq_true.1 (List.all_eq_true.1 hchk i (List.mem_map.2 ⟨p, hpm, hpi⟩)) k (List.mem_range.2 (List.getElem?_eq_some_iff.1 hkp).1)
    rw [hkp] at h1
    simp only [Bool.or_eq_true, beq_iff_eq, hl, Bool.not_true] at h1
    rcases h1 with ((h1 | h1) | h1) | h1
    · exact absurd h1 hs
    · exact absurd h1 hu
    · cases h1
    · have h2 := jpAll_at hjp i k (by simpa using h1)
      rw [ha, List.getElem?_eq_getElem hk, hke] at h2
      exact h2 σ w w' hC hx hT
/-- what only makes memory -/
def Grows (w w' : World) : Prop := Below w.heap.size w w'
theorem Grows.refl (w : World) : Grows w w := Below.refl _ _
end
end Go.Proofs.YtgjlpgijlicppaaGreatDoor
/-
  Walks by facts on slots: what each slot holds is a list; each operation is one step, shown from what it looks at alone.
-/
namespace Go.Proofs.YtgjlpgijlicppaaGreatDoor
open Go Go.RowKit
abbrev Env := List (Nat × Value)
def look : Env → Nat → Option Value
  | [], _ => none
  | (s, v) :: r, t => bif Nat.beq s t then some v else look r t
/-- the same, as it is reckoned out -/
def lookS : Env → Nat → Option Value
  | [], _ => none
  | (s, v) :: r, t => bif s == t then some v else lookS r t
theorem beq_two (s t : Nat) : (s == t) = Nat.beq s t := by
  rw [Bool.eq_iff_iff, beq_iff_eq]
  exact ⟨fun h => h ▸ Nat.beq_refl s, Nat.eq_of_beq_eq_true⟩
theorem lookS_eq (t : Nat) : ∀ Γ : Env, lookS Γ t = look Γ t
  | [] => rfl
  | (s, v) :: r => by
    unfold lookS look
    rw [lookS_eq t r, beq_two]
theorem look_cons (t : Nat) (v : Value) (s : Nat) (Γ : Env) : look ((t, v) :: Γ) s = bif t == s then some v else look Γ s := by rw [beq_two]; rfl
def keepE : List Nat → Env → Env
  | [], _ => []
  | t :: ks, Γ => match lookS Γ t with | some v => (t, v) :: keepE ks Γ | none => keepE ks Γ
theorem look_keep {t : Nat} {v : Value} {Γ : Env} : ∀ {ks : List Nat}, look (keepE ks Γ) t = some v → look Γ t = some v
  | [], h => by cases h
  | k :: ks, h => by
    unfold keepE at h
    cases hk : lookS Γ k with
    | none => rw [hk] at h; exact look_keep h
    | some u =>
      rw [hk] at h
      rw [look_cons] at h
      by_cases e : k = t
      · subst e
        simp only [beq_self_eq_true, cond_true] at h
        rw [← lookS_eq, hk, h]
      · have h2 : (k == t) = false := by simpa using e
        rw [h2, cond_false] at h
        exact look_keep h
def argsE : Nat → List Value → Env
  | _, [] => []
  | i, v :: r => (i, v) :: argsE (i + 1) r
theorem look_args {t : Nat} {v : Value} : ∀ {i : Nat} {l : List Value}, look (argsE i l) t = some v → i ≤ t ∧ l[t - i]? = some v
  | _, [], h => by cases h
  | i, x :: r, h => by
    unfold argsE at h
    rw [look_cons] at h
    by_cases e : i = t
    · subst e
      simp only [beq_self_eq_true, cond_true] at h
      simpa using h
    · have h2 : (i == t) = false := by simpa using e
      rw [h2, cond_false] at h
      obtain ⟨h3, h4⟩ := look_args h
      refine ⟨by omega, ?_⟩
      rw [show t - i = (t - (i + 1)) + 1 by omega]
      simpa using h4
/-- what a frame holds -/
structure At (n : Nat) (Γ : Env) (a : Act) : Prop where
  size : a.tmps.size = n
  defers : a.defers = []
  env : ∀ t v, look Γ t = some v → a.tmps[t]? = some v
structure EvIn (Γ : Env) (ev : Operand → Value) : Prop where
  ok : EvOk ev
  env : ∀ t v, look Γ t = some v → ev (.tmp t) = v
/-- what an operand is, out of a list -/
def lookD (e : Nat → Value) (t : Nat) : Env → Value
  | [] => e t
  | (s, v) :: r => bif Nat.beq s t then v else lookD e t r
@[go_sem ↓] theorem lookD_hit (e : Nat → Value) (t : Nat) (v : Value) (Γ : Env) : lookD e t ((t, v) :: Γ) = v := by unfold lookD; rw [Nat.beq_refl]; rfl
@[go_sem ↓] theorem lookD_miss (e : Nat → Value) {s t : Nat} (v : Value) (Γ : Env) (h : (s == t) = false) : lookD e t ((s, v) :: Γ) = lookD e t Γ := by
  rw [beq_two] at h
  show (bif Nat.beq s t then v else lookD e t Γ) = _
  rw [h]; rfl
theorem lookD_eq (e : Nat → Value) (t : Nat) : ∀ Γ : Env, (∀ v, look Γ t = some v → e t = v) → lookD e t Γ = e t
  | [], _ => rfl
  | (s, v) :: r, h => by
    unfold lookD
    unfold look at h
    cases hb : Nat.beq s t with
    | true => rw [hb] at h; rw [cond_true]; exact (h v rfl).symm
    | false => rw [hb] at h; rw [cond_false]; exact lookD_eq e t r h
abbrev EvT (Γ : Env) (e : Nat → Value) (ev : Operand → Value) : Prop := (∀ v, ev (.const v) = v) ∧ (∀ g, ev (.global g) = .pointer (some ⟨g, 0, none⟩)) ∧ (∀ f, ev (.func f) = .func (.func f) #[] #[]) ∧ ∀ t, ev (.tmp t) = lookD e t Γ
theorem EvIn.evt {Γ : Env} {ev : Operand → Value} (h : EvIn Γ ev) : EvT Γ (fun t => ev (.tmp t)) ev :=
  ⟨h.ok.const, h.ok.global, h.ok.func, fun t => (lookD_eq (fun t => ev (.tmp t)) t Γ fun v e => h.env t v e).symm⟩
def callOk (fn : Func) : Bool := !(fn.name == "runtime.NumGoroutine") && fn.body.isSome
/-- a call of a function that has a body -/
theorem exec_call {P : Program} {ev : Operand → Value} {o : Oper} {f : FuncId} {fn : Func} {ops : Array Operand} {tys : Array TypeId} {vals : Array Value} {w : World} (hf : P.funcs[f]? = some fn) (hc : callOk fn = true)
    (ho : o.op = .call { callee := .value (.func f), args := ops, argTypes := tys }) (hF : ev (.func f) = .func (.func f) #[] #[]) (hv : ops.map ev = vals) : (execOp ev o).run P w = .ok (.enter f vals) w := by
  unfold callOk at hc
  rw [Bool.and_eq_true, Bool.not_eq_true'] at hc
  have hn : ¬ fn.name = "runtime.NumGoroutine" := by simpa using hc.1
  have hb : ¬ fn.body = none := by
    have := hc.2
    cases h : fn.body with
    | none => rw [h] at this; cases this
    | some c => simp
  unfold execOp
  simp only [ho]
  simp [resolve, Deferred.ofValue, hF, hv, invoke, callFunc, hf, hn, hb]
section
variable {P : Program} {Q Q0 : Exit → Act → World → Prop} {a : Act} {w w' : World} {n : Nat} {Γ Γ' : Env} {l rest : List Oper} {o : Oper} {t : Nat} {v : Value} {ev : Operand → Value} {q b : Bool} {next : Act → World → Prop} {id : Nat}
theorem EvIn.get (h : EvIn Γ ev) (t : Nat) {v : Value} (e : look Γ t = some v) : ev (.tmp t) = v := h.env t v e
theorem EvIn.c (h : EvIn Γ ev) (v : Value) : ev (.const v) = v := h.ok.const v
theorem EvIn.g (h : EvIn Γ ev) (g : Nat) : ev (.global g) = .pointer (some ⟨g, 0, none⟩) := h.ok.global g
theorem EvIn.f (h : EvIn Γ ev) (f : FuncId) : ev (.func f) = .func (.func f) #[] #[] := h.ok.func f
theorem At.evin (h : At n Γ a) : EvIn Γ a.eval := ⟨evOk a, fun t v e => by
  have := h.env t v e
  simp [Act.eval, this]⟩
theorem At.getD (h : At n Γ a) (t : Nat) {v : Value} (e : look Γ t = some v) : a.tmps.getD t undef = v := by
  rw [Array.getD_eq_getD_getElem?, h.env t v e]; rfl
theorem At.put (h : At n Γ a) (ht : t < n) (v : Value) : At n ((t, v) :: Γ) (a.put (some t) v) := by
  refine ⟨by rw [put_size, h.size], by rw [put_def, h.defers], fun s u e => ?_⟩
  rw [look_cons] at e
  by_cases hts : t = s
  · subst hts
    simp only [beq_self_eq_true, cond_true, Option.some.injEq] at e
    subst e
    have : t < a.tmps.size := by rw [h.size]; exact ht
    simp [Act.put, this]
  · have h2 : (t == s) = false := by simpa using hts
    rw [h2, cond_false] at e
    rw [put_other (fun e => hts (Option.some.inj e))]
    exact h.env s u e
theorem At.keep (h : At n Γ a) (ks : List Nat) : At n (keepE ks Γ) a := ⟨h.size, h.defers, fun t v e => h.env t v (look_keep e)⟩
theorem At.to (h : At n Γ a) (e : Γ = Γ') : At n Γ' a := e ▸ h
/-- a call, entered -/
theorem calls_at {f : FuncId} {fn : Func} {c : Code} {args : Array Value} {R : Ending → World → Prop} (n : Nat) (hf : P.funcs[f]? = some fn) (hb : fn.body = some c) (hn : fn.ntmps = n) (ha : args.size ≤ n)
    (h : ∀ a, At n (argsE 0 args.toList) a → c.wp P (bodyPost P fn R) a w) : Calls P f args w R := by
  refine calls_of_wp hf hb (h _ ⟨?_, rfl, fun t v e => ?_⟩)
  · simp [hn]; omega
  · have h2 := (look_args e).2
    rw [Nat.sub_zero, Array.getElem?_toList] at h2
    show (args ++ Array.replicate (fn.ntmps - args.size) undef)[t]? = some v
    have hlt := (Array.getElem?_eq_some_iff.1 h2).1
    rw [Array.getElem?_append_left hlt]
    exact h2
-- the ways on
theorem n_then (h : next a w) : Exit.then next Q .normal a w := h
theorem n_block (h : Q .normal a w) : Exit.inBlock id Q .normal a w := h
theorem x_then {k : Nat} (h : Q (.exit k) a w) : Exit.then next Q (.exit k) a w := h
theorem x_block (h : Q .normal a w) : Exit.inBlock id Q (.exit id) a w := by
  show (if id = id then Q .normal a w else Q (.exit id) a w)
  rw [if_pos rfl]; exact h
theorem x_miss {k : Nat} (hk : k ≠ id) (h : Q (.exit k) a w) : Exit.inBlock id Q (.exit k) a w := by
  show (if k = id then Q .normal a w else Q (.exit k) a w)
  rw [if_neg hk]; exact h
theorem r_then (h : Q .ret a w) : Exit.then next Q .ret a w := h
theorem r_block (h : Q .ret a w) : Exit.inBlock id Q .ret a w := h
theorem wl_nil {ops : Array Oper} (h : Q .normal a w) : wpList P ops Q [] a w := h
/-- a test -/
theorem wp_if {x y : Code} (hA : At n Γ a) (t : Nat) (q : Bool) (hl : look Γ t = some (.bool q)) (ht : q = true → x.wp P Q a w) (hf : q = false → y.wp P Q a w) : (Code.cond (.tmp t) x y).wp P Q a w :=
  wp_cond_split (hA.evin.get t hl) ht hf
/-- what comes behind is shown once -/
theorem wp_seq_cut {x y : Code} (R : Act → World → Prop) (h : x.wp P (Exit.then R Q) a w) (hy : ∀ a w, R a w → y.wp P Q a w) : (Code.seq x y).wp P Q a w :=
  wp_seq (wp_mono h fun e a w q => by cases e <;> first | exact hy _ _ q | exact q)
/-- what comes behind a test is shown once -/
theorem wp_join {x y : Code} (R : Act → World → Prop) (h : x.wp P (Exit.then R Q) a w) (hy : ∀ a w, R a w → y.wp P Q a w) : x.wp P (Exit.then (y.wp P Q) Q) a w :=
  wp_mono h fun e a w q => by cases e <;> first | exact hy _ _ q | exact q
/-- a loop; the number goes down -/
theorem wp_loop_at {c : Code} (I : Nat → Act → World → Prop) (k : Nat) (h0 : I k a w) (round : ∀ k a w, I k a w → c.wp P (Exit.then (fun a' w' => ∃ k', k' < k ∧ I k' a' w') Q) a w) : (Code.loop c).wp P Q a w :=
  wp_loop_ghost I k h0 round
-- operations, in the text's order
theorem wl_op {v : Value} (hA : At n Γ a) (hg : o.guard = none) (hd : o.dst = some t) (ht : t < n) (hrun : ∀ ev, EvIn Γ ev → (execOp ev o).run P w = .ok (.value v) w')
    (hk : ∀ a', At n ((t, v) :: Γ) a' → wpList P l.toArray Q rest a' w') : wpList P l.toArray Q (o :: rest) a w := by
  refine wpList_plain hg fun K hK => ?_
  unfold Oper.wp
  rw [hrun _ hA.evin, Oper.upon_value, hd]
  exact hK _ _ (hk _ (hA.put ht v))
/-- new memory -/
theorem wl_new {v : Value} {x : Obj} (hA : At n Γ a) (hg : o.guard = none) (hd : o.dst = some t) (ht : t < n) (hrun : ∀ ev, EvIn Γ ev → (execOp ev o).run P w = .ok (.value v) (w.alloc x))
    (hk : ∀ w1 a', w1.heap[w.heap.size]? = some x → w1.heap.size = w.heap.size + 1 → Below w.heap.size w w1 → At n ((t, v) :: Γ) a' → wpList P l.toArray Q rest a' w1) : wpList P l.toArray Q (o :: rest) a w :=
  wl_op hA hg hd ht hrun fun a' hA' => hk _ a' (heap_alloc_new w x) (by simp) ((Below.refl _ _).alloc (Nat.le_refl _) x) hA'
/-- cells, one behind the other, are set -/
def setAll (w : World) (g : Nat) : Nat → List Value → World
  | _, [] => w
  | i, c :: r => setAll (w.setCell ⟨g, i, none⟩ c) g (i + 1) r
theorem blk_setAll {g : Nat} {T : TypeId} : ∀ (cs : List Value) (i : Nat) (w : World) (z : List Value), Blk w g T z.toArray → i + cs.length = z.length → Blk (setAll w g i cs) g T (z.take i ++ cs).toArray
  | [], i, w, z, h, hl => by
    have e : z.take i = z := List.take_of_length_le (by simp at hl; omega)
    rw [e, List.append_nil]
    exact h
  | c :: r, i, w, z, h, hl => by
    rw [List.length_cons] at hl
    have h2 := h.set_ i c
    rw [List.setIfInBounds_toArray] at h2
    have h3 := blk_setAll r (i + 1) _ _ h2 (by rw [List.length_set]; omega)
    have e : (z.set i c).take (i + 1) ++ r = z.take i ++ c :: r := by
      have hi : i < (z.set i c).length := by rw [List.length_set]; omega
      rw [List.take_succ_eq_append_getElem hi, List.getElem_set_self, List.take_set_of_le (Nat.le_refl i), List.append_assoc]
      rfl
    rw [e] at h3
    exact h3
theorem below_setAll {B g : Nat} {W : World} (hg : B ≤ g) : ∀ (cs : List Value) (i : Nat) (w : World), Below B W w → Below B W (setAll w g i cs)
  | [], _, _, h => h
  | c :: r, i, w, h => below_setAll hg r (i + 1) _ (Below.setCell h (by exact hg) c)
theorem size_setAll {g : Nat} : ∀ (cs : List Value) (i : Nat) (w : World), (setAll w g i cs).heap.size = w.heap.size
  | [], _, _ => rfl
  | c :: r, i, w => by
    show (setAll _ g (i + 1) r).heap.size = _
    rw [size_setAll r]
    simp
/-- a variable of its own, made and set -/
theorem wl_local {o2 : Oper} {T : TypeId} {z : List Value} (cs : List Value) (hA : At n Γ a) (hg : o.guard = none) (hd : o.dst = some t) (ht : t < n) (hrun : ∀ ev, EvIn Γ ev → (execOp ev o).run P w = .ok (.value (.pointer (some ⟨w.heap.size, 0, none⟩))) (w.alloc (.cells z.toArray T)))
    (hg2 : o2.guard = none) (hd2 : o2.dst = none) (hz : cs.length = z.length) (hrun2 : ∀ w1 g ev, Blk w1 g T z.toArray → EvIn ((t, .pointer (some ⟨g, 0, none⟩)) :: Γ) ev → (execOp ev o2).run P w1 = .ok .skip (setAll w1 g 0 cs))
    (hk : ∀ w1 a', Blk w1 w.heap.size T cs.toArray → w1.heap.size = w.heap.size + 1 → Below w.heap.size w w1 → At n ((t, .pointer (some ⟨w.heap.size, 0, none⟩)) :: Γ) a' → wpList P l.toArray Q rest a' w1) : wpList P l.toArray Q (o :: o2 :: rest) a w := by
  refine wl_op hA hg hd ht hrun fun a' hA' => ?_
  have hb : Blk (w.alloc (.cells z.toArray T)) w.heap.size T z.toArray := heap_alloc_new w _
  refine wpList_plain hg2 fun K hK => ?_
  unfold Oper.wp
  rw [hrun2 _ w.heap.size _ hb hA'.evin, Oper.upon_skip, hd2]
  refine hK _ _ (hk _ a' ?_ ?_ ?_ hA')
  · have := blk_setAll cs 0 _ _ hb (by omega)
    simpa using this
  · rw [size_setAll]; simp
  · exact below_setAll (Nat.le_refl _) cs 0 _ ((Below.refl _ _).alloc (Nat.le_refl _) _)
/-- only one block has turned -/
structure Only (g : Nat) (w w' : World) : Prop where
  os : w'.os = w.os
  tape : w'.tape = w.tape
  output : w'.output = w.output
  size : w'.heap.size = w.heap.size
  block : ∀ i, i ≠ g → w'.heap[i]? = w.heap[i]?
theorem Only.refl (g : Nat) (w : World) : Only g w w := ⟨rfl, rfl, rfl, rfl, fun _ _ => rfl⟩
theorem Only.trans {g : Nat} {w w' w'' : World} (h : Only g w w') (k : Only g w' w'') : Only g w w'' := ⟨k.os.trans h.os, k.tape.trans h.tape, k.output.trans h.output, k.size.trans h.size, fun i hi => (k.block i hi).trans (h.block i hi)⟩
theorem Only.set {g i : Nat} {w : World} {u : Value} : Only g w (w.setCell ⟨g, i, none⟩ u) := ⟨rfl, rfl, rfl, by simp, fun j hj => Below.heap_setCell _ _ _ _ hj⟩
theorem Only.setAll {g : Nat} : ∀ (cs : List Value) (i : Nat) (w : World), Only g w (setAll w g i cs)
  | [], _, w => Only.refl g w
  | _ :: r, i, _ => Only.set.trans (Only.setAll r (i + 1) _)
theorem Only.below {g B : Nat} {W w w' : World} (h : Only g w w') (hb : Below B W w) (hg : B ≤ g) : Below B W w' :=
  ⟨h.os.trans hb.os, h.tape.trans hb.tape, h.output.trans hb.output, by rw [h.size]; exact hb.size, fun i hi => (h.block i (by omega)).trans (hb.block i hi)⟩
theorem Only.blk {g k : Nat} {T : TypeId} {cs : Array Value} {w w' : World} (h : Only g w w') (hb : Blk w k T cs) (hk : k ≠ g) : Blk w' k T cs := (h.block k hk).trans hb
/-- a whole variable is set -/
theorem wl_set {g : Nat} {T : TypeId} {z : List Value} (cs : List Value) (hA : At n Γ a) (hg : o.guard = none) (hd : o.dst = none) (hK : Blk w g T z.toArray) (hz : cs.length = z.length) (hrun : ∀ ev, EvIn Γ ev → (execOp ev o).run P w = .ok .skip (setAll w g 0 cs))
    (hk : ∀ w1, Blk w1 g T cs.toArray → Only g w w1 → wpList P l.toArray Q rest a w1) : wpList P l.toArray Q (o :: rest) a w := by
  refine wpList_plain hg fun K hK' => ?_
  unfold Oper.wp
  rw [hrun _ hA.evin, Oper.upon_skip, hd]
  refine hK' _ _ (hk _ ?_ (Only.setAll cs 0 w))
  have := blk_setAll cs 0 _ _ hK (by omega)
  simpa using this
theorem wl_skip (hA : At n Γ a) (hg : o.guard = none) (hd : o.dst = none) (hrun : ∀ ev, EvIn Γ ev → (execOp ev o).run P w = .ok .skip w')
    (hk : wpList P l.toArray Q rest a w') : wpList P l.toArray Q (o :: rest) a w := by
  refine wpList_plain hg fun K hK => ?_
  unfold Oper.wp
  rw [hrun _ hA.evin, Oper.upon_skip, hd]
  exact hK _ _ hk
theorem wl_call {f : FuncId} {args : Array Value} {R : Ending → World → Prop} (hA : At n Γ a) (hg : o.guard = none) (hd : o.dst = some t) (ht : t < n) (hrun : ∀ ev, EvIn Γ ev → (execOp ev o).run P w = .ok (.enter f args) w)
    (hc : Calls P f args w R) (hk : ∀ e w', R e w' → ∃ v, e = .returned v ∧ ∀ a', At n ((t, v) :: Γ) a' → wpList P l.toArray Q rest a' w') : wpList P l.toArray Q (o :: rest) a w := by
  refine wpList_plain hg fun K hK => ?_
  unfold Oper.wp
  rw [hrun _ hA.evin, Oper.upon_enter]
  refine Calls.mono hc fun e w' hR => ?_
  obtain ⟨v, rfl, h⟩ := hk e w' hR
  rw [hd]
  exact hK _ _ (h _ (hA.put ht v))
/-- a call whose answer goes nowhere -/
theorem wl_call0 {f : FuncId} {args : Array Value} {R : Ending → World → Prop} (hA : At n Γ a) (hg : o.guard = none) (hd : o.dst = none) (hrun : ∀ ev, EvIn Γ ev → (execOp ev o).run P w = .ok (.enter f args) w)
    (hc : Calls P f args w R) (hk : ∀ e w', R e w' → ∃ v, e = .returned v ∧ wpList P l.toArray Q rest a w') : wpList P l.toArray Q (o :: rest) a w := by
  refine wpList_plain hg fun K hK => ?_
  unfold Oper.wp
  rw [hrun _ hA.evin, Oper.upon_enter]
  refine Calls.mono hc fun e w' hR => ?_
  obtain ⟨v, rfl, h⟩ := hk e w' hR
  rw [hd]
  exact hK _ _ h
/-- what a guarded operation leaves -/
def gw (c : Bool) (v : Value) : Value := bif c then v else undef
abbrev gv (q b : Bool) (v : Value) : Value := gw (q == b) v
theorem gw_t {c : Bool} {v : Value} (h : c = true) : gw c v = v := by rw [h]; rfl
theorem gw_a {c d : Bool} {v : Value} (h : c = true) : gw (c && d) v = gw d v := by rw [h]; rfl
theorem beq_t {q b : Bool} (h : q = b) : (q == b) = true := by rw [h]; cases b <;> rfl
theorem and_beq {c r b : Bool} (h : c = true) (k : r = b) : (c && (r == b)) = true := by rw [h, k]; cases b <;> rfl
theorem and_l {c d : Bool} (h : (c && d) = true) : c = true := (Bool.and_eq_true _ _ ▸ h : c = true ∧ d = true).1
theorem gv_same (b : Bool) (v : Value) : gv b b v = v := by cases b <;> rfl
theorem gv_tt (v : Value) : gw (true == true) v = v := rfl
theorem gv_ff (v : Value) : gw (false == false) v = v := rfl
theorem gv_or (q r : Bool) : (if q = true then Value.bool true else gw (q == false) (.bool r)) = .bool (q || r) := by cases q <;> rfl
theorem gv_and (q r : Bool) : (if q = true then gw (q == true) (.bool r) else Value.bool false) = .bool (q && r) := by cases q <;> rfl
theorem pick_and {c x y : Operand} {r : Bool} (ho : o.op = .pick c x y) (hc : ev c = .bool q) (hx : ev x = gv q true (.bool r)) (hy : ev y = .bool false) : (execOp ev o).run P w = .ok (.value (.bool (q && r))) w := by
  unfold execOp
  rw [ho]
  cases q <;> simp [go_sem, hc, hx, hy, gw]
theorem pick_or {c x y : Operand} {r : Bool} (ho : o.op = .pick c x y) (hc : ev c = .bool q) (hx : ev x = .bool true) (hy : ev y = gv q false (.bool r)) : (execOp ev o).run P w = .ok (.value (.bool (q || r))) w := by
  unfold execOp
  rw [ho]
  cases q <;> simp [go_sem, hc, hx, hy, gw]
theorem wl_guard {gi gt : Nat} {v : Value} (q : Bool) (hA : At n Γ a) (hg : o.guard = some (gi, b)) (hgd : (l[gi]?).bind (·.dst) = some gt) (hl : look Γ gt = some (.bool q)) (hd : o.dst = some t) (ht : t < n)
    (hrun : q = b → ∀ ev, EvIn Γ ev → (execOp ev o).run P w = .ok (.value v) w) (hk : ∀ a', At n ((t, gv q b v) :: Γ) a' → wpList P l.toArray Q rest a' w) : wpList P l.toArray Q (o :: rest) a w := by
  have hw : Region.wanted o (yielded l.toArray a.tmps) = (q == b) := by
    rw [wanted_eq]
    exact wanted_bool hg hgd (hA.evin.get gt hl) rfl
  refine wpList_step fun K hK => ?_
  rw [hw]
  cases hqb : q == b with
  | true =>
    rw [if_pos rfl]
    unfold Oper.wp
    rw [hrun (by simpa using hqb) _ hA.evin, Oper.upon_value, hd]
    have := hk _ (hA.put ht (gv q b v))
    unfold gv gw at this
    rw [hqb] at this
    exact hK _ _ this
  | false =>
    rw [if_neg (by simp), hd]
    have := hk _ (hA.put ht (gv q b v))
    unfold gv gw at this
    rw [hqb] at this
    exact hK _ _ this
/-- a guard that is guarded itself -/
theorem wl_guard2 {gi gt : Nat} {v : Value} (c r : Bool) (hA : At n Γ a) (hg : o.guard = some (gi, b)) (hgd : (l[gi]?).bind (·.dst) = some gt) (hl : look Γ gt = some (gw c (.bool r))) (hd : o.dst = some t) (ht : t < n)
    (hrun : c = true → r = b → ∀ ev, EvIn Γ ev → (execOp ev o).run P w = .ok (.value v) w) (hk : ∀ a', At n ((t, gw (c && (r == b)) v) :: Γ) a' → wpList P l.toArray Q rest a' w) : wpList P l.toArray Q (o :: rest) a w := by
  have hev := hA.evin.get gt hl
  have hw : Region.wanted o (yielded l.toArray a.tmps) = (c && (r == b)) := by
    rw [wanted_eq]
    unfold wantedBy
    rw [hg]
    simp only [hgd, hev]
    unfold gw
    cases c <;> rfl
  refine wpList_step fun K hK => ?_
  rw [hw]
  have h3 := hk _ (hA.put ht (gw (c && (r == b)) v))
  unfold gw at h3
  cases hcb : c && (r == b) with
  | true =>
    rw [hcb] at h3
    rw [if_pos rfl]
    rw [Bool.and_eq_true, beq_iff_eq] at hcb
    unfold Oper.wp
    rw [hrun hcb.1 hcb.2 _ hA.evin, Oper.upon_value, hd]
    exact hK _ _ h3
  | false =>
    rw [hcb] at h3
    rw [if_neg (by simp), hd]
    exact hK _ _ h3
/-- a guarded call -/
theorem wl_gcall {gi gt : Nat} {f : FuncId} {args : Array Value} {R : Ending → World → Prop} (q : Bool) (hA : At n Γ a) (hg : o.guard = some (gi, b)) (hgd : (l[gi]?).bind (·.dst) = some gt) (hl : look Γ gt = some (.bool q)) (hd : o.dst = some t) (ht : t < n)
    (hrun : q = b → ∀ ev, EvIn Γ ev → (execOp ev o).run P w = .ok (.enter f args) w) (hc : q = b → Calls P f args w R) (K : Value → World → Prop)
    (hR : q = b → ∀ e w', R e w' → ∃ v, e = .returned v ∧ K v w') (hn : q ≠ b → K undef w) (hk : ∀ v a' w', K v w' → At n ((t, gv q b v) :: Γ) a' → wpList P l.toArray Q rest a' w') : wpList P l.toArray Q (o :: rest) a w := by
  have hw : Region.wanted o (yielded l.toArray a.tmps) = (q == b) := by
    rw [wanted_eq]
    exact wanted_bool hg hgd (hA.evin.get gt hl) rfl
  refine wpList_step fun K' hK => ?_
  rw [hw]
  cases hqb : q == b with
  | true =>
    have e : q = b := by simpa using hqb
    rw [if_pos rfl]
    unfold Oper.wp
    rw [hrun e _ hA.evin, Oper.upon_enter]
    refine Calls.mono (hc e) fun e' w' hR' => ?_
    obtain ⟨v, rfl, h⟩ := hR e e' w' hR'
    rw [hd]
    have := hk v _ w' h (hA.put ht (gv q b v))
    unfold gv gw at this
    rw [hqb] at this
    exact hK _ _ this
  | false =>
    rw [if_neg (by simp), hd]
    have := hk undef _ w (hn (by simpa using hqb)) (hA.put ht (gv q b undef))
    unfold gv gw at this
    rw [hqb] at this
    exact hK _ _ this
/-- a guarded call that answers with a value and makes memory alone -/
theorem wl_gcallv {gi gt : Nat} {f : FuncId} {args : Array Value} {v : Value} (q : Bool) (hA : At n Γ a) (hg : o.guard = some (gi, b)) (hgd : (l[gi]?).bind (·.dst) = some gt) (hl : look Γ gt = some (.bool q)) (hd : o.dst = some t) (ht : t < n)
    (hrun : q = b → ∀ ev, EvIn Γ ev → (execOp ev o).run P w = .ok (.enter f args) w) (hc : q = b → Calls P f args w fun e w' => e = .returned v ∧ Below w.heap.size w w')
    (hk : ∀ a' w', Below w.heap.size w w' → At n ((t, gv q b v) :: Γ) a' → wpList P l.toArray Q rest a' w') : wpList P l.toArray Q (o :: rest) a w := by
  have hw : Region.wanted o (yielded l.toArray a.tmps) = (q == b) := by
    rw [wanted_eq]
    exact wanted_bool hg hgd (hA.evin.get gt hl) rfl
  refine wpList_step fun K' hK => ?_
  rw [hw]
  cases hqb : q == b with
  | true =>
    have e : q = b := by simpa using hqb
    rw [if_pos rfl]
    unfold Oper.wp
    rw [hrun e _ hA.evin, Oper.upon_enter]
    refine Calls.mono (hc e) fun e' w' ⟨he, hb⟩ => ?_
    subst he
    rw [hd]
    have := hk _ w' hb (hA.put ht (gv q b v))
    unfold gv gw at this
    rw [hqb] at this
    exact hK _ _ this
  | false =>
    rw [if_neg (by simp), hd]
    have := hk _ w (Below.refl _ _) (hA.put ht (gv q b v))
    unfold gv gw at this
    rw [hqb] at this
    exact hK _ _ this
theorem wl_gcallv2 {gi gt : Nat} {f : FuncId} {args : Array Value} {v : Value} (c r : Bool) (hA : At n Γ a) (hg : o.guard = some (gi, b)) (hgd : (l[gi]?).bind (·.dst) = some gt) (hl : look Γ gt = some (gw c (.bool r))) (hd : o.dst = some t) (ht : t < n)
    (hrun : c = true → r = b → ∀ ev, EvIn Γ ev → (execOp ev o).run P w = .ok (.enter f args) w) (hc : c = true → r = b → Calls P f args w fun e w' => e = .returned v ∧ Below w.heap.size w w')
    (hk : ∀ a' w', Below w.heap.size w w' → At n ((t, gw (c && (r == b)) v) :: Γ) a' → wpList P l.toArray Q rest a' w') : wpList P l.toArray Q (o :: rest) a w := by
  have hev := hA.evin.get gt hl
  have hw : Region.wanted o (yielded l.toArray a.tmps) = (c && (r == b)) := by
    rw [wanted_eq]
    unfold wantedBy
    rw [hg]
    simp only [hgd, hev]
    unfold gw
    cases c <;> rfl
  refine wpList_step fun K' hK => ?_
  rw [hw]
  cases hqb : c && (r == b) with
  | true =>
    have e := hqb
    rw [Bool.and_eq_true, beq_iff_eq] at e
    rw [if_pos rfl]
    unfold Oper.wp
    rw [hrun e.1 e.2 _ hA.evin, Oper.upon_enter]
    refine Calls.mono (hc e.1 e.2) fun e' w' ⟨he, hb⟩ => ?_
    subst he
    rw [hd]
    have := hk _ w' hb (hA.put ht (gw (c && (r == b)) v))
    unfold gw at this
    rw [hqb] at this
    exact hK _ _ this
  | false =>
    rw [if_neg (by simp), hd]
    have := hk _ w (Below.refl _ _) (hA.put ht (gw (c && (r == b)) v))
    unfold gw at this
    rw [hqb] at this
    exact hK _ _ this
-- what is left behind a region whose order is open
def FinE (σ : Nat → Value) (K : Env → Prop) (w : World) : List (Oper × Fact) → Env → Prop
  | [], Γ => K Γ
  | (⟨some t, _, _, _, _, _⟩, .det v) :: r, Γ => FinE σ K w r ((t, v) :: Γ)
  | (⟨some t, _, _, _, _, _⟩, .held p) :: r, Γ => ∀ x, x = σ t → p x w → FinE σ K w r ((t, x) :: Γ)
  | (⟨some t, _, _, _, _, _⟩, .used _) :: r, Γ => ∀ x, x = σ t → FinE σ K w r ((t, x) :: Γ)
  | (⟨none, _, _, _, _, _⟩, _) :: r, Γ => FinE σ K w r Γ
theorem fin_env {σ : Nat → Value} {w : World} {ds : List Deferred} (hds : ds = []) : ∀ (m : List (Oper × Fact)) (arr : Array Value) (Γ : Env), (∀ p ∈ m, ∀ t, p.1.dst = some t → t < n) → At n Γ ⟨arr, ds⟩ → FinE σ (fun Γ => ∀ a', At n Γ a' → Q .normal a' w) w m Γ → FinK σ (fun arr => Q .normal ⟨arr, ds⟩ w) w m arr
  | [], arr, Γ, _, hA, h => h _ hA
  | (⟨d, _, _, _, _, _⟩, f) :: r, arr, Γ, hm, hA, h => by
    have hr := fun p hp => hm p (List.mem_cons_of_mem _ hp)
    cases d with
    | none => exact fin_env hds r arr Γ hr hA h
    | some t =>
      have ht : t < n := hm _ List.mem_cons_self t rfl
      cases f with
      | det v => exact fin_env hds r _ _ hr (hA.put ht v) h
      | held p => exact fun x he hx => fin_env hds r _ _ hr (hA.put ht x) (h x he hx)
      | used p => exact fun x he => fin_env hds r _ _ hr (hA.put ht x) (h x he)
def dstsB (l : List Oper) (n : Nat) : Bool := l.all fun o => match o.dst with | some t => decide (t < n) | none => true
theorem wp_any_at {id : Nat} {d : Bool} (hA : At n Γ a) (F : List Fact) (Ph : List Phase) (C : World → Prop) (T : Nat → World → World → Prop) (hm : P.follows .mixedOrders = true) (hdr : d = true) (hB : checkB l n = true) (hdB : dstsB l n = true) (hFl : F.length = l.length) (hC : C { w with drawn := w.drawn + 1 })
    (hstab : ∀ i j x w w', needB l F i j = true → i ≠ j → C w → (F.getD j (.det undef)).says x w → T i w w' → (F.getD j (.det undef)).says x w')
    (hph0 : ∀ ph ∈ Ph, ph.start = none → ph.p (sig a.eval) { w with drawn := w.drawn + 1 })
    (hph : ∀ i (ph : Phase) σ w w', ph ∈ Ph → ph.start ≠ some i → ph.upto ≠ some i → liveB l i ph.start ph.upto = true → C w → ph.p σ w → T i w w' → ph.p σ w')
    (hpl : ∀ ph ∈ Ph, ∀ a, ph.start = some a → a < l.length)
    (hob : ObAll P l F Ph C T a.tmps 0 l)
    (hlk : lkB l (Ph.map fun ph => (ph.start, ph.looks)) = true)
    (hfin : ∀ σ w', C w' → (∀ ph ∈ Ph, ph.upto = none → ph.p σ w') → FinE σ (fun Γ => ∀ a', At n Γ a' → Q .normal a' w') w' (l.zip F) Γ) : (Code.region id l.toArray d).wp P Q a w := by
  subst hdr
  refine wp_region_facts n F Ph C T hm hA.size hB hFl hC hstab hph0 hph hpl (ob_all hob) hlk fun σ w' hC' hp' => ?_
  refine fin_env hA.defers _ _ Γ (fun p hp t ht => ?_) hA (hfin σ w' hC' hp')
  have hpl := (List.of_mem_zip (a := p.1) (b := p.2) hp).1
  unfold dstsB at hdB
  have := List.all_eq_true.1 hdB p.1 hpl
  rw [ht] at this
  simpa using this
theorem see_env {F : List Fact} {o : Oper} {ev : Operand → Value} {w : World} {v : Value} (hA : At n Γ a) (hs : ∀ t ∈ o.looksAt l.toArray, slotSays l F a.tmps o t (ev (.tmp t)) w) (t : Nat) (h1 : (o.looksAt l.toArray).contains t = true) (h2 : srcOf l o t = none) (h3 : look Γ t = some v) : ev (.tmp t) = v :=
  see_out hs t h1 h2 (hA.env t v h3)
theorem ob_gv {F : List Fact} {Ph : List Phase} {C : World → Prop} {T : Nat → World → World → Prop} {i gi gt : Nat} {o : Oper} {ev : Operand → Value} {w : World} {v u : Value} {b : Bool} (q : Bool) (hg : o.guard = some (gi, b)) (hgd : (l[gi]?).bind (·.dst) = some gt) (hv : ev (.tmp gt) = .bool q) (hF : F.getD i (.det undef) = .det u) (hp : Ph.all (fun ph => ph.start != some i) = true) (hC : C w) (hT : T i w w) (h : q = b → (execOp ev o).run P w = .ok (.value v) w) (hu : u = gv q b v) :
    if wantedBy l o ev = true then Does P ev o w (fun v w' => C w' ∧ T i w w' ∧ (F.getD i (.det undef)).says v w' ∧ ∀ ph ∈ Ph, ph.start = some i → ph.p (sig ev) w') else T i w w ∧ (F.getD i (.det undef)).says undef w ∧ ∀ ph ∈ Ph, ph.start = some i → ph.p (sig ev) w := by
  subst hu
  have hw := wanted_bool (l := l) (r := (q == b)) hg hgd hv rfl
  cases hqb : q == b with
  | true =>
    rw [hqb] at hw
    refine ob_yes hw (does_value (h (by simpa using hqb)) ⟨hC, hT, ?_, no_start hp⟩)
    rw [hF]; unfold gv gw; rw [hqb]; rfl
  | false =>
    rw [hqb] at hw
    refine ob_no hw hT ?_ (no_start hp)
    rw [hF]; unfold gv gw; rw [hqb]; rfl
theorem ob_gw {F : List Fact} {Ph : List Phase} {C : World → Prop} {T : Nat → World → World → Prop} {i gi gt : Nat} {o : Oper} {ev : Operand → Value} {w : World} {v u : Value} {b : Bool} (c r : Bool) (hg : o.guard = some (gi, b)) (hgd : (l[gi]?).bind (·.dst) = some gt) (hv : ev (.tmp gt) = gw c (.bool r)) (hF : F.getD i (.det undef) = .det u) (hp : Ph.all (fun ph => ph.start != some i) = true) (hC : C w) (hT : T i w w) (h : c = true → r = b → (execOp ev o).run P w = .ok (.value v) w) (hu : u = gw (c && (r == b)) v) :
    if wantedBy l o ev = true then Does P ev o w (fun v w' => C w' ∧ T i w w' ∧ (F.getD i (.det undef)).says v w' ∧ ∀ ph ∈ Ph, ph.start = some i → ph.p (sig ev) w') else T i w w ∧ (F.getD i (.det undef)).says undef w ∧ ∀ ph ∈ Ph, ph.start = some i → ph.p (sig ev) w := by
  subst hu
  have hw : wantedBy l o ev = (c && (r == b)) := by
    unfold wantedBy
    rw [hg]
    simp only [hgd, hv]
    unfold gw
    cases c <;> rfl
  cases hqb : c && (r == b) with
  | true =>
    rw [hqb] at hw
    rw [Bool.and_eq_true, beq_iff_eq] at hqb
    refine ob_yes hw (does_value (h hqb.1 hqb.2) ⟨hC, hT, ?_, no_start hp⟩)
    rw [hF]; unfold gw; rw [hqb.1, hqb.2]; cases b <;> rfl
  | false =>
    rw [hqb] at hw
    refine ob_no hw hT ?_ (no_start hp)
    rw [hF]; unfold gw; rw [hqb]; rfl
/-- a guarded call, in a region whose order is open, that answers with a value and makes memory alone -/
theorem ob_gcall {F : List Fact} {Ph : List Phase} {C : World → Prop} {T : Nat → World → World → Prop} {i gi gt : Nat} {f : FuncId} {args : Array Value} {o : Oper} {ev : Operand → Value} {w : World} {v u : Value} {b : Bool} (q : Bool) (hg : o.guard = some (gi, b)) (hgd : (l[gi]?).bind (·.dst) = some gt) (hv : ev (.tmp gt) = .bool q) (hF : F.getD i (.det undef) = .det u) (hp : Ph.all (fun ph => ph.start != some i) = true) (hu : u = gv q b v)
    (h : q = b → (execOp ev o).run P w = .ok (.enter f args) w) (hc : q = b → Calls P f args w fun e w' => e = .returned v ∧ Below w.heap.size w w') (hk : ∀ w', Below w.heap.size w w' → C w' ∧ T i w w') :
    if wantedBy l o ev = true then Does P ev o w (fun v w' => C w' ∧ T i w w' ∧ (F.getD i (.det undef)).says v w' ∧ ∀ ph ∈ Ph, ph.start = some i → ph.p (sig ev) w') else T i w w ∧ (F.getD i (.det undef)).says undef w ∧ ∀ ph ∈ Ph, ph.start = some i → ph.p (sig ev) w := by
  subst hu
  have hw := wanted_bool (l := l) (r := (q == b)) hg hgd hv rfl
  cases hqb : q == b with
  | true =>
    rw [hqb] at hw
    have e : q = b := by simpa using hqb
    refine ob_yes hw (does_enter (h e) (Calls.mono (hc e) fun e' w' ⟨he, hb⟩ => ⟨_, he, (hk w' hb).1, (hk w' hb).2, ?_, no_start hp⟩))
    rw [hF]; unfold gv gw; rw [hqb]; rfl
  | false =>
    rw [hqb] at hw
    refine ob_no hw (hk w (Below.refl _ _)).2 ?_ (no_start hp)
    rw [hF]; unfold gv gw; rw [hqb]; rfl
/-- a call, in a region whose order is open, that answers with a value and makes memory alone -/
theorem ob_dcall {F : List Fact} {Ph : List Phase} {C : World → Prop} {T : Nat → World → World → Prop} {i : Nat} {f : FuncId} {args : Array Value} {o : Oper} {ev : Operand → Value} {w : World} {u v : Value} (hw : wantedBy l o ev = true) (hF : F.getD i (.det undef) = .det u) (hp : Ph.all (fun ph => ph.start != some i) = true)
    (hc : Calls P f args w fun e w' => e = .returned v ∧ Below w.heap.size w w') (h : (execOp ev o).run P w = .ok (.enter f args) w) (hu : u = v) (hk : ∀ w', Below w.heap.size w w' → C w' ∧ T i w w') :
    if wantedBy l o ev = true then Does P ev o w (fun v w' => C w' ∧ T i w w' ∧ (F.getD i (.det undef)).says v w' ∧ ∀ ph ∈ Ph, ph.start = some i → ph.p (sig ev) w') else T i w w ∧ (F.getD i (.det undef)).says undef w ∧ ∀ ph ∈ Ph, ph.start = some i → ph.p (sig ev) w :=
  ob_yes hw (does_enter h (Calls.mono hc fun _ w' ⟨he, hb⟩ => ⟨_, he, (hk w' hb).1, (hk w' hb).2, by rw [hF, hu]; rfl, no_start hp⟩))
theorem no_1 {i : Nat} (h : (none : Option Nat) = some i) : False := by cases h
theorem no_2 {i j : Nat} (hne : Nat.beq i j = false) (h : some i = some j) : False := by
  injection h with h
  subst h
  rw [Nat.beq_refl] at hne
  cases hne
theorem At.keepN (h : At n Γ a) (ks : List Nat) (e : keepE ks Γ = Γ' := by simp only [argsE, keepE, lookS, Nat.reduceBEq, cond_true, cond_false, Nat.reduceAdd, gv_tt, gv_ff, Bool.true_and, Bool.false_and, Bool.true_or, Bool.false_or] <;> rfl) : At n Γ' a := e ▸ h.keep ks
theorem At.norm (h : At n Γ a) (e : Γ = Γ' := by simp only [argsE, keepE, lookS, Nat.reduceBEq, cond_true, cond_false, Nat.reduceAdd, gv_tt, gv_ff, Bool.true_and, Bool.false_and, Bool.true_or, Bool.false_or] <;> rfl) : At n Γ' a := e ▸ h
theorem nT (h : next a w) : Exit.then next Q .normal a w := h
theorem nB (h : Q .normal a w) : Exit.inBlock id Q .normal a w := h
theorem xT {k : Nat} (h : Q (.exit k) a w) : Exit.then next Q (.exit k) a w := h
theorem xB (h : Q .normal a w) : Exit.inBlock id Q (.exit id) a w := x_block h
theorem rT (h : Q .ret a w) : Exit.then next Q .ret a w := h
theorem rB (h : Q .ret a w) : Exit.inBlock id Q .ret a w := h
theorem wN {ops : Array Oper} (h : Q .normal a w) : wpList P ops Q [] a w := h
theorem wS {x y : Code} (h : x.wp P (Exit.then (y.wp P Q) Q) a w) : (Code.seq x y).wp P Q a w := wp_seq h
theorem wB {c : Code} (h : c.wp P (Exit.inBlock id Q) a w) : (Code.block id c).wp P Q a w := wp_block h
theorem wR {ops : List Oper} (h : wpList P ops.toArray Q ops a w) : (Code.region id ops.toArray false).wp P Q a w := wp_region_lit h
/-- an operation, in a run of such -/
theorem wo {v : Value} (hg : o.guard = none) (hd : o.dst = some t) (ht : t < n) (hrun : ∀ ev e, EvT Γ e ev → (execOp ev o).run P w = .ok (.value v) w)
    (hk : ∀ a', At n ((t, v) :: Γ) a' → wpList P l.toArray Q rest a' w) : ∀ a, At n Γ a → wpList P l.toArray Q (o :: rest) a w :=
  fun _ hA => wl_op hA hg hd ht (fun ev h => hrun ev _ h.evt) hk
theorem wg {gi gt : Nat} {v : Value} (q : Bool) (hg : o.guard = some (gi, b)) (hgd : (l[gi]?).bind (·.dst) = some gt) (hl : look Γ gt = some (.bool q)) (hd : o.dst = some t) (ht : t < n)
    (hrun : q = b → ∀ ev e, EvT Γ e ev → (execOp ev o).run P w = .ok (.value v) w) (hk : ∀ a', At n ((t, gv q b v) :: Γ) a' → wpList P l.toArray Q rest a' w) : ∀ a, At n Γ a → wpList P l.toArray Q (o :: rest) a w :=
  fun _ hA => wl_guard q hA hg hgd hl hd ht (fun hq ev h => hrun hq ev _ h.evt) hk
theorem wg2 {gi gt : Nat} {v : Value} (c r : Bool) (hg : o.guard = some (gi, b)) (hgd : (l[gi]?).bind (·.dst) = some gt) (hl : look Γ gt = some (gw c (.bool r))) (hd : o.dst = some t) (ht : t < n)
    (hrun : c = true → r = b → ∀ ev e, EvT Γ e ev → (execOp ev o).run P w = .ok (.value v) w) (hk : ∀ a', At n ((t, gw (c && (r == b)) v) :: Γ) a' → wpList P l.toArray Q rest a' w) : ∀ a, At n Γ a → wpList P l.toArray Q (o :: rest) a w :=
  fun _ hA => wl_guard2 c r hA hg hgd hl hd ht (fun hc hq ev h => hrun hc hq ev _ h.evt) hk
theorem wka {tc tx : Nat} {r : Bool} (hg : o.guard = none) (hd : o.dst = some t) (ht : t < n) (ho : o.op = .pick (.tmp tc) (.tmp tx) (.const (.bool false))) (hc : look Γ tc = some (.bool q)) (hx : look Γ tx = some (gv q true (.bool r)))
    (hk : ∀ a', At n ((t, .bool (q && r)) :: Γ) a' → wpList P l.toArray Q rest a' w) : ∀ a, At n Γ a → wpList P l.toArray Q (o :: rest) a w :=
  fun _ hA => wl_op hA hg hd ht (fun _ h => pick_and ho (h.env _ _ hc) (h.env _ _ hx) (h.c _)) hk
theorem wko {tc tx : Nat} {r : Bool} (hg : o.guard = none) (hd : o.dst = some t) (ht : t < n) (ho : o.op = .pick (.tmp tc) (.const (.bool true)) (.tmp tx)) (hc : look Γ tc = some (.bool q)) (hx : look Γ tx = some (gv q false (.bool r)))
    (hk : ∀ a', At n ((t, .bool (q || r)) :: Γ) a' → wpList P l.toArray Q rest a' w) : ∀ a, At n Γ a → wpList P l.toArray Q (o :: rest) a w :=
  fun _ hA => wl_op hA hg hd ht (fun _ h => pick_or ho (h.env _ _ hc) (h.c _) (h.env _ _ hx)) hk
theorem mL : (∀ (f : Operand → Value) (l : List Operand), l.toArray.map f = (l.map f).toArray) ∧ (∀ (f : Operand → Value) (x : Operand) (l : List Operand), (x :: l).map f = f x :: l.map f) ∧ ∀ (f : Operand → Value), ([] : List Operand).map f = [] := ⟨fun f l => by simp, fun _ _ _ => rfl, fun _ => rfl⟩
-- operations of a region whose order is open
section
variable {F : List Fact} {Ph : List Phase} {C : World → Prop} {T : Nat → World → World → Prop} {i : Nat} {a0 : Array Value}
abbrev Slots (l : List Oper) (F : List Fact) (a0 : Array Value) (o : Oper) (ev : Operand → Value) (w : World) : Prop := ∀ t ∈ o.looksAt l.toArray, slotSays l F a0 o t (ev (.tmp t)) w
theorem sd (hs : Slots l F a0 o ev w) (t j : Nat) {v : Value} (h1 : (o.looksAt l.toArray).contains t = true := by kernel_rfl) (h2 : srcOf l o t = some j := by kernel_rfl) (h3 : F.getD j (.det undef) = .det v := by rfl) : ev (.tmp t) = v := see_det hs t j h1 h2 h3
theorem se (hA : At n Γ a) (hs : Slots l F a.tmps o ev w) (t : Nat) {v : Value} (h1 : (o.looksAt l.toArray).contains t = true := by kernel_rfl) (h2 : srcOf l o t = none := by kernel_rfl) (h3 : look Γ t = some v := by rfl) : ev (.tmp t) = v := see_out hs t h1 h2 (hA.env t v h3)
theorem sh {p : Value → World → Prop} (hs : Slots l F a0 o ev w) (t j : Nat) (h1 : (o.looksAt l.toArray).contains t = true := by kernel_rfl) (h2 : srcOf l o t = some j := by kernel_rfl) (h3 : F.getD j (.det undef) = .held p := by rfl) : p (ev (.tmp t)) w := see_held hs t j h1 h2 h3
theorem su {p : Value → World → Prop} (hs : Slots l F a0 o ev w) (t j : Nat) (h1 : (o.looksAt l.toArray).contains t = true := by kernel_rfl) (h2 : srcOf l o t = some j := by kernel_rfl) (h3 : F.getD j (.det undef) = .used p := by rfl) : p (ev (.tmp t)) w := see_used hs t j h1 h2 h3
theorem od {v : Value} (hg : o.guard = none) (hF : F.getD i (.det undef) = .det v) (hp : Ph.all (fun ph => ph.start != some i) = true) (hC : C w) (hT : T i w w) (h : (execOp ev o).run P w = .ok (.value v) w) :
    if wantedBy l o ev = true then Does P ev o w (fun v w' => C w' ∧ T i w w' ∧ (F.getD i (.det undef)).says v w' ∧ ∀ ph ∈ Ph, ph.start = some i → ph.p (sig ev) w') else T i w w ∧ (F.getD i (.det undef)).says undef w ∧ ∀ ph ∈ Ph, ph.start = some i → ph.p (sig ev) w :=
  ob_det (wanted_none hg) hF hp hC hT h
end
-- answers
theorem ret_1 {fn : Func} {R : Ending → World → Prop} (hA : At n Γ a) (t : Nat) {v : Value} (hr : fn.results = #[.tmp t]) (hl : look Γ t = some v) (hR : R (.returned v) w) : bodyPost P fn R .ret a w :=
  ⟨hA.defers, v, by rw [← hA.getD t hl]; simp [results, hr], hR⟩
theorem ret_2 {fn : Func} {R : Ending → World → Prop} (hA : At n Γ a) (t u : Nat) {x y : Value} (hr : fn.results = #[.tmp t, .tmp u]) (hl : look Γ t = some x) (hl2 : look Γ u = some y) (hR : R (.returned (.tuple #[x, y])) w) : bodyPost P fn R .ret a w :=
  ⟨hA.defers, _, by rw [← hA.getD t hl, ← hA.getD u hl2]; simp [results, hr], hR⟩
theorem ret_3 {fn : Func} {R : Ending → World → Prop} (hA : At n Γ a) (t u s : Nat) {x y z : Value} (hr : fn.results = #[.tmp t, .tmp u, .tmp s]) (hl : look Γ t = some x) (hl2 : look Γ u = some y) (hl3 : look Γ s = some z) (hR : R (.returned (.tuple #[x, y, z])) w) : bodyPost P fn R .ret a w :=
  ⟨hA.defers, _, by rw [← hA.getD t hl, ← hA.getD u hl2, ← hA.getD s hl3]; simp [results, hr], hR⟩
theorem ret_0 {fn : Func} {R : Ending → World → Prop} (hA : At n Γ a) (hr : fn.results = #[]) (hR : R (.returned (.tuple #[])) w) : bodyPost P fn R .ret a w :=
  ⟨hA.defers, _, by simp [results, hr], hR⟩
theorem end_0 {fn : Func} {R : Ending → World → Prop} (hA : At n Γ a) (hr : fn.results = #[]) (hR : R (.returned (.tuple #[])) w) : bodyPost P fn R .normal a w :=
  ⟨hA.defers, _, by simp [results, hr], hR⟩
end
end Go.Proofs.YtgjlpgijlicppaaGreatDoor
/-
  Rows of bytes that are owned, and what is taken from them, for the walks by facts.
-/
namespace Go.Proofs.YtgjlpgijlicppaaGreatDoor
open Go.RowKit
theorem lit_one (w : World) (c : UInt8) : Reads (w.alloc (.cells #[.int .u8 ((c.toNat : Nat) : Int)] 5)) (w.heap.size + 1) 1 (some ⟨w.heap.size, 0, none⟩) 1 (u8s [c]) := by
  refine ⟨rfl, fun _ => ⟨⟨w.heap.size, 0, none⟩, rfl, Nat.lt_succ_self _, fun j u hu => ?_⟩⟩
  have hb : Blk (w.alloc (.cells #[.int .u8 ((c.toNat : Nat) : Int)] 5)) w.heap.size 5 #[.int .u8 ((c.toNat : Nat) : Int)] := Blk.new w _ _
  rcases j with _ | j
  · have ha : (⟨w.heap.size, 0, none⟩ : Addr).add 0 = ⟨w.heap.size, 0, none⟩ := by unfold Addr.add; simp
    rw [ha, hb.cell]
    exact hu
  · cases hu
theorem own8_reads {w : World} {B n : Nat} {v : Value} {l : List UInt8} (h : w.ownsRow B 5 1 v n (u8s l)) : ∃ A c, v = .slice A l.length c ∧ Reads w w.heap.size 1 A l.length (u8s l) := by
  obtain ⟨A, c, rfl, hr, _⟩ := own_reads (own8 h)
  have hn : n = l.length := by have := h.1; rw [u8s_length] at this; omega
  subst hn
  obtain ⟨A, c, e, hr, _⟩ := own_reads h
  injection e with e1 e2 e3
  subst e1 e3
  exact ⟨_, _, rfl, hr⟩
/-- what is taken: a slice that reads as bytes -/
def Took (w : World) (r : Value) (l : List UInt8) : Prop := ∃ A c, r = .slice A l.length c ∧ Reads w w.heap.size 1 A l.length (u8s l)
theorem Took.nil (w : World) : Took w (.slice none 0 0) [] := ⟨none, 0, rfl, Reads.none8⟩
/-- a row of bytes of one's own -/
def Own8 (B : Nat) (w : World) (v : Value) (l : List UInt8) : Prop := w.ownsRow B 5 1 v l.length (u8s l)
section
variable {w w' : World} {B B' : Nat} {v : Value} {l m : List UInt8} {P : Program} {ev : Operand → Value} {o : Oper}
theorem Own8.below (h : Own8 B w v l) (hb : Below w.heap.size w w') : Own8 B w' v l := own_below h hb
theorem Own8.mono (h : Own8 B w v l) (hb : B' ≤ B) : Own8 B' w v l := own_mono h hb
theorem Own8.keep (h : Own8 B w v l) (hk : ∀ g, v.ownBlock = some g → w'.heap[g]? = w.heap[g]?) : Own8 B w' v l := own_keep h hk
theorem Own8.took (h : Own8 B w v l) : Took w v l := own8_reads h
theorem Own8.of {n : Nat} (h : w.ownsRow B 5 1 v n (u8s l)) : Own8 B w v l := own8 h
theorem Own8.nil (w : World) : Own8 B w (.slice none 0 0) [] := World.ownsRow_nil _ _ _ _
theorem Took.below (h : Took w v l) (hb : Below w.heap.size w w') : Took w' v l := by
  obtain ⟨A, c, e, hr⟩ := h
  exact ⟨A, c, e, (hr.below hb).more hb.size⟩
theorem exec_append {s x : Operand} {T T' : TypeId} {u r : Value} (ho : o.op = .call { callee := .builtin .append, args := #[s, x], argTypes := #[T, T'] }) (hs : ev s = v) (hx : ev x = u)
    (hr : (Builtin.append_ #[T, T'] o.type #[v, u]).run P w = .ok r w') : (execOp ev o).run P w = .ok (.value r) w' := by
  unfold execOp
  simp only [ho, resolve, invoke, builtin, Sem.run_bind, Sem.run_pure, Result.andThen_ok, List.map_toArray, List.map_cons, List.map_nil, hs, hx, hr]
theorem run_app8 {u : Value} (h : Own8 B w v l) (hu : Took w u m) (hlen : l.length + m.length ≤ 1000000000) (hB : B ≤ w.heap.size) :
    ∃ r w', (Builtin.append_ #[29, 29] 29 #[v, u]).run Tryz.prog w = .ok r w' ∧ Own8 B w' r (l ++ m) ∧ w.grownBy w' v.ownBlock := by
  obtain ⟨A, c, rfl, hr⟩ := hu
  obtain ⟨i0, hi0, hz0, hz1, hz2⟩ := info_parts u8_info
  obtain ⟨v', w', hrun, ho, hg⟩ := run_append_any (P := Tryz.prog) w B 29 29 5 i0 _ 1 1 Tryz.underlying29 hi0 hz0 hz1 hz2 rfl (by omega) v l.length (u8s l) h A m.length c (u8s m) (Gives.of_reads hr (u8s_one m)) (by unfold maxLen; omega) (by omega) hB
  rw [← u8s_append] at ho
  exact ⟨v', w', hrun, .of ho, hg⟩
/-- append of bytes -/
theorem exec_app8 {s x : Operand} {u : Value} (ho : o.op = .call { callee := .builtin .append, args := #[s, x], argTypes := #[29, 29] }) (hty : o.type = 29) (hs : ev s = v) (hx : ev x = u) (h : Own8 B w v l) (hu : Took w u m) (hlen : l.length + m.length ≤ 1000000000) (hB : B ≤ w.heap.size) :
    ∃ r w', (execOp ev o).run Tryz.prog w = .ok (.value r) w' ∧ Own8 B w' r (l ++ m) ∧ w.grownBy w' v.ownBlock := by
  obtain ⟨r, w', hr, h2, h3⟩ := run_app8 h hu hlen hB
  exact ⟨r, w', exec_append ho hs hx (by rw [hty]; exact hr), h2, h3⟩
theorem below_app8 {W : World} {B0 : Nat} (hb : Below B0 W w) (h : Own8 B w v l) (hg : w.grownBy w' v.ownBlock) (h0 : B0 ≤ B) (hB : B0 ≤ w.heap.size) : Below B0 W w' :=
  hb.grown hg hB fun k hk => Nat.le_trans h0 (World.ownsRow.lt h k hk).1
/-- a written slice of one byte -/
theorem took_one (w : World) (c : UInt8) : Took (w.alloc (.cells #[.int .u8 ((c.toNat : Nat) : Int)] 5)) (.slice (some ⟨w.heap.size, 0, none⟩) 1 1) [c] :=
  ⟨_, _, rfl, by simpa using lit_one w c⟩
theorem took_blk {g : Nat} {c : UInt8} (h : Blk w g 5 #[.int .u8 ((c.toNat : Nat) : Int)]) : Took w (.slice (some ⟨g, 0, none⟩) 1 1) [c] := by
  refine ⟨_, _, rfl, rfl, fun _ => ⟨⟨g, 0, none⟩, rfl, h.lt, fun j u hu => ?_⟩⟩
  rcases j with _ | j
  · have ha : (⟨g, 0, none⟩ : Addr).add 0 = ⟨g, 0, none⟩ := by unfold Addr.add; simp
    rw [ha, h.cell]
    exact hu
  · cases hu
end
end Go.Proofs.YtgjlpgijlicppaaGreatDoor
/-
  Walks by facts on slots: a field of a variable is set; appends.
-/
namespace Go.Proofs.YtgjlpgijlicppaaGreatDoor
open Go Go.RowKit
theorem own_kind {w : World} {base n size g : Nat} {v : Value} {e : TypeId} {xs : List Value} (h : w.ownsRow base e size v n xs) (hg : v.ownBlock = some g) : ∃ cs, w.heap[g]? = some (.cells cs e (0, 0)) := by
  rcases h.2 with ⟨rfl, _⟩ | ⟨g', cap, cur, rfl, _, hc, _⟩
  · cases hg
  · have : g' = g := by simpa [Value.ownBlock] using hg
    subst this
    exact ⟨cur, hc⟩
theorem own_ne {w : World} {base n size i : Nat} {v : Value} {e t : TypeId} {xs : List Value} {cs : Array Value} (h : w.ownsRow base e size v n xs) (hi : Blk w i t cs) (ht : t ≠ e) : ∀ g, v.ownBlock = some g → g ≠ i := fun g hg he => by
  obtain ⟨cs', hc⟩ := own_kind h hg
  unfold Blk at hi
  rw [he, hi] at hc
  injection hc with hc
  injection hc with _ hc
  exact ht hc
theorem add0 (g k : Nat) : (⟨g, 0, none⟩ : Addr).add k = ⟨g, k, none⟩ := by
  unfold Addr.add
  by_cases h : k = 0 <;> simp [h]
theorem Only.grown {g : Nat} {w w' : World} (h : Only g w w') : w.grownBy w' (some g) := ⟨h.os, h.tape, h.output, by rw [h.size]; exact Nat.le_refl _, fun k _ hk => h.block k (fun e => hk (by rw [e]))⟩
theorem ownsRow_empty {w : World} {B g size : Nat} {T : TypeId} (K : Blk w g T #[]) (hb : B ≤ g) : w.ownsRow B T size (.slice (some ⟨g, 0, none⟩) 0 0) 0 [] :=
  ⟨by simp, .inr ⟨g, 0, #[], rfl, hb, K, Nat.le_refl _, by unfold maxLen; omega, by simp, by simp⟩⟩
theorem nil_eq {P : Program} {t e : TypeId} (ht : P.underlying t = some (.slice e)) (a : Option Addr) (l c : Nat) (w : World) : (binOp .eql t (.slice a l c) (.slice none 0 0)).run P w = .ok (.bool a.isNone) w := Lib.run_eql_slice_nil w t e a l c 0 0 ht
section
variable {P : Program} {Q : Exit → Act → World → Prop} {a : Act} {w w' : World} {n : Nat} {Γ : Env} {l rest : List Oper} {o : Oper} {t : Nat} {v : Value}
/-- a field of a variable is set -/
theorem wl_setf {g j : Nat} {T : TypeId} {z : List Value} (zs : List Value) (c : Value) (hA : At n Γ a) (hg : o.guard = none) (hd : o.dst = none) (hK : Blk w g T z.toArray) (hz : z.set j c = zs) (hrun : ∀ ev, EvIn Γ ev → (execOp ev o).run P w = .ok .skip (w.setCell ⟨g, j, none⟩ c))
    (hk : ∀ w1, Blk w1 g T zs.toArray → Only g w w1 → wpList P l.toArray Q rest a w1) : wpList P l.toArray Q (o :: rest) a w := by
  refine wl_skip hA hg hd hrun (hk _ ?_ Only.set)
  have := hK.set_ j c
  rw [List.setIfInBounds_toArray, hz] at this
  exact this
/-- an operation whose answer goes nowhere -/
theorem wl_val0 {v : Value} (hA : At n Γ a) (hg : o.guard = none) (hd : o.dst = none) (hrun : ∀ ev, EvIn Γ ev → (execOp ev o).run P w = .ok (.value v) w')
    (hk : wpList P l.toArray Q rest a w') : wpList P l.toArray Q (o :: rest) a w := by
  refine wpList_plain hg fun K hK => ?_
  unfold Oper.wp
  rw [hrun _ hA.evin, Oper.upon_value, hd]
  exact hK _ _ hk
end
end Go.Proofs.YtgjlpgijlicppaaGreatDoor
/-
  Rows of bytes of one's own that may begin in the middle of their block.
-/
namespace Go.Proofs.YtgjlpgijlicppaaGreatDoor
open Go Go.RowKit
set_option linter.unusedSimpArgs false
def OwnX (B : Nat) (w : World) (v : Value) (l : List UInt8) : Prop :=
  (v = .slice none 0 0 ∧ l = []) ∨ ∃ (g off cap : Nat) (cur : List Value), v = .slice (some ⟨g, off, none⟩) l.length cap ∧ B ≤ g ∧ Blk w g 5 cur.toArray ∧ l.length ≤ cap ∧ cap ≤ maxLen ∧ off + cap ≤ cur.length ∧ (cur.drop off).take l.length = u8s l
def spl : List Value → Nat → List Value → List Value
  | cs, _, [] => cs
  | cs, o, u :: r => spl (cs.set o u) (o + 1) r
theorem spl_eq : ∀ (vs cs : List Value) (o : Nat), o + vs.length ≤ cs.length → spl cs o vs = cs.take o ++ vs ++ cs.drop (o + vs.length)
  | [], cs, o, _ => by
    unfold spl
    simp
  | u :: r, cs, o, h => by
    rw [List.length_cons] at h
    unfold spl
    rw [spl_eq r (cs.set o u) (o + 1) (by rw [List.length_set]; omega)]
    have e1 : (cs.set o u).take (o + 1) = cs.take o ++ [u] := by
      rw [List.take_add_one, List.take_set_of_le (Nat.le_refl o), List.getElem?_set_self (by omega)]
      rfl
    have e2 : (cs.set o u).drop (o + 1 + r.length) = cs.drop (o + (u :: r).length) := by
      rw [List.drop_set_of_lt (by omega), List.length_cons]
      congr 1
      omega
    rw [e1, e2, List.append_assoc (cs.take o)]
    rfl
theorem blk_setCells {g : Nat} {T : TypeId} : ∀ (vs : List Value) (o : Nat) (w : World) (cs : List Value), Blk w g T cs.toArray → Blk (w.setCells g o vs) g T (spl cs o vs).toArray ∧ w.grownBy (w.setCells g o vs) (some g)
  | [], o, w, cs, K => ⟨K, ⟨rfl, rfl, rfl, Nat.le_refl _, fun _ _ _ => rfl⟩⟩
  | u :: r, o, w, cs, K => by
    have h2 := K.set_ o u
    rw [List.setIfInBounds_toArray] at h2
    obtain ⟨h3, h4⟩ := blk_setCells r (o + 1) _ _ h2
    have h5 : w.grownBy (w.setCell ⟨g, o, none⟩ u) (some g) := (Only.set (g := g) (i := o) (w := w) (u := u)).grown
    exact ⟨h3, ⟨h4.os.trans h5.os, h4.tape.trans h5.tape, h4.output.trans h5.output, Nat.le_trans h5.size h4.size, fun i hi hn => (h4.block i (Nat.lt_of_lt_of_le hi h5.size) hn).trans (h5.block i hi hn)⟩⟩
section
variable {B B' : Nat} {w w' : World} {v : Value} {l m : List UInt8}
theorem OwnX.nil (w : World) : OwnX B w (.slice none 0 0) [] := .inl ⟨rfl, rfl⟩
theorem OwnX.mono (h : OwnX B w v l) (hb : B' ≤ B) : OwnX B' w v l := by
  rcases h with h | ⟨g, off, cap, cur, h1, h2, h3⟩
  · exact .inl h
  · exact .inr ⟨g, off, cap, cur, h1, Nat.le_trans hb h2, h3⟩
theorem OwnX.keep (h : OwnX B w v l) (hk : ∀ g, v.ownBlock = some g → w'.heap[g]? = w.heap[g]?) : OwnX B w' v l := by
  rcases h with h | ⟨g, off, cap, cur, h1, h2, h3, h4⟩
  · exact .inl h
  · exact .inr ⟨g, off, cap, cur, h1, h2, (hk g (by rw [h1]; rfl)).trans h3, h4⟩
theorem OwnX.lt (h : OwnX B w v l) : ∀ g, v.ownBlock = some g → B ≤ g ∧ g < w.heap.size := fun g hg => by
  rcases h with ⟨h, _⟩ | ⟨g', off, cap, cur, h1, h2, h3, h4⟩
  · rw [h] at hg; cases hg
  · rw [h1] at hg
    have : g' = g := by simpa [Value.ownBlock] using hg
    subst this
    exact ⟨h2, h3.lt⟩
theorem OwnX.below (h : OwnX B w v l) (hb : Below w.heap.size w w') : OwnX B w' v l := h.keep fun g hg => hb.block g (h.lt g hg).2
theorem OwnX.kind (h : OwnX B w v l) {g : Nat} (hg : v.ownBlock = some g) : ∃ cs, Blk w g 5 cs := by
  rcases h with ⟨h, _⟩ | ⟨g', off, cap, cur, h1, h2, h3, h4⟩
  · rw [h] at hg; cases hg
  · rw [h1] at hg
    have : g' = g := by simpa [Value.ownBlock] using hg
    subst this
    exact ⟨_, h3⟩
theorem OwnX.ne (h : OwnX B w v l) {i : Nat} {t : TypeId} {cs : Array Value} (hi : Blk w i t cs) (ht : t ≠ 5) : ∀ g, v.ownBlock = some g → g ≠ i := fun g hg he => by
  obtain ⟨cs', hc⟩ := h.kind hg
  unfold Blk at hc hi
  rw [he, hi] at hc
  injection hc with hc
  injection hc with _ hc
  exact ht hc
theorem OwnX.only {k : Nat} (h : OwnX B w v l) (hs : Only k w w') (hne : ∀ g, v.ownBlock = some g → g ≠ k) : OwnX B w' v l := h.keep fun g hg => hs.block g (hne g hg)
theorem OwnX.cells {g off : Nat} {cur : List Value} (h3 : Blk w g 5 cur.toArray) (h5 : (cur.drop off).take l.length = u8s l) : ∀ j u, (u8s l)[j]? = some u → w.cell? ((⟨g, off, none⟩ : Addr).add j) = some u := fun j u hu => by
  have hj : j < l.length := by have := (List.getElem?_eq_some_iff.1 hu).1; rwa [u8s_length] at this
  have e : ((⟨g, off, none⟩ : Addr).add j) = ⟨g, off + j, none⟩ := by
    unfold Addr.add
    by_cases h : j = 0 <;> simp [h]
  rw [e, h3.cell]
  rw [← h5, List.getElem?_take_of_lt hj, List.getElem?_drop] at hu
  simpa using hu
theorem OwnX.took (h : OwnX B w v l) : Took w v l := by
  rcases h with ⟨h, h2⟩ | ⟨g, off, cap, cur, h1, h2, h3, h4, _, h6, h5⟩
  · subst h h2
    exact Took.nil w
  · exact ⟨_, _, h1, by rw [u8s_length]; omega, fun _ => ⟨_, rfl, h3.lt, OwnX.cells h3 h5⟩⟩
theorem OwnX.form (h : OwnX B w v l) : ∃ A c, v = .slice A l.length c ∧ l.length ≤ c := by
  rcases h with ⟨h, h2⟩ | ⟨g, off, cap, cur, h1, h2, h3, h4, _⟩
  · subst h h2; exact ⟨none, 0, rfl, Nat.le_refl _⟩
  · exact ⟨_, _, h1, h4⟩
/-- bytes ahead -/
theorem OwnX.cut {A : Option Addr} {n c k : Nat} (h : OwnX B w (.slice A n c) l) (hk : k ≤ n) : OwnX B w (.slice A k c) (l.take k) := by
  rcases h with ⟨h, h2⟩ | ⟨g, off, cap, cur, h1, h2, h3, h4, h7, h6, h5⟩
  · injection h with h8 h9 h10
    subst h8 h9 h10 h2
    have : k = 0 := by omega
    subst this
    exact .inl ⟨rfl, rfl⟩
  · injection h1 with h8 h9 h10
    subst h8 h9 h10
    have hl : (l.take k).length = k := by rw [List.length_take]; omega
    refine .inr ⟨g, off, c, cur, by rw [hl], h2, h3, by omega, h7, h6, ?_⟩
    rw [hl, show u8s (l.take k) = (u8s l).take k by simp [u8s], ← h5, List.take_take, Nat.min_eq_left hk]
/-- bytes behind -/
theorem OwnX.tail {ad : Addr} {n c k : Nat} (h : OwnX B w (.slice (some ad) n c) l) (hk : k < n) : OwnX B w (.slice (some ⟨ad.block, ad.off + k, none⟩) (n - k) (c - k)) (l.drop k) := by
  rcases h with ⟨h, _⟩ | ⟨g, off, cap, cur, h1, h2, h3, h4, h7, h6, h5⟩
  · cases h
  · injection h1 with h8 h9 h10
    injection h8 with h8
    subst h8 h9 h10
    have hl : (l.drop k).length = l.length - k := by rw [List.length_drop]
    refine .inr ⟨g, off + k, c - k, cur, by rw [hl], h2, h3, by omega, by omega, by omega, ?_⟩
    rw [hl, u8s_drop, ← h5, List.drop_take, List.drop_drop]
theorem Own8.x (h : Own8 B w v l) : OwnX B w v l := by
  rcases h.2 with ⟨e, h0⟩ | ⟨g, cap, cur, e, h1, h2, h3, h4, h5, h6⟩
  · exact .inl ⟨e, List.length_eq_zero_iff.1 h0⟩
  · refine .inr ⟨g, 0, cap, cur.toList, e, h1, ?_, h3, h4, by simp; omega, ?_⟩
    · unfold Blk; simpa using h2
    · rw [Nat.mul_one] at h6
      simpa using h6
set_option maxRecDepth 100000 in
/-- bytes are appended, out of a slice or a string -/
theorem run_appS {tx : TypeId} {x : Value} (h : OwnX B w v l) (hsrc : Src Tryz.prog 1 tx x m.length (u8s m) w) (hlen : l.length + m.length ≤ 1000000000) (hB : B ≤ w.heap.size) :
    ∃ r w', (Builtin.append_ #[29, tx] 29 #[v, x]).run Tryz.prog w = .ok r w' ∧ OwnX B w' r (l ++ m) ∧ w.grownBy w' v.ownBlock ∧ (r.ownBlock = v.ownBlock ∨ r.ownBlock = some w.heap.size) := by
  obtain ⟨i0, hi0, hz0, hz1, hz2⟩ := info_parts u8_info
  have hu := Tryz.underlying29
  rw [← hz1] at hsrc
  have hnew : ∀ (old : Option Addr) (oc : Nat), (Builtin.firstCells 1 l.length (.slice old l.length oc)).run Tryz.prog w.drew = .ok (u8s l).toArray w.drew → oc < l.length + m.length → v = .slice old l.length oc →
      ∃ r w', (Builtin.append_ #[29, tx] 29 #[v, x]).run Tryz.prog w = .ok r w' ∧ OwnX B w' r (l ++ m) ∧ w.grownBy w' v.ownBlock ∧ (r.ownBlock = v.ownBlock ∨ r.ownBlock = some w.heap.size) := by
    intro old oc hf hg hv
    have hb : Builtin.nextslicecap (l.length + m.length) oc * i0.bytes ≤ 281474976710656 := growslice_fits hg (by rw [hz2]; omega)
    have hrun := run_append_grow_src (P := Tryz.prog) w 29 tx 29 5 i0 _ hu hi0 hz0 old l.length oc (u8s l) (by rw [hz1]; exact hf) x m.length (u8s m) hsrc hg (by omega) hb
    have hge := grownCap_ge w (l.length + m.length) oc 5
    have hle := grownCap_le_maxLen w (l.length + m.length) oc 5 (by unfold maxLen; omega)
    obtain ⟨C, hC⟩ : ∃ C, grownCap w (l.length + m.length) oc 5 = C := ⟨_, rfl⟩
    rw [hC] at hrun hge hle
    rw [← hv] at hrun
    refine ⟨_, _, hrun, .inr ⟨w.heap.size, 0, C, (u8s l ++ u8s m) ++ (Builtin.zeroCells (Value.int .u8 0).cells (C - (l.length + m.length))).toList, by rw [List.length_append], hB, ?_, by rw [List.length_append]; exact hge, hle, ?_, ?_⟩, ⟨rfl, rfl, rfl, by simp, fun k hk _ => heap_alloc_old w.drew _ hk⟩, .inr rfl⟩
    · have := heap_alloc_new w.drew (.cells ((u8s l ++ u8s m).toArray ++ Builtin.zeroCells (Value.int .u8 0).cells (C - (l.length + m.length))) 5)
      unfold Blk
      refine this.trans ?_
      congr 2
      simp
    · have hz := size_zeroCells (Value.int .u8 0).cells (C - (l.length + m.length))
      have h1 : (Value.int .u8 0).cells.size = 1 := rfl
      rw [h1, Nat.mul_one] at hz
      rw [Nat.zero_add, List.length_append, List.length_append, u8s_length, u8s_length]
      have hz2 : (Builtin.zeroCells (Value.int .u8 0).cells (C - (l.length + m.length))).toList.length = C - (l.length + m.length) := by simpa using hz
      rw [hz2]
      omega
    · rw [List.drop_zero, List.take_left' (by rw [List.length_append, List.length_append, u8s_length, u8s_length]), u8s_append]
  rcases h with ⟨h, h2⟩ | ⟨g, off, cap, cur, h1, h2, h3, h4, h7, h6, h5⟩
  · subst h h2
    by_cases hm0 : m.length = 0
    · have hm : m = [] := List.length_eq_zero_iff.1 hm0
      subst hm
      refine ⟨.slice none 0 0, w, ?_, OwnX.nil w, ⟨rfl, rfl, rfl, Nat.le_refl _, fun _ _ _ => rfl⟩, .inl rfl⟩
      have e1 := hsrc.len w
      have e2 := hsrc.cells
      simp only [List.length_nil] at e1 e2
      rcases hsrc.kind with ⟨e', hk⟩ | hk <;> simp [Builtin.append_, run_underlying hu, run_underlying hk, sizeOf, typeInfo, hi0, e1, e2, Result.andThen]
    · exact hnew none 0 (by simp [Builtin.firstCells, loadCells, loadCellsFrom, u8s]) (by simp; omega) rfl
  · by_cases hroom : l.length + m.length ≤ cap
    · have hrun := run_append_room_src (P := Tryz.prog) w 29 tx 29 5 i0 hu hi0 g off l.length cap x m.length (u8s m) hsrc hroom
        (fun j hj => by rw [u8s_length] at hj; rw [hz1, h3.cell]; simp; omega) (fun j hj => h3.frozen _)
      rw [hz1, Nat.mul_one] at hrun
      rw [← h1] at hrun
      obtain ⟨hb1, hb2⟩ := blk_setCells (u8s m) (off + l.length) w cur h3
      rw [spl_eq _ _ _ (by rw [u8s_length]; omega)] at hb1
      refine ⟨_, _, hrun, .inr ⟨g, off, cap, _, by rw [List.length_append], h2, hb1, by rw [List.length_append]; exact hroom, h7, ?_, ?_⟩, by rw [h1]; exact hb2, .inl (by rw [h1]; rfl)⟩
      · rw [List.length_append, List.length_append, List.length_take, List.length_drop, u8s_length]
        omega
      · have e1 : (cur.take (off + l.length)).length = off + l.length := by rw [List.length_take]; omega
        rw [List.append_assoc, List.drop_append_of_le_length (by omega), List.length_append, List.take_append, List.length_drop, e1, show off + l.length - off = l.length by omega, List.take_of_length_le (by rw [List.length_drop, e1]; omega), show l.length + m.length - l.length = m.length by omega, List.take_left' (u8s_length m), u8s_append]
        congr 1
        rw [List.drop_take, show off + l.length - off = l.length by omega, h5]
    · have hc := OwnX.cells (l := l) h3 h5
      exact hnew (some ⟨g, off, none⟩) cap (run_firstCells_some w.drew 1 l.length _ l.length cap (u8s l) (by rw [u8s_length]; omega) (by simpa using hc)) (by omega) h1
set_option maxRecDepth 100000 in
theorem src_reads {A : Option Addr} {c : Nat} (hr : Reads w w.heap.size 1 A m.length (u8s m)) : Src Tryz.prog 1 29 (.slice A m.length c) m.length (u8s m) w := by
  have hu := Tryz.underlying29
  cases A with
  | some ad => exact Src.ofSlice w hu ad m.length c (u8s m) (by rw [u8s_length]; omega) (fun j u hj => by
      have hn : 0 < m.length := by have := (List.getElem?_eq_some_iff.1 hj).1; rw [u8s_length] at this; omega
      obtain ⟨ad', e, _, hc⟩ := hr.2 hn
      injection e with e
      subst e
      exact hc j u hj) (u8s_one m)
  | none =>
    have h0 : m.length = 0 := by
      rcases Nat.eq_zero_or_pos m.length with h0 | h0
      · exact h0
      · obtain ⟨ad, e, _⟩ := hr.2 h0; cases e
    have hm : m = [] := List.length_eq_zero_iff.1 h0
    subst hm
    exact Src.ofNil w hu c
set_option maxRecDepth 100000 in
theorem src_string (s : ByteArray) (hm : s.data.toList = m) : Src Tryz.prog 1 9 (.string s) m.length (u8s m) w := by
  have h := Src.ofString (P := Tryz.prog) w (tx := 9) Tryz.underlying9 s
  have e1 : s.size = m.length := by rw [← hm]; rfl
  have e2 : byteCells s = u8s m := by rw [← hm]; rfl
  rw [e1, e2] at h
  exact h
set_option maxRecDepth 100000 in
/-- bytes are appended -/
theorem run_appX {A : Option Addr} {c : Nat} (h : OwnX B w v l) (hr : Reads w w.heap.size 1 A m.length (u8s m)) (hlen : l.length + m.length ≤ 1000000000) (hB : B ≤ w.heap.size) :
    ∃ r w', (Builtin.append_ #[29, 29] 29 #[v, .slice A m.length c]).run Tryz.prog w = .ok r w' ∧ OwnX B w' r (l ++ m) ∧ w.grownBy w' v.ownBlock ∧ (r.ownBlock = v.ownBlock ∨ r.ownBlock = some w.heap.size) :=
  run_appS h (src_reads hr) hlen hB
set_option maxRecDepth 100000 in
theorem run_appXs {s : ByteArray} (h : OwnX B w v l) (hm : s.data.toList = m) (hlen : l.length + m.length ≤ 1000000000) (hB : B ≤ w.heap.size) :
    ∃ r w', (Builtin.append_ #[29, 9] 29 #[v, .string s]).run Tryz.prog w = .ok r w' ∧ OwnX B w' r (l ++ m) ∧ w.grownBy w' v.ownBlock ∧ (r.ownBlock = v.ownBlock ∨ r.ownBlock = some w.heap.size) :=
  run_appS h (src_string s hm) hlen hB
end
end Go.Proofs.YtgjlpgijlicppaaGreatDoor
/-
  Texts as rows of bytes: parts of them, and the bytes that a conversion copies.
-/
namespace Go.Proofs.YtgjlpgijlicppaaGreatDoor
open Go.RowKit
set_option linter.unusedSimpArgs false
set_option linter.unusedVariables false
/-- a text of bytes -/
abbrev St (l : List UInt8) : ByteArray := ⟨l.toArray⟩
theorem cell_add0 {w : World} {g k : Nat} {v : Value} (h : w.cell? ((⟨g, 0, none⟩ : Addr).add k) = v) : w.cell? ⟨g, k, none⟩ = v := by rwa [add0] at h
theorem extract_drop (l : List UInt8) (a b : Nat) (h : b = l.length) : (St l).extract a b = St (l.drop a) := by
  apply ByteArray.ext
  apply Array.ext'
  subst h
  rw [ByteArray.data_extract, Array.toList_extract, List.extract_eq_take_drop]
  exact List.take_of_length_le (by rw [List.length_drop]; exact Nat.le_refl _)
theorem extract_take (l : List UInt8) (b : Nat) : (St l).extract 0 b = St (l.take b) := by
  apply ByteArray.ext
  apply Array.ext'
  simp
theorem snoc_of {l : List UInt8} {k : Nat} (h : l.length = k + 1) : ∃ r x, l = r ++ [x] ∧ r.length = k := by
  refine ⟨l.dropLast, l.getLast (fun e => by rw [e] at h; cases h), (List.dropLast_concat_getLast _).symm, by rw [List.length_dropLast, h]; rfl⟩
theorem get_snoc (r : List UInt8) (x : UInt8) (k : Nat) (hk : r.length = k) (h : k < (St (r ++ [x])).size) : (St (r ++ [x]))[k] = x := by
  subst hk
  show (r ++ [x])[r.length]'_ = x
  simp
theorem OwnX.some {B : Nat} {w : World} {v : Value} {l : List UInt8} (h : OwnX B w v l) (hl : 0 < l.length) : ∃ g off c, v = .slice (some ⟨g, off, none⟩) l.length c ∧ l.length ≤ c := by
  rcases h with ⟨_, h2⟩ | ⟨g, off, cap, cur, h1, h2, h3, h4, _⟩
  · rw [h2] at hl; cases hl
  · exact ⟨_, _, _, h1, h4⟩
theorem blk_x {B g : Nat} {w : World} {l : List UInt8} {n : Nat} (K : Blk w g 5 (u8s l).toArray) (hB : B ≤ g) (hn : n = l.length) (hm : n ≤ 1000000) : OwnX B w (.slice (some ⟨g, 0, none⟩) n n) l := by
  subst hn
  exact .inr ⟨g, 0, l.length, u8s l, rfl, hB, K, Nat.le_refl _, Nat.le_trans hm (by decide), by rw [Nat.zero_add, u8s_length]; exact Nat.le_refl _, by rw [List.drop_zero, ← u8s_length l, List.take_length]⟩
theorem OwnX.reads {B n c : Nat} {w : World} {A : Option Addr} {l : List UInt8} (h : OwnX B w (.slice A n c) l) : Reads w w.heap.size 1 A l.length (u8s l) := by
  obtain ⟨A', c', e, hr⟩ := h.took
  injection e with e1
  subst e1
  exact hr
theorem conv_str (l : List UInt8) (w : World) : ∃ c w', (convert 9 29 (.string (St l))).run Tryz.prog w = .ok (.slice (some ⟨w.heap.size, 0, none⟩) l.length c) w' ∧ Reads w' w'.heap.size 1 (some ⟨w.heap.size, 0, none⟩) l.length (u8s l) ∧ Below w.heap.size w w' := by
  have hcv := Lib.run_convert_string_bytes (P := Tryz.prog) w 9 29 5 (St l) Tryz.underlying9 Tryz.underlying29 Tryz.underlying5
  refine ⟨_, _, hcv, ?_, ⟨rfl, rfl, rfl, by rw [Lib.bytesWorld_size]; omega, fun k hk => Lib.bytesWorld_at_old w 5 (St l) k hk⟩⟩
  refine ⟨by rw [u8s_length, Nat.mul_one], fun _ => ⟨_, rfl, by rw [Lib.bytesWorld_size]; exact Nat.lt_succ_self _, fun j u hu => ?_⟩⟩
  have hj : j < (St l).size := by
    rcases Nat.lt_or_ge j l.length with h | h
    · exact h
    · rw [u8s_get, List.getElem?_eq_none h] at hu; cases hu
  rw [add0, Lib.bytesWorld_cell w 5 (St l) j hj, ← hu, u8s_get]
  have hj2 : j < l.length := hj
  rw [List.getD_eq_getElem?_getD, List.getElem?_eq_getElem hj2]
  rfl
theorem st_app (a b : List UInt8) : St a ++ St b = St (a ++ b) := by
  refine ByteArray.ext ?_
  simp [ByteArray.data_append]
theorem u8_eq (c : UInt8) (k : Nat) (hk : k < 256) : (((c.toNat : Nat) : Int) == (k : Int)) = (c == UInt8.ofNat k) := by
  rw [Bool.eq_iff_iff, beq_iff_eq, beq_iff_eq]
  constructor
  · intro h
    refine UInt8.toNat_inj.1 ?_
    rw [UInt8.toNat_ofNat']
    omega
  · rintro rfl
    rw [UInt8.toNat_ofNat']
    omega
end Go.Proofs.YtgjlpgijlicppaaGreatDoor
/-
  Walk: repair.Aside.
-/
namespace Go.Proofs.YtgjlpgijlicppaaGreatDoor
open Go.RowKit
set_option linter.unusedSimpArgs false
set_option linter.unusedVariables false
set_option linter.unusedSimpArgs false
set_option linter.unusedVariables false
theorem Disk.below0 {w w' : World} {p mb : Nat} {d : DiskM} (h : Disk w p mb d) (hb : Below w.heap.size w w') : Disk w' p mb d := by
  obtain ⟨es, hfi, h⟩ := h
  exact ⟨es, hfi, h.below hb⟩
theorem digits_dig : ∀ k : Fin 13, Lib.decDigits k.1 = digB k.1 := by decide +kernel
/-- the place of a text in a row -/
def idxV (L : List (List UInt8)) (s : List UInt8) : Int := match L.findIdx? (· == s) with
  | some i => (i : Int)
  | none => -1
theorem idxV_at {L : List (List UInt8)} {s : List UInt8} {j : Nat} (hj : L[j]? = some s) (h : ∀ i, i < j → L[i]? ≠ some s) : idxV L s = (j : Int) := by
  unfold idxV
  obtain ⟨hlt, he⟩ := List.getElem?_eq_some_iff.1 hj
  rw [show L.findIdx? (· == s) = some j from List.findIdx?_eq_some_iff_getElem.2 ⟨hlt, by simp [he], fun i hi => by
    have := h i hi
    have hl : i < L.length := by omega
    rw [List.getElem?_eq_getElem hl] at this
    simpa using this⟩]
theorem idxV_none {L : List (List UInt8)} {s : List UInt8} (h : ∀ i, i < L.length → L[i]? ≠ some s) : idxV L s = -1 := by
  unfold idxV
  rw [show L.findIdx? (· == s) = none from List.findIdx?_eq_none_iff.2 fun x hx => by
    obtain ⟨i, hi, rfl⟩ := List.getElem_of_mem hx
    have := h i hi
    rw [List.getElem?_eq_getElem hi] at this
    simpa using this]
set_option maxRecDepth 100000 in
set_option maxHeartbeats 4000000 in
theorem indexR_any (L : List (List UInt8)) (s : List UInt8) (A : Option Addr) (c : Nat) (w : World) (hr : Reads w w.heap.size 1 A L.length (L.map fun t => Value.string (St t))) (hl : L.length ≤ 1000000) : Calls Tryz.prog 35 #[.slice A L.length c, .string (St s)] w fun ev w' => ev = .returned (.int .i64 (idxV L s)) ∧ w' = w := by
  refine calls_at 19 Tryz.func35 rfl rfl (Nat.le_of_ble_eq_true rfl) ?_
  intro a hA; replace hA := hA.norm
  refine wS (wR ?_)
  revert a; refine wo rfl rfl (by decide) (fun ev e h => by simp [go_sem, h] <;> rfl) ?_; intro a hA
  replace hA := hA.keepN [0, 1]
  refine wN (nT (wS (wS (wR ?_))))
  revert a; (iterate 3 refine wo rfl rfl (by decide) (fun ev e h => by simp [go_sem, h] <;> rfl) ?_); intro a hA
  replace hA := hA.keepN [0, 1, 7, 8]
  refine wN (nT (wB ?_))
  refine wp_loop_at (fun k a wx => ∃ j : Nat, j + k = L.length ∧ (∀ i, i < j → L[i]? ≠ some s) ∧ w = wx ∧ At 19 [(0, .slice A L.length c), (1, .string (St s)), (7, .int .i64 (L.length : Nat)), (8, .int .i64 (j : Nat))] a) (L.length) ?_ ?_
  · exact ⟨0, by omega, fun i hi => absurd hi (Nat.not_lt_zero _), rfl, hA⟩
  clear hA
  rintro k a wx ⟨j, hjk, hno, rfl, hA⟩
  refine wS (wR ?_)
  revert a; refine wo rfl rfl (by decide) (fun ev e h => by simp [go_sem, h] <;> rfl) ?_; intro a hA
  replace hA := hA.keepN [0, 1, 7, 8, 9]
  refine wN (nT (wS ?_))
  refine wp_if hA 9 _ rfl (fun hq => ?yA) (fun hq => ?nA)
  case nA =>
    have hjn : L.length ≤ j := by simp at hq; omega
    replace hA := hA.keepN []
    refine wp_exit (xT (xT (xB (nT (wS (wR ?_))))))
    revert a; refine wo rfl rfl (by decide) (fun ev e h => by simp [go_sem, h] <;> rfl) ?_; intro a hA
    replace hA := hA.keepN [4]
    refine wN (nT (wp_ret ?_))
    refine ret_1 hA 4 rfl rfl ?_
    exact ⟨by rw [idxV_none fun i hi => hno i (by omega)], rfl⟩
  case yA =>
    have hjn : j < L.length := by simp at hq; omega
    obtain ⟨x, hx⟩ : ∃ x, L[j]? = some x := ⟨_, List.getElem?_eq_getElem hjn⟩
    obtain ⟨ad, rfl, _, hcl⟩ := hr.2 (by omega)
    have hcell := hcl j (.string (St x)) (by rw [List.getElem?_map, hx]; rfl)
    have jj0 : (0 : Int) ≤ (j : Int) := by omega
    have jj1 : (j : Int) < (L.length : Int) := by omega
    have i3 : IntKind.i64.wrap (((j : Nat) : Int) + 1) = ((j + 1 : Nat) : Int) := by rw [IntWalk.i64_in _ (by omega)]; omega
    refine wp_skip (nT (wS (wB (wS (wR ?_)))))
    revert a; (iterate 2 refine wo rfl rfl (by decide) (fun ev e h => by simp [go_sem, h, hcell, jj0, jj1] <;> rfl) ?_); intro a hA
    replace hA := hA.keepN [0, 1, 5, 7, 8]
    refine wN (nT (wS (wR ?_)))
    revert a; (iterate 6 refine wo rfl rfl (by decide) (fun ev e h => by simp [go_sem, h, hcell, jj0, jj1] <;> rfl) ?_); intro a hA
    replace hA := hA.keepN [0, 1, 5, 7, 8, 16]
    refine wN (nT ?_)
    refine wp_if hA 16 _ rfl (fun hq2 => ?yB) (fun hq2 => ?nB)
    case nB =>
      have hn : x ≠ s := by rintro rfl; simp at hq2
      refine wp_skip (nB (nT (wR ?_)))
      revert a; (iterate 2 refine wo rfl rfl (by decide) (fun ev e h => by simp [go_sem, h, i3] <;> rfl) ?_); intro a hA
      replace hA := hA.keepN [0, 1, 7, 8]
      refine wN (nT ?_)
      refine ⟨k - 1, by omega, j + 1, by omega, fun i hi => ?_, rfl, hA⟩
      by_cases e : i = j
      · subst e
        rw [hx]
        intro e
        injection e with e
        exact hn e
      · exact hno i (by omega)
    case yB =>
      have hn : x = s := (by simpa using hq2 : s = x).symm
      subst hn
      refine wS (wR ?_)
      revert a; (iterate 2 refine wo rfl rfl (by decide) (fun ev e h => by simp [go_sem, h, hcell, jj0, jj1] <;> rfl) ?_); intro a hA
      replace hA := hA.keepN [4]
      refine wN (nT (wp_ret (rB (rT (rT (rB (rT ?_)))))))
      refine ret_1 hA 4 rfl rfl ?_
      exact ⟨by rw [idxV_at hx hno], rfl⟩
theorem idxV_has (L : List (List UInt8)) (s : List UInt8) : decide (0 ≤ idxV L s) = decide (s ∈ L) := by
  unfold idxV
  cases h : L.findIdx? (· == s) with
  | none =>
    have h0 := List.findIdx?_eq_none_iff.1 h
    have hn : s ∉ L := fun hm => by have := h0 s hm; simp at this
    simp [hn]
  | some i =>
    obtain ⟨hlt, he, _⟩ := List.findIdx?_eq_some_iff_getElem.1 h
    have hm : s ∈ L := by
      have : L[i] = s := by simpa using he
      rw [← this]; exact List.getElem_mem hlt
    simp [hm]
theorem fget_some {k : Key} : ∀ {l : List (Key × FileM)}, (fget k l).isSome = decide (k ∈ l.map (·.1))
  | [] => rfl
  | (y, u) :: r => by
    rw [fget_cons]
    by_cases h : y = k
    · rw [if_pos h, h]; simp
    · rw [if_neg h, fget_some]
      have h2 : ¬ k = y := fun e => h e.symm
      simp [h2]
set_option maxRecDepth 100000 in
/-- is there a file? -/
theorem hasKey_any (A : Option Addr) (c : Nat) (l : List (Key × FileM)) (x : List UInt8) (w : World) (hl : l.length ≤ 1000000) (hr : Reads w w.heap.size 1 A l.length (keyCells l)) : Calls Tryz.prog 17 #[.slice A l.length c, .string (St x)] w fun ev w' => ev = .returned (.bool (fget x l).isSome) ∧ Below w.heap.size w w' := by
  have hr2 : Reads w w.heap.size 1 A (l.map (·.1)).length ((l.map (·.1)).map fun t => Value.string (St t)) := by
    rw [List.length_map, List.map_map]
    exact hr
  have hlm : (l.map (·.1)).length = l.length := List.length_map ..
  rw [← hlm]
  refine calls_at 9 Tryz.func17 rfl rfl (Nat.le_of_ble_eq_true rfl) ?_
  intro a hA; replace hA := hA.norm
  refine wS (wR ?_)
  revert a; refine wo rfl rfl (by decide) (fun ev e h => by simp [go_sem, h] <;> rfl) ?_; intro a hA
  replace hA := hA.keepN [0, 1]
  refine wN (nT (wS (wR ?_)))
  revert a; (iterate 2 refine wo rfl rfl (by decide) (fun ev e h => by simp [go_sem, h] <;> rfl) ?_); intro a hA
  refine wl_call hA rfl rfl (by decide) (fun ev h => exec_call Tryz.func35 (by kernel_rfl) rfl (h.f _) (by first | (simp only [mL, h.get 5 rfl, h.get 6 rfl, h.c] <;> rfl) | (simp [mL, h.get 5 rfl, h.get 6 rfl, h.c] <;> rfl))) (indexR_any (l.map (·.1)) x A c w hr2 (by omega)) ?_
  rintro e w1 ⟨rfl, rfl⟩
  refine ⟨_, rfl, fun a hA => ?_⟩
  revert a; (iterate 2 refine wo rfl rfl (by decide) (fun ev e h => by simp [go_sem, h] <;> rfl) ?_); intro a hA
  replace hA := hA.keepN [4]
  refine wN (nT (wp_ret ?_))
  refine ret_1 hA 4 rfl rfl ?_
  exact ⟨ret_bool (by rw [idxV_has, fget_some]), Below.refl _ _⟩
theorem itoaS_any (k : Nat) (hk : k ≤ 12) (w : World) : Calls Tryz.prog 18 #[.int .i64 (k : Nat)] w fun ev w' => ev = .returned (.string (St (digB k))) ∧ Below w.heap.size w w' := by
  refine (Tryz.strconv_Itoa_small k (by omega) w).mono ?_
  rintro e w' ⟨rfl, rfl⟩
  exact ⟨by rw [digits_dig ⟨k, by omega⟩], Below.refl _ _⟩
theorem digB_len (k : Nat) : (digB k).length ≤ 2 := by
  unfold digB
  split <;> simp
theorem fput_len_le (k : Key) (v : FileM) : ∀ l : List (Key × FileM), (fput k v l).length ≤ l.length + 1
  | [] => Nat.le_refl _
  | (y, u) :: r => by
    rw [fput]
    split
    · simp
    · split
      · simp
      · have := fput_len_le k v r
        simp only [List.length_cons]
        omega
theorem sync_len (d : DiskM) (k : Key) : (dSync d k).2.files.length ≤ d.files.length + 1 := by
  unfold dSync
  split
  · show d.files.length ≤ _; omega
  · split
    · show d.files.length ≤ _; omega
    · split
      · show d.files.length ≤ _; omega
      · exact fput_len_le _ _ _
/-- what putting aside answers, and what is left, where the file isn't safe -/
def asideS (d : DiskM) (nm : List UInt8) (j : Nat) : Int × DiskM := if (dSync d nm).1 = 0 then dRename (dSync d nm).2 nm (badK nm j) else dSync d nm
set_option maxRecDepth 100000 in
set_option maxHeartbeats 8000000 in
theorem aside_at {w : World} {p mb : Nat} {d : DiskM} (h : Disk w p mb d) (hf : WFD d) (hN : d.files.length < 100000) (nm : List UInt8) (hnl : nm.length ≤ 20) (j : Nat) (hj : j ≤ 12) (hyes : ∀ i, i < j → (fget (badK nm i) d.files).isSome = true) (hno : fget (badK nm j) d.files = none) (hun : ∀ f, fget nm d.files = some f → f.whole = false) :
    Calls Tryz.prog 8 #[.pointer (some ⟨p, 0, none⟩), .string (St nm)] w fun ev w' => ev = .returned (.int .i64 (asideS d nm j).1) ∧ Disk w' p mb (asideS d nm j).2 ∧ But p mb w w' := by
  refine calls_at 41 Tryz.func8 rfl rfl (Nat.le_of_ble_eq_true rfl) ?_
  intro a hA; replace hA := hA.norm
  refine wS (wR ?_)
  revert a; refine wo rfl rfl (by decide) (fun ev e h => by simp [go_sem, h] <;> rfl) ?_; intro a hA
  replace hA := hA.keepN [0, 1]
  refine wN (nT (wS (wS (wR ?_))))
  revert a; (iterate 2 refine wo rfl rfl (by decide) (fun ev e h => by simp [go_sem, h] <;> rfl) ?_); intro a hA
  replace hA := hA.keepN [0, 1, 9]
  refine wN (nT ?_)
  refine wp_if hA 9 _ rfl (fun hq => ?yA) (fun hq => ?nA)
  case yA => cases hq
  case nA =>
    refine wp_skip (nT (wS (wR ?_)))
    revert a; refine wo rfl rfl (by decide) (fun ev e h => by simp [go_sem, h] <;> rfl) ?_; intro a hA
    refine wl_call hA rfl rfl (by decide) (fun ev h => exec_call Tryz.func10 (by kernel_rfl) rfl (h.f _) (by first | (simp only [mL, h.get 10 rfl, h.c] <;> rfl) | (simp [mL, h.get 10 rfl, h.c] <;> rfl))) (names_at h (by omega)) ?_
    rintro e w1 ⟨A, c, rfl, hrn, hb1⟩
    refine ⟨_, rfl, fun a hA => ?_⟩
    revert a; refine wo rfl rfl (by decide) (fun ev e h => by simp [go_sem, h] <;> rfl) ?_; intro a hA
    replace hA := hA.keepN [0, 1, 5]
    refine wN (nT (wS (wR ?_)))
    revert a; refine wo rfl rfl (by decide) (fun ev e h => by simp [go_sem, h] <;> rfl) ?_; intro a hA
    replace hA := hA.keepN [0, 1, 5, 6]
    refine wN (nT (wS (wB ?_)))
    refine wp_loop_at (fun f a wx => ∃ k : Nat, k + f = j ∧ Below w1.heap.size w1 wx ∧ At 41 [(0, .pointer (some ⟨p, 0, none⟩)), (1, .string (St nm)), (5, .slice A d.files.length c), (6, .int .i64 (k : Nat))] a) (j) ?_ ?_
    · exact ⟨0, by omega, Below.refl _ _, hA⟩
    clear hA
    rintro f a wx ⟨k, hkf, HB, hA⟩
    have hdl := digB_len k
    have n1 : ¬ 9223372036854775807 < 4 + (digB k).length := by omega
    have n2 : ¬ 9223372036854775807 < (digB k).length + 1 + 4 := by omega
    refine wS (wS (wR ?_))
    revert a; (iterate 2 refine wo rfl rfl (by decide) (fun ev e h => by simp [go_sem, h] <;> rfl) ?_); intro a hA
    refine wl_call hA rfl rfl (by decide) (fun ev h => exec_call Tryz.func18 (by kernel_rfl) rfl (h.f _) (by first | (simp only [mL, h.get 13 rfl, h.c] <;> rfl) | (simp [mL, h.get 13 rfl, h.c] <;> rfl))) (itoaS_any k (by omega) wx) ?_
    rintro e w2 ⟨rfl, hb2⟩
    refine ⟨_, rfl, fun a hA => ?_⟩
    replace HB := HB.trans (hb2.mono HB.size)
    obtain ⟨dg, hdg⟩ : ∃ x, digB k = x := ⟨_, rfl⟩
    rw [hdg] at hA hdl
    have ka : St [98, 97, 100, 46] ++ St dg = St ([98, 97, 100, 46] ++ dg) := st_app _ _
    have kb : St ([98, 97, 100, 46] ++ dg) ++ St [46] = St ([98, 97, 100, 46] ++ dg ++ [46]) := st_app _ _
    have kc : St ([98, 97, 100, 46] ++ dg ++ [46]) ++ St nm = St (badK nm k) := by rw [st_app]; unfold badK; rw [hdg]
    have m1 : ¬ 9223372036854775807 < 4 + dg.length := by omega
    have m2 : ¬ 9223372036854775807 < dg.length + 1 + 1 + 1 + 1 + 1 := by omega
    have m3 : ¬ 9223372036854775807 < dg.length + 1 + 1 + 1 + 1 + 1 + nm.length := by omega
    revert a; (iterate 4 refine wo rfl rfl (by decide) (fun ev e h => by simp [go_sem, h, st_app, m1, m2, m3] <;> rfl) ?_); intro a hA
    have hbk : 98 :: 97 :: 100 :: 46 :: (dg ++ 46 :: nm) = badK nm k := by unfold badK; rw [hdg]; simp
    rw [hbk] at hA
    refine wl_call hA rfl rfl (by decide) (fun ev h => exec_call Tryz.func17 (by kernel_rfl) rfl (h.f _) (by first | (simp only [mL, h.get 12 rfl, h.get 18 rfl, h.c] <;> rfl) | (simp [mL, h.get 12 rfl, h.get 18 rfl, h.c, st_app, m1, m2, m3] <;> rfl))) (hasKey_any A c d.files (badK nm k) _ (by omega) ((hrn.below HB).more HB.size)) ?_
    rintro e w3 ⟨rfl, hb3⟩
    refine ⟨_, rfl, fun a hA => ?_⟩
    replace HB := HB.trans (hb3.mono HB.size)
    obtain ⟨q, hq9⟩ : ∃ q, (fget (badK nm k) d.files).isSome = q := ⟨_, rfl⟩
    rw [hq9] at hA
    replace hA := hA.keepN [0, 1, 5, 6, 19]
    refine wN (nT ?_)
    refine wp_if hA 19 _ rfl (fun hq2 => ?yB) (fun hq2 => ?nB)
    case yB =>
      have hqt : q = true := by simpa using hq2
      have hkj : k < j := by
        rcases Nat.lt_or_ge k j with h9 | h9
        · exact h9
        · have hkj : k = j := by omega
          rw [hkj, hno, hqt] at hq9
          cases hq9
      have i3 : IntKind.i64.wrap (((k : Nat) : Int) + 1) = ((k + 1 : Nat) : Int) := by rw [IntWalk.i64_in _ (by omega)]; omega
      refine wp_skip (nT (wB (wR ?_)))
      revert a; (iterate 3 refine wo rfl rfl (by decide) (fun ev e h => by simp [go_sem, h, i3] <;> rfl) ?_); intro a hA
      replace hA := hA.keepN [0, 1, 5, 6]
      refine wN (nB (nT ?_))
      exact ⟨f - 1, by omega, k + 1, by omega, HB, hA⟩
    case nB =>
      have hqf : q = false := by simpa using hq2
      have hkj : k = j := by
        rcases Nat.lt_or_ge k j with h9 | h9
        · have := hyes k h9
          rw [hqf] at hq9
          rw [hq9] at this
          cases this
        · omega
      subst hkj
      have hB0 := hb1.trans (HB.mono hb1.size)
      have h3 := h.below0 hB0
      obtain ⟨es, hfi, hd⟩ := h3
      have hsf : safeE (St nm).data.toList es = false := by
        unfold safeE
        show (match fget nm es with | some v => v.m.whole | none => false) = false
        cases hg : fget nm es with
        | none => rfl
        | some v => exact hun v.m (by rw [hfi, fget_fmap, hg]; rfl)
      replace hA := hA.keepN [0, 1, 6]
      refine wp_exit (xT (xT (xB (nT (wS (wS (wR ?_)))))))
      revert a; (iterate 2 refine wo rfl rfl (by decide) (fun ev e h => by simp [go_sem, h] <;> rfl) ?_); intro a hA
      refine wl_call hA rfl rfl (by decide) (fun ev h => exec_call Tryz.func19 (by kernel_rfl) rfl (h.f _) (by first | (simp only [mL, h.get 22 rfl, h.get 23 rfl, h.c] <;> rfl) | (simp [mL, h.get 22 rfl, h.get 23 rfl, h.c] <;> rfl))) (safe_at hd (St nm) (by show nm.length ≤ _; unfold maxLen; omega)) ?_
      rintro e w4 ⟨rfl, hb4⟩
      refine ⟨_, rfl, fun a hA => ?_⟩
      rw [hsf] at hA
      have h4 := (h.below0 hB0).below0 hb4
      have hB4 := hB0.trans (hb4.mono hB0.size)
      revert a; refine wo rfl rfl (by decide) (fun ev e h => by simp [go_sem, h] <;> rfl) ?_; intro a hA
      replace hA := hA.keepN [0, 1, 6, 25]
      refine wN (nT ?_)
      refine wp_if hA 25 _ rfl (fun hq3 => ?yC) (fun hq3 => ?nC)
      case nC => cases hq3
      case yC =>
        refine wS (wR ?_)
        revert a; (iterate 2 refine wo rfl rfl (by decide) (fun ev e h => by simp [go_sem, h] <;> rfl) ?_); intro a hA
        refine wl_call hA rfl rfl (by decide) (fun ev h => exec_call Tryz.func20 (by kernel_rfl) rfl (h.f _) (by first | (simp only [mL, h.get 26 rfl, h.get 27 rfl, h.c] <;> rfl) | (simp [mL, h.get 26 rfl, h.get 27 rfl, h.c] <;> rfl))) (sync_at h4 hf (by omega) (St nm) (by show nm.length ≤ _; unfold maxLen; omega)) ?_
        rintro e w5 ⟨rfl, h5, hB5⟩
        refine ⟨_, rfl, fun a hA => ?_⟩
        have hB5' := (But.of_below hB4).trans hB5
        obtain ⟨e1, he1⟩ : ∃ x, (dSync d (St nm).data.toList).1 = x := ⟨_, rfl⟩
        rw [he1] at hA
        revert a; refine wo rfl rfl (by decide) (fun ev e h => by simp [go_sem, h] <;> rfl) ?_; intro a hA
        replace hA := hA.keepN [0, 1, 6, 7]
        refine wN (nT (wS (wR ?_)))
        revert a; (iterate 2 refine wo rfl rfl (by decide) (fun ev e h => by simp [go_sem, h] <;> rfl) ?_); intro a hA
        replace hA := hA.keepN [0, 1, 6, 7, 30]
        refine wN (nT ?_)
        refine wp_if hA 30 _ rfl (fun hq4 => ?yD) (fun hq4 => ?nD)
        case yD =>
          refine wS (wR ?_)
          revert a; (iterate 2 refine wo rfl rfl (by decide) (fun ev e h => by simp [go_sem, h] <;> rfl) ?_); intro a hA
          replace hA := hA.keepN [4]
          refine wN (nT (wp_ret (rT ?_)))
          refine ret_1 hA 4 rfl rfl ?_
          have hne : ¬ (dSync d nm).1 = 0 := by
            rw [show (dSync d nm).1 = e1 from he1]
            simpa using hq4
          unfold asideS
          rw [if_neg hne]
          exact ⟨by rw [show (dSync d nm).1 = e1 from he1], h5, hB5'⟩
        case nD =>
          have he0 : (dSync d nm).1 = 0 := by
            rw [show (dSync d nm).1 = e1 from he1]
            simpa using hq4
          refine wp_skip (nT (wS (wR ?_)))
          revert a; (iterate 3 refine wo rfl rfl (by decide) (fun ev e h => by simp [go_sem, h] <;> rfl) ?_); intro a hA
          refine wl_call hA rfl rfl (by decide) (fun ev h => exec_call Tryz.func18 (by kernel_rfl) rfl (h.f _) (by first | (simp only [mL, h.get 34 rfl, h.c] <;> rfl) | (simp [mL, h.get 34 rfl, h.c] <;> rfl))) (itoaS_any k (by omega) w5) ?_
          rintro e w6 ⟨rfl, hb6⟩
          refine ⟨_, rfl, fun a hA => ?_⟩
          rw [hdg] at hA
          revert a; (iterate 4 refine wo rfl rfl (by decide) (fun ev e h => by simp [go_sem, h, st_app, m1, m2, m3] <;> rfl) ?_); intro a hA
          rw [hbk] at hA
          have h6 := h5.below0 hb6
          have hsl := sync_len d nm
          have hbl := (badK_len nm k).2
          refine wl_call hA rfl rfl (by decide) (fun ev h => exec_call Tryz.func21 (by kernel_rfl) rfl (h.f _) (by first | (simp only [mL, h.get 32 rfl, h.get 33 rfl, h.get 39 rfl, h.c] <;> rfl) | (simp [mL, h.get 32 rfl, h.get 33 rfl, h.get 39 rfl, h.c, st_app, m1, m2, m3] <;> rfl))) (rename_at h6 (hf.sync nm) (by show (dSync d nm).2.files.length < _; omega) (St nm) (St (badK nm k)) (by show nm.length ≤ _; omega) (by show (badK nm k).length ≤ _; omega)) ?_
          rintro e w7 ⟨rfl, h7, hB7⟩
          refine ⟨_, rfl, fun a hA => ?_⟩
          revert a; refine wo rfl rfl (by decide) (fun ev e h => by simp [go_sem, h, st_app, m1, m2, m3] <;> rfl) ?_; intro a hA
          replace hA := hA.keepN [4]
          refine wN (nT (wp_ret ?_))
          refine ret_1 hA 4 rfl rfl ?_
          unfold asideS
          rw [if_pos he0]
          exact ⟨rfl, h7, (hB5'.below hb6).trans hB7⟩
end Go.Proofs.YtgjlpgijlicppaaGreatDoor
/-
  Walks: what repair answers of a disk without files; the law's own awake.
-/
namespace Go.Proofs.YtgjlpgijlicppaaGreatDoor
open Go.RowKit
set_option linter.unusedSimpArgs false
set_option linter.unusedVariables false
set_option linter.unusedSimpArgs false
set_option linter.unusedVariables false
theorem file0_any (w : World) : Calls Tryz.prog 41 #[.string ⟨#[108, 111, 103]⟩, .int .i64 0] w fun ev w' => ev = .returned (.string (St [108, 111, 103, 46, 48])) ∧ Below w.heap.size w w' := by
  refine calls_at 10 Tryz.func41 rfl rfl (Nat.le_of_ble_eq_true rfl) ?_
  intro a hA; replace hA := hA.norm
  refine wS (wR ?_)
  revert a; refine wo rfl rfl (by decide) (fun ev e h => by simp [go_sem, h] <;> rfl) ?_; intro a hA
  replace hA := hA.keepN [0, 1]
  refine wN (nT (wS (wR ?_)))
  revert a; (iterate 3 refine wo rfl rfl (by decide) (fun ev e h => by simp [go_sem, h] <;> rfl) ?_); intro a hA
  refine wl_call hA rfl rfl (by decide) (fun ev h => exec_call Tryz.func18 (by kernel_rfl) rfl (h.f _) (by first | (simp only [mL, h.get 7 rfl, h.c] <;> rfl) | (simp [mL, h.get 7 rfl, h.c] <;> rfl))) (itoaS_any 0 (by omega) w) ?_
  rintro e w1 ⟨rfl, hb1⟩
  refine ⟨_, rfl, fun a hA => ?_⟩
  have hdg : digB 0 = [48] := by decide
  rw [hdg] at hA
  revert a; (iterate 2 refine wo rfl rfl (by decide) (fun ev e h => by simp [go_sem, h, st_app] <;> rfl) ?_); intro a hA
  replace hA := hA.keepN [4]
  refine wN (nT (wp_ret ?_))
  refine ret_1 hA 4 rfl rfl ?_
  exact ⟨rfl, hb1⟩
set_option maxRecDepth 100000 in
set_option maxHeartbeats 8000000 in
theorem whole0_any {w : World} {p mb : Nat} {d : DiskM} (h : Disk w p mb d) (hf : WFD d) (hl : d.lost = false) (hno : fget [108, 111, 103, 46, 48] d.files = none) : Calls Tryz.prog 26 #[.pointer (some ⟨p, 0, none⟩), .int .i64 0] w fun ev w' => ev = .returned (.tuple #[.agg #[.string ⟨#[]⟩, .int .u32 0, .int .u32 0, .slice none 0 0], .int .i64 7]) ∧ Below w.heap.size w w' := by
  have hrd : dRead d (St [108, 111, 103, 46, 48]).data.toList = ([], 7) := by
    unfold dRead
    rw [hl, if_neg (by decide), show (St [108, 111, 103, 46, 48]).data.toList = [108, 111, 103, 46, 48] from rfl, hno]
  refine calls_at 119 Tryz.func26 rfl rfl (Nat.le_of_ble_eq_true rfl) ?_
  intro a hA; replace hA := hA.norm
  refine wS (wR ?_)
  refine wl_new hA rfl rfl (by decide) (fun ev h => by simp [go_sem]; try first | exact ⟨rfl, rfl⟩ | rfl) fun w1 a (K1 : Blk _ _ _ _) hz1 hb1 hA => ?_
  revert a; refine wo rfl rfl (by decide) (fun ev e h => by simp [go_sem, h] <;> rfl) ?_; intro a hA
  replace hA := hA.keepN [0, 1, 4]
  refine wN (nT (wS (wS (wR ?_))))
  revert a; (iterate 2 refine wo rfl rfl (by decide) (fun ev e h => by simp [go_sem, h] <;> rfl) ?_); intro a hA
  replace hA := hA.keepN [0, 1, 4, 20]
  refine wN (nT ?_)
  refine wp_if hA 20 _ rfl (fun hq => ?yA) (fun hq => ?nA)
  case yA => cases hq
  case nA =>
    refine wp_skip (nT (wS (wR ?_)))
    revert a; (iterate 2 refine wo rfl rfl (by decide) (fun ev e h => by simp [go_sem, h] <;> rfl) ?_); intro a hA
    refine wl_call hA rfl rfl (by decide) (fun ev h => exec_call Tryz.func41 (by kernel_rfl) rfl (h.f _) (by first | (simp only [mL, h.get 24 rfl, h.c] <;> rfl) | (simp [mL, h.get 24 rfl, h.c] <;> rfl))) (file0_any w1) ?_
    rintro e w2 ⟨rfl, hb2⟩
    refine ⟨_, rfl, fun a hA => ?_⟩
    replace K1 := K1.below hb2 K1.lt
    have h2 := (h.below0 hb1).below0 hb2
    refine wl_call hA rfl rfl (by decide) (fun ev h => exec_call Tryz.func9 (by kernel_rfl) rfl (h.f _) (by first | (simp only [mL, h.get 23 rfl, h.get 25 rfl, h.c] <;> rfl) | (simp [mL, h.get 23 rfl, h.get 25 rfl, h.c] <;> rfl))) (read_at h2 hf (St [108, 111, 103, 46, 48]) (by decide)) ?_
    rintro e w3 ⟨A, c, rfl, hr3, hb3⟩
    refine ⟨_, rfl, fun a hA => ?_⟩
    replace K1 := K1.below hb3 K1.lt
    rw [hrd] at hA
    revert a; (iterate 5 refine wo rfl rfl (by decide) (fun ev e h => by simp [go_sem, h] <;> rfl) ?_); intro a hA
    replace hA := hA.keepN [0, 1, 4, 6, 7]
    refine wN (nT (wS (wS (wR ?_))))
    revert a; (iterate 2 refine wo rfl rfl (by decide) (fun ev e h => by simp [go_sem, h] <;> rfl) ?_); intro a hA
    replace hA := hA.keepN [0, 1, 4, 6, 7, 30]
    refine wN (nT ?_)
    refine wp_if hA 30 _ rfl (fun hq2 => ?yB) (fun hq2 => ?nB)
    case nB => cases hq2
    case yB =>
      refine wS (wR ?_)
      revert a; (iterate 2 refine wo rfl rfl (by decide) (fun ev e h => by simp [go_sem, h] <;> rfl) ?_); intro a hA
      refine wl_set [.string ⟨#[]⟩, .int .u32 0, .int .u32 0, .slice none 0 0] hA rfl rfl K1 (by rfl) (fun ev h => by simp [go_sem, h.get 4 rfl, h.get 31 rfl, setAll, K1.cell, K1.frozen]) fun w4 (K1 : Blk _ _ _ _) hs4 => ?_
      revert a; refine wo rfl rfl (by decide) (fun ev e h => by simp [go_sem, h, K1.cell] <;> rfl) ?_; intro a hA
      replace hA := hA.keepN [4, 5]
      refine wN (nT (wp_ret (rT ?_)))
      refine bodyPost_ret (by simp [results, Tryz.results26, go_sem, hA.env 4 _ rfl, hA.env 5 _ rfl, K1.cell]; try first | exact ⟨rfl, rfl⟩ | rfl) hA.defers ?_
      exact ⟨rfl, hs4.below (hb1.trans ((hb2.mono hb1.size).trans (hb3.mono (by have := hb1.size; have := hb2.size; omega)))) (Nat.le_refl _)⟩
set_option maxRecDepth 100000 in
set_option maxHeartbeats 8000000 in
theorem mend0_any {w : World} {p mb : Nat} {d : DiskM} (h : Disk w p mb d) (hf : WFD d) (hl : d.lost = false) (hno : fget [108, 111, 103, 46, 48] d.files = none) : Calls Tryz.prog 11 #[.pointer (some ⟨p, 0, none⟩), .int .i64 0] w fun ev w' => ev = .returned (.tuple #[.agg #[.string ⟨#[]⟩, .int .u32 0, .int .u32 0, .slice none 0 0], .int .i64 7]) ∧ Below w.heap.size w w' := by
  refine calls_at 111 Tryz.func11 rfl rfl (Nat.le_of_ble_eq_true rfl) ?_
  intro a hA; replace hA := hA.norm
  refine wS (wR ?_)
  refine wl_new hA rfl rfl (by decide) (fun ev h => by simp [go_sem]; try first | exact ⟨rfl, rfl⟩ | rfl) fun w1 a (K1 : Blk _ _ _ _) hz1 hb1 hA => ?_
  revert a; refine wo rfl rfl (by decide) (fun ev e h => by simp [go_sem, h] <;> rfl) ?_; intro a hA
  replace hA := hA.keepN [0, 1, 4]
  refine wN (nT (wS (wS (wR ?_))))
  revert a; (iterate 2 refine wo rfl rfl (by decide) (fun ev e h => by simp [go_sem, h] <;> rfl) ?_); intro a hA
  refine wl_call hA rfl rfl (by decide) (fun ev h => exec_call Tryz.func26 (by kernel_rfl) rfl (h.f _) (by first | (simp only [mL, h.get 19 rfl, h.get 20 rfl, h.c] <;> rfl) | (simp [mL, h.get 19 rfl, h.get 20 rfl, h.c] <;> rfl))) (whole0_any (h.below0 hb1) hf hl hno) ?_
  rintro e w2 ⟨rfl, hb2⟩
  refine ⟨_, rfl, fun a hA => ?_⟩
  replace K1 := K1.below hb2 K1.lt
  revert a; (iterate 3 refine wo rfl rfl (by decide) (fun ev e h => by simp [go_sem, h] <;> rfl) ?_); intro a hA
  refine wl_local [.string ⟨#[]⟩, .int .u32 0, .int .u32 0, .slice none 0 0] hA rfl rfl (by decide) (fun ev h => by simp [go_sem]; try first | exact ⟨rfl, rfl⟩ | rfl) rfl rfl (by rfl) (fun w1 g ev hb h => by simp [go_sem, h.get 6 rfl, h.get 22 rfl, setAll, hb.cell, hb.frozen]) fun w3 a (K3 : Blk _ _ _ _) hz3 hb3 hA => ?_
  replace K1 := K1.below hb3 K1.lt
  revert a; refine wo rfl rfl (by decide) (fun ev e h => by simp [go_sem, h] <;> rfl) ?_; intro a hA
  replace hA := hA.keepN [0, 1, 4, 6, 7]
  refine wN (nT (wS (wR ?_)))
  revert a; (iterate 2 refine wo rfl rfl (by decide) (fun ev e h => by simp [go_sem, h] <;> rfl) ?_); intro a hA
  replace hA := hA.keepN [0, 1, 4, 6, 7, 25]
  refine wN (nT ?_)
  refine wp_if hA 25 _ rfl (fun hq => ?yB) (fun hq => ?nB)
  case nB => cases hq
  case yB =>
    refine wS (wR ?_)
    revert a; (iterate 2 refine wo rfl rfl (by decide) (fun ev e h => by simp [go_sem, h, K3.cell] <;> rfl) ?_); intro a hA
    refine wl_set [.string ⟨#[]⟩, .int .u32 0, .int .u32 0, .slice none 0 0] hA rfl rfl K1 (by rfl) (fun ev h => by simp [go_sem, h.get 4 rfl, h.get 26 rfl, K3.cell, setAll, K1.cell, K1.frozen]) fun w4 (K1 : Blk _ _ _ _) hs4 => ?_
    revert a; refine wo rfl rfl (by decide) (fun ev e h => by simp [go_sem, h, K1.cell] <;> rfl) ?_; intro a hA
    replace hA := hA.keepN [4, 5]
    refine wN (nT (wp_ret (rT ?_)))
    refine bodyPost_ret (by simp [results, Tryz.results11, go_sem, hA.env 4 _ rfl, hA.env 5 _ rfl, K1.cell]; try first | exact ⟨rfl, rfl⟩ | rfl) hA.defers ?_
    exact ⟨rfl, hs4.below (hb1.trans ((hb2.mono hb1.size).trans (hb3.mono (by have := hb1.size; have := hb2.size; omega)))) (Nat.le_refl _)⟩
theorem asideNil_any (s : ByteArray) (w : World) : Calls Tryz.prog 8 #[.pointer none, .string s] w fun ev w' => ev = .returned (.int .i64 1) ∧ Below w.heap.size w w' := by
  refine calls_at 41 Tryz.func8 rfl rfl (Nat.le_of_ble_eq_true rfl) ?_
  intro a hA; replace hA := hA.norm
  refine wS (wR ?_)
  revert a; refine wo rfl rfl (by decide) (fun ev e h => by simp [go_sem, h] <;> rfl) ?_; intro a hA
  replace hA := hA.keepN [0, 1]
  refine wN (nT (wS (wS (wR ?_))))
  revert a; (iterate 2 refine wo rfl rfl (by decide) (fun ev e h => by simp [go_sem, h] <;> rfl) ?_); intro a hA
  replace hA := hA.keepN [0, 1, 9]
  refine wN (nT ?_)
  refine wp_if hA 9 _ rfl (fun hq => ?yA) (fun hq => ?nA)
  case nA => cases hq
  case yA =>
    refine wS (wR ?_)
    revert a; refine wo rfl rfl (by decide) (fun ev e h => by simp [go_sem, h] <;> rfl) ?_; intro a hA
    replace hA := hA.keepN [4]
    refine wN (nT (wp_ret (rT ?_)))
    refine ret_1 hA 4 rfl rfl ?_
    exact ⟨rfl, Below.refl _ _⟩
theorem wfNew0 (cap : Nat) (h : cap ≤ 4194304) : WFD ⟨cap, [], -1, false⟩ := ⟨up_nil, Nat.zero_le _, h, by show (-1 : Int) ≤ -1; omega, by show (-1 : Int) ≤ _; omega, fun q hq => by cases hq⟩
set_option maxRecDepth 100000 in
set_option maxHeartbeats 8000000 in
theorem awake20_any (w : World) : Calls Tryz.prog 4 #[] w fun ev w' => ev = .returned (.bool true) ∧ Below w.heap.size w w' := by
  refine calls_at 20 Tryz.func4 rfl rfl (Nat.le_of_ble_eq_true rfl) ?_
  intro a hA; replace hA := hA.norm
  refine wS (wR ?_)
  revert a; refine wo rfl rfl (by decide) (fun ev e h => by simp [go_sem, h] <;> rfl) ?_; intro a hA
  replace hA := hA.keepN []
  refine wN (nT (wS (wR ?_)))
  refine wl_call hA rfl rfl (by decide) (fun ev h => exec_call Tryz.func6 (by kernel_rfl) rfl (h.f _) (by first | (simp only [mL, h.c] <;> rfl) | (simp [mL, h.c] <;> rfl))) (new_at 1000 (by omega) w) ?_
  rintro e w1 ⟨p, mb, rfl, hd, hp, hm, hb1⟩
  refine ⟨_, rfl, fun a hA => ?_⟩
  have h1 : Disk w1 p mb ⟨1000, [], -1, false⟩ := ⟨[], rfl, hd⟩
  revert a; (iterate 5 refine wo rfl rfl (by decide) (fun ev e h => by simp [go_sem, h] <;> rfl) ?_); intro a hA
  replace hA := hA.keepN [1]
  refine wN (nT (wS (wR ?_)))
  revert a; refine wo rfl rfl (by decide) (fun ev e h => by simp [go_sem, h] <;> rfl) ?_; intro a hA
  refine wl_call hA rfl rfl (by decide) (fun ev h => exec_call Tryz.func11 (by kernel_rfl) rfl (h.f _) (by first | (simp only [mL, h.get 10 rfl, h.c] <;> rfl) | (simp [mL, h.get 10 rfl, h.c] <;> rfl))) (mend0_any h1 (wfNew0 1000 (by omega)) rfl rfl) ?_
  rintro e w2 ⟨rfl, hb2⟩
  refine ⟨_, rfl, fun a hA => ?_⟩
  revert a; (iterate 3 refine wo rfl rfl (by decide) (fun ev e h => by simp [go_sem, h] <;> rfl) ?_); intro a hA
  refine wl_local [.string ⟨#[]⟩, .int .u32 0, .int .u32 0, .slice none 0 0] hA rfl rfl (by decide) (fun ev h => by simp [go_sem]; try first | exact ⟨rfl, rfl⟩ | rfl) rfl rfl (by rfl) (fun w1 g ev hb h => by simp [go_sem, h.get 3 rfl, h.get 12 rfl, setAll, hb.cell, hb.frozen]) fun w3 a (K3 : Blk _ _ _ _) hz3 hb3 hA => ?_
  have HB := hb1.trans ((hb2.mono hb1.size).trans (hb3.mono (by have := hb1.size; have := hb2.size; omega)))
  revert a; refine wo rfl rfl (by decide) (fun ev e h => by simp [go_sem, h] <;> rfl) ?_; intro a hA
  replace hA := hA.keepN [4]
  refine wN (nT (wS (wR ?_)))
  revert a; (iterate 3 refine wo rfl rfl (by decide) (fun ev e h => by simp [go_sem, h] <;> rfl) ?_); intro a hA
  refine wl_gcallv _ hA rfl rfl rfl rfl (by decide) (fun hq ev h => exec_call Tryz.func8 (by kernel_rfl) rfl (h.f _) (by first | (simp only [mL, h.c] <;> rfl) | (simp [mL, h.c] <;> rfl))) (fun hq => asideNil_any ⟨#[97]⟩ _) fun a w4 hb4 hA => ?_
  replace HB := HB.trans (hb4.mono HB.size)
  revert a; refine wg _ rfl rfl rfl rfl (by decide) (fun hq ev e h => by simp [go_sem, h, ↓gw_t (beq_t hq)] <;> rfl) ?_; refine wka rfl rfl (by decide) rfl rfl rfl ?_; refine wo rfl rfl (by decide) (fun ev e h => by simp [go_sem, h] <;> rfl) ?_; intro a hA
  replace hA := hA.keepN [0]
  refine wN (nT (wp_ret ?_))
  refine ret_1 hA 0 rfl rfl ?_
  exact ⟨rfl, HB⟩
end Go.Proofs.YtgjlpgijlicppaaGreatDoor
/-
  Rows of what takes k cells each.
-/
namespace Go.Proofs.YtgjlpgijlicppaaGreatDoor
open Go.RowKit
section
variable {M : Type} {f : M → List Value} {k : Nat}
theorem flatK_len (hf : ∀ x, (f x).length = k) : ∀ l : List M, (l.flatMap f).length = l.length * k
  | [] => by simp
  | x :: r => by rw [List.flatMap_cons, List.length_append, hf, flatK_len hf r, List.length_cons, Nat.succ_mul]; omega
theorem flatK_at (hf : ∀ x, (f x).length = k) : ∀ (l : List M) (i j : Nat) (x : M), l[i]? = some x → j < k → (l.flatMap f)[i * k + j]? = (f x)[j]?
  | y :: r, 0, j, x, h, hj => by
    have e : y = x := by simpa using h
    subst e
    rw [List.flatMap_cons, Nat.zero_mul, Nat.zero_add, List.getElem?_append_left (by rw [hf]; exact hj)]
  | y :: r, i + 1, j, x, h, hj => by
    have ih := flatK_at hf r i j x (by simpa using h) hj
    rw [List.flatMap_cons, List.getElem?_append_right (by rw [hf, Nat.succ_mul]; omega)]
    have e : (i + 1) * k + j - (f y).length = i * k + j := by rw [hf, Nat.succ_mul]; omega
    rw [e]; exact ih
theorem flatK_take (hf : ∀ x, (f x).length = k) (l : List M) (i : Nat) : (l.take i).flatMap f = (l.flatMap f).take (i * k) := by
  induction l generalizing i with
  | nil => simp
  | cons y r ih =>
    cases i with
    | zero => simp
    | succ i =>
      have h1 : (f y).take ((i + 1) * k) = f y := List.take_of_length_le (by rw [hf, Nat.succ_mul]; omega)
      have h2 : (i + 1) * k - (f y).length = i * k := by rw [hf, Nat.succ_mul]; omega
      rw [List.take_succ_cons, List.flatMap_cons, List.flatMap_cons, List.take_append, h1, h2, ih i]
theorem add_kj (ad : Addr) (i j : Nat) (hj : 0 < j) : ad.add (i + j) = ⟨(ad.add i).block, (ad.add i).off + j, none⟩ := by
  unfold Addr.add; by_cases h : i = 0 <;> simp [h] <;> omega
/-- an element's cells -/
theorem rowK_at {w : World} {B n i : Nat} {A : Option Addr} {l : List M} {x : M} (hf : ∀ x, (f x).length = k) (h : Reads w B k A n (l.flatMap f)) (hn : 0 < n) (hx : l[i]? = some x) :
    ∃ ad, A = some ad ∧ ad.block < B ∧ (∀ u, (f x)[0]? = some u → w.cell? (ad.add (i * k)) = some u) ∧ ∀ j u, 0 < j → (f x)[j]? = some u → w.cell? ⟨(ad.add (i * k)).block, (ad.add (i * k)).off + j, none⟩ = some u := by
  obtain ⟨ad, rfl, hb, hc⟩ := h.2 hn
  have hk : ∀ j u, (f x)[j]? = some u → j < k := fun j u hu => by
    have := (List.getElem?_eq_some_iff.1 hu).1
    rw [hf] at this; exact this
  refine ⟨ad, rfl, hb, fun u hu => ?_, fun j u hj hu => ?_⟩
  · have := hc (i * k + 0) u (by rw [flatK_at hf l i 0 x hx (hk 0 u hu)]; exact hu)
    simpa using this
  · have := hc (i * k + j) u (by rw [flatK_at hf l i j x hx (hk j u hu)]; exact hu)
    rwa [add_kj _ _ _ hj] at this
theorem Reads.takeK {w : World} {B n : Nat} {A : Option Addr} {l : List M} (hf : ∀ x, (f x).length = k) (h : Reads w B k A n (l.flatMap f)) (hl : l.length = n) {i : Nat} (hi : i ≤ n) : Reads w B k A i ((l.take i).flatMap f) := by
  refine ⟨by rw [flatK_len hf, List.length_take]; congr 1; omega, fun hp => ?_⟩
  obtain ⟨ad, e, hb, hc⟩ := h.2 (by omega)
  refine ⟨ad, e, hb, fun j u hu => hc j u ?_⟩
  rw [flatK_take hf, List.getElem?_take] at hu
  split at hu
  · exact hu
  · cases hu
end
end Go.Proofs.YtgjlpgijlicppaaGreatDoor
/-
  Rows of structs of one's own: a row that is one's own, the bytes of its parts elsewhere.
-/
namespace Go.Proofs.YtgjlpgijlicppaaGreatDoor
open Go.RowKit
/-- a kind of struct: its type, the type of its rows, its cells, its parts -/
structure Sh (M : Type) where
  T : TypeId
  S : TypeId
  k : Nat
  by_ : Nat
  z : Value
  f : M → List Value
  parts : M → List (Option Addr × List UInt8)
  len : ∀ x, (f x).length = k
  one : ∀ x, ∀ u ∈ f x, u.oneCell' = true
  und : Tryz.prog.underlying S = some (.slice T)
  info : (Tryz.prog.info? T).map (fun i => (i.zero, i.size, i.bytes)) = some (some z, k, by_)
  zk : z.cells.size = k
  pos : 0 < k
  small : by_ ≤ 1000
/-- bytes lie apart from a block -/
def OffP (g : Nat) (p : Option Addr × List UInt8) : Prop := 0 < p.2.length → ∀ ad, p.1 = some ad → ad.block ≠ g
abbrev ReadsP (w : World) (p : Option Addr × List UInt8) : Prop := Reads w w.heap.size 1 p.1 p.2.length (u8s p.2)
structure RowR {M : Type} (s : Sh M) (w : World) (A : Option Addr) (l : List M) : Prop where
  row : Reads w w.heap.size s.k A l.length (l.flatMap s.f)
  octs : ∀ m ∈ l, ∀ p ∈ s.parts m, ReadsP w p
structure OwnR {M : Type} (s : Sh M) (B : Nat) (w : World) (v : Value) (l : List M) : Prop where
  row : w.ownsRow B s.T s.k v l.length (l.flatMap s.f)
  octs : ∀ m ∈ l, ∀ p ∈ s.parts m, ReadsP w p
  off : ∀ g, v.ownBlock = some g → ∀ m ∈ l, ∀ p ∈ s.parts m, OffP g p
theorem ReadsP.below {w w' : World} {p : Option Addr × List UInt8} (h : ReadsP w p) (hb : Below w.heap.size w w') : ReadsP w' p := (Reads.below h hb).more hb.size
theorem readsP_apart {w w' : World} {g : Nat} {p : Option Addr × List UInt8} (h : ReadsP w p) (hg : OffP g p) (hb : ∀ k, k < w.heap.size → k ≠ g → w'.heap[k]? = w.heap[k]?) (hs : w.heap.size ≤ w'.heap.size) : ReadsP w' p := by
  refine ⟨h.1, fun hn => ?_⟩
  obtain ⟨ad, e, hlt, hc⟩ := h.2 hn
  refine ⟨ad, e, by omega, fun j u hu => ?_⟩
  have := hc j u hu
  rwa [← World.cell?_of_block (w' := w') (hb _ (by rw [block_of_add]; exact hlt) (by rw [block_of_add]; exact hg hn ad e))] at this
theorem readsP_off {w : World} {p : Option Addr × List UInt8} (h : ReadsP w p) {g : Nat} (hg : w.heap.size ≤ g) : OffP g p := fun hn ad ha => by
  obtain ⟨ad', e, hlt, _⟩ := h.2 hn
  rw [ha] at e
  injection e with e
  subst e
  omega
/-- no cell of bytes -/
def noB8 : Value → Bool
  | .int .u8 _ => false
  | _ => true
theorem readsP_blk {w : World} {p : Option Addr × List UInt8} {g : Nat} {T : TypeId} {cs : Array Value} (h : ReadsP w p) (K : Blk w g T cs) (hno : cs.toList.all noB8 = true) : OffP g p := fun hn ad ha he => by
  obtain ⟨ad', e, _, hc⟩ := h.2 hn
  rw [ha] at e
  injection e with e
  subst e
  have h0 : (u8s p.2)[0]? = some (.int .u8 (((p.2[0]'hn).toNat : Nat) : Int)) := by rw [u8s_get, List.getElem?_eq_getElem hn]; rfl
  have h1 := hc 0 _ h0
  have h2 : ad.add 0 = ad := by unfold Addr.add; simp
  rw [h2] at h1
  unfold World.cell? at h1
  unfold Blk at K
  rw [he, K] at h1
  simp only at h1
  split at h1
  · cases h1
  · have hm : Value.int .u8 (((p.2[0]'hn).toNat : Nat) : Int) ∈ cs.toList := by
      have := Array.mem_of_getElem? h1
      simpa using this
    have := List.all_eq_true.1 hno _ hm
    cases this
/-- bytes stay, as a block without bytes turns -/
theorem reads_only {w w' : World} {A : Option Addr} {n g : Nat} {l : List UInt8} {T : TypeId} {cs : Array Value} (h : Reads w w.heap.size 1 A n (u8s l)) (hs : Only g w w') (K : Blk w g T cs) (hno : cs.toList.all noB8 = true) : Reads w' w'.heap.size 1 A n (u8s l) := by
  have hl : l.length = n := by have := h.1; rw [u8s_length] at this; omega
  subst hl
  exact readsP_apart (p := (A, l)) h (readsP_blk (p := (A, l)) h K hno) (fun j _ hj => hs.block j hj) (by rw [hs.size]; exact Nat.le_refl _)
section
variable {M : Type} {s : Sh M} {B : Nat} {w w' : World} {v : Value} {l : List M}
theorem RowR.below {A : Option Addr} (h : RowR s w A l) (hb : Below w.heap.size w w') : RowR s w' A l := ⟨(h.row.below hb).more hb.size, fun m hm p hp => (h.octs m hm p hp).below hb⟩
theorem RowR.nil (A : Option Addr) : RowR s w A [] := ⟨⟨by simp, fun h => absurd h (by simp)⟩, fun _ h => (by cases h)⟩
theorem OwnR.below (h : OwnR s B w v l) (hb : Below w.heap.size w w') : OwnR s B w' v l := ⟨own_below h.row hb, fun m hm p hp => (h.octs m hm p hp).below hb, h.off⟩
theorem OwnR.mono {B' : Nat} (h : OwnR s B w v l) (hb : B' ≤ B) : OwnR s B' w v l := ⟨own_mono h.row hb, h.octs, h.off⟩
theorem OwnR.reads (h : OwnR s B w v l) : ∃ A c, v = .slice A l.length c ∧ RowR s w A l ∧ l.length ≤ c := by
  obtain ⟨A, c, e, hr, hc⟩ := own_reads h.row
  exact ⟨A, c, e, ⟨hr, h.octs⟩, hc⟩
theorem OwnR.nil (B : Nat) (w : World) : OwnR s B w (.slice none 0 0) [] := ⟨World.ownsRow_nil _ _ _ _, fun _ h => (by cases h), fun _ _ _ h => (by cases h)⟩
theorem OwnR.empty {g : Nat} (K : Blk w g s.T #[]) (hb : B ≤ g) : OwnR s B w (.slice (some ⟨g, 0, none⟩) 0 0) [] := ⟨ownsRow_empty K hb, fun _ h => (by cases h), fun _ _ _ h => (by cases h)⟩
theorem RowR.parts_off {A : Option Addr} {g : Nat} (h : RowR s w A l) (hg : w.heap.size ≤ g) : ∀ m ∈ l, ∀ p ∈ s.parts m, OffP g p := fun m hm p hp => readsP_off (h.octs m hm p hp) hg
/-- an element's cells -/
theorem RowR.cell {A : Option Addr} {i : Nat} {x : M} (h : RowR s w A l) (hx : l[i]? = some x) : ∃ ad, A = some ad ∧ ad.block < w.heap.size ∧ (∀ u, (s.f x)[0]? = some u → w.cell? (ad.add (i * s.k)) = some u) ∧ ∀ j u, 0 < j → (s.f x)[j]? = some u → w.cell? ⟨(ad.add (i * s.k)).block, (ad.add (i * s.k)).off + j, none⟩ = some u :=
  rowK_at s.len h.row (by have := (List.getElem?_eq_some_iff.1 hx).1; omega) hx
theorem OwnR.at_ (h : OwnR s B w v l) (hl : 0 < l.length) : ∃ g c, v = .slice (some ⟨g, 0, none⟩) l.length c ∧ B ≤ g ∧ g < w.heap.size := by
  obtain ⟨g, cap, hv, hg, hlt⟩ := h.row.form hl
  exact ⟨g, cap, hv, hg, hlt⟩
theorem OwnR.only {k : Nat} (h : OwnR s B w v l) (hs : Only k w w') (hne : ∀ g, v.ownBlock = some g → g ≠ k) (hoff : ∀ m ∈ l, ∀ p ∈ s.parts m, OffP k p) : OwnR s B w' v l :=
  ⟨own_keep h.row fun g hg => hs.block g (hne g hg), fun m hm p hp => readsP_apart (h.octs m hm p hp) (hoff m hm p hp) (fun j _ hj => hs.block j hj) (by rw [hs.size]; exact Nat.le_refl _), h.off⟩
theorem OwnR.onlyK {k : Nat} {T : TypeId} {cs : Array Value} (h : OwnR s B w v l) (hs : Only k w w') (K : Blk w k T cs) (hT : T ≠ s.T) (hno : cs.toList.all noB8 = true) : OwnR s B w' v l :=
  h.only hs (own_ne h.row K hT) fun m hm p hp => readsP_blk (h.octs m hm p hp) K hno
theorem run_app0 {P : Program} {t ty e : TypeId} {i : TypeInfo} {base size n : Nat} {xs : List Value} (ht : P.underlying t = some (.slice e)) (hi : P.info? e = some i) (hown : w.ownsRow base e size v n xs) (c : Nat) :
    (Builtin.append_ #[t, t] ty #[v, .slice none 0 c]).run P w = .ok v w := by
  rcases hown.2 with ⟨rfl, rfl⟩ | ⟨g, cap, cur, rfl, _, _, hnc, _⟩
  · simp [Builtin.append_, run_underlying ht, sizeOf, typeInfo, hi, Builtin.lenOf, Builtin.firstCells, Result.andThen]
  · have := run_append_room_src (P := P) w t t ty e i ht hi g 0 n cap (.slice none 0 c) 0 [] (Src.ofNil w ht c) (by omega) (fun j hj => by simp at hj) (fun j hj => by simp at hj)
    rw [setCells_nil] at this
    exact this
theorem flat_one' (l : List M) : ∀ u ∈ l.flatMap s.f, u.oneCell' = true := by
  intro u hu
  obtain ⟨m, _, hm⟩ := List.mem_flatMap.1 hu
  exact s.one m u hm
/-- structs are appended -/
theorem run_appR {k : List M} {A : Option Addr} {c : Nat} (h : OwnR s B w v l) (hk : RowR s w A k) (hoff : ∀ g, v.ownBlock = some g → ∀ m ∈ k, ∀ p ∈ s.parts m, OffP g p) (hlen : l.length + k.length ≤ 100000000) (hB : B ≤ w.heap.size) :
    ∃ r w', (Builtin.append_ #[s.S, s.S] s.S #[v, .slice A k.length c]).run Tryz.prog w = .ok r w' ∧ OwnR s B w' r (l ++ k) ∧ w.grownBy w' v.ownBlock ∧ (r.ownBlock = v.ownBlock ∨ r.ownBlock = some w.heap.size) := by
  obtain ⟨i0, hi0, hz0, hz1, hz2⟩ := info_parts s.info
  have hmul : (l.length + k.length) * s.by_ ≤ 140737488355328 := Nat.le_trans (Nat.mul_le_mul hlen s.small) (by omega)
  have key : ∃ r w', (Builtin.append_ #[s.S, s.S] s.S #[v, .slice A k.length c]).run Tryz.prog w = .ok r w' ∧ w'.ownsRow B s.T s.k r (l.length + k.length) (l.flatMap s.f ++ k.flatMap s.f) ∧ w.grownBy w' v.ownBlock ∧ (r.ownBlock = v.ownBlock ∨ r.ownBlock = some w.heap.size) := by
    cases A with
    | some ad =>
      have hc : ∀ j u, (k.flatMap s.f)[j]? = some u → w.cell? (ad.add j) = some u := by
        rcases Nat.eq_zero_or_pos k.length with h0 | h0
        · intro j u hj
          rw [List.length_eq_zero_iff.1 h0] at hj
          cases hj
        · obtain ⟨ad', e, _, hc⟩ := hk.row.2 h0
          injection e with e; subst e; exact hc
      obtain ⟨v', w', hr, h2, h3, _, h5⟩ := run_append_own_at (P := Tryz.prog) w B s.S s.S s.T i0 s.z s.k s.by_ s.und hi0 hz0 hz1 hz2 s.zk s.pos v l.length _ h.row ad k.length c _ hk.row.1 hc (flat_one' k) (by unfold maxLen; omega) hmul hB
      exact ⟨v', w', hr, h2, h3, h5⟩
    | none =>
      have h0 : k.length = 0 := by
        rcases Nat.eq_zero_or_pos k.length with h0 | h0
        · exact h0
        · obtain ⟨ad, e, _⟩ := hk.row.2 h0; cases e
      have hk0 : k = [] := List.length_eq_zero_iff.1 h0
      subst hk0
      exact ⟨v, w, run_app0 s.und hi0 h.row c, by simpa using h.row, ⟨rfl, rfl, rfl, Nat.le_refl _, fun _ _ _ => rfl⟩, .inl rfl⟩
  obtain ⟨r, w', hr, h2, h3, h4⟩ := key
  have hoffB : ∀ {p : Option Addr × List UInt8}, ReadsP w p → (∀ g, v.ownBlock = some g → OffP g p) → ∀ g, r.ownBlock = some g → OffP g p := fun {p} hm ho g hg => by
    rcases h4 with e | e
    · exact ho g (e ▸ hg)
    · rw [e] at hg
      injection hg with hg
      subst hg
      exact readsP_off hm (Nat.le_refl _)
  have hkeep : ∀ {p : Option Addr × List UInt8}, ReadsP w p → (∀ g, v.ownBlock = some g → OffP g p) → ReadsP w' p := fun {p} hm ho => by
    cases hb : v.ownBlock with
    | none => exact (Reads.grown hm h3 (Nat.le_refl _) fun g hg => by rw [hb] at hg; cases hg).more h3.size
    | some g => exact readsP_apart hm (ho g hb) (fun j hj hne => h3.block j hj (fun e => by rw [hb] at e; exact hne (Option.some.inj e))) h3.size
  refine ⟨r, w', hr, ⟨?_, fun m hm p hp => ?_, fun g hg m hm p hp => ?_⟩, h3, h4⟩
  · rw [List.length_append, List.flatMap_append]; exact h2
  · rcases List.mem_append.1 hm with hm | hm
    · exact hkeep (h.octs m hm p hp) fun g hg => h.off g hg m hm p hp
    · exact hkeep (hk.octs m hm p hp) fun g hg => hoff g hg m hm p hp
  · rcases List.mem_append.1 hm with hm | hm
    · exact hoffB (h.octs m hm p hp) (fun g hg => h.off g hg m hm p hp) g hg
    · exact hoffB (hk.octs m hm p hp) (fun g hg => hoff g hg m hm p hp) g hg
/-- one struct, in a block of its own, as a row -/
theorem rowR_blk {g : Nat} {x : M} (K : Blk w g s.T (s.f x).toArray) (hp : ∀ p ∈ s.parts x, ReadsP w p) : RowR s w (some ⟨g, 0, none⟩) [x] := by
  refine ⟨⟨by simp [s.len], fun _ => ⟨⟨g, 0, none⟩, rfl, K.lt, fun j u hu => ?_⟩⟩, fun m hm => ?_⟩
  · rw [List.flatMap_cons, List.flatMap_nil, List.append_nil] at hu
    rw [add0]
    unfold World.cell?
    unfold Blk at K
    rw [K]
    simpa using hu
  · rw [List.mem_singleton.1 hm]; exact hp
theorem below_appR {W : World} {B0 : Nat} (hb : Below B0 W w) (h : OwnR s B w v l) (hg : w.grownBy w' v.ownBlock) (h0 : B0 ≤ B) (hB : B0 ≤ w.heap.size) : Below B0 W w' :=
  hb.grown hg hB fun k hk => Nat.le_trans h0 (World.ownsRow.lt h.row k hk).1
/-- what is known of a part stays, as one's row grows -/
theorem grown_part {p : Option Addr × List UInt8} (hg : w.grownBy w' v.ownBlock) (hm : ReadsP w p) (ho : ∀ g, v.ownBlock = some g → OffP g p) : ReadsP w' p := by
  cases hb : v.ownBlock with
  | none => exact (Reads.grown hm hg (Nat.le_refl _) fun g hg' => by rw [hb] at hg'; cases hg').more hg.size
  | some g => exact readsP_apart hm (ho g hb) (fun j hj hne => hg.block j hj (fun e => by rw [hb] at e; exact hne (Option.some.inj e))) hg.size
end
end Go.Proofs.YtgjlpgijlicppaaGreatDoor
/-
  New memory, under a guard that is known.
-/
namespace Go.Proofs.YtgjlpgijlicppaaGreatDoor
open Go Go.RowKit
/-- new memory, under a guard that is so -/
theorem wl_gnew {P : Program} {Q : Exit → Act → World → Prop} {a : Act} {w : World} {n : Nat} {Γ : Env} {l rest : List Oper} {o : Oper} {t gi gt : Nat} {b : Bool} {v : Value} {x : Obj} (hA : At n Γ a) (hg : o.guard = some (gi, b)) (hgd : (l[gi]?).bind (·.dst) = some gt) (hl : look Γ gt = some (.bool b)) (hd : o.dst = some t) (ht : t < n)
    (hrun : ∀ ev, EvIn Γ ev → (execOp ev o).run P w = .ok (.value v) (w.alloc x))
    (hk : ∀ w1 a', w1.heap[w.heap.size]? = some x → w1.heap.size = w.heap.size + 1 → Below w.heap.size w w1 → At n ((t, v) :: Γ) a' → wpList P l.toArray Q rest a' w1) : wpList P l.toArray Q (o :: rest) a w := by
  have hw : Region.wanted o (yielded l.toArray a.tmps) = true := by
    rw [wanted_eq]
    exact wanted_bool (r := true) hg hgd (hA.evin.get gt hl) (by cases b <;> rfl)
  refine wpList_step fun K hK => ?_
  rw [hw, if_pos rfl]
  unfold Oper.wp
  rw [hrun _ hA.evin, Oper.upon_value, hd]
  exact hK _ _ (hk _ _ (heap_alloc_new w x) (by simp) ((Below.refl _ _).alloc (Nat.le_refl _) x) (hA.put ht v))
/-- a call under a guard that is so -/
theorem wl_kcall {P : Program} {Q : Exit → Act → World → Prop} {a : Act} {w : World} {n : Nat} {Γ : Env} {l rest : List Oper} {o : Oper} {t gi gt : Nat} {b : Bool} {f : FuncId} {args : Array Value} {R : Ending → World → Prop} (hA : At n Γ a) (hg : o.guard = some (gi, b)) (hgd : (l[gi]?).bind (·.dst) = some gt) (hl : look Γ gt = some (.bool b)) (hd : o.dst = some t) (ht : t < n)
    (hrun : ∀ ev, EvIn Γ ev → (execOp ev o).run P w = .ok (.enter f args) w) (hc : Calls P f args w R)
    (hk : ∀ e w', R e w' → ∃ v, e = .returned v ∧ ∀ a', At n ((t, v) :: Γ) a' → wpList P l.toArray Q rest a' w') : wpList P l.toArray Q (o :: rest) a w := by
  have hw : Region.wanted o (yielded l.toArray a.tmps) = true := by
    rw [wanted_eq]
    exact wanted_bool (r := true) hg hgd (hA.evin.get gt hl) (by cases b <;> rfl)
  refine wpList_step fun K hK => ?_
  rw [hw, if_pos rfl]
  unfold Oper.wp
  rw [hrun _ hA.evin, Oper.upon_enter]
  refine Calls.mono hc fun e w' hR => ?_
  obtain ⟨v, rfl, h⟩ := hk e w' hR
  rw [hd]
  exact hK _ _ (h _ (hA.put ht v))
end Go.Proofs.YtgjlpgijlicppaaGreatDoor
/-
  Walk: the law on files that are put aside.
-/
namespace Go.Proofs.YtgjlpgijlicppaaGreatDoor
open Go.RowKit
set_option linter.unusedSimpArgs false
set_option linter.unusedVariables false
set_option linter.unusedSimpArgs false
set_option linter.unusedVariables false
/-- bytes in memory -/
structure FileV where
  a : Option Addr
  c : Nat
  b : List UInt8
def fileSh : Sh FileV := ⟨29, 22, 1, 24, .slice none 0 0, fun x => [.slice x.a x.b.length x.c], fun x => [(x.a, x.b)], fun _ => rfl, fun x u hu => by
  rw [List.mem_singleton.1 hu]
  rfl, Tryz.underlying22, by kernel_rfl, rfl, by decide, by decide⟩
/-- the disk behind an append -/
def dApp (nm : List UInt8) (fs : List (List UInt8)) (j : Nat) : DiskM := ⟨1048576, fput nm ⟨fs.getD j [], 0, false⟩ (asideF nm fs j), -1, false⟩
theorem app_step {nm : List UInt8} {fs : List (List UInt8)} {j : Nat} (hj : j < 12) (hr : right nm = true) (hs : ∀ i, i < j + 1 → (fs.getD i []).length ≤ 1000) : dAppend (dA nm fs j) nm (fs.getD j []) = (0, dApp nm fs j) := by
  refine append_new (dA_calm _ _ _) hr ?_ nm_none
  have h1 := aside_used (nm := nm) (fs := fs) (j := j) (by omega) fun i hi => hs i (by omega)
  have h2 := hs j (by omega)
  show _ ≤ 1048576 - used (asideF nm fs j)
  omega
theorem app_calm (nm : List UInt8) (fs : List (List UInt8)) (j : Nat) : Calm (dApp nm fs j) := ⟨rfl, rfl⟩
theorem app_get (nm : List UInt8) (fs : List (List UInt8)) (j : Nat) (k : Key) : fget k (dApp nm fs j).files = if k = nm then some ⟨fs.getD j [], 0, false⟩ else fget k (asideF nm fs j) := fget_fput
theorem aside_step {nm : List UInt8} {fs : List (List UInt8)} {j : Nat} (hj : j < 12) (hr : right nm = true) (hl : nm.length ≤ 20) : asideS (dApp nm fs j) nm j = (0, dA nm fs (j + 1)) := by
  have hg : fget nm (dApp nm fs j).files = some ⟨fs.getD j [], 0, false⟩ := by rw [app_get, if_pos rfl]
  have h1 := sync_new (app_calm nm fs j) hg
  unfold asideS
  rw [h1, if_pos rfl]
  have hc : Calm ({ dApp nm fs j with files := fput nm (wholeF (fs.getD j [])) (dApp nm fs j).files } : DiskM) := ⟨rfl, rfl⟩
  have h2 := rename_new (b := badK nm j) (f := wholeF (fs.getD j [])) hc (badK_right (by omega) hr hl) (badK_ne nm j) (by show fget nm (fput nm _ _) = _; rw [fget_fput, if_pos rfl]) (wholeF_whole _)
  refine h2.trans ?_
  show ((0 : Int), (⟨1048576, fdel nm (fput (badK nm j) (wholeF (fs.getD j [])) (fput nm (wholeF (fs.getD j [])) (fput nm ⟨fs.getD j [], 0, false⟩ (asideF nm fs j)))), -1, false⟩ : DiskM)) = (0, ⟨1048576, fput (badK nm j) (wholeF (fs.getD j [])) (asideF nm fs j), -1, false⟩)
  rw [aside_ext (aside_up nm fs j) (badK_ne nm j) nm_none]
theorem aside_last {nm : List UInt8} {fs : List (List UInt8)} {n : Nat} (k : Nat) : asideS (dA nm fs n) nm k = (7, dA nm fs n) := by
  have h1 := sync_none (dA_calm nm fs n) (k := nm) nm_none
  unfold asideS
  rw [h1, if_neg (show ¬ ((7 : Int) = 0) by decide)]
theorem reads_one {w : World} {g : Nat} {x : UInt8} (K : Blk w g 5 #[.int .u8 ((x.toNat : Nat) : Int)]) : Reads w w.heap.size 1 (some ⟨g, 0, none⟩) 1 (u8s [x]) := by
  refine ⟨rfl, fun _ => ⟨_, rfl, K.lt, fun j u hu => ?_⟩⟩
  rw [add0, K.cell, ← hu]
  simp [u8s]
set_option maxRecDepth 100000 in
set_option maxHeartbeats 16000000 in
theorem aside_law (s : ByteArray) (A : Option Addr) (c : Nat) (l : List FileV) (w : World) (hrow : RowR fileSh w A l) (hlen : l.length ≤ 140737488355328) (hsl : s.size ≤ 140737488355328) (hcap : ∀ x ∈ l, x.b.length ≤ x.c ∧ x.b.length ≤ 140737488355328) :
    Calls Tryz.prog 3 #[.string s, .slice A l.length c] w fun ev w' => ev = .returned (.bool true) ∧ Below w.heap.size w w' := by
  obtain ⟨nm, hnm⟩ : ∃ nm, s.data.toList = nm := ⟨_, rfl⟩
  have hss : s = St nm := by rw [← hnm]
  subst hss
  have hsz : (St nm).size = nm.length := rfl
  have HB := Below.refl w.heap.size w
  refine calls_at 114 Tryz.func3 rfl rfl (Nat.le_of_ble_eq_true rfl) ?_
  intro a hA; replace hA := hA.norm
  refine wS (wR ?_)
  revert a; refine wo rfl rfl (by decide) (fun ev e h => by simp [go_sem, h] <;> rfl) ?_; intro a hA
  replace hA := hA.keepN [0, 1]
  refine wN (nT (wS (wS (wR ?_))))
  refine wl_call hA rfl rfl (by decide) (fun ev h => exec_call Tryz.func4 (by kernel_rfl) rfl (h.f _) (by first | (simp only [mL, h.c] <;> rfl) | (simp [mL, h.c] <;> rfl))) (awake20_any w) ?_
  rintro e w1 ⟨rfl, hb1⟩
  refine ⟨_, rfl, fun a hA => ?_⟩
  replace HB := HB.trans (hb1.mono HB.size)
  revert a; (iterate 2 refine wo rfl rfl (by decide) (fun ev e h => by simp [go_sem, h] <;> rfl) ?_); (iterate 3 refine wg _ rfl rfl rfl rfl (by decide) (fun hq ev e h => by simp [go_sem, h, ↓gw_t (beq_t hq)] <;> rfl) ?_); refine wko rfl rfl (by decide) rfl rfl rfl ?_; refine wo rfl rfl (by decide) (fun ev e h => by simp [go_sem, h] <;> rfl) ?_; (iterate 3 refine wg _ rfl rfl rfl rfl (by decide) (fun hq ev e h => by simp [go_sem, h, ↓gw_t (beq_t hq)] <;> rfl) ?_); intro a hA
  replace hA := hA.keepN [0, 1, 19, 22]
  revert a; refine wko rfl rfl (by decide) rfl rfl rfl ?_; refine wo rfl rfl (by decide) (fun ev e h => by simp [go_sem, h] <;> rfl) ?_; refine wg _ rfl rfl rfl rfl (by decide) (fun hq ev e h => by simp [go_sem, h, ↓gw_t (beq_t hq)] <;> rfl) ?_; intro a hA
  refine wl_gcallv _ hA rfl rfl rfl rfl (by decide) (fun hq ev h => exec_call Tryz.func5 (by kernel_rfl) rfl (h.f _) (by first | (simp only [mL, ((h.get 25 rfl).trans (gw_t (beq_t hq))), h.c] <;> rfl) | (simp [mL, ((h.get 25 rfl).trans (gw_t (beq_t hq))), h.c] <;> rfl))) (fun hq => (refRight_any (St nm) (by have h9 := hq; simp at h9; omega) w1).mono fun e w' h => ⟨h.1, h.2 ▸ Below.refl _ _⟩) fun a w2 hb2 hA => ?_
  replace HB := HB.trans (hb2.mono HB.size)
  obtain ⟨rt, hrt⟩ : ∃ q, right (St nm).data.toList = q := ⟨_, rfl⟩
  rw [hrt] at hA
  revert a; refine wg _ rfl rfl rfl rfl (by decide) (fun hq ev e h => by simp [go_sem, h, ↓gw_t (beq_t hq)] <;> rfl) ?_; refine wko rfl rfl (by decide) rfl rfl rfl ?_; intro a hA
  replace hA := hA.keepN [0, 1, 28]
  refine wN (nT ?_)
  refine wp_if hA 28 _ rfl (fun hq => ?yA) (fun hq => ?nA)
  case yA =>
    refine wS (wR ?_)
    refine wl_call hA rfl rfl (by decide) (fun ev h => exec_call Tryz.func4 (by kernel_rfl) rfl (h.f _) (by first | (simp only [mL, h.c] <;> rfl) | (simp [mL, h.c] <;> rfl))) (awake20_any _) ?_
    rintro e w3 ⟨rfl, hb3⟩
    refine ⟨_, rfl, fun a hA => ?_⟩
    replace HB := HB.trans (hb3.mono HB.size)
    revert a; refine wo rfl rfl (by decide) (fun ev e h => by simp [go_sem, h] <;> rfl) ?_; intro a hA
    replace hA := hA.keepN [4]
    refine wN (nT (wp_ret (rT ?_)))
    refine ret_1 hA 4 rfl rfl ?_
    exact ⟨rfl, HB⟩
  case nA =>
    have hl12 : l.length ≤ 12 := by simp at hq; omega
    have hn20 : nm.length ≤ 20 := by simp at hq; omega
    have hright : right nm = true := by
      rw [show right nm = rt from hrt]
      cases rt <;> simp at hq <;> simp_all
    clear hq
    refine wp_skip (nT (wS (wR ?_)))
    refine wl_call hA rfl rfl (by decide) (fun ev h => exec_call Tryz.func6 (by kernel_rfl) rfl (h.f _) (by first | (simp only [mL, h.c] <;> rfl) | (simp [mL, h.c] <;> rfl))) (new_at 1048576 (by omega) _) ?_
    rintro e w3 ⟨p, mb, rfl, hd, hp, hm, hb3⟩
    refine ⟨_, rfl, fun a hA => ?_⟩
    have hwp : w.heap.size ≤ p := Nat.le_trans HB.size hp
    have hwm : w.heap.size ≤ mb := Nat.le_trans HB.size hm
    replace HB := HB.trans (hb3.mono HB.size)
    obtain ⟨fs, hfs⟩ : ∃ fs, l.map (·.b) = fs := ⟨_, rfl⟩
    have hD : Disk w3 p mb (dA nm fs 0) := ⟨[], rfl, hd⟩
    have hfl : fs.length = l.length := by rw [← hfs, List.length_map]
    have hget : ∀ {j : Nat} {x : FileV}, l[j]? = some x → fs.getD j [] = x.b := fun {j x} hx => by
      rw [← hfs, List.getD_eq_getElem?_getD, List.getElem?_map, hx]
      rfl
    revert a; (iterate 5 refine wo rfl rfl (by decide) (fun ev e h => by simp [go_sem, h] <;> rfl) ?_); intro a hA
    replace hA := hA.keepN [0, 1, 5]
    refine wN (nT (wS (wS (wR ?_))))
    revert a; (iterate 3 refine wo rfl rfl (by decide) (fun ev e h => by simp [go_sem, h] <;> rfl) ?_); intro a hA
    replace hA := hA.keepN [0, 1, 5, 35, 36]
    refine wN (nT (wB ?_))
    refine wp_loop_at (fun f a wx => ∃ j : Nat, j + f = l.length ∧ Disk wx p mb (dA nm fs j) ∧ WFD (dA nm fs j) ∧ (∀ i, i < j → (fs.getD i []).length ≤ 1000) ∧ Below w.heap.size w wx ∧ At 114 [(0, .string (St nm)), (1, .slice A l.length c), (5, .pointer (some ⟨p, 0, none⟩)), (35, .int .i64 (l.length : Nat)), (36, .int .i64 (j : Nat))] a) (l.length) ?_ ?_
    · exact ⟨0, by omega, hD, wfNew0 1048576 (by omega), (fun i hi => absurd hi (Nat.not_lt_zero _)), HB, hA⟩
    clear hA HB hD hb3 hd
    rintro f a wx ⟨j, hjf, hD, hW, h1000, HB, hA⟩
    have hrx := hrow.below HB
    refine wS (wR ?_)
    revert a; refine wo rfl rfl (by decide) (fun ev e h => by simp [go_sem, h] <;> rfl) ?_; intro a hA
    replace hA := hA.keepN [0, 1, 5, 35, 36, 37]
    refine wN (nT (wS ?_))
    refine wp_if hA 37 _ rfl (fun hq => ?yC) (fun hq => ?nC)
    case yC =>
      have hjn : j < l.length := by simp at hq; omega
      obtain ⟨x, hx⟩ : ∃ x, l[j]? = some x := ⟨_, List.getElem?_eq_getElem hjn⟩
      have hxm := List.mem_of_getElem? hx
      obtain ⟨hxc, hxl⟩ := hcap x hxm
      obtain ⟨ad, rfl, hadl, k0, -⟩ := hrx.cell hx
      have z0 : wx.cell? (ad.add j) = some (.slice x.a x.b.length x.c) := by
        have h1 : wx.cell? (ad.add (j * 1)) = some (.slice x.a x.b.length x.c) := k0 _ rfl
        rwa [Nat.mul_one] at h1
      have hxr : ReadsP wx (x.a, x.b) := hrx.octs x hxm (x.a, x.b) (List.mem_singleton.2 rfl)
      have jj0 : (0 : Int) ≤ (j : Int) := by omega
      have jj1 : (j : Int) < (l.length : Int) := by omega
      have i3 : IntKind.i64.wrap (((j : Nat) : Int) + 1) = ((j + 1 : Nat) : Int) := by rw [IntWalk.i64_in _ (by omega)]; omega
      refine wp_skip (nT (wS (wB (wS (wR ?_)))))
      revert a; (iterate 2 refine wo rfl rfl (by decide) (fun ev e h => by simp [go_sem, h, z0, jj0, jj1] <;> rfl) ?_); intro a hA
      replace hA := hA.keepN [0, 1, 5, 7, 35, 36]
      refine wN (nT (wS (wS (wR ?_))))
      revert a; (iterate 6 refine wo rfl rfl (by decide) (fun ev e h => by simp [go_sem, h, z0, jj0, jj1] <;> rfl) ?_); intro a hA
      replace hA := hA.keepN [0, 1, 5, 7, 35, 36, 44]
      refine wN (nT ?_)
      refine wp_if hA 44 _ rfl (fun hq2 => ?yD) (fun hq2 => ?nD)
      case yD =>
        refine wS (wR ?_)
        revert a; refine wo rfl rfl (by decide) (fun ev e h => by simp [go_sem, h, z0, jj0, jj1] <;> rfl) ?_; intro a hA
        replace hA := hA.keepN [4]
        refine wN (nT (wp_ret (rT (rB (rT (rT (rB (rT ?_))))))))
        refine ret_1 hA 4 rfl rfl ?_
        exact ⟨rfl, HB⟩
      case nD =>
        have hx1000 : x.b.length ≤ 1000 := by simp at hq2; omega
        have h1000' : ∀ i, i < j + 1 → (fs.getD i []).length ≤ 1000 := fun i hi => by
          rcases Nat.lt_or_ge i j with h9 | h9
          · exact h1000 i h9
          · have : i = j := by omega
            rw [this, hget hx]; exact hx1000
        have happ : dAppend (dA nm fs j) nm x.b = (0, dApp nm fs j) := by rw [← hget hx]; exact app_step (by omega) hright h1000'
        refine wp_skip (nT (wS (wR ?_)))
        revert a; (iterate 6 refine wo rfl rfl (by decide) (fun ev e h => by simp [go_sem, h, z0, jj0, jj1] <;> rfl) ?_); intro a hA
        refine wl_call hA rfl rfl (by decide) (fun ev h => exec_call Tryz.func7 (by kernel_rfl) rfl (h.f _) (by first | (simp only [mL, h.get 45 rfl, h.get 46 rfl, h.get 50 rfl, h.c] <;> rfl) | (simp [mL, h.get 45 rfl, h.get 46 rfl, h.get 50 rfl, h.c, z0, jj0, jj1] <;> rfl))) (append_at hD hW (by show (asideF nm fs j).length < _; rw [aside_len (by omega)]; omega) (St nm) (by omega) x.a x.b.length x.c x.b rfl (by omega) hxc hxr) ?_
        rintro e w4 ⟨rfl, hD4, hB4⟩
        refine ⟨_, rfl, fun a hA => ?_⟩
        rw [show (St nm).data.toList = nm from rfl, happ] at hD4 hA
        have hW4 : WFD (dApp nm fs j) := by have := hW.append nm x.b; rw [happ] at this; exact this
        replace HB := HB.trans (hB4.toBelow HB.size hwp hwm)
        revert a; (iterate 2 refine wo rfl rfl (by decide) (fun ev e h => by simp [go_sem, h, z0, jj0, jj1] <;> rfl) ?_); (iterate 2 refine wg _ rfl rfl rfl rfl (by decide) (fun hq ev e h => by simp [go_sem, h, ↓gw_t (beq_t hq), z0, jj0, jj1] <;> rfl) ?_); intro a hA
        replace hA := hA.keepN [0, 1, 5, 35, 36, 53, 54, 55]
        refine wl_kcall hA rfl rfl rfl rfl (by decide) (fun ev h => exec_call Tryz.func8 (by kernel_rfl) rfl (h.f _) (by first | (simp only [mL, h.get 54 rfl, h.get 55 rfl, h.c] <;> rfl) | (simp [mL, h.get 54 rfl, h.get 55 rfl, h.c, z0, jj0, jj1] <;> rfl))) (aside_at (nm := nm) hD4 hW4 (by have := fput_len_le nm ⟨fs.getD j [], 0, false⟩ (asideF nm fs j); rw [aside_len (by omega)] at this; show (fput _ _ _).length < _; omega) hn20 j (by omega) (fun i hi => by rw [app_get, if_neg fun e => badK_ne nm i e.symm, aside_get (by omega) hi]; rfl) (by rw [app_get, if_neg fun e => badK_ne nm j e.symm]; exact aside_none fun i hi e => by have := badK_inj (by omega) (by omega) e; omega) (fun f hf => by rw [app_get, if_pos rfl] at hf; injection hf with hf; rw [← hf]; rfl)) ?_
        rintro e w5 ⟨rfl, hD5, hB5⟩
        refine ⟨_, rfl, fun a hA => ?_⟩
        have hst := aside_step (nm := nm) (fs := fs) (j := j) (by omega) hright hn20
        have hW5 : WFD (dA nm fs (j + 1)) := by
          have h9 := (hW4.sync nm).rename nm (badK nm j)
          have h8 := hst
          unfold asideS at h8
          rw [sync_new (app_calm nm fs j) (show fget nm (dApp nm fs j).files = some ⟨fs.getD j [], 0, false⟩ by rw [app_get, if_pos rfl]), if_pos rfl] at h8
          rw [sync_new (app_calm nm fs j) (show fget nm (dApp nm fs j).files = some ⟨fs.getD j [], 0, false⟩ by rw [app_get, if_pos rfl]), h8] at h9
          exact h9
        rw [hst] at hD5 hA
        replace HB := HB.trans (hB5.toBelow HB.size hwp hwm)
        revert a; refine wg _ rfl rfl rfl rfl (by decide) (fun hq ev e h => by simp [go_sem, h, ↓gw_t (beq_t hq), z0, jj0, jj1] <;> rfl) ?_; refine wko rfl rfl (by decide) rfl rfl rfl ?_; intro a hA
        replace hA := hA.keepN [0, 1, 5, 35, 36, 58]
        refine wN (nT ?_)
        refine wp_if hA 58 _ rfl (fun hq3 => ?yE) (fun hq3 => ?nE)
        case yE => cases hq3
        case nE =>
          refine wp_skip (nB (nT (wR ?_)))
          revert a; (iterate 2 refine wo rfl rfl (by decide) (fun ev e h => by simp [go_sem, h, i3] <;> rfl) ?_); intro a hA
          replace hA := hA.keepN [0, 1, 5, 35, 36]
          refine wN (nT ?_)
          exact ⟨f - 1, by omega, j + 1, by omega, hD5, by have := hW5; exact this, h1000', HB, hA⟩
    case nC =>
      have hjl : j = l.length := by simp at hq; omega
      subst hjl
      replace hA := hA.keepN [0, 1, 5]
      refine wp_exit (xT (xT (xB (nT (wS (wS (wR ?_)))))))
      revert a; (iterate 3 refine wo rfl rfl (by decide) (fun ev e h => by simp [go_sem, h] <;> rfl) ?_); intro a hA
      replace hA := hA.keepN [0, 1, 5, 61, 62]
      refine wN (nT (wB ?_))
      refine wp_loop_at (fun f a wy => ∃ i : Nat, i + f = l.length ∧ Disk wy p mb (dA nm fs l.length) ∧ Below w.heap.size w wy ∧ At 114 [(0, .string (St nm)), (1, .slice A l.length c), (5, .pointer (some ⟨p, 0, none⟩)), (61, .int .i64 (l.length : Nat)), (62, .int .i64 (i : Nat))] a) (l.length) ?_ ?_
      · exact ⟨0, by omega, hD, HB, hA⟩
      clear hA HB hD hrx
      rintro f a wx ⟨j, hjf, hD, HB, hA⟩
      have hrx := hrow.below HB
      refine wS (wR ?_)
      revert a; refine wo rfl rfl (by decide) (fun ev e h => by simp [go_sem, h] <;> rfl) ?_; intro a hA
      replace hA := hA.keepN [0, 1, 5, 61, 62, 63]
      refine wN (nT (wS ?_))
      refine wp_if hA 63 _ rfl (fun hq4 => ?yF) (fun hq4 => ?nF)
      case yF =>
        have hjn : j < l.length := by simp at hq4; omega
        obtain ⟨x, hx⟩ : ∃ x, l[j]? = some x := ⟨_, List.getElem?_eq_getElem hjn⟩
        have hxm := List.mem_of_getElem? hx
        obtain ⟨hxc, hxl⟩ := hcap x hxm
        obtain ⟨ad, rfl, hadl, k0, -⟩ := hrx.cell hx
        have z0 : wx.cell? (ad.add j) = some (.slice x.a x.b.length x.c) := by
          have h1 : wx.cell? (ad.add (j * 1)) = some (.slice x.a x.b.length x.c) := k0 _ rfl
          rwa [Nat.mul_one] at h1
        have hxr : ReadsP wx (x.a, x.b) := hrx.octs x hxm (x.a, x.b) (List.mem_singleton.2 rfl)
        have jj0 : (0 : Int) ≤ (j : Int) := by omega
        have jj1 : (j : Int) < (l.length : Int) := by omega
        have i3 : IntKind.i64.wrap (((j : Nat) : Int) + 1) = ((j + 1 : Nat) : Int) := by rw [IntWalk.i64_in _ (by omega)]; omega
        obtain ⟨y, hy⟩ : ∃ y : UInt8, y = UInt8.ofNat (48 + j) := ⟨_, rfl⟩
        have hyn : y.toNat = 48 + j := by rw [hy, UInt8.toNat_ofNat']; omega
        have u1 : IntKind.i64.wrap (48 + ((j : Nat) : Int)) = 48 + ((j : Nat) : Int) := by rw [IntWalk.i64_in _ (by omega)]
        have u2 : IntKind.u8.wrap (48 + ((j : Nat) : Int)) = ((y.toNat : Nat) : Int) := by rw [IntWalk.u8_in _ (by omega)]; omega
        refine wp_skip (nT (wS (wB (wS (wR ?_)))))
        revert a; (iterate 2 refine wo rfl rfl (by decide) (fun ev e h => by simp [go_sem, h, u1, u2] <;> rfl) ?_); intro a hA
        replace hA := hA.keepN [0, 1, 5, 8, 61, 62]
        refine wN (nT (wS (wR ?_)))
        revert a; (iterate 2 refine wo rfl rfl (by decide) (fun ev e h => by simp [go_sem, h, u1, u2] <;> rfl) ?_); intro a hA
        refine wl_op hA rfl rfl (by decide) (fun ev h => by simp [go_sem, h.get 66 rfl, u1, u2]; try first | exact ⟨rfl, rfl⟩ | rfl) fun a hA => ?_
        refine wl_new hA rfl rfl (by decide) (fun ev h => by simp [go_sem, h.get 67 rfl, u1, u2]; try first | exact ⟨rfl, rfl⟩ | rfl) fun w2 a (K2 : Blk _ _ _ _) hz2 hb2 hA => ?_
        have hcv := conv_reads (c := 1) (n := 1) (l := [y]) rfl (reads_one K2)
        refine wl_op hA rfl rfl (by decide) (fun ev h => by simp [go_sem, h.get 68 rfl, hcv]; try first | exact ⟨rfl, rfl⟩ | rfl) fun a hA => ?_
        revert a; refine wo rfl rfl (by decide) (fun ev e h => by simp [go_sem, h, hcv] <;> rfl) ?_; intro a hA
        replace hA := hA.keepN [0, 1, 5, 8, 9, 61, 62]
        refine wN (nT (wS (wS (wR ?_))))
        revert a; (iterate 2 refine wo rfl rfl (by decide) (fun ev e h => by simp [go_sem, h, hcv] <;> rfl) ?_); intro a hA
        replace hA := hA.keepN [0, 1, 5, 8, 9, 61, 62, 71]
        refine wN (nT ?_)
        refine wp_join (fun a wz => Below w2.heap.size w2 wz ∧ At 114 [(0, .string (St nm)), (1, .slice (some ad) l.length c), (5, .pointer (some ⟨p, 0, none⟩)), (8, .int .i64 (j : Nat)), (9, .string (St (digB j))), (61, .int .i64 (l.length : Nat)), (62, .int .i64 (j : Nat))] a) ?jfJ ?jrJ
        case jfJ =>
          refine wp_if hA 71 _ rfl (fun hq5 => ?yG) (fun hq5 => ?nG)
          case yG =>
            have hj9 : 9 < j := by simp at hq5; omega
            obtain ⟨v, hv⟩ : ∃ v : UInt8, v = UInt8.ofNat (38 + j) := ⟨_, rfl⟩
            have hvn : v.toNat = 38 + j := by rw [hv, UInt8.toNat_ofNat']; omega
            have u3 : IntKind.i64.wrap (48 + ((j : Nat) : Int) - 10) = ((v.toNat : Nat) : Int) := by rw [IntWalk.i64_in _ (by omega)]; omega
            have u4 : IntKind.u8.wrap ((v.toNat : Nat) : Int) = ((v.toNat : Nat) : Int) := by rw [IntWalk.u8_in _ (by omega)]
            have hdj : digB j = [49, v] := by unfold digB; rw [if_neg (by omega), hv]
            refine wR ?_
            revert a; (iterate 3 refine wo rfl rfl (by decide) (fun ev e h => by simp [go_sem, h, u1, u3, u4] <;> rfl) ?_); intro a hA
            refine wl_op hA rfl rfl (by decide) (fun ev h => by simp [go_sem, h.get 74 rfl, u1, u3, u4]; try first | exact ⟨rfl, rfl⟩ | rfl) fun a hA => ?_
            refine wl_new hA rfl rfl (by decide) (fun ev h => by simp [go_sem, h.get 75 rfl, u1, u3, u4]; try first | exact ⟨rfl, rfl⟩ | rfl) fun w3 a (K3 : Blk _ _ _ _) hz3 hb3 hA => ?_
            have hcv2 := conv_reads (c := 1) (n := 1) (l := [v]) rfl (reads_one K3)
            refine wl_op hA rfl rfl (by decide) (fun ev h => by simp [go_sem, h.get 76 rfl, hcv2, st_app]; try first | exact ⟨rfl, rfl⟩ | rfl) fun a hA => ?_
            revert a; (iterate 2 refine wo rfl rfl (by decide) (fun ev e h => by simp [go_sem, h, hcv2, st_app] <;> rfl) ?_); intro a hA
            replace hA := hA.keepN [0, 1, 5, 8, 9, 61, 62]
            refine wN (nT ?_)
            rw [hdj]
            exact ⟨hb3, hA⟩
          case nG =>
            have hj9 : j ≤ 9 := by simp at hq5; omega
            have hdj : digB j = [y] := by unfold digB; rw [if_pos (by omega), hy]
            replace hA := hA.keepN [0, 1, 5, 8, 9, 61, 62]
            refine wp_skip (nT ?_)
            rw [hdj]
            exact ⟨Below.refl _ _, hA⟩
        clear hA
        rintro a wz ⟨hBz, hA⟩
        have HBz : Below wx.heap.size wx wz := hb2.trans (hBz.mono hb2.size)
        have hDz := hD.below0 HBz
        obtain ⟨dg, hdg⟩ : ∃ x, digB j = x := ⟨_, rfl⟩
        have hdl := digB_len j
        rw [hdg] at hA hdl
        have m1 : ¬ 9223372036854775807 < 4 + dg.length := by omega
        have m2 : ¬ 9223372036854775807 < dg.length + 1 + 1 + 1 + 1 + 1 := by omega
        have m3 : ¬ 9223372036854775807 < dg.length + 1 + 1 + 1 + 1 + 1 + nm.length := by omega
        have hbk : 98 :: 97 :: 100 :: 46 :: (dg ++ 46 :: nm) = badK nm j := by unfold badK; rw [hdg]; simp
        have hbl := (badK_len nm j).2
        refine wS (wR ?_)
        revert a; (iterate 6 refine wo rfl rfl (by decide) (fun ev e h => by simp [go_sem, h, st_app, m1, m2, m3] <;> rfl) ?_); intro a hA
        rw [hbk] at hA
        have hrd : dRead (dA nm fs l.length) (St (badK nm j)).data.toList = (x.b, 0) := by
          unfold dRead
          rw [show (dA nm fs l.length).lost = false from rfl, if_neg (by decide), show fget (St (badK nm j)).data.toList (dA nm fs l.length).files = some (wholeF (fs.getD j [])) from aside_get (by omega) hjn, hget hx]
          rfl
        refine wl_call hA rfl rfl (by decide) (fun ev h => exec_call Tryz.func9 (by kernel_rfl) rfl (h.f _) (by first | (simp only [mL, h.get 80 rfl, h.get 85 rfl, h.c] <;> rfl) | (simp [mL, h.get 80 rfl, h.get 85 rfl, h.c, st_app, m1, m2, m3] <;> rfl))) (read_at hDz hW (St (badK nm j)) (by show (badK nm j).length ≤ _; unfold maxLen; omega)) ?_
        rintro e w4 ⟨A4, c4, rfl, hr4, hb4⟩
        refine ⟨_, rfl, fun a hA => ?_⟩
        rw [hrd] at hA hr4
        have HB4 : Below wx.heap.size wx w4 := HBz.trans (hb4.mono HBz.size)
        have hc1 := conv_reads (c := c4) rfl hr4
        have z4 := (HB4.cell (p := ad.add j) (by rw [block_of_add]; exact hadl)).trans z0
        have hc2 := conv_reads (c := x.c) rfl (hxr.below HB4)
        revert a; (iterate 4 refine wo rfl rfl (by decide) (fun ev e h => by simp [go_sem, h] <;> rfl) ?_); intro a hA
        replace hA := hA.keepN [0, 1, 5, 8, 10, 61, 62, 88]
        revert a; refine wo rfl rfl (by decide) (fun ev e h => by simp [go_sem, h] <;> rfl) ?_; intro a hA
        replace hA := hA.keepN [0, 1, 5, 8, 10, 11, 61, 62]
        have pE2 := fun (wo : World) (hC : (fun wy => Below w4.heap.size w4 wy) wo) => have z5 := (hC.cell (p := ad.add j) (by rw [block_of_add]; exact Nat.lt_of_lt_of_le hadl HB4.size)).trans z4; have c5 := conv_reads (c := c4) rfl (hr4.below hC); have c6 := conv_reads (c := x.c) rfl ((hxr.below HB4).below hC); (z5)
        refine wN (nT (wS ?_))
        refine wp_any_at hA [(.det ?dE20), (.det ?dE21), (.det ?dE22), (.det ?dE23), (.det ?dE24), (.det ?dE25), (.det ?dE26), (.det ?dE27), (.det ?dE28), (.det ?dE29), (.det ?dE210), (.det ?dE211)] [] (fun wy => Below w4.heap.size w4 wy) (TSp [] Grows) (by kernel_rfl) rfl (by kernel_rfl) (by kernel_rfl) rfl ((Below.refl _ _).drew) (stab_sp [] [true, true, true, true, true, true, true, true, true, true, true, true] [true, true, true, true, true, true, true, true, true, true, true, true] [] rfl rfl rfl (by kernel_rfl) ⟨trivial, trivial, trivial, trivial, trivial, trivial, trivial, trivial, trivial, trivial, trivial, trivial, trivial⟩ trivial) (fun _ h => by cases h) (fun _ _ _ _ _ h => by cases h) (fun _ h => by cases h) ⟨?oE20, ?oE21, ?oE22, ?oE23, ?oE24, ?oE25, ?oE26, ?oE27, ?oE28, ?oE29, ?oE210, ?oE211, trivial⟩ (by kernel_rfl) ?fE2
        case oE20 => intro ev wo hev hC hs hph; have x0 := se hA hs 11; exact od rfl rfl (by kernel_rfl) hC (TSp.of rfl (Grows.refl _)) (by simp [go_sem, x0, jj0, jj1, hjn] <;> rfl)
        case oE21 => intro ev wo hev hC hs hph; have x0 := sd hs 89 0; exact od rfl rfl (by kernel_rfl) hC (TSp.of rfl (Grows.refl _)) (by simp [go_sem, x0, hev.const, jj0, jj1, hjn] <;> rfl)
        case oE22 => intro ev wo hev hC hs hph; have x0 := sd hs 90 1; exact od rfl rfl (by kernel_rfl) hC (TSp.of rfl (Grows.refl _)) (by simp [go_sem, x0, jj0, jj1, hjn] <;> rfl)
        case oE23 => intro ev wo hev hC hs hph; have x0 := se hA hs 10; have y := sd hs 91 2; exact ob_gv _ rfl rfl y rfl (by kernel_rfl) hC (TSp.of rfl (Grows.refl _)) (fun hq => by simp [go_sem, x0, jj0, jj1, hjn] <;> rfl) (by rfl)
        case oE24 =>
          intro ev wo hev hC hs hph
          have e92 := sd hs 92 3
          have e91 := sd hs 91 2
          have z5 := (hC.cell (p := ad.add j) (by rw [block_of_add]; exact Nat.lt_of_lt_of_le hadl HB4.size)).trans z4
          have c5 := conv_reads (c := c4) rfl (hr4.below hC)
          have c6 := conv_reads (c := x.c) rfl ((hxr.below HB4).below hC)
          exact ob_gv _ rfl rfl e91 rfl (by kernel_rfl) hC (TSp.of rfl (Grows.refl _)) (fun hq => by simp [go_sem, (e92.trans (gw_t (beq_t hq))), e91, c5, jj0, jj1, hjn]; try first | exact ⟨rfl, rfl⟩ | rfl) (by rfl)
        case oE25 => intro ev wo hev hC hs hph; have x0 := se hA hs 1; have y := sd hs 91 2; exact ob_gv _ rfl rfl y rfl (by kernel_rfl) hC (TSp.of rfl (Grows.refl _)) (fun hq => by simp [go_sem, x0, jj0, jj1, hjn] <;> rfl) (by rfl)
        case oE26 => intro ev wo hev hC hs hph; have x0 := se hA hs 8; have y := sd hs 91 2; exact ob_gv _ rfl rfl y rfl (by kernel_rfl) hC (TSp.of rfl (Grows.refl _)) (fun hq => by simp [go_sem, x0, jj0, jj1, hjn] <;> rfl) (by rfl)
        case oE27 => intro ev wo hev hC hs hph; have x0 := sd hs 94 5; have x1 := sd hs 95 6; have y := sd hs 91 2; exact ob_gv _ rfl rfl y rfl (by kernel_rfl) hC (TSp.of rfl (Grows.refl _)) (fun hq => by simp [go_sem, (x0.trans (gw_t (beq_t hq))), (x1.trans (gw_t (beq_t hq))), jj0, jj1, hjn] <;> rfl) (by rfl)
        case oE28 => intro ev wo hev hC hs hph; have x0 := sd hs 96 7; have y := sd hs 91 2; exact ob_gv _ rfl rfl y rfl (by kernel_rfl) hC (TSp.of rfl (Grows.refl _)) (fun hq => by simp [go_sem, (x0.trans (gw_t (beq_t hq))), pE2 _ hC, jj0, jj1, hjn] <;> rfl) (by rfl)
        case oE29 =>
          intro ev wo hev hC hs hph
          have e97 := sd hs 97 8
          have e91 := sd hs 91 2
          have z5 := (hC.cell (p := ad.add j) (by rw [block_of_add]; exact Nat.lt_of_lt_of_le hadl HB4.size)).trans z4
          have c5 := conv_reads (c := c4) rfl (hr4.below hC)
          have c6 := conv_reads (c := x.c) rfl ((hxr.below HB4).below hC)
          exact ob_gv _ rfl rfl e91 rfl (by kernel_rfl) hC (TSp.of rfl (Grows.refl _)) (fun hq => by simp [go_sem, (e97.trans (gw_t (beq_t hq))), e91, c6, jj0, jj1, hjn]; try first | exact ⟨rfl, rfl⟩ | rfl) (by rfl)
        case oE210 => intro ev wo hev hC hs hph; have x0 := sd hs 93 4; have x1 := sd hs 98 9; have y := sd hs 91 2; exact ob_gv _ rfl rfl y rfl (by kernel_rfl) hC (TSp.of rfl (Grows.refl _)) (fun hq => by simp [go_sem, (x0.trans (gw_t (beq_t hq))), (x1.trans (gw_t (beq_t hq))), jj0, jj1, hjn] <;> rfl) (by rfl)
        case oE211 => intro ev wo hev hC hs hph; have x0 := sd hs 91 2; have x1 := sd hs 99 10; exact od rfl rfl (by kernel_rfl) hC (TSp.of rfl (Grows.refl _)) (by rw [pick_or rfl x0 (hev.const _) x1] <;> rfl)
        intro sg wf hC hph
        intro a hA
        replace hA := hA.keepN [0, 1, 5, 61, 62, 100]
        refine nT ?_
        refine wp_if hA 100 _ rfl (fun hq6 => ?yH) (fun hq6 => ?nH)
        case yH => simp at hq6
        case nH =>
          refine wp_skip (nB (nT (wR ?_)))
          revert a; (iterate 2 refine wo rfl rfl (by decide) (fun ev e h => by simp [go_sem, h, i3] <;> rfl) ?_); intro a hA
          replace hA := hA.keepN [0, 1, 5, 61, 62]
          refine wN (nT ?_)
          have HB5 := HB4.trans (hC.mono HB4.size)
          exact ⟨f - 1, by omega, j + 1, by omega, hD.below0 HB5, HB.trans (HB5.mono HB.size), hA⟩
      case nF =>
        replace hA := hA.keepN [0, 1, 5]
        refine wp_exit (xT (xT (xB (nT (wS (wR ?_))))))
        revert a; refine wo rfl rfl (by decide) (fun ev e h => by simp [go_sem, h] <;> rfl) ?_; intro a hA
        refine wl_call hA rfl rfl (by decide) (fun ev h => exec_call Tryz.func10 (by kernel_rfl) rfl (h.f _) (by first | (simp only [mL, h.get 102 rfl, h.c] <;> rfl) | (simp [mL, h.get 102 rfl, h.c] <;> rfl))) (names_at hD (by show (asideF nm fs l.length).length < _; rw [aside_len hl12]; omega)) ?_
        rintro e w4 ⟨A4, c4, rfl, hr4, hb4⟩
        refine ⟨_, rfl, fun a hA => ?_⟩
        rw [show (dA nm fs l.length).files.length = l.length from aside_len hl12] at hA
        have hD4 := hD.below0 hb4
        have HB4 := HB.trans (hb4.mono HB.size)
        revert a; (iterate 5 refine wo rfl rfl (by decide) (fun ev e h => by simp [go_sem, h] <;> rfl) ?_); (iterate 2 refine wg _ rfl rfl rfl rfl (by decide) (fun hq ev e h => by simp [go_sem, h, ↓gw_t (beq_t hq)] <;> rfl) ?_); intro a hA
        refine wl_kcall hA rfl rfl rfl rfl (by decide) (fun ev h => exec_call Tryz.func8 (by kernel_rfl) rfl (h.f _) (by first | (simp only [mL, h.get 109 rfl, h.get 110 rfl, h.c] <;> rfl) | (simp [mL, h.get 109 rfl, h.get 110 rfl, h.c] <;> rfl))) (aside_at (nm := nm) hD4 hW (by show (asideF nm fs l.length).length < _; rw [aside_len hl12]; omega) hn20 l.length hl12 (fun i hi => by rw [show (dA nm fs l.length).files = asideF nm fs l.length from rfl, aside_get hl12 hi]; rfl) (aside_none fun i hi e => by have := badK_inj (by omega) (by omega) e; omega) (fun f hf => by rw [show (dA nm fs l.length).files = asideF nm fs l.length from rfl, nm_none] at hf; cases hf)) ?_
        rintro e w5 ⟨rfl, hD5, hB5⟩
        refine ⟨_, rfl, fun a hA => ?_⟩
        rw [aside_last] at hA
        revert a; refine wg _ rfl rfl rfl rfl (by decide) (fun hq ev e h => by simp [go_sem, h, ↓gw_t (beq_t hq)] <;> rfl) ?_; refine wka rfl rfl (by decide) rfl rfl rfl ?_; intro a hA
        replace hA := hA.keepN [113]
        revert a; refine wo rfl rfl (by decide) (fun ev e h => by simp [go_sem, h] <;> rfl) ?_; intro a hA
        replace hA := hA.keepN [4]
        refine wN (nT (wp_ret ?_))
        refine ret_1 hA 4 rfl rfl ?_
        exact ⟨ret_bool (by simp), HB4.trans (hB5.toBelow HB4.size hwp hwm)⟩
end Go.Proofs.YtgjlpgijlicppaaGreatDoor
/-
  Arguments, opened: rows of bytes.
-/
namespace Go.Proofs.YtgjlpgijlicppaaGreatDoor
open Go.RowKit Go.ChangeShapes Go.WideShapes
section
variable {H : Type} {enc : TypeId × Value → H} {w W : World} {R base0 b0 : Nat} {spare : Nat → Bool} {held : Bool} {r : Reach}
theorem open_fileZ {x : List Value} (hx : x.length = 1) (h : FitsZ R enc Tryz.prog w 29 x) : ∃ m : FileV, x = [.slice m.a m.b.length m.c] ∧ (m.b.length ≤ m.c ∧ m.b.length ≤ R ∧ Reads w w.heap.size 1 m.a m.b.length (u8s m.b)) := by
  obtain ⟨a0, rfl⟩ := list1 hx
  obtain ⟨A, c, l, rfl, h1, h2, h3, h4⟩ := open_bytesZ h
  exact ⟨⟨A, c, l⟩, rfl, h1, h3, h4⟩
theorem open_filesZ {c1 : Value} (h : FitsZ R enc Tryz.prog w 22 [c1]) : ∃ (A : Option Addr) (c : Nat) (l : List FileV), c1 = .slice A l.length c ∧ l.length ≤ R ∧ RowR fileSh w A l ∧ ∀ m ∈ l, m.b.length ≤ m.c ∧ m.b.length ≤ R := by
  have hk : Tryz.prog.cellsOf 29 = 1 := by kernel_rfl
  obtain ⟨A, n, c, L, hcs, hn, hc, hR, hl, hL, hr⟩ := fitsZ_slice h Tryz.underlying22 (by rw [hk]; omega) (Nat.le_of_ble_eq_true (by kernel_rfl))
  rw [hk] at hr
  obtain ⟨l, rfl, hq⟩ := choose_list (f := fun m : FileV => [Value.slice m.a m.b.length m.c]) (Q := fun m => m.b.length ≤ m.c ∧ m.b.length ≤ R ∧ Reads w w.heap.size 1 m.a m.b.length (u8s m.b)) fun x hx => open_fileZ (by rw [(hL x hx).1, hk]) (hL x hx).2
  rw [List.length_map] at hl
  rw [map_flat] at hr
  subst hl
  simp only [List.cons.injEq, and_true] at hcs
  refine ⟨A, c, l, hcs, hR, ⟨hr, fun m hm p hp => ?_⟩, fun m hm => ⟨(hq m hm).1, (hq m hm).2.1⟩⟩
  rw [List.mem_singleton.1 hp]
  exact (hq m hm).2.2
set_option maxRecDepth 100000 in
theorem files_arg {v : Value} {d : DataW H} {ps : List MemPlace} (hv : Value.okWide Tryz.prog W r b0 22 v) (h : DataW.Trod enc Tryz.prog W base0 spare held 22 v d ps) (hz : ∀ k ∈ d.weights Tryz.prog 22, k ≤ R) :
    ∃ (A : Option Addr) (c : Nat) (l : List FileV), v = .slice A l.length c ∧ l.length ≤ R ∧ RowR fileSh W A l ∧ ∀ m ∈ l, m.b.length ≤ m.c ∧ m.b.length ≤ R := by
  obtain ⟨A, n, c, rfl⟩ := okWide_slice Tryz.underlying22 hv
  obtain ⟨A', c', l, e, b⟩ := open_filesZ (fitsZ_plain h rfl hz)
  exact ⟨A', c', l, e, b⟩
end
end Go.Proofs.YtgjlpgijlicppaaGreatDoor
/-
  An argument that is a text, opened.
-/
namespace Go.Proofs.YtgjlpgijlicppaaGreatDoor
open Go.RowKit Go.ChangeShapes Go.WideShapes
open Go.ChangeMaps (open_string)
section
variable {H : Type} {enc : TypeId × Value → H} {W : World} {base0 b0 : Nat} {spare : Nat → Bool} {held : Bool} {r : Reach} {R : Nat}
set_option maxRecDepth 100000 in
theorem string_arg {v : Value} {d : DataW H} {ps : List MemPlace} (hv : Value.okWide Tryz.prog W r b0 9 v) (h : DataW.Trod enc Tryz.prog W base0 spare held 9 v d ps) (hz : ∀ k ∈ d.weights Tryz.prog 9, k ≤ R) :
    ∃ s : ByteArray, v = .string s ∧ s.size ≤ maxLen ∧ s.size ≤ R := by
  obtain ⟨x0, e, _⟩ := open_string Tryz.underlying9 hv h
  subst e
  obtain ⟨s, e2, h1, h2⟩ := fitsZ_string (fitsZ_plain h rfl hz) Tryz.underlying9
  simp only [List.cons.injEq, and_true] at e2
  exact ⟨s, e2, h1, h2⟩
end
end Go.Proofs.YtgjlpgijlicppaaGreatDoor
/-
  A file that is put aside stands under the first free name, byte by byte: cubbylaw20.RepairAside answers true, for every name and all files.
-/
namespace Go.Proofs.YtgjlpgijlicppaaGreatDoor.RepairAside
open Go.RowKit Go.ChangeShapes Go.WideShapes Go.ChangeAt
open Go.ChangeMaps (open_string shut_string)
set_option linter.unusedVariables false
theorem own : ownKnob Tryz.prog.godebug = none := by kernel_rfl
set_option maxRecDepth 100000 in
theorem contract (H : Type) (enc : TypeId × Value → H) (W : World) (base : Nat) (args : Array Value) (ds gs : List (DataW H)) (before : List MemPlace)
    (hval : ∀ (j : Nat) t v, Tryz.f3.params[j]? = some t → args[j]? = some v → Value.okWide Tryz.prog W .any base t v)
    (hW : DataW.Whole enc Tryz.prog Tryz.f3.params.toList Rows.repairAsideSpec.vars false W args.toList ds gs before) (hz : (DataW.weightsEach Tryz.prog (Tryz.f3.params.toList ++ (OpenSpec.ofChange Rows.repairAsideSpec).bare.plain.varTypes Tryz.prog) (ds ++ gs)).all (· ≤ reachBytes) = true) (hL : laidMetH Tryz.prog Rows.repairAsideRow.laid W) (hsh : W.ShapedOpen Tryz.prog) :
    Calls Tryz.prog 3 args W fun e W' => ∃ v, e = .returned v ∧ Rows.repairAsideSpec.post enc Tryz.prog Tryz.f3 false true false false W args v W' := by
  have hW' := hW
  obtain ⟨p, q, hA0, hV, rfl, hfz, hnd⟩ := hW
  have hA : DataW.TrodAll enc Tryz.prog W 0 (fun _ => true) true Tryz.f3.params.toList args.toList ds p := hA0
  rw [Tryz.params3] at hA hval
  have hAk := hA
  obtain ⟨v0, v1, d0, d1, p0, p1, rfl, rfl, rfl, g0, g1⟩ := trodAll_two hA
  obtain ⟨rfl, rfl⟩ := trodVars_none hV
  obtain ⟨s, rfl, _, hsR⟩ := string_arg (hval 0 9 v0 rfl rfl) g0 (sized_at hz (j := 0) (t := 9) (by kernel_rfl) rfl)
  obtain ⟨A, c, l, rfl, hlR, hrow, hcap⟩ := files_arg (hval 1 22 v1 rfl rfl) g1 (sized_at hz (j := 1) (t := 22) (by kernel_rfl) rfl)
  clear hA0
  refine (aside_law s A c l W hrow hlR hsR hcap).mono fun e W' ⟨he, hb⟩ => ?_
  subst he
  exact ⟨_, rfl, post_of_below (pv := []) hW' (fun _ _ _ => trodAll_mk1 (shut_bool Tryz.underlying4 _)) (fun sp hsp => args_stay (by kernel_rfl) (by kernel_rfl) hAk (fun x hx => hb.same (by simpa using hW'.lt x (List.mem_append_left _ hx))) (fun x hx => hsp x (List.mem_append_left _ hx))) (fun _ _ => rfl) rfl
    hb (ok_one (by kernel_rfl) rfl (okWide_bool_mk Tryz.underlying4 _))⟩
set_option maxRecDepth 100000 in
theorem reads (os : Os) {H : Type} (enc : TypeId × Value → H) : ∃ places, DataW.whole enc Tryz.prog ((World.laidAll Tryz.prog os Rows.repairAsideRow.laid).forCall (fun _ _ => 0) ⟨#[], #[.string ⟨#[]⟩, .slice none 0 0], []⟩).memory Tryz.f3.params.toList Rows.repairAsideSpec.vars false #[Value.string ⟨#[]⟩, Value.slice none 0 0].toList 8 = some ([.lit (.string []), .nil], [], places) :=
  ⟨[], by kernel_rfl⟩
set_option maxRecDepth 100000 in
theorem lifted (os : Os) (started : os.Started) (H : Type) (enc : TypeId × Value → H) (F : Stop.Interp) :
    ReturnsInHanded {} Tryz.checked os 3 .any ((OpenSpec.ofChange Rows.repairAsideSpec).preRow enc Tryz.prog Tryz.f3 Rows.repairAsideRow.domain false Rows.repairAsideRow.laid) (((OpenSpec.ofChange Rows.repairAsideSpec).at F).post enc Tryz.prog Tryz.f3 false true false false) := by
  obtain ⟨places, hx⟩ := reads os enc
  refine returnsInHanded_of_row (C := Tryz.checked) (s := OpenSpec.ofChange Rows.repairAsideSpec) own started (by kernel_rfl) Tryz.func3
    (witness_row_shaped (enc := enc) (C := Tryz.checked) false (World.laidAll Tryz.prog os Rows.repairAsideRow.laid) #[.string ⟨#[]⟩, .slice none 0 0] (World.laidAll_os _ _ _) (World.shaped_of_ZipB (by kernel_rfl) (by kernel_rfl)) (by kernel_rfl)
      (OpenSpec.preRow_of_cond 8 hx (by kernel_rfl) (fun k hk => by cases hk) (by kernel_rfl) (laidMet_laidAll _ (by kernel_rfl) (by kernel_rfl)))) ?_
  intro W base args ds gs before hval hW _ _ hz hL hsh _
  exact contract H enc W base args ds gs before hval hW hz hL hsh
theorem said : Rows.RepairAsideSaid :=
  OpenClaim.holds_of_cond 3 Tryz.f3 rfl rfl rfl rfl rfl rfl rfl ⟨rfl, rfl, rfl, rfl, rfl⟩ rfl rfl rfl rfl rfl (by kernel_rfl) Tryz.func3 (by kernel_rfl)
    (of_decide_eq_true (by kernel_rfl)) (by unfold Func.isWrapper; first | (rw [if_pos (by decide +kernel)]; kernel_rfl) | (rw [if_neg (by decide +kernel)]; exact ⟨rfl, rfl⟩))
    (fun os started H enc _ F => by rw [OpenClaim.pre_eq_preRow]; exact lifted os started H enc F)
theorem plain (f : FuncId) (fn : Func) (hf : Tryz.pinned.checked.prog.funcNamed "cubby/cubbylaw20.RepairAside" = some f) (hfn : Tryz.pinned.checked.prog.funcs[f]? = some fn) :
    false = Tryz.pinned.checked.prog.looks [] ∧ ∀ (j : Nat) t, fn.params[j]? = some t → Tryz.pinned.checked.prog.wantsStandIn t = false := by
  obtain rfl : f = 3 := Option.some.inj ((show Tryz.prog.funcNamed "cubby/cubbylaw20.RepairAside" = some 3 by kernel_rfl).symm.trans hf) |>.symm
  obtain rfl : fn = Tryz.f3 := (Option.some.inj (Tryz.func3.symm.trans hfn)).symm
  refine ⟨by kernel_rfl, fun j t ht => ?_⟩
  rw [Tryz.params3] at ht
  have hm : t ∈ [9, 22] := by simpa using Array.mem_of_getElem? ht
  have hall : ([9, 22].all fun u => !Tryz.prog.wantsStandIn u) = true := by kernel_rfl
  exact (show Tryz.prog.wantsStandIn t = false by simpa using List.all_eq_true.1 hall t hm)
theorem holds : Rows.RepairAsideCardSaid :=
  Claim7.holds_tied_plain_at .later [] _ _ _ _ said (fun _ h => by cases h) (by kernel_rfl) (fun _ h => by cases h) repairAside_row_tie rfl ⟨rfl, rfl⟩ (by kernel_rfl) rfl plain (by kernel_rfl)
#print axioms holds
end Go.Proofs.YtgjlpgijlicppaaGreatDoor.RepairAside
