/-
  A region that draws its order, by facts: of each operation what its slot then holds is said once (a value, or a word on the value and the world); each operation is shown to do so from the words on what it looks at; in whatever order they come up, at the end all words hold.
-/
import Derived.Test.YtmjikfeaopmejaaDoorBase
import Derived.Orders
import Derived.OrdersHeld
import Derived.Below
namespace Go.Proofs.YtmjikfeaopmejaaDoor
open Go Go.RowKit
/-- what is said of an operation's slot: it is a value; a word holds of it, to the end; a word holds of it, till it is used -/
inductive Fact where
  | det (v : Value)
  | held (p : Value → World → Prop)
  | used (p : Value → World → Prop)
def Fact.says : Fact → Value → World → Prop
  | .det v, x, _ => x = v
  | .held p, x, w => p x w
  | .used p, x, w => p x w
def Fact.keeps : Fact → Bool
  | .used _ => false
  | _ => true
/-- what holds of the world from behind one operation up to another -/
structure Phase where
  start : Option Nat
  upto : Option Nat
  looks : List Nat
  p : (Nat → Value) → World → Prop
  ext : ∀ σ σ' w, (∀ t ∈ looks, σ t = σ' t) → p σ w → p σ' w
/-- what the slots hold -/
def sig (ev : Operand → Value) : Nat → Value := fun t => ev (.tmp t)
def onB (o : Oper) (j : Nat) : Bool := o.after.any fun e => Region.binds .any e && e.on == j
def dstIs (l : List Oper) (j t : Nat) : Bool := match l[j]? with | some o => o.dst == some t | none => false
/-- k waits for i -/
def blk (l : List Oper) (i : Nat) : Nat → Nat → Bool
  | 0, _ => false
  | f + 1, k => k == i || (match l[k]? with | some o => o.after.any fun e => Region.binds .any e && blk l i f e.on | none => false)
/-- an operation looks at what another one ahead has yielded -/
def usesB (l : List Oper) (o : Oper) (j : Nat) : Bool := onB o j && (match l[j]? with | some oj => (match oj.dst with | some t => (o.looksAt l.toArray).contains t | none => false) | none => false)
def needB (l : List Oper) (F : List Fact) (i j : Nat) : Bool :=
  !blk l i l.length j && ((F.getD j (.det undef)).keeps || (List.range l.length).any fun k => (k != i && !blk l k l.length i) && (match l[k]? with | some o => usesB l o j | none => false))
/-- which operation ahead has written a slot -/
def srcOf (l : List Oper) (o : Oper) (t : Nat) : Option Nat := (List.range l.length).find? fun j => onB o j && dstIs l j t
def slotSays (l : List Oper) (F : List Fact) (a0 : Array Value) (o : Oper) (t : Nat) (x : Value) (w : World) : Prop :=
  match srcOf l o t with
  | some j => (F.getD j (.det undef)).says x w
  | none => x = a0.getD t undef
/-- an operation finds a phase alive -/
def seesB (l : List Oper) (i : Nat) (s u : Option Nat) : Bool :=
  (match s with | some a => a != i && blk l a l.length i | none => true) && (match u with | some b => blk l i l.length b | none => true)
/-- an operation may come up while a phase is alive -/
def liveB (l : List Oper) (i : Nat) (s u : Option Nat) : Bool :=
  (match s with | some a => !blk l i l.length a | none => true) && (match u with | some b => !blk l b l.length i | none => true)
def lookB (l : List Oper) (i : Nat) (o : Oper) (t : Nat) : Bool :=
  (List.range l.length).all fun j => !dstIs l j t || onB o j || blk l i l.length j
def checkB (l : List Oper) (n : Nat) : Bool :=
  (List.range l.length).all fun i => match l[i]? with
    | none => true
    | some o => (match o.dst with | some t => decide (t < n) && (List.range l.length).all fun j => j == i || !dstIs l j t | none => true) && (o.after.all fun e => !Region.binds .any e || decide (e.on < i)) &&
        (o.looksAt l.toArray).all fun t => lookB l i o t
/-- slots that a phase looks at are written ahead of its start alone -/
def lkB (l : List Oper) (ps : List (Option Nat × List Nat)) : Bool :=
  (List.range l.length).all fun i => match l[i]? with
    | some o => (match o.dst with
      | some d => ps.all fun q => !q.2.contains d || (match q.1 with | some s => s != i && blk l i l.length s | none => false)
      | none => true)
    | none => true
structure EvOk (ev : Operand → Value) : Prop where
  const : ∀ v, ev (.const v) = v
  global : ∀ g, ev (.global g) = .pointer (some ⟨g, 0, none⟩)
  func : ∀ f, ev (.func f) = .func (.func f) #[] #[]
def Does (P : Program) (ev : Operand → Value) (o : Oper) (w : World) (K : Value → World → Prop) : Prop :=
  match (execOp ev o).run P w with
  | .ok (.value v) w' => K v w'
  | .ok .skip w' => K undef w'
  | .ok (.enter f args) w' => Calls P f args w' fun e w'' => ∃ v, e = .returned v ∧ K v w''
  | _ => False
def wantedBy (l : List Oper) (o : Oper) (ev : Operand → Value) : Bool :=
  match o.guard with
  | none => true
  | some (g, b) => match (l[g]?).bind (·.dst) with
    | some t => (match ev (.tmp t) with | .bool q => q == b | _ => false)
    | none => false
section
variable {P : Program} {l : List Oper} {F : List Fact} {Ph : List Phase} {C : World → Prop} {T : Nat → World → World → Prop} {a0 : Array Value}
/-- what is to be shown of an operation -/
def Ob (P : Program) (l : List Oper) (F : List Fact) (Ph : List Phase) (C : World → Prop) (T : Nat → World → World → Prop) (a0 : Array Value) (i : Nat) (o : Oper) : Prop :=
  ∀ (ev : Operand → Value) (w : World), EvOk ev → C w → (∀ t ∈ o.looksAt l.toArray, slotSays l F a0 o t (ev (.tmp t)) w) → (∀ ph ∈ Ph, seesB l i ph.start ph.upto = true → ph.p (sig ev) w) →
    if wantedBy l o ev = true then Does P ev o w (fun v w' => C w' ∧ T i w w' ∧ (F.getD i (.det undef)).says v w' ∧ ∀ ph ∈ Ph, ph.start = some i → ph.p (sig ev) w') else T i w w ∧ (F.getD i (.det undef)).says undef w ∧ ∀ ph ∈ Ph, ph.start = some i → ph.p (sig ev) w
theorem does_value {P : Program} {ev : Operand → Value} {o : Oper} {w w' : World} {v : Value} {K : Value → World → Prop} (h : (execOp ev o).run P w = .ok (.value v) w') (hK : K v w') : Does P ev o w K := by
  unfold Does; rw [h]; exact hK
theorem does_skip {P : Program} {ev : Operand → Value} {o : Oper} {w w' : World} {K : Value → World → Prop} (h : (execOp ev o).run P w = .ok .skip w') (hK : K undef w') : Does P ev o w K := by
  unfold Does; rw [h]; exact hK
theorem does_enter {P : Program} {ev : Operand → Value} {o : Oper} {w w' : World} {f : FuncId} {args : Array Value} {K : Value → World → Prop} (h : (execOp ev o).run P w = .ok (.enter f args) w') (hK : Calls P f args w' fun e w'' => ∃ v, e = .returned v ∧ K v w'') : Does P ev o w K := by
  unfold Does; rw [h]; exact hK
theorem ob_yes {i : Nat} {o : Oper} {ev : Operand → Value} {w : World} (hw : wantedBy l o ev = true) (h : Does P ev o w (fun v w' => C w' ∧ T i w w' ∧ (F.getD i (.det undef)).says v w' ∧ ∀ ph ∈ Ph, ph.start = some i → ph.p (sig ev) w')) :
    if wantedBy l o ev = true then Does P ev o w (fun v w' => C w' ∧ T i w w' ∧ (F.getD i (.det undef)).says v w' ∧ ∀ ph ∈ Ph, ph.start = some i → ph.p (sig ev) w') else T i w w ∧ (F.getD i (.det undef)).says undef w ∧ ∀ ph ∈ Ph, ph.start = some i → ph.p (sig ev) w := by
  rw [if_pos hw]; exact h
theorem ob_no {i : Nat} {o : Oper} {ev : Operand → Value} {w : World} (hw : wantedBy l o ev = false) (hT : T i w w) (h : (F.getD i (.det undef)).says undef w) (hs : ∀ ph ∈ Ph, ph.start = some i → ph.p (sig ev) w) :
    if wantedBy l o ev = true then Does P ev o w (fun v w' => C w' ∧ T i w w' ∧ (F.getD i (.det undef)).says v w' ∧ ∀ ph ∈ Ph, ph.start = some i → ph.p (sig ev) w') else T i w w ∧ (F.getD i (.det undef)).says undef w ∧ ∀ ph ∈ Ph, ph.start = some i → ph.p (sig ev) w := by
  rw [if_neg (by simp [hw])]; exact ⟨hT, h, hs⟩
/-- what is left behind the region: the slots are set to what is said of them -/
def FinK (σ : Nat → Value) (K : Array Value → Prop) (w : World) : List (Oper × Fact) → Array Value → Prop
  | [], arr => K arr
  | (⟨some t, _, _, _, _, _⟩, .det v) :: r, arr => FinK σ K w r (arr.setIfInBounds t v)
  | (⟨some t, _, _, _, _, _⟩, .held p) :: r, arr => ∀ x, x = σ t → p x w → FinK σ K w r (arr.setIfInBounds t x)
  | (⟨some t, _, _, _, _, _⟩, .used _) :: r, arr => ∀ x, x = σ t → FinK σ K w r (arr.setIfInBounds t x)
  | (⟨none, _, _, _, _, _⟩, _) :: r, arr => FinK σ K w r arr
structure Inv (l : List Oper) (F : List Fact) (Ph : List Phase) (C : World → Prop) (a0 : Array Value) (ds : List Deferred) (listed : Array Bool) (a : Act) (w : World) : Prop where
  world : C w
  lsize : listed.size = l.length
  size : a.tmps.size = a0.size
  defers : a.defers = ds
  closed : ∀ j oj, l[j]? = some oj → listed.getD j false = true → ∀ e ∈ oj.after, Region.binds .any e = true → listed.getD e.on false = true
  same : ∀ t, (∀ j o, l[j]? = some o → listed.getD j false = true → o.dst ≠ some t) → a.tmps[t]? = a0[t]?
  fact : ∀ j o t, l[j]? = some o → listed.getD j false = true → o.dst = some t →
    ((F.getD j (.det undef)).keeps = true ∨ ∃ (k : Nat) (ok : Oper), l[k]? = some ok ∧ listed.getD k false = false ∧ usesB l ok j = true) → (F.getD j (.det undef)).says (a.tmps.getD t undef) w
  phase : ∀ ph ∈ Ph, (∀ a, ph.start = some a → listed.getD a false = true) → (∀ b, ph.upto = some b → listed.getD b false = false) → ph.p (sig a.eval) w
theorem getD_two {listed : Array Bool} {i : Nat} (h : listed.getD i true = false) : listed.getD i false = false := by
  rcases Nat.lt_or_ge i listed.size with h' | h'
  · simp [h'] at h ⊢; exact h
  · simp [Array.getElem?_eq_none h'] at h
theorem getD_inn {listed : Array Bool} {i : Nat} (hi : i < listed.size) (h : listed.getD i false = false) : listed.getD i true = false := by
  simp [hi] at h ⊢; exact h
theorem onB_spec {o : Oper} {j : Nat} (h : onB o j = true) : ∃ e ∈ o.after, Region.binds .any e = true ∧ e.on = j := by
  unfold onB at h
  obtain ⟨e, he, hb⟩ := Array.any_eq_true'.1 h
  simp only [Bool.and_eq_true, beq_iff_eq] at hb
  exact ⟨e, he, hb.1, hb.2⟩
theorem blk_listed {listed : Array Bool} (hc : ∀ j oj, l[j]? = some oj → listed.getD j false = true → ∀ e ∈ oj.after, Region.binds .any e = true → listed.getD e.on false = true) (i : Nat) :
    ∀ (f k : Nat), blk l i f k = true → listed.getD k false = true → listed.getD i false = true
  | 0, _, h, _ => by simp [blk] at h
  | f + 1, k, h, hk => by
    unfold blk at h
    rw [Bool.or_eq_true, beq_iff_eq] at h
    rcases h with rfl | h
    · exact hk
    · cases ho : l[k]? with
      | none => rw [ho] at h; cases h
      | some o =>
        rw [ho] at h
        obtain ⟨e, he, hb⟩ := Array.any_eq_true'.1 h
        simp only [Bool.and_eq_true] at hb
        exact blk_listed hc i f e.on hb.2 (hc k o ho hk e he hb.1)
theorem srcOf_some {o : Oper} {t j : Nat} (h : srcOf l o t = some j) : onB o j = true ∧ ∃ oj, l[j]? = some oj ∧ oj.dst = some t := by
  have := List.find?_some h
  rw [Bool.and_eq_true] at this
  refine ⟨this.1, ?_⟩
  have h2 := this.2
  unfold dstIs at h2
  cases ho : l[j]? with
  | none => rw [ho] at h2; cases h2
  | some oj => rw [ho] at h2; exact ⟨oj, rfl, by simpa using h2⟩
theorem srcOf_none {o : Oper} {t : Nat} (h : srcOf l o t = none) {j : Nat} {oj : Oper} (hj : l[j]? = some oj) (hd : oj.dst = some t) : onB o j = false := by
  have h2 := (List.find?_eq_none.1 h) j (List.mem_range.2 (List.getElem?_eq_some_iff.1 hj).1)
  have h3 : dstIs l j t = true := by unfold dstIs; rw [hj]; simp [hd]
  rw [h3, Bool.and_true] at h2
  simpa using h2
theorem checkB_look {n i : Nat} {o : Oper} (h : checkB l n = true) (hi : l[i]? = some o) : ∀ t ∈ o.looksAt l.toArray, ∀ j oj, l[j]? = some oj → oj.dst = some t → onB o j = true ∨ blk l i l.length j = true := by
  intro t ht j oj hj hd
  have h1 := List.all_eq_true.1 h i (List.mem_range.2 (List.getElem?_eq_some_iff.1 hi).1)
  rw [hi] at h1
  simp only [Bool.and_eq_true] at h1
  have h2 := List.all_eq_true.1 h1.2 t ht
  have h3 := List.all_eq_true.1 h2 j (List.mem_range.2 (List.getElem?_eq_some_iff.1 hj).1)
  have h4 : dstIs l j t = true := by unfold dstIs; rw [hj]; simp [hd]
  rw [h4] at h3
  simpa using h3
theorem checkB_dst {n i : Nat} {o : Oper} {t : Nat} (h : checkB l n = true) (hi : l[i]? = some o) (hd : o.dst = some t) : t < n ∧ ∀ j oj, l[j]? = some oj → oj.dst = some t → j = i := by
  have h1 := List.all_eq_true.1 h i (List.mem_range.2 (List.getElem?_eq_some_iff.1 hi).1)
  rw [hi] at h1
  simp only [Bool.and_eq_true, hd, decide_eq_true_eq] at h1
  refine ⟨h1.1.1.1, fun j oj hj hdj => ?_⟩
  have h3 := List.all_eq_true.1 h1.1.1.2 j (List.mem_range.2 (List.getElem?_eq_some_iff.1 hj).1)
  have h4 : dstIs l j t = true := by unfold dstIs; rw [hj]; simp [hdj]
  rw [h4] at h3
  simpa using h3
theorem checkB_back {n i : Nat} {o : Oper} (h : checkB l n = true) (hi : l[i]? = some o) : ∀ e ∈ o.after, Region.binds .any e = true → e.on < i := by
  intro e he hb
  have h1 := List.all_eq_true.1 h i (List.mem_range.2 (List.getElem?_eq_some_iff.1 hi).1)
  rw [hi] at h1
  simp only [Bool.and_eq_true] at h1
  have h2 := Array.all_eq_true'.1 h1.1.2 e he
  rw [hb] at h2
  simpa using h2
theorem wanted_eq {o : Oper} {a : Act} : Region.wanted o (yielded l.toArray a.tmps) = wantedBy l o a.eval := by
  unfold Region.wanted wantedBy
  cases o.guard with
  | none => rfl
  | some g =>
    obtain ⟨g, b⟩ := g
    simp only [yielded, List.getElem?_toArray]
    cases hd : (l[g]?).bind (·.dst) with
    | none => simp
    | some t =>
      simp only [Option.bind_some, Act.eval]
      cases ht : a.tmps[t]? with
      | none => simp [ht, undef]
      | some v => cases v <;> simp [ht]
theorem evOk (a : Act) : EvOk a.eval := ⟨fun _ => rfl, fun _ => rfl, fun _ => rfl⟩
theorem does_wp {Q : Exit → Act → World → Prop} {a : Act} {o : Oper} {w : World} {K : Value → World → Prop} {next : Act → World → Prop} (h : Does P a.eval o w K) (hn : ∀ v w', K v w' → next (a.put o.dst v) w') : o.wp P a w next Q := by
  unfold Does at h
  unfold Oper.wp
  generalize (execOp a.eval o).run P w = r at *
  cases r with
  | ok nx w' =>
    cases nx <;> first
      | exact hn _ _ h
      | exact h.elim
      | exact Calls.mono h fun e w'' ⟨v, he, hk⟩ => by subst he; exact hn _ _ hk
  | halt x w' => exact h.elim
theorem put_get {a : Act} {t : Nat} {v : Value} (h : t < a.tmps.size) : (a.put (some t) v).tmps.getD t undef = v := by
  simp [Act.put, h]
theorem put_other {a : Act} {d : Option Tmp} {t : Nat} {v : Value} (h : d ≠ some t) : (a.put d v).tmps[t]? = a.tmps[t]? := by
  cases d with
  | none => rfl
  | some d =>
    have : d ≠ t := fun e => h (by rw [e])
    simp [Act.put, Array.getElem?_setIfInBounds_ne this]
theorem getD_of_get {x y : Array Value} {t : Nat} (h : x[t]? = y[t]?) : x.getD t undef = y.getD t undef := by
  rw [Array.getD_eq_getD_getElem?, Array.getD_eq_getD_getElem?, h]
theorem put_size (a : Act) (d : Option Tmp) (v : Value) : (a.put d v).tmps.size = a.tmps.size := by cases d <;> simp [Act.put]
theorem put_def (a : Act) (d : Option Tmp) (v : Value) : (a.put d v).defers = a.defers := by cases d <;> rfl
theorem listed_ne {listed : Array Bool} {i j : Nat} (hij : i ≠ j) : (listed.setIfInBounds i true).getD j false = listed.getD j false := getD_set_ne false hij
theorem sig_eval (a : Act) : sig a.eval = fun t => a.tmps.getD t undef := rfl
theorem sig_put {a : Act} {d : Option Tmp} {t : Nat} {v : Value} (h : d ≠ some t) : sig a.eval t = sig (a.put d v).eval t := by
  rw [sig_eval, sig_eval]
  exact (getD_of_get (put_other h)).symm
theorem Inv.step {n : Nat} {ds : List Deferred} {listed : Array Bool} {a : Act} {w w' : World} {i : Nat} {o : Oper} {v : Value} (h : Inv l F Ph C a0 ds listed a w) (hB : checkB l n = true) (hn : a0.size = n) (hi : l[i]? = some o) (hr : i ∈ Region.ready .any l.toArray listed)
    (hstab : ∀ i j x w w', needB l F i j = true → i ≠ j → C w → (F.getD j (.det undef)).says x w → T i w w' → (F.getD j (.det undef)).says x w')
    (hph : ∀ i (ph : Phase) σ w w', ph ∈ Ph → ph.start ≠ some i → ph.upto ≠ some i → liveB l i ph.start ph.upto = true → C w → ph.p σ w → T i w w' → ph.p σ w')
    (hC : C w') (hT : T i w w') (hF : (F.getD i (.det undef)).says v w') (hS : ∀ ph ∈ Ph, ph.start = some i → ph.p (sig a.eval) w') (hlk : lkB l (Ph.map fun ph => (ph.start, ph.looks)) = true) : Inv l F Ph C a0 ds (listed.setIfInBounds i true) (a.put o.dst v) w' := by
  obtain ⟨hun, o', ho', hall⟩ := mem_ready.1 hr
  have hoo : o' = o := by
    rw [List.getElem?_toArray, hi] at ho'
    exact (Option.some.inj ho').symm
  subst hoo
  have hil : i < listed.size := by rw [h.lsize]; exact (List.getElem?_eq_some_iff.1 hi).1
  have hun2 := getD_two hun
  refine ⟨hC, by simp [h.lsize], by rw [put_size, h.size], by rw [put_def, h.defers], ?_, ?_, ?_, ?_⟩
  · intro j oj hj hl e he hb
    by_cases hij : i = j
    · subst hij
      have : oj = o' := Option.some.inj (hj.symm.trans hi)
      subst this
      exact getD_set_true (hall e he hb)
    · rw [listed_ne hij] at hl
      exact getD_set_true (h.closed j oj hj hl e he hb)
  · intro t ht
    have hd : o'.dst ≠ some t := ht i o' hi (by simp [hil])
    rw [put_other hd]
    exact h.same t fun j oj hj hl => ht j oj hj (getD_set_true hl)
  · intro j oj t hj hl hd hne
    by_cases hij : i = j
    · subst hij
      have : oj = o' := Option.some.inj (hj.symm.trans hi)
      subst this
      have hlt := (checkB_dst hB hi hd).1
      rw [hd, put_get (by rw [h.size, hn]; exact hlt)]
      exact hF
    · rw [listed_ne hij] at hl
      have hd2 : o'.dst ≠ some t := fun e => hij ((checkB_dst hB hj hd).2 i o' hi e)
      rw [getD_of_get (put_other hd2)]
      have hne2 : (F.getD j (.det undef)).keeps = true ∨ ∃ (k : Nat) (ok : Oper), l[k]? = some ok ∧ listed.getD k false = false ∧ usesB l ok j = true := by
        rcases hne with hk | ⟨k, ok, hk, hkl, hon⟩
        · exact .inl hk
        · refine .inr ⟨k, ok, hk, ?_, hon⟩
          by_cases hik : i = k
          · subst hik; exact hun2
          · rw [listed_ne hik] at hkl; exact hkl
      refine hstab i j _ w w' ?_ hij h.world (h.fact j oj t hj hl hd hne2) hT
      unfold needB
      have hnb : blk l i l.length j = false := by
        cases hb : blk l i l.length j with
        | false => rfl
        | true =>
          have := blk_listed h.closed i l.length j hb hl
          rw [hun2] at this
          cases this
      rw [hnb, Bool.not_false, Bool.true_and, Bool.or_eq_true]
      rcases hne with hk | ⟨k, ok, hk, hkl, hon⟩
      · exact .inl hk
      · refine .inr (List.any_eq_true.2 ⟨k, List.mem_range.2 (List.getElem?_eq_some_iff.1 hk).1, ?_⟩)
        rw [hk]
        have hik : k ≠ i := fun e => by
          subst e
          simp [hil] at hkl
        rw [listed_ne (fun e => hik e.symm)] at hkl
        have hbk : blk l k l.length i = false := by
          cases hbb : blk l k l.length i with
          | false => rfl
          | true =>
            exfalso
            obtain ⟨f, hf⟩ : ∃ f, l.length = f + 1 := ⟨l.length - 1, by have := (List.getElem?_eq_some_iff.1 hi).1; omega⟩
            rw [hf] at hbb
            unfold blk at hbb
            rw [Bool.or_eq_true, beq_iff_eq] at hbb
            rcases hbb with e | hbb
            · exact hik e.symm
            · rw [hi] at hbb
              obtain ⟨e, he, hb2⟩ := Array.any_eq_true'.1 hbb
              simp only [Bool.and_eq_true] at hb2
              have := blk_listed h.closed k f e.on hb2.2 (hall e he hb2.1)
              rw [hkl] at this
              cases this
        simp [hik, hon, hbk]
  · intro ph hp hfrom hupto
    have hlook : ∀ d, o'.dst = some d → d ∈ ph.looks → ∃ s, ph.start = some s ∧ s ≠ i ∧ blk l i l.length s = true := fun d hd hdl => by
      have h1 := List.all_eq_true.1 hlk i (List.mem_range.2 (List.getElem?_eq_some_iff.1 hi).1)
      rw [hi] at h1
      simp only [hd] at h1
      have h2 := List.all_eq_true.1 h1 _ (List.mem_map.2 ⟨ph, hp, rfl⟩)
      simp only [Bool.or_eq_true, Bool.not_eq_true'] at h2
      rcases h2 with h2 | h2
      · simp [hdl] at h2
      · cases hst : ph.start with
        | none => rw [hst] at h2; cases h2
        | some s =>
          rw [hst] at h2
          simp only [Bool.and_eq_true, bne_iff_ne] at h2
          exact ⟨s, rfl, h2.1, h2.2⟩
    by_cases hs : ph.start = some i
    · refine ph.ext _ _ w' (fun t ht => sig_put fun hd => ?_) (hS ph hp hs)
      obtain ⟨s, h1, h2, _⟩ := hlook t hd ht
      rw [hs] at h1
      exact h2 (Option.some.inj h1).symm
    · have hu : ph.upto ≠ some i := fun e => by
        have := hupto i e
        simp [hil] at this
      have hf2 : ∀ a, ph.start = some a → listed.getD a false = true := fun a ha => by
        have h1 := hfrom a ha
        rwa [listed_ne (fun e => hs (by rw [e]; exact ha))] at h1
      have hu2 : ∀ b, ph.upto = some b → listed.getD b false = false := fun b hb => by
        have h1 := hupto b hb
        rwa [listed_ne (fun e => hu (by rw [e]; exact hb))] at h1
      refine ph.ext _ _ w' (fun t ht => sig_put fun hd => ?_) (hph i ph _ w w' hp hs hu ?_ h.world (h.phase ph hp hf2 hu2) hT)
      · obtain ⟨s, h1, _, h3⟩ := hlook t hd ht
        have := blk_listed h.closed i l.length s h3 (hf2 s h1)
        rw [hun2] at this
        cases this
      unfold liveB
      rw [Bool.and_eq_true]
      constructor
      · cases ha : ph.start with
        | none => rfl
        | some a =>
          cases hb : blk l i l.length a with
          | false => simp [hb]
          | true =>
            have := blk_listed h.closed i l.length a hb (hf2 a ha)
            rw [hun2] at this
            cases this
      · cases hb : ph.upto with
        | none => rfl
        | some b =>
          cases hc : blk l b l.length i with
          | false => simp [hc]
          | true =>
            exfalso
            have hbl := hu2 b hb
            have hpos : 0 < l.length := Nat.lt_of_le_of_lt (Nat.zero_le _) (List.getElem?_eq_some_iff.1 hi).1
            obtain ⟨f, hf⟩ : ∃ f, l.length = f + 1 := ⟨l.length - 1, by omega⟩
            rw [hf] at hc
            unfold blk at hc
            rw [Bool.or_eq_true, beq_iff_eq] at hc
            rcases hc with e | hc
            · exact hu (by rw [hb, e])
            · rw [hi] at hc
              obtain ⟨e, he, hbb⟩ := Array.any_eq_true'.1 hc
              simp only [Bool.and_eq_true] at hbb
              have := blk_listed h.closed b f e.on hbb.2 (hall e he hbb.1)
              rw [hbl] at this
              cases this
theorem fin_of (K : Array Value → Prop) (w : World) (g : Nat → Value) : ∀ (m : List (Oper × Fact)) (arr : Array Value), FinK g K w m arr → (∀ p ∈ m, ∀ t, p.1.dst = some t → p.2.keeps = true → p.2.says (g t) w) →
    K (m.foldl (fun arr p => match p.1.dst with | some t => arr.setIfInBounds t (g t) | none => arr) arr)
  | [], arr, h, _ => h
  | (⟨d, _, _, _, _, _⟩, f) :: r, arr, h, hs => by
    cases d with
    | none => exact fin_of K w g r arr h fun p hp => hs p (List.mem_cons_of_mem _ hp)
    | some t =>
      have h0 := hs _ (List.mem_cons_self) t rfl
      have hr := fun p hp => hs p (List.mem_cons_of_mem _ hp)
      cases f with
      | det v =>
        have hv : g t = v := h0 rfl
        subst hv
        exact fin_of K w g r _ h hr
      | held p => exact fin_of K w g r _ (h (g t) rfl (h0 rfl)) hr
      | used p => exact fin_of K w g r _ (h (g t) rfl) hr
theorem fold_get (g : Nat → Value) : ∀ (m : List (Oper × Fact)) (arr : Array Value) (t : Nat),
    (m.foldl (fun arr p => match p.1.dst with | some t => arr.setIfInBounds t (g t) | none => arr) arr)[t]? = if (∃ p ∈ m, p.1.dst = some t) ∧ t < arr.size then some (g t) else arr[t]?
  | [], arr, t => by simp
  | (o, f) :: r, arr, t => by
    rw [List.foldl_cons, fold_get g r]
    cases hd : o.dst with
    | none =>
      have e : (∃ p, p ∈ (o, f) :: r ∧ p.1.dst = some t) ↔ ∃ p, p ∈ r ∧ p.1.dst = some t := by simp [hd]
      simp only [e]
    | some d =>
      simp only [Array.size_setIfInBounds, List.mem_cons, exists_eq_or_imp]
      by_cases hr : ∃ p ∈ r, p.1.dst = some t
      · by_cases hlt : t < arr.size
        · rw [if_pos ⟨hr, hlt⟩, if_pos ⟨.inr hr, hlt⟩]
        · rw [if_neg (fun h => hlt h.2), if_neg (fun h => hlt h.2), Array.getElem?_eq_none (by simp; omega), Array.getElem?_eq_none (by omega)]
      · rw [if_neg (fun h => hr h.1)]
        by_cases hdt : d = t
        · subst hdt
          by_cases hlt : d < arr.size
          · rw [if_pos ⟨.inl hd, hlt⟩]
            simp [hlt]
          · have e : arr.setIfInBounds d (g d) = arr := by simp [Array.setIfInBounds, hlt]
            rw [if_neg (fun h => hlt h.2), e]
        · rw [Array.getElem?_setIfInBounds_ne hdt, if_neg]
          rintro ⟨h | h, _⟩
          · rw [hd] at h; exact hdt (Option.some.inj h)
          · exact hr h
theorem wpAny_facts {Q : Exit → Act → World → Prop} {a : Act} {w : World} (n : Nat) (F : List Fact) (Ph : List Phase) (C : World → Prop) (T : Nat → World → World → Prop) (hn : a.tmps.size = n) (hB : checkB l n = true) (hFl : F.length = l.length) (hC : C { w with drawn := w.drawn + 1 })
    (hstab : ∀ i j x w w', needB l F i j = true → i ≠ j → C w → (F.getD j (.det undef)).says x w → T i w w' → (F.getD j (.det undef)).says x w')
    (hph0 : ∀ ph ∈ Ph, ph.start = none → ph.p (sig a.eval) { w with drawn := w.drawn + 1 })
    (hph : ∀ i (ph : Phase) σ w w', ph ∈ Ph → ph.start ≠ some i → ph.upto ≠ some i → liveB l i ph.start ph.upto = true → C w → ph.p σ w → T i w w' → ph.p σ w')
    (hpl : ∀ ph ∈ Ph, ∀ a, ph.start = some a → a < l.length)
    (hob : ∀ i o, l[i]? = some o → Ob P l F Ph C T a.tmps i o)
    (hlk : lkB l (Ph.map fun ph => (ph.start, ph.looks)) = true)
    (hfin : ∀ σ w', C w' → (∀ ph ∈ Ph, ph.upto = none → ph.p σ w') → FinK σ (fun arr => Q .normal ⟨arr, a.defers⟩ w') w' (l.zip F) a.tmps) : wpAny P .any l.toArray Q l.toArray.size (Array.replicate l.toArray.size false) a { w with drawn := w.drawn + 1 } := by
  have main : ∀ (fuel : Nat) (listed : Array Bool) (a' : Act) (w' : World), Inv l F Ph C a.tmps a.defers listed a' w' → listed.toList.countP (fun b => !b) ≤ fuel → wpAny P .any l.toArray Q fuel listed a' w' := by
    have done : ∀ (listed : Array Bool) (a' : Act) (w' : World), Inv l F Ph C a.tmps a.defers listed a' w' → Region.ready .any l.toArray listed = [] → (∀ j, j < l.length → listed.getD j false = true) → Q .normal a' w' := by
      intro listed a' w' hI _ hall
      have h1 := fin_of (fun arr => Q .normal ⟨arr, a.defers⟩ w') w' (fun t => a'.tmps.getD t undef) (l.zip F) a.tmps (hfin (fun t => a'.tmps.getD t undef) w' hI.world fun ph hp hu => sig_eval a' ▸ hI.phase ph hp (fun a ha => hall a (hpl ph hp a ha)) (fun b hb => by rw [hu] at hb; cases hb)) (by
        intro p hp t hd hk
        obtain ⟨j, hj, e⟩ := List.getElem_of_mem hp
        have hjl : j < l.length := by rw [List.length_zip] at hj; omega
        have hjF : j < F.length := by omega
        rw [List.getElem_zip] at e
        have e1 : l[j]? = some p.1 := by rw [List.getElem?_eq_getElem hjl, ← e]
        have e2 : F.getD j (.det undef) = p.2 := by rw [List.getD_eq_getElem?_getD, List.getElem?_eq_getElem hjF, ← e]; rfl
        have := hI.fact j p.1 t e1 (hall j hjl) hd (.inl (by rw [e2]; exact hk))
        rw [e2] at this
        exact this)
      have h2 : ((l.zip F).foldl (fun arr p => match p.1.dst with | some t => arr.setIfInBounds t (a'.tmps.getD t undef) | none => arr) a.tmps) = a'.tmps := by
        apply Array.ext_getElem?
        intro t
        rw [fold_get]
        by_cases hex : ∃ p ∈ l.zip F, p.1.dst = some t
        · obtain ⟨p, hp, hd⟩ := hex
          obtain ⟨j, hj, e⟩ := List.getElem_of_mem hp
          have hjl : j < l.length := by rw [List.length_zip] at hj; omega
          rw [List.getElem_zip] at e
          have e1 : l[j]? = some p.1 := by rw [List.getElem?_eq_getElem hjl, ← e]
          have hlt := (checkB_dst hB e1 hd).1
          rw [if_pos ⟨⟨p, hp, hd⟩, by omega⟩, Array.getD_eq_getD_getElem?, Array.getElem?_eq_getElem (by rw [hI.size]; omega)]
          rfl
        · rw [if_neg (fun h => hex h.1)]
          refine (hI.same t fun j o hj _ hd => hex ?_).symm
          have hjl := (List.getElem?_eq_some_iff.1 hj).1
          have hjF : j < F.length := by omega
          refine ⟨(l[j], F[j]), ?_, ?_⟩
          · have hz : j < (l.zip F).length := by rw [List.length_zip]; omega
            have : (l.zip F)[j] = (l[j], F[j]) := List.getElem_zip
            rw [← this]
            exact List.getElem_mem hz
          · have : l[j] = o := (List.getElem?_eq_some_iff.1 hj).2
            rw [this]; exact hd
      rw [h2, ← hI.defers] at h1
      exact h1
    have allOf : ∀ (listed : Array Bool), listed.size = l.length → listed.toList.countP (fun b => !b) = 0 → ∀ j, j < l.length → listed.getD j false = true := by
      intro listed hs hc j hj
      rw [List.countP_eq_zero] at hc
      have h1 : j < listed.size := by omega
      have h2 := hc listed[j] (by simp)
      simpa [h1] using h2
    intro fuel
    induction fuel with
    | zero =>
      intro listed a' w' hI hf
      have hall := allOf listed hI.lsize (by omega)
      have hr : Region.ready .any l.toArray listed = [] := by
        rw [List.eq_nil_iff_forall_not_mem]
        intro i hi
        obtain ⟨hun, o, ho, _⟩ := mem_ready.1 hi
        have hlt : i < l.length := by
          rw [List.getElem?_toArray] at ho
          exact (List.getElem?_eq_some_iff.1 ho).1
        have := hall i hlt
        rw [getD_two hun] at this
        cases this
      exact ⟨hr, done listed a' w' hI hr hall⟩
    | succ fuel ih =>
      intro listed a' w' hI hf
      have stepd : ∀ i ∈ Region.ready .any l.toArray listed, wpOp P l.toArray Q i (wpAny P .any l.toArray Q fuel (listed.setIfInBounds i true)) a' w' := by
        intro i hi
        obtain ⟨hun, o, ho, hall⟩ := mem_ready.1 hi
        rw [List.getElem?_toArray] at ho
        have hlt := (List.getElem?_eq_some_iff.1 ho).1
        have hcount : (listed.setIfInBounds i true).toList.countP (fun b => !b) ≤ fuel := by
          have hls : i < listed.size := by rw [hI.lsize]; exact hlt
          have hget : listed[i] = false := by simpa [hls] using hun
          have := List.countP_set (p := fun b => !b) (l := listed.toList) (i := i) (a := true) (by simpa using hls)
          have hpos : 0 < listed.toList.countP (fun b => !b) := List.countP_pos_iff.2 ⟨listed[i], by simp, by simp [hget]⟩
          rw [Array.toList_setIfInBounds, this, if_pos (by simp [hget]), if_neg (by simp)]
          omega
        have hob1 := hob i o ho a'.eval w' (evOk a') hI.world (by
          intro t ht
          unfold slotSays
          cases hs : srcOf l o t with
          | some j =>
            obtain ⟨hon, oj, hj, hd⟩ := srcOf_some hs
            obtain ⟨e, he, hb, rfl⟩ := onB_spec hon
            exact hI.fact e.on oj t hj (hall e he hb) hd (.inr ⟨i, o, ho, getD_two hun, by unfold usesB; rw [hon, hj]; simp only [hd, Bool.true_and]; simpa using ht⟩)
          | none =>
            refine getD_of_get (hI.same t fun j oj hj hl hd => ?_)
            rcases checkB_look hB ho t ht j oj hj hd with h | h
            · rw [srcOf_none hs hj hd] at h; cases h
            · have := blk_listed hI.closed i l.length j h hl
              rw [getD_two hun] at this
              cases this) (by
          intro ph hp hs
          unfold seesB at hs
          rw [Bool.and_eq_true] at hs
          refine hI.phase ph hp (fun a ha => ?_) (fun b hb => ?_)
          · have h1 := hs.1
            rw [ha] at h1
            simp only [Bool.and_eq_true, bne_iff_ne] at h1
            obtain ⟨f, hf⟩ : ∃ f, l.length = f + 1 := ⟨l.length - 1, by omega⟩
            have h2 := h1.2
            rw [hf] at h2
            unfold blk at h2
            rw [Bool.or_eq_true, beq_iff_eq] at h2
            rcases h2 with e | h2
            · exact absurd e.symm h1.1
            · rw [ho] at h2
              obtain ⟨e, he, hbb⟩ := Array.any_eq_true'.1 h2
              simp only [Bool.and_eq_true] at hbb
              exact blk_listed hI.closed a f e.on hbb.2 (hall e he hbb.1)
          · have h1 := hs.2
            rw [hb] at h1
            cases hl : listed.getD b false with
            | false => rfl
            | true =>
              have := blk_listed hI.closed i l.length b h1 hl
              rw [getD_two hun] at this
              cases this)
        unfold wpOp
        simp only [List.getElem?_toArray, ho]
        rw [wanted_eq]
        by_cases hw : wantedBy l o a'.eval = true
        · rw [if_pos hw] at hob1 ⊢
          exact .inl (does_wp hob1 fun v w'' ⟨hC2, hT2, hF2, hS2⟩ => ih _ _ _ (hI.step hB hn ho hi hstab hph hC2 hT2 hF2 hS2 hlk) hcount)
        · rw [if_neg hw] at hob1 ⊢
          exact ih _ _ _ (hI.step hB hn ho hi hstab hph hI.world hob1.1 hob1.2.1 hob1.2.2 hlk) hcount
      refine ⟨fun hr => ?_, stepd⟩
      refine done listed a' w' hI hr ?_
      intro j
      induction j using Nat.strongRecOn with
      | _ j jh =>
        intro hj
        cases hl : listed.getD j false with
        | true => rfl
        | false =>
          exfalso
          have hnr : j ∉ Region.ready .any l.toArray listed := by rw [hr]; simp
          refine hnr (mem_ready.2 ⟨getD_inn (by rw [hI.lsize]; exact hj) hl, l[j], by rw [List.getElem?_toArray, List.getElem?_eq_getElem hj], fun e he hb => ?_⟩)
          have hlt := checkB_back hB (List.getElem?_eq_getElem hj) e he hb
          exact jh e.on hlt (by omega)
  have hrep : ∀ j, (Array.replicate l.toArray.size false).getD j false = false := fun j => by
    rw [Array.getD_eq_getD_getElem?]
    by_cases h : j < l.toArray.size
    · rw [Array.getElem?_replicate, if_pos h]; rfl
    · rw [Array.getElem?_replicate, if_neg h]; rfl
  refine main _ _ _ _ ⟨hC, by simp, rfl, rfl, ?_, fun _ _ => rfl, ?_, ?_⟩ ?_
  · intro j oj hj hl
    rw [hrep j] at hl
    cases hl
  · intro j o t hj hl
    rw [hrep j] at hl
    cases hl
  · intro ph hp hs _
    cases ha : ph.start with
    | none => exact hph0 ph hp ha
    | some a =>
      have := hs a ha
      rw [hrep a] at this
      cases this
  · rw [Array.toList_replicate]
    exact Nat.le_trans List.countP_le_length (by simp)
theorem wp_region_facts {id : Nat} {Q : Exit → Act → World → Prop} {a : Act} {w : World} (n : Nat) (F : List Fact) (Ph : List Phase) (C : World → Prop) (T : Nat → World → World → Prop) (hm : P.follows .mixedOrders = true) (hn : a.tmps.size = n) (hB : checkB l n = true) (hFl : F.length = l.length) (hC : C { w with drawn := w.drawn + 1 })
    (hstab : ∀ i j x w w', needB l F i j = true → i ≠ j → C w → (F.getD j (.det undef)).says x w → T i w w' → (F.getD j (.det undef)).says x w')
    (hph0 : ∀ ph ∈ Ph, ph.start = none → ph.p (sig a.eval) { w with drawn := w.drawn + 1 })
    (hph : ∀ i (ph : Phase) σ w w', ph ∈ Ph → ph.start ≠ some i → ph.upto ≠ some i → liveB l i ph.start ph.upto = true → C w → ph.p σ w → T i w w' → ph.p σ w')
    (hpl : ∀ ph ∈ Ph, ∀ a, ph.start = some a → a < l.length)
    (hob : ∀ i o, l[i]? = some o → Ob P l F Ph C T a.tmps i o)
    (hlk : lkB l (Ph.map fun ph => (ph.start, ph.looks)) = true)
    (hfin : ∀ σ w', C w' → (∀ ph ∈ Ph, ph.upto = none → ph.p σ w') → FinK σ (fun arr => Q .normal ⟨arr, a.defers⟩ w') w' (l.zip F) a.tmps) : (Code.region id l.toArray true).wp P Q a w :=
  wp_region_any hm (wpAny_facts n F Ph C T hn hB hFl hC hstab hph0 hph hpl hob hlk hfin)
def ObAll (P : Program) (l : List Oper) (F : List Fact) (Ph : List Phase) (C : World → Prop) (T : Nat → World → World → Prop) (a0 : Array Value) : Nat → List Oper → Prop
  | _, [] => True
  | i, o :: r => Ob P l F Ph C T a0 i o ∧ ObAll P l F Ph C T a0 (i + 1) r
theorem obAll_go : ∀ (r : List Oper) (k : Nat), ObAll P l F Ph C T a0 k r → ∀ i o, r[i]? = some o → Ob P l F Ph C T a0 (k + i) o
  | [], _, _, i, o, h => by simp at h
  | o :: r, k, h, 0, o', ho => by
    have : o = o' := by simpa using ho
    subst this
    exact h.1
  | o :: r, k, h, i + 1, o', ho => by
    have := obAll_go r (k + 1) h.2 i o' (by simpa using ho)
    rw [show k + (i + 1) = k + 1 + i by omega]
    exact this
theorem ob_all (h : ObAll P l F Ph C T a0 0 l) : ∀ i o, l[i]? = some o → Ob P l F Ph C T a0 i o := fun i o ho => by
  have := obAll_go l 0 h i o ho
  rwa [Nat.zero_add] at this
theorem see_out {o : Oper} {ev : Operand → Value} {w : World} {v : Value} (hs : ∀ t ∈ o.looksAt l.toArray, slotSays l F a0 o t (ev (.tmp t)) w) (t : Nat) (h1 : (o.looksAt l.toArray).contains t = true) (h2 : srcOf l o t = none) (h3 : a0[t]? = some v) : ev (.tmp t) = v := by
  have := hs t (by simpa using h1)
  unfold slotSays at this
  rw [h2] at this
  simp only at this
  rw [this, Array.getD_eq_getD_getElem?, h3]; rfl
theorem see_det {o : Oper} {ev : Operand → Value} {w : World} {v : Value} (hs : ∀ t ∈ o.looksAt l.toArray, slotSays l F a0 o t (ev (.tmp t)) w) (t j : Nat) (h1 : (o.looksAt l.toArray).contains t = true) (h2 : srcOf l o t = some j) (h3 : F.getD j (.det undef) = .det v) : ev (.tmp t) = v := by
  have := hs t (by simpa using h1)
  unfold slotSays at this
  rw [h2] at this
  simp only at this
  rw [h3] at this
  exact this
theorem see_held {o : Oper} {ev : Operand → Value} {w : World} {p : Value → World → Prop} (hs : ∀ t ∈ o.looksAt l.toArray, slotSays l F a0 o t (ev (.tmp t)) w) (t j : Nat) (h1 : (o.looksAt l.toArray).contains t = true) (h2 : srcOf l o t = some j) (h3 : F.getD j (.det undef) = .held p) : p (ev (.tmp t)) w := by
  have := hs t (by simpa using h1)
  unfold slotSays at this
  rw [h2] at this
  simp only at this
  rw [h3] at this
  exact this
theorem see_used {o : Oper} {ev : Operand → Value} {w : World} {p : Value → World → Prop} (hs : ∀ t ∈ o.looksAt l.toArray, slotSays l F a0 o t (ev (.tmp t)) w) (t j : Nat) (h1 : (o.looksAt l.toArray).contains t = true) (h2 : srcOf l o t = some j) (h3 : F.getD j (.det undef) = .used p) : p (ev (.tmp t)) w := by
  have := hs t (by simpa using h1)
  unfold slotSays at this
  rw [h2] at this
  simp only at this
  rw [h3] at this
  exact this
theorem wanted_none {o : Oper} {ev : Operand → Value} (h : o.guard = none) : wantedBy l o ev = true := by unfold wantedBy; rw [h]
theorem wanted_bool {o : Oper} {ev : Operand → Value} {g : Nat} {b q r : Bool} {t : Nat} (h : o.guard = some (g, b)) (hd : (l[g]?).bind (·.dst) = some t) (hv : ev (.tmp t) = .bool q) (hr : (q == b) = r) : wantedBy l o ev = r := by
  unfold wantedBy
  rw [h]
  simp only [hd, hv]
  exact hr
theorem no_start {i : Nat} (hp : Ph.all (fun ph => ph.start != some i) = true) {w : World} {σ : Nat → Value} : ∀ ph ∈ Ph, ph.start = some i → ph.p σ w := fun ph h1 h2 => by
  have := List.all_eq_true.1 hp ph h1
  rw [h2] at this
  simp at this
/-- an operation that yields a value and leaves the world -/
theorem ob_det {i : Nat} {o : Oper} {ev : Operand → Value} {w : World} {v : Value} (hw : wantedBy l o ev = true) (hF : F.getD i (.det undef) = .det v) (hp : Ph.all (fun ph => ph.start != some i) = true) (hC : C w) (hT : T i w w) (h : (execOp ev o).run P w = .ok (.value v) w) :
    if wantedBy l o ev = true then Does P ev o w (fun v w' => C w' ∧ T i w w' ∧ (F.getD i (.det undef)).says v w' ∧ ∀ ph ∈ Ph, ph.start = some i → ph.p (sig ev) w') else T i w w ∧ (F.getD i (.det undef)).says undef w ∧ ∀ ph ∈ Ph, ph.start = some i → ph.p (sig ev) w :=
  ob_yes hw (does_value h ⟨hC, hT, by rw [hF]; rfl, no_start hp⟩)
theorem ob_undef {i : Nat} {o : Oper} {ev : Operand → Value} {w : World} (hw : wantedBy l o ev = false) (hF : F.getD i (.det undef) = .det undef) (hp : Ph.all (fun ph => ph.start != some i) = true) (hT : T i w w) :
    if wantedBy l o ev = true then Does P ev o w (fun v w' => C w' ∧ T i w w' ∧ (F.getD i (.det undef)).says v w' ∧ ∀ ph ∈ Ph, ph.start = some i → ph.p (sig ev) w') else T i w w ∧ (F.getD i (.det undef)).says undef w ∧ ∀ ph ∈ Ph, ph.start = some i → ph.p (sig ev) w :=
  ob_no hw hT (by rw [hF]; rfl) (no_start hp)
def StabF (C : World → Prop) (R : World → World → Prop) : Fact → Prop
  | .det _ => True
  | .held p => ∀ x w w', C w → p x w → R w w' → p x w'
  | .used p => ∀ x w w', C w → p x w → R w w' → p x w'
def StabAll (C : World → Prop) (R : World → World → Prop) : List Fact → Prop
  | [] => True
  | f :: r => StabF C R f ∧ StabAll C R r
theorem StabF.use {R : World → World → Prop} {f : Fact} (h : StabF C R f) {x : Value} {w w' : World} (hC : C w) (hx : f.says x w) (hR : R w w') : f.says x w' := by
  cases f with
  | det v => exact hx
  | held p => exact h x w w' hC hx hR
  | used p => exact h x w w' hC hx hR
theorem stabAll_at {R : World → World → Prop} : ∀ {F : List Fact}, StabAll C R F → ∀ j, StabF C R (F.getD j (.det undef))
  | [], _, j => by simp [StabF]
  | f :: r, h, 0 => h.1
  | f :: r, h, j + 1 => by
    have := stabAll_at h.2 j
    simpa using this
theorem stab_uniform {R : World → World → Prop} (h : StabAll C R F) : ∀ i j x w w', needB l F i j = true → i ≠ j → C w → (F.getD j (.det undef)).says x w → (fun (_ : Nat) => R) i w w' → (F.getD j (.det undef)).says x w' :=
  fun _ j _ _ _ _ _ hC hx hR => (stabAll_at h j).use hC hx hR
def Fact.isDet : Fact → Bool
  | .det _ => true
  | _ => false
/-- what an operation does to the world: some do what is said of them, the others what all do -/
def TSp (sp : List (Nat × (World → World → Prop))) (R : World → World → Prop) (i : Nat) (w w' : World) : Prop := match sp.find? (fun p => p.1 == i) with | some p => p.2 w w' | none => R w w'
theorem TSp.of {sp : List (Nat × (World → World → Prop))} {R : World → World → Prop} {i : Nat} {w w' : World} (hn : sp.find? (fun p => p.1 == i) = none) (h : R w w') : TSp sp R i w w' := by unfold TSp; rw [hn]; exact h
theorem TSp.sp {sp : List (Nat × (World → World → Prop))} {R : World → World → Prop} {i : Nat} {p : Nat × (World → World → Prop)} {w w' : World} (hn : sp.find? (fun p => p.1 == i) = some p) (h : p.2 w w') : TSp sp R i w w' := by unfold TSp; rw [hn]; exact h
def stabChk (l : List Oper) (ds ks : List Bool) (js : List (Nat × Nat)) (apps : List Nat) : Bool :=
  apps.all fun i => (List.range l.length).all fun j => ds.getD j true || j == i || blk l i l.length j ||
    !(ks.getD j true || (List.range l.length).any fun k => (k != i && !blk l k l.length i) && (match l[k]? with | some o => usesB l o j | none => false)) || js.contains (i, j)
def phChk (l : List Oper) (ps : List (Option Nat × Option Nat)) (jp : List (Nat × Nat)) (apps : List Nat) : Bool :=
  apps.all fun i => (List.range ps.length).all fun k => match ps[k]? with
    | some q => q.1 == some i || q.2 == some i || !liveB l i q.1 q.2 || jp.contains (i, k)
    | none => true
theorem map_getD {B : Type} (f : Fact → B) (d : Fact) {db : B} (hd : f d = db) (j : Nat) : (F.map f).getD j db = f (F.getD j d) := by
  rw [List.getD_eq_getElem?_getD, List.getD_eq_getElem?_getD, List.getElem?_map]
  cases F[j]? with
  | none => exact hd.symm
  | some x => rfl
def JsAll (F : List Fact) (C : World → Prop) (sp : List (Nat × (World → World → Prop))) : List (Nat × Nat) → Prop
  | [] => True
  | p :: r => (match sp.find? (fun q => q.1 == p.1) with | some q => StabF C q.2 (F.getD p.2 (.det undef)) | none => False) ∧ JsAll F C sp r
theorem jsAll_at {sp : List (Nat × (World → World → Prop))} : ∀ {js : List (Nat × Nat)}, JsAll F C sp js → ∀ i j, (i, j) ∈ js → (match sp.find? (fun q => q.1 == i) with | some q => StabF C q.2 (F.getD j (.det undef)) | none => False)
  | [], _, _, _, h => by cases h
  | p :: r, h, i, j, hm => by
    rcases List.mem_cons.1 hm with e | e
    · subst e; exact h.1
    · exact jsAll_at h.2 i j e
theorem stab_sp {R : World → World → Prop} (sp : List (Nat × (World → World → Prop))) (ds ks : List Bool) (js : List (Nat × Nat)) (hds : F.map Fact.isDet = ds) (hks : F.map Fact.keeps = ks) (hFl : F.length = l.length) (hchk : stabChk l ds ks js (sp.map (·.1)) = true) (h : StabAll C R F) (hjs : JsAll F C sp js) :
    ∀ i j x w w', needB l F i j = true → i ≠ j → C w → (F.getD j (.det undef)).says x w → TSp sp R i w w' → (F.getD j (.det undef)).says x w' := by
  intro i j x w w' hn hij hC hx hT
  unfold TSp at hT
  cases ha : sp.find? (fun p => p.1 == i) with
  | none => rw [ha] at hT; exact (stabAll_at h j).use hC hx hT
  | some p =>
    rw [ha] at hT
    have hpm := List.mem_of_find?_eq_some ha
    have hpi : p.1 = i := by simpa using List.find?_some ha
    cases hd : (F.getD j (.det undef)).isDet with
    | true =>
      generalize F.getD j (.det undef) = f at *
      cases f with
      | det v => exact hx
      | held p => cases hd
      | used p => cases hd
    | false =>
      have hj : j < l.length := by
        rcases Nat.lt_or_ge j l.length with h | h
        · exact h
        · rw [List.getD_eq_getElem?_getD, List.getElem?_eq_none (by omega)] at hd; cases hd
      have h1 := List.all_eq_true.1 (List.all_eq_true.1 hchk i (List.mem_map.2 ⟨p, hpm, hpi⟩)) j (List.mem_range.2 hj)
      have e1 : ds.getD j true = (F.getD j (.det undef)).isDet := by rw [← hds]; exact map_getD Fact.isDet (.det undef) rfl j
      have e2 : ks.getD j true = (F.getD j (.det undef)).keeps := by rw [← hks]; exact map_getD Fact.keeps (.det undef) rfl j
      rw [e1, e2, hd] at h1
      unfold needB at hn
      rw [Bool.and_eq_true, Bool.not_eq_true'] at hn
      rw [hn.1, hn.2, show (j == i) = false from by simpa using fun e => hij e.symm] at h1
      have hm : (i, j) ∈ js := by simpa using h1
      have h2 := jsAll_at hjs i j hm
      rw [ha] at h2
      exact StabF.use h2 hC hx hT
def JpAll (Ph : List Phase) (C : World → Prop) (sp : List (Nat × (World → World → Prop))) : List (Nat × Nat) → Prop
  | [] => True
  | p :: r => (match sp.find? (fun q => q.1 == p.1), Ph[p.2]? with | some q, some ph => ∀ σ w w', C w → ph.p σ w → q.2 w w' → ph.p σ w' | _, _ => False) ∧ JpAll Ph C sp r
theorem jpAll_at {sp : List (Nat × (World → World → Prop))} : ∀ {jp : List (Nat × Nat)}, JpAll Ph C sp jp → ∀ i k, (i, k) ∈ jp → (match sp.find? (fun q => q.1 == i), Ph[k]? with | some q, some ph => ∀ σ w w', C w → ph.p σ w → q.2 w w' → ph.p σ w' | _, _ => False)
  | [], _, _, _, h => by cases h
  | p :: r, h, i, k, hm => by
    rcases List.mem_cons.1 hm with e | e
    · subst e; exact h.1
    · exact jpAll_at h.2 i k e
theorem phase_sp {R : World → World → Prop} (sp : List (Nat × (World → World → Prop))) (ps : List (Option Nat × Option Nat)) (jp : List (Nat × Nat)) (hps : Ph.map (fun ph => (ph.start, ph.upto)) = ps) (hchk : phChk l ps jp (sp.map (·.1)) = true) (h : ∀ ph ∈ Ph, ∀ σ w w', C w → ph.p σ w → R w w' → ph.p σ w') (hjp : JpAll Ph C sp jp) :
    ∀ i (ph : Phase) σ w w', ph ∈ Ph → ph.start ≠ some i → ph.upto ≠ some i → liveB l i ph.start ph.upto = true → C w → ph.p σ w → TSp sp R i w w' → ph.p σ w' := by
  intro i ph σ w w' hp hs hu hl hC hx hT
  unfold TSp at hT
  cases ha : sp.find? (fun p => p.1 == i) with
  | none => rw [ha] at hT; exact h ph hp σ w w' hC hx hT
  | some p =>
    rw [ha] at hT
    have hpm := List.mem_of_find?_eq_some ha
    have hpi : p.1 = i := by simpa using List.find?_some ha
    obtain ⟨k, hk, hke⟩ := List.getElem_of_mem hp
    have hkp : ps[k]? = some (ph.start, ph.upto) := by
      rw [← hps, List.getElem?_map, List.getElem?_eq_getElem hk, hke]; rfl
    have h1 := List.all_eq_true.1 (List.all_eq_true.1 hchk i (List.mem_map.2 ⟨p, hpm, hpi⟩)) k (List.mem_range.2 (List.getElem?_eq_some_iff.1 hkp).1)
    rw [hkp] at h1
    simp only [Bool.or_eq_true, beq_iff_eq, hl, Bool.not_true] at h1
    rcases h1 with ((h1 | h1) | h1) | h1
    · exact absurd h1 hs
    · exact absurd h1 hu
    · cases h1
    · have h2 := jpAll_at hjp i k (by simpa using h1)
      rw [ha, List.getElem?_eq_getElem hk, hke] at h2
      exact h2 σ w w' hC hx hT
/-- what only makes memory -/
def Grows (w w' : World) : Prop := Below w.heap.size w w'
theorem Grows.refl (w : World) : Grows w w := Below.refl _ _
end
end Go.Proofs.YtmjikfeaopmejaaDoor
