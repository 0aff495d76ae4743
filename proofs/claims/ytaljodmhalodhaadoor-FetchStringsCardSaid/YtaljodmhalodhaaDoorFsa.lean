/-
  Plain words on memory, bytes and rows for the walks: no program in sight but its name in the namespace.
-/
import Derived.WalkKit
import Derived.WalkSpells
import Derived.WalkLawsBesides
import Derived.Handy
import Derived.ProofKit
import Derived.OpenShut
import Derived.Deep.Draws
import Derived.Deep.QuietTactic
import Derived.BigQuiet
import Derived.Lib.Hide
import Derived.ChangeSame
import Derived.Deep.DeepHandedRow
import Derived.Lay
import Derived.LaidMore
import Derived.LaidLaws
import Derived.Stop.Joined
import Derived.Orders
import Derived.OrdersHeld
import Derived.Below
import Derived.Deep.LoopGhost
import Derived.Laws.OwnMore
import Derived.Deep.AppendLies
import Derived.Deep.AppendSrc
import Derived.OwnWalk
import Derived.Deep.Cut
import Derived.Lib.QuietBelow
import Derived.Laws.BytesString
import Derived.Shelf.Strings.Builder1
import Derived.Shelf.Strings.Builder2
import Derived.Shelf.Strings.Trim
import Derived.Shelf.Small.Utf8
import Derived.Shelf.Small.Strs
import Derived.Shelf.Small.Wraps
import Derived.Shelf.Strings.BuilderF
import Derived.Shelf.Strings.BuilderK
import Derived.Shelf.Utf8.RuneCount
import Derived.Shelf.Strings.Builder2Cap
import Derived.Shelf.Strconv.Atoi
import Derived.Shelf.Strconv.Itoa0
import Derived.Shelf.Strconv.Itoa1
import Derived.Shelf.LaysM
import Derived.Shelf.Strconv.Itoa2
import Derived.Shelf.Strconv.Itoa3
import Derived.Shelf.Strconv.AtoiErrFast
import Derived.Shelf.Strconv.ParseIntEmpty
import Derived.Shelf.Strconv.AtoiFail
import Derived.Shelf.Strconv.Clone
import Derived.Shelf.Strconv.SyntaxError
import Derived.Shelf.LaysC
import Derived.Shelf.Strconv.ToError
import Derived.Shelf.Strconv.Lower
import Derived.Shelf.Strconv.ParseUint10
import Derived.Shelf.Strconv.ParseUint10Empty
import Derived.Shelf.Strconv.ParseUint10Any
import Derived.Shelf.Strconv.ParseInt10
import Derived.Shelf.Strconv.AtoiLong
import Derived.Shelf.Strconv.AtoiInnerAll
import Derived.Shelf.Strconv.RangeError
import Derived.Shelf.Strconv.ToErrorRange
import Derived.Shelf.Strconv.AtoiAll
import Derived.Shelf.Strconv.ParseUintEmpty
import Derived.Shelf.Strconv.ParseUint10b64
import Derived.Shelf.Strconv.ParseUint10b32
import Derived.Shelf.Strconv.ParseUint10b16
import Derived.Shelf.Strconv.ParseUint10b8
import Derived.Shelf.Strings.Search1
import Derived.Shelf.Strings.Search2
import Derived.Shelf.Strings.Search3
import Derived.Shelf.Strings.Cut
import Derived.Shelf.Strings.Count
import Derived.Shelf.Strings.Shaped
import Derived.Shelf.Strings.LastIndex
import Derived.Shelf.Strings.Prefix
import Derived.Shelf.Strings.Split
import Derived.Shelf.Strings.Replace
import Derived.Shelf.Strings.SplitShaped
import Derived.Shelf.Unicode.Decode
import Derived.Shelf.Strings.Runes
import Derived.Shelf.Strings.RuneCount
import Derived.Shelf.Strings.AsciiSet
import Derived.Shelf.Unicode.DecodeSlow
import Derived.Shelf.Unicode.DecodeAny
import Derived.Shelf.Unicode.DecodeLast
import Derived.Shelf.Bytes.SlSearch0
import Derived.Ground.SlbCloneProg
import Derived.Shelf.Bytes.SlClone
import Derived.Shelf.Bytes.SlSmallAll
import Derived.Shelf.Bytes.SlEqualAll
import Derived.Shelf.Bytes.Small
import Derived.Test.YtaljodmhalodhaaDoorProg
import Derived.Test.YtaljodmhalodhaaDoorChecked
import Derived.IntWalk
namespace Go.Proofs.YtaljodmhalodhaaDoor
open Go.RowKit Go.WideShapes Go.ChangeShapes

/-- block g holds just these cells, none frozen -/
def Blk (w : World) (g : Nat) (t : TypeId) (cs : Array Value) : Prop := w.heap[g]? = some (.cells cs t (0, 0))
section
variable {w w' : World} {g : Nat} {t : TypeId} {cs : Array Value}
theorem Blk.lt (h : Blk w g t cs) : g < w.heap.size := by
  rcases Nat.lt_or_ge g w.heap.size with hlt | hge
  · exact hlt
  · unfold Blk at h; rw [Array.getElem?_eq_none hge] at h; cases h
theorem Blk.cell (h : Blk w g t cs) (i : Nat) : w.cell? ⟨g, i, none⟩ = cs[i]? := cell_of_row w g i cs t (0, 0) h
theorem Blk.frozen (h : Blk w g t cs) (i : Nat) : w.frozen? ⟨g, i, none⟩ = false := by
  unfold Blk at h
  simp [World.frozen?, h]
theorem Blk.new (w : World) (t : TypeId) (cs : Array Value) : Blk (w.alloc (.cells cs t)) w.heap.size t cs := heap_alloc_new w _
theorem Blk.drew (h : Blk w g t cs) : Blk w.drew g t cs := h
theorem Blk.drewN (h : Blk w g t cs) (n : Nat) : Blk (w.drewN n) g t cs := h
theorem Blk.alloc (h : Blk w g t cs) (o : Obj) : Blk (w.alloc o) g t cs := (Below.heap_alloc w o g h.lt).trans h
theorem Blk.set_ (h : Blk w g t cs) (i : Nat) (u : Value) : Blk (w.setCell ⟨g, i, none⟩ u) g t (cs.setIfInBounds i u) := by
  unfold Blk at h ⊢
  simp [World.setCell, Array.getElem?_modify, h]
theorem Blk.far (h : Blk w g t cs) {p : Addr} (hp : g ≠ p.block) (u : Value) : Blk (w.setCell p u) g t cs := (Below.heap_setCell w p u g hp).trans h
theorem Blk.below {B : Nat} (h : Blk w g t cs) (hb : Below B w w') (hg : g < B) : Blk w' g t cs := (hb.block g hg).trans h
theorem Blk.grown {row : Option Nat} (h : Blk w g t cs) (hb : w.grownBy w' row) (hg : some g ≠ row) : Blk w' g t cs := (hb.block g h.lt hg).trans h
end
theorem below_drewN {B : Nat} {a w : World} (h : Below B a w) (n : Nat) : Below B a (w.drewN n) := ⟨h.os, h.tape, h.output, h.size, h.block⟩

/-- the byte at a place -/
def bat (s : ByteArray) (i : Nat) : UInt8 := if h : i < s.size then s[i] else 0
theorem bat_eq (s : ByteArray) (i : Nat) (h : i < s.size) : bat s i = s[i] := by simp [bat, h]
theorem take_snoc (s : ByteArray) (k : Nat) (h : k < s.size) : s.data.toList.take (k + 1) = s.data.toList.take k ++ [s[k]] := by
  rw [List.take_succ_eq_append_getElem (by simpa using h)]; rfl
theorem ret_bool {a b : Bool} (h : a = b) : Ending.returned (.bool a) = .returned (.bool b) := by rw [h]
theorem ret_int {k : IntKind} {a b : Int} (h : a = b) : Ending.returned (.int k a) = .returned (.int k b) := by rw [h]
theorem ret_str {a b : ByteArray} (h : a = b) : Ending.returned (.string a) = .returned (.string b) := by rw [h]

theorem run_make_rowN {P : Program} (t e : TypeId) (i : TypeInfo) (z : Value) (ht : P.underlying t = some (.slice e)) (hi : P.info? e = some i) (hz : i.zero = some z)
    (kl kc : IntKind) (n c : Nat) (hnc : n ≤ c) (hbytes : i.bytes * c ≤ 281474976710656) (h63 : c ≤ 9223372036854775807) (w : World) :
    (Instr.makeSlice t (.int kl (n : Int)) (.int kc (c : Int))).run P w = .ok (.slice (some ⟨w.heap.size, 0, none⟩) n c) (w.alloc (.cells (madeCells z.cells (c * i.size)) e)) := by
  have hb : (i.bytes : Int) * (c : Int) ≤ 281474976710656 := by
    have h : ((i.bytes * c : Nat) : Int) ≤ 281474976710656 := by omega
    rwa [Int.natCast_mul] at h
  have hr := run_make (P := P) w t e i z ht hi hz kl kc n c (by omega) (by omega) hb (by omega)
  simp only [Int.toNat_natCast] at hr
  exact hr

/-- a row of booleans -/
def bcells (l : List Bool) : Array Value := (l.map Value.bool).toArray
/-- a row of booleans, told by a function -/
def bfn (f : Nat → Bool) (n : Nat) : Array Value := ((List.range n).map (fun j => Value.bool (f j))).toArray
def uptoB (f : Nat → Bool) (k : Nat) : Nat → Bool := fun j => decide (j < k) && f j
theorem bfn_get (f : Nat → Bool) (n i : Nat) (h : i < n) : (bfn f n)[i]? = some (.bool (f i)) := by simp [bfn, h]
theorem bfn_ext (f g : Nat → Bool) (n : Nat) (h : ∀ i, i < n → f i = g i) : bfn f n = bfn g n := by
  unfold bfn; congr 1; apply List.map_congr_left; intro a ha; simp at ha; rw [h a ha]
theorem bfn_setAt (f g : Nat → Bool) (n k : Nat) (b : Bool) (hb : b = g k) (h : ∀ i, i < n → i ≠ k → f i = g i) : (bfn f n).setIfInBounds k (.bool b) = bfn g n := by
  subst hb
  apply Array.ext
  · simp [bfn]
  · intro i h1 h2
    have hi : i < n := by simpa [bfn] using h2
    rw [Array.getElem_setIfInBounds (by simpa [bfn] using h2)]
    simp only [bfn, List.getElem_toArray, List.getElem_map, List.getElem_range]
    by_cases e : k = i
    · subst e; simp
    · simp only [e, if_false]
      rw [h i hi (fun x => e x.symm)]
theorem bfn_set (f : Nat → Bool) (n k : Nat) (b : Bool) (hb : b = f k) : (bfn (uptoB f k) n).setIfInBounds k (.bool b) = bfn (uptoB f (k+1)) n :=
  bfn_setAt _ _ _ _ _ (by simp [uptoB, hb]) (fun i _ hne => by
    have : (i < k) ↔ (i < k + 1) := by omega
    simp [uptoB, this])
theorem bfn_none (n : Nat) : bcells (List.replicate n false) = bfn (fun _ => false) n := by
  apply Array.ext
  · simp [bfn, bcells]
  · intro i h1 h2; simp [bfn, bcells]
theorem madeBools (n : Nat) : madeCells (Value.bool false).cells n = bcells (List.replicate n false) := by
  unfold madeCells bcells
  apply Array.ext
  · simp
  · intro i h1 h2; simp [Value.cells, Nat.mod_one]

/-- the row's last step where the call made memory of its own -/
theorem post_of_below {H : Type} {enc : TypeId × Value → H} {P : Program}
    {f : Func} {s : ChangeSpec} {apart fresh handsOn again : Bool} {W W' : World} {args : Array Value} {v : Value} {ds gs : List (DataW H)} {before pa pv : List MemPlace}
    (hW : DataW.Whole enc P f.params.toList s.vars apart W args.toList ds gs before)
    (hres : ∀ (b : Nat) (sp : Nat → Bool) (hd : Bool), DataW.TrodAll enc P W' b sp hd f.resultTypes.toList (v.resultList f.resultTypes.size) (s.fn H (ds ++ gs)).results [])
    (hargs : ∀ sp : Nat → Bool, (∀ p ∈ before, sp p.block = true) → DataW.TrodAll enc P W' 0 sp true f.params.toList args.toList (s.fn H (ds ++ gs)).args pa)
    (hvars : ∀ sp : Nat → Bool, (∀ p ∈ before, sp p.block = true) → DataW.TrodVars enc P W' sp s.vars (s.fn H (ds ++ gs)).vars pv)
    (hps : before = pa ++ pv) (hb : Below W.heap.size W W')
    (hok : ∀ (j : Nat) (t : TypeId) (r : Value), f.resultTypes[j]? = some t → (v.resultList f.resultTypes.size)[j]? = some r → Value.okWide P W' .any 0 t r) :
    s.post enc P f apart fresh handsOn again W args v W' := by
  have hlt : ∀ p ∈ before, p.block < W.heap.size := fun p hp => hW.lt p hp
  have hold : ∀ p ∈ before, (fun b => decide (b < W.heap.size)) p.block = true := fun p hp => by simpa using hlt p hp
  refine ⟨ds, gs, before, [], pa, pv, hW, hres _ _ _, hargs _ hold, hvars _ hold, World.keptBut_mono (fun p hp => ⟨hp, ?_⟩) (hb.frame (· ∈ before)), fun _ => ?_⟩
  · rw [hps, List.mem_append] at hp
    exact Or.inr hp
  · obtain ⟨_, _, _, _, _, hz, hn⟩ := hW
    refine ⟨hok, _, _, ([] ++ pa) ++ pv, ⟨[] ++ pa, pv, trodAll_append (hargs _ (fun _ _ => rfl)) (hres _ _ _), hvars _ (fun _ _ => rfl), rfl, ?_, ?_⟩, ?_⟩
    · intro b off hp
      have hin : MemPlace.cell b off ∈ before := by rw [hps]; simpa using hp
      rw [hb.frozen (hlt _ hin)]
      exact hz b off hin
    · intro ha
      have := hn ha
      rw [hps] at this
      simpa using this
    · intro p hp _
      rw [hps]
      simpa using hp
/-- there is an input that fits, at a world whose shape is given -/
theorem witness_row_shaped {H : Type} {enc : TypeId × Value → H} {C : Checked} {os : Os} {f : FuncId} {fn : Func} {s : OpenSpec} {conds : List PathCond} {apart : Bool} {laid : List (String × DataW Unit)} (modest : Bool) (w0 : World) (args : Array Value) (hos : w0.os = os)
    (hsh : (w0.forCall (fun _ _ => 0) ⟨#[], args, []⟩).Shaped C.prog)
    (hok : Input.okWideB C.prog (w0.forCall (fun _ _ => 0) ⟨#[], args, []⟩) f ⟨#[], args, []⟩ = true)
    (hrow : s.preRow enc C.prog fn conds apart laid (w0.forCall (fun _ _ => 0) ⟨#[], args, []⟩).memory args) :
    ∃ (w : World) (tape : Tape) (i : Input), w.os = os ∧ (w.forCall tape i).Shaped C.prog ∧ i.vars = [] ∧ Input.okWide C.prog (w.forCall tape i) .any w.heap.size f i ∧
      s.preRow enc C.prog fn conds apart laid (w.forCall tape i).memory i.args ∧ ({ modest := modest } : Assume).holds C.prog (lone (Frame.enter C.prog f i.args .normal) [] (w.forCall tape i)) :=
  ⟨w0, fun _ _ => 0, ⟨#[], args, []⟩, hos, hsh, (Input.okWide_of_okWideB (base := 0) hok).1, (Input.okWide_of_okWideB hok).2, hrow, by
    simp only [Assume.holds]
    exact ⟨by simp, by simp, fun _ => Modest.zero, by simp, by simp⟩⟩
end Go.Proofs.YtaljodmhalodhaaDoor
/-
  A region that draws its order, by facts: of each operation what its slot then holds is said once (a value, or a word on the value and the world); each operation is shown to do so from the words on what it looks at; in whatever order they come up, at the end all words hold.
-/
namespace Go.Proofs.YtaljodmhalodhaaDoor
open Go Go.RowKit
/-- what is said of an operation's slot: it is a value; a word holds of it, to the end; a word holds of it, till it is used -/
inductive Fact where
  | det (v : Value)
  | held (p : Value → World → Prop)
  | used (p : Value → World → Prop)
def Fact.says : Fact → Value → World → Prop
  | .det v, x, _ => x = v
  | .held p, x, w => p x w
  | .used p, x, w => p x w
def Fact.keeps : Fact → Bool
  | .used _ => false
  | _ => true
/-- what holds of the world from behind one operation up to another -/
structure Phase where
  start : Option Nat
  upto : Option Nat
  looks : List Nat
  p : (Nat → Value) → World → Prop
  ext : ∀ σ σ' w, (∀ t ∈ looks, σ t = σ' t) → p σ w → p σ' w
/-- what the slots hold -/
def sig (ev : Operand → Value) : Nat → Value := fun t => ev (.tmp t)
def onB (o : Oper) (j : Nat) : Bool := o.after.any fun e => Region.binds .any e && e.on == j
def dstIs (l : List Oper) (j t : Nat) : Bool := match l[j]? with | some o => o.dst == some t | none => false
/-- k waits for i -/
def blk (l : List Oper) (i : Nat) : Nat → Nat → Bool
  | 0, _ => false
  | f + 1, k => k == i || (match l[k]? with | some o => o.after.any fun e => Region.binds .any e && blk l i f e.on | none => false)
/-- an operation looks at what another one ahead has yielded -/
def usesB (l : List Oper) (o : Oper) (j : Nat) : Bool := onB o j && (match l[j]? with | some oj => (match oj.dst with | some t => (o.looksAt l.toArray).contains t | none => false) | none => false)
def needB (l : List Oper) (F : List Fact) (i j : Nat) : Bool :=
  !blk l i l.length j && ((F.getD j (.det undef)).keeps || (List.range l.length).any fun k => (k != i && !blk l k l.length i) && (match l[k]? with | some o => usesB l o j | none => false))
/-- which operation ahead has written a slot -/
def srcOf (l : List Oper) (o : Oper) (t : Nat) : Option Nat := (List.range l.length).find? fun j => onB o j && dstIs l j t
def slotSays (l : List Oper) (F : List Fact) (a0 : Array Value) (o : Oper) (t : Nat) (x : Value) (w : World) : Prop :=
  match srcOf l o t with
  | some j => (F.getD j (.det undef)).says x w
  | none => x = a0.getD t undef
/-- an operation finds a phase alive -/
def seesB (l : List Oper) (i : Nat) (s u : Option Nat) : Bool :=
  (match s with | some a => a != i && blk l a l.length i | none => true) && (match u with | some b => blk l i l.length b | none => true)
/-- an operation may come up while a phase is alive -/
def liveB (l : List Oper) (i : Nat) (s u : Option Nat) : Bool :=
  (match s with | some a => !blk l i l.length a | none => true) && (match u with | some b => !blk l b l.length i | none => true)
def lookB (l : List Oper) (i : Nat) (o : Oper) (t : Nat) : Bool :=
  (List.range l.length).all fun j => !dstIs l j t || onB o j || blk l i l.length j
def checkB (l : List Oper) (n : Nat) : Bool :=
  (List.range l.length).all fun i => match l[i]? with
    | none => true
    | some o => (match o.dst with | some t => decide (t < n) && (List.range l.length).all fun j => j == i || !dstIs l j t | none => true) && (o.after.all fun e => !Region.binds .any e || decide (e.on < i)) &&
        (o.looksAt l.toArray).all fun t => lookB l i o t
/-- slots that a phase looks at are written ahead of its start alone -/
def lkB (l : List Oper) (ps : List (Option Nat × List Nat)) : Bool :=
  (List.range l.length).all fun i => match l[i]? with
    | some o => (match o.dst with
      | some d => ps.all fun q => !q.2.contains d || (match q.1 with | some s => s != i && blk l i l.length s | none => false)
      | none => true)
    | none => true
structure EvOk (ev : Operand → Value) : Prop where
  const : ∀ v, ev (.const v) = v
  global : ∀ g, ev (.global g) = .pointer (some ⟨g, 0, none⟩)
  func : ∀ f, ev (.func f) = .func (.func f) #[] #[]
def Does (P : Program) (ev : Operand → Value) (o : Oper) (w : World) (K : Value → World → Prop) : Prop :=
  match (execOp ev o).run P w with
  | .ok (.value v) w' => K v w'
  | .ok .skip w' => K undef w'
  | .ok (.enter f args) w' => Calls P f args w' fun e w'' => ∃ v, e = .returned v ∧ K v w''
  | _ => False
def wantedBy (l : List Oper) (o : Oper) (ev : Operand → Value) : Bool :=
  match o.guard with
  | none => true
  | some (g, b) => match (l[g]?).bind (·.dst) with
    | some t => (match ev (.tmp t) with | .bool q => q == b | _ => false)
    | none => false
section
variable {P : Program} {l : List Oper} {F : List Fact} {Ph : List Phase} {C : World → Prop} {T : Nat → World → World → Prop} {a0 : Array Value}
/-- what is to be shown of an operation -/
def Ob (P : Program) (l : List Oper) (F : List Fact) (Ph : List Phase) (C : World → Prop) (T : Nat → World → World → Prop) (a0 : Array Value) (i : Nat) (o : Oper) : Prop :=
  ∀ (ev : Operand → Value) (w : World), EvOk ev → C w → (∀ t ∈ o.looksAt l.toArray, slotSays l F a0 o t (ev (.tmp t)) w) → (∀ ph ∈ Ph, seesB l i ph.start ph.upto = true → ph.p (sig ev) w) →
    if wantedBy l o ev = true then Does P ev o w (fun v w' => C w' ∧ T i w w' ∧ (F.getD i (.det undef)).says v w' ∧ ∀ ph ∈ Ph, ph.start = some i → ph.p (sig ev) w') else T i w w ∧ (F.getD i (.det undef)).says undef w ∧ ∀ ph ∈ Ph, ph.start = some i → ph.p (sig ev) w
theorem does_value {P : Program} {ev : Operand → Value} {o : Oper} {w w' : World} {v : Value} {K : Value → World → Prop} (h : (execOp ev o).run P w = .ok (.value v) w') (hK : K v w') : Does P ev o w K := by
  unfold Does; rw [h]; exact hK
theorem does_skip {P : Program} {ev : Operand → Value} {o : Oper} {w w' : World} {K : Value → World → Prop} (h : (execOp ev o).run P w = .ok .skip w') (hK : K undef w') : Does P ev o w K := by
  unfold Does; rw [h]; exact hK
theorem does_enter {P : Program} {ev : Operand → Value} {o : Oper} {w w' : World} {f : FuncId} {args : Array Value} {K : Value → World → Prop} (h : (execOp ev o).run P w = .ok (.enter f args) w') (hK : Calls P f args w' fun e w'' => ∃ v, e = .returned v ∧ K v w'') : Does P ev o w K := by
  unfold Does; rw [h]; exact hK
theorem ob_yes {i : Nat} {o : Oper} {ev : Operand → Value} {w : World} (hw : wantedBy l o ev = true) (h : Does P ev o w (fun v w' => C w' ∧ T i w w' ∧ (F.getD i (.det undef)).says v w' ∧ ∀ ph ∈ Ph, ph.start = some i → ph.p (sig ev) w')) :
    if wantedBy l o ev = true then Does P ev o w (fun v w' => C w' ∧ T i w w' ∧ (F.getD i (.det undef)).says v w' ∧ ∀ ph ∈ Ph, ph.start = some i → ph.p (sig ev) w') else T i w w ∧ (F.getD i (.det undef)).says undef w ∧ ∀ ph ∈ Ph, ph.start = some i → ph.p (sig ev) w := by
  rw [if_pos hw]; exact h
theorem ob_no {i : Nat} {o : Oper} {ev : Operand → Value} {w : World} (hw : wantedBy l o ev = false) (hT : T i w w) (h : (F.getD i (.det undef)).says undef w) (hs : ∀ ph ∈ Ph, ph.start = some i → ph.p (sig ev) w) :
    if wantedBy l o ev = true then Does P ev o w (fun v w' => C w' ∧ T i w w' ∧ (F.getD i (.det undef)).says v w' ∧ ∀ ph ∈ Ph, ph.start = some i → ph.p (sig ev) w') else T i w w ∧ (F.getD i (.det undef)).says undef w ∧ ∀ ph ∈ Ph, ph.start = some i → ph.p (sig ev) w := by
  rw [if_neg (by simp [hw])]; exact ⟨hT, h, hs⟩
/-- what is left behind the region: the slots are set to what is said of them -/
def FinK (σ : Nat → Value) (K : Array Value → Prop) (w : World) : List (Oper × Fact) → Array Value → Prop
  | [], arr => K arr
  | (⟨some t, _, _, _, _, _⟩, .det v) :: r, arr => FinK σ K w r (arr.setIfInBounds t v)
  | (⟨some t, _, _, _, _, _⟩, .held p) :: r, arr => ∀ x, x = σ t → p x w → FinK σ K w r (arr.setIfInBounds t x)
  | (⟨some t, _, _, _, _, _⟩, .used _) :: r, arr => ∀ x, x = σ t → FinK σ K w r (arr.setIfInBounds t x)
  | (⟨none, _, _, _, _, _⟩, _) :: r, arr => FinK σ K w r arr
structure Inv (l : List Oper) (F : List Fact) (Ph : List Phase) (C : World → Prop) (a0 : Array Value) (ds : List Deferred) (listed : Array Bool) (a : Act) (w : World) : Prop where
  world : C w
  lsize : listed.size = l.length
  size : a.tmps.size = a0.size
  defers : a.defers = ds
  closed : ∀ j oj, l[j]? = some oj → listed.getD j false = true → ∀ e ∈ oj.after, Region.binds .any e = true → listed.getD e.on false = true
  same : ∀ t, (∀ j o, l[j]? = some o → listed.getD j false = true → o.dst ≠ some t) → a.tmps[t]? = a0[t]?
  fact : ∀ j o t, l[j]? = some o → listed.getD j false = true → o.dst = some t →
    ((F.getD j (.det undef)).keeps = true ∨ ∃ (k : Nat) (ok : Oper), l[k]? = some ok ∧ listed.getD k false = false ∧ usesB l ok j = true) → (F.getD j (.det undef)).says (a.tmps.getD t undef) w
  phase : ∀ ph ∈ Ph, (∀ a, ph.start = some a → listed.getD a false = true) → (∀ b, ph.upto = some b → listed.getD b false = false) → ph.p (sig a.eval) w
theorem getD_two {listed : Array Bool} {i : Nat} (h : listed.getD i true = false) : listed.getD i false = false := by
  rcases Nat.lt_or_ge i listed.size with h' | h'
  · simp [h'] at h ⊢; exact h
  · simp [Array.getElem?_eq_none h'] at h
theorem getD_inn {listed : Array Bool} {i : Nat} (hi : i < listed.size) (h : listed.getD i false = false) : listed.getD i true = false := by
  simp [hi] at h ⊢; exact h
theorem onB_spec {o : Oper} {j : Nat} (h : onB o j = true) : ∃ e ∈ o.after, Region.binds .any e = true ∧ e.on = j := by
  unfold onB at h
  obtain ⟨e, he, hb⟩ := Array.any_eq_true'.1 h
  simp only [Bool.and_eq_true, beq_iff_eq] at hb
  exact ⟨e, he, hb.1, hb.2⟩
theorem blk_listed {listed : Array Bool} (hc : ∀ j oj, l[j]? = some oj → listed.getD j false = true → ∀ e ∈ oj.after, Region.binds .any e = true → listed.getD e.on false = true) (i : Nat) :
    ∀ (f k : Nat), blk l i f k = true → listed.getD k false = true → listed.getD i false = true
  | 0, _, h, _ => by simp [blk] at h
  | f + 1, k, h, hk => by
    unfold blk at h
    rw [Bool.or_eq_true, beq_iff_eq] at h
    rcases h with rfl | h
    · exact hk
    · cases ho : l[k]? with
      | none => rw [ho] at h; cases h
      | some o =>
        rw [ho] at h
        obtain ⟨e, he, hb⟩ := Array.any_eq_true'.1 h
        simp only [Bool.and_eq_true] at hb
        exact blk_listed hc i f e.on hb.2 (hc k o ho hk e he hb.1)
theorem srcOf_some {o : Oper} {t j : Nat} (h : srcOf l o t = some j) : onB o j = true ∧ ∃ oj, l[j]? = some oj ∧ oj.dst = some t := by
  have := List.find?_some h
  rw [Bool.and_eq_true] at this
  refine ⟨this.1, ?_⟩
  have h2 := this.2
  unfold dstIs at h2
  cases ho : l[j]? with
  | none => rw [ho] at h2; cases h2
  | some oj => rw [ho] at h2; exact ⟨oj, rfl, by simpa using h2⟩
theorem srcOf_none {o : Oper} {t : Nat} (h : srcOf l o t = none) {j : Nat} {oj : Oper} (hj : l[j]? = some oj) (hd : oj.dst = some t) : onB o j = false := by
  have h2 := (List.find?_eq_none.1 h) j (List.mem_range.2 (List.getElem?_eq_some_iff.1 hj).1)
  have h3 : dstIs l j t = true := by unfold dstIs; rw [hj]; simp [hd]
  rw [h3, Bool.and_true] at h2
  simpa using h2
theorem checkB_look {n i : Nat} {o : Oper} (h : checkB l n = true) (hi : l[i]? = some o) : ∀ t ∈ o.looksAt l.toArray, ∀ j oj, l[j]? = some oj → oj.dst = some t → onB o j = true ∨ blk l i l.length j = true := by
  intro t ht j oj hj hd
  have h1 := List.all_eq_true.1 h i (List.mem_range.2 (List.getElem?_eq_some_iff.1 hi).1)
  rw [hi] at h1
  simp only [Bool.and_eq_true] at h1
  have h2 := List.all_eq_true.1 h1.2 t ht
  have h3 := List.all_eq_true.1 h2 j (List.mem_range.2 (List.getElem?_eq_some_iff.1 hj).1)
  have h4 : dstIs l j t = true := by unfold dstIs; rw [hj]; simp [hd]
  rw [h4] at h3
  simpa using h3
theorem checkB_dst {n i : Nat} {o : Oper} {t : Nat} (h : checkB l n = true) (hi : l[i]? = some o) (hd : o.dst = some t) : t < n ∧ ∀ j oj, l[j]? = some oj → oj.dst = some t → j = i := by
  have h1 := List.all_eq_true.1 h i (List.mem_range.2 (List.getElem?_eq_some_iff.1 hi).1)
  rw [hi] at h1
  simp only [Bool.and_eq_true, hd, decide_eq_true_eq] at h1
  refine ⟨h1.1.1.1, fun j oj hj hdj => ?_⟩
  have h3 := List.all_eq_true.1 h1.1.1.2 j (List.mem_range.2 (List.getElem?_eq_some_iff.1 hj).1)
  have h4 : dstIs l j t = true := by unfold dstIs; rw [hj]; simp [hdj]
  rw [h4] at h3
  simpa using h3
theorem checkB_back {n i : Nat} {o : Oper} (h : checkB l n = true) (hi : l[i]? = some o) : ∀ e ∈ o.after, Region.binds .any e = true → e.on < i := by
  intro e he hb
  have h1 := List.all_eq_true.1 h i (List.mem_range.2 (List.getElem?_eq_some_iff.1 hi).1)
  rw [hi] at h1
  simp only [Bool.and_eq_true] at h1
  have h2 := Array.all_eq_true'.1 h1.1.2 e he
  rw [hb] at h2
  simpa using h2
theorem wanted_eq {o : Oper} {a : Act} : Region.wanted o (yielded l.toArray a.tmps) = wantedBy l o a.eval := by
  unfold Region.wanted wantedBy
  cases o.guard with
  | none => rfl
  | some g =>
    obtain ⟨g, b⟩ := g
    simp only [yielded, List.getElem?_toArray]
    cases hd : (l[g]?).bind (·.dst) with
    | none => simp
    | some t =>
      simp only [Option.bind_some, Act.eval]
      cases ht : a.tmps[t]? with
      | none => simp [ht, undef]
      | some v => cases v <;> simp [ht]
theorem evOk (a : Act) : EvOk a.eval := ⟨fun _ => rfl, fun _ => rfl, fun _ => rfl⟩
theorem does_wp {Q : Exit → Act → World → Prop} {a : Act} {o : Oper} {w : World} {K : Value → World → Prop} {next : Act → World → Prop} (h : Does P a.eval o w K) (hn : ∀ v w', K v w' → next (a.put o.dst v) w') : o.wp P a w next Q := by
  unfold Does at h
  unfold Oper.wp
  generalize (execOp a.eval o).run P w = r at *
  cases r with
  | ok nx w' =>
    cases nx <;> first
      | exact hn _ _ h
      | exact h.elim
      | exact Calls.mono h fun e w'' ⟨v, he, hk⟩ => by subst he; exact hn _ _ hk
  | halt x w' => exact h.elim
theorem put_get {a : Act} {t : Nat} {v : Value} (h : t < a.tmps.size) : (a.put (some t) v).tmps.getD t undef = v := by
  simp [Act.put, h]
theorem put_other {a : Act} {d : Option Tmp} {t : Nat} {v : Value} (h : d ≠ some t) : (a.put d v).tmps[t]? = a.tmps[t]? := by
  cases d with
  | none => rfl
  | some d =>
    have : d ≠ t := fun e => h (by rw [e])
    simp [Act.put, Array.getElem?_setIfInBounds_ne this]
theorem getD_of_get {x y : Array Value} {t : Nat} (h : x[t]? = y[t]?) : x.getD t undef = y.getD t undef := by
  rw [Array.getD_eq_getD_getElem?, Array.getD_eq_getD_getElem?, h]
theorem put_size (a : Act) (d : Option Tmp) (v : Value) : (a.put d v).tmps.size = a.tmps.size := by cases d <;> simp [Act.put]
theorem put_def (a : Act) (d : Option Tmp) (v : Value) : (a.put d v).defers = a.defers := by cases d <;> rfl
theorem listed_ne {listed : Array Bool} {i j : Nat} (hij : i ≠ j) : (listed.setIfInBounds i true).getD j false = listed.getD j false := getD_set_ne false hij
theorem sig_eval (a : Act) : sig a.eval = fun t => a.tmps.getD t undef := rfl
theorem sig_put {a : Act} {d : Option Tmp} {t : Nat} {v : Value} (h : d ≠ some t) : sig a.eval t = sig (a.put d v).eval t := by
  rw [sig_eval, sig_eval]
  exact (getD_of_get (put_other h)).symm
theorem Inv.step {n : Nat} {ds : List Deferred} {listed : Array Bool} {a : Act} {w w' : World} {i : Nat} {o : Oper} {v : Value} (h : Inv l F Ph C a0 ds listed a w) (hB : checkB l n = true) (hn : a0.size = n) (hi : l[i]? = some o) (hr : i ∈ Region.ready .any l.toArray listed)
    (hstab : ∀ i j x w w', needB l F i j = true → i ≠ j → C w → (F.getD j (.det undef)).says x w → T i w w' → (F.getD j (.det undef)).says x w')
    (hph : ∀ i (ph : Phase) σ w w', ph ∈ Ph → ph.start ≠ some i → ph.upto ≠ some i → liveB l i ph.start ph.upto = true → C w → ph.p σ w → T i w w' → ph.p σ w')
    (hC : C w') (hT : T i w w') (hF : (F.getD i (.det undef)).says v w') (hS : ∀ ph ∈ Ph, ph.start = some i → ph.p (sig a.eval) w') (hlk : lkB l (Ph.map fun ph => (ph.start, ph.looks)) = true) : Inv l F Ph C a0 ds (listed.setIfInBounds i true) (a.put o.dst v) w' := by
  obtain ⟨hun, o', ho', hall⟩ := mem_ready.1 hr
  have hoo : o' = o := by
    rw [List.getElem?_toArray, hi] at ho'
    exact (Option.some.inj ho').symm
  subst hoo
  have hil : i < listed.size := by rw [h.lsize]; exact (List.getElem?_eq_some_iff.1 hi).1
  have hun2 := getD_two hun
  refine ⟨hC, by simp [h.lsize], by rw [put_size, h.size], by rw [put_def, h.defers], ?_, ?_, ?_, ?_⟩
  · intro j oj hj hl e he hb
    by_cases hij : i = j
    · subst hij
      have : oj = o' := Option.some.inj (hj.symm.trans hi)
      subst this
      exact getD_set_true (hall e he hb)
    · rw [listed_ne hij] at hl
      exact getD_set_true (h.closed j oj hj hl e he hb)
  · intro t ht
    have hd : o'.dst ≠ some t := ht i o' hi (by simp [hil])
    rw [put_other hd]
    exact h.same t fun j oj hj hl => ht j oj hj (getD_set_true hl)
  · intro j oj t hj hl hd hne
    by_cases hij : i = j
    · subst hij
      have : oj = o' := Option.some.inj (hj.symm.trans hi)
      subst this
      have hlt := (checkB_dst hB hi hd).1
      rw [hd, put_get (by rw [h.size, hn]; exact hlt)]
      exact hF
    · rw [listed_ne hij] at hl
      have hd2 : o'.dst ≠ some t := fun e => hij ((checkB_dst hB hj hd).2 i o' hi e)
      rw [getD_of_get (put_other hd2)]
      have hne2 : (F.getD j (.det undef)).keeps = true ∨ ∃ (k : Nat) (ok : Oper), l[k]? = some ok ∧ listed.getD k false = false ∧ usesB l ok j = true := by
        rcases hne with hk | ⟨k, ok, hk, hkl, hon⟩
        · exact .inl hk
        · refine .inr ⟨k, ok, hk, ?_, hon⟩
          by_cases hik : i = k
          · subst hik; exact hun2
          · rw [listed_ne hik] at hkl; exact hkl
      refine hstab i j _ w w' ?_ hij h.world (h.fact j oj t hj hl hd hne2) hT
      unfold needB
      have hnb : blk l i l.length j = false := by
        cases hb : blk l i l.length j with
        | false => rfl
        | true =>
          have := blk_listed h.closed i l.length j hb hl
          rw [hun2] at this
          cases this
      rw [hnb, Bool.not_false, Bool.true_and, Bool.or_eq_true]
      rcases hne with hk | ⟨k, ok, hk, hkl, hon⟩
      · exact .inl hk
      · refine .inr (List.any_eq_true.2 ⟨k, List.mem_range.2 (List.getElem?_eq_some_iff.1 hk).1, ?_⟩)
        rw [hk]
        have hik : k ≠ i := fun e => by
          subst e
          simp [hil] at hkl
        rw [listed_ne (fun e => hik e.symm)] at hkl
        have hbk : blk l k l.length i = false := by
          cases hbb : blk l k l.length i with
          | false => rfl
          | true =>
            exfalso
            obtain ⟨f, hf⟩ : ∃ f, l.length = f + 1 := ⟨l.length - 1, by have := (List.getElem?_eq_some_iff.1 hi).1; omega⟩
            rw [hf] at hbb
            unfold blk at hbb
            rw [Bool.or_eq_true, beq_iff_eq] at hbb
            rcases hbb with e | hbb
            · exact hik e.symm
            · rw [hi] at hbb
              obtain ⟨e, he, hb2⟩ := Array.any_eq_true'.1 hbb
              simp only [Bool.and_eq_true] at hb2
              have := blk_listed h.closed k f e.on hb2.2 (hall e he hb2.1)
              rw [hkl] at this
              cases this
        simp [hik, hon, hbk]
  · intro ph hp hfrom hupto
    have hlook : ∀ d, o'.dst = some d → d ∈ ph.looks → ∃ s, ph.start = some s ∧ s ≠ i ∧ blk l i l.length s = true := fun d hd hdl => by
      have h1 := List.all_eq_true.1 hlk i (List.mem_range.2 (List.getElem?_eq_some_iff.1 hi).1)
      rw [hi] at h1
      simp only [hd] at h1
      have h2 := List.all_eq_true.1 h1 _ (List.mem_map.2 ⟨ph, hp, rfl⟩)
      simp only [Bool.or_eq_true, Bool.not_eq_true'] at h2
      rcases h2 with h2 | h2
      · simp [hdl] at h2
      · cases hst : ph.start with
        | none => rw [hst] at h2; cases h2
        | some s =>
          rw [hst] at h2
          simp only [Bool.and_eq_true, bne_iff_ne] at h2
          exact ⟨s, rfl, h2.1, h2.2⟩
    by_cases hs : ph.start = some i
    · refine ph.ext _ _ w' (fun t ht => sig_put fun hd => ?_) (hS ph hp hs)
      obtain ⟨s, h1, h2, _⟩ := hlook t hd ht
      rw [hs] at h1
      exact h2 (Option.some.inj h1).symm
    · have hu : ph.upto ≠ some i := fun e => by
        have := hupto i e
        simp [hil] at this
      have hf2 : ∀ a, ph.start = some a → listed.getD a false = true := fun a ha => by
        have h1 := hfrom a ha
        rwa [listed_ne (fun e => hs (by rw [e]; exact ha))] at h1
      have hu2 : ∀ b, ph.upto = some b → listed.getD b false = false := fun b hb => by
        have h1 := hupto b hb
        rwa [listed_ne (fun e => hu (by rw [e]; exact hb))] at h1
      refine ph.ext _ _ w' (fun t ht => sig_put fun hd => ?_) (hph i ph _ w w' hp hs hu ?_ h.world (h.phase ph hp hf2 hu2) hT)
      · obtain ⟨s, h1, _, h3⟩ := hlook t hd ht
        have := blk_listed h.closed i l.length s h3 (hf2 s h1)
        rw [hun2] at this
        cases this
      unfold liveB
      rw [Bool.and_eq_true]
      constructor
      · cases ha : ph.start with
        | none => rfl
        | some a =>
          cases hb : blk l i l.length a with
          | false => simp [hb]
          | true =>
            have := blk_listed h.closed i l.length a hb (hf2 a ha)
            rw [hun2] at this
            cases this
      · cases hb : ph.upto with
        | none => rfl
        | some b =>
          cases hc : blk l b l.length i with
          | false => simp [hc]
          | true =>
            exfalso
            have hbl := hu2 b hb
            have hpos : 0 < l.length := Nat.lt_of_le_of_lt (Nat.zero_le _) (List.getElem?_eq_some_iff.1 hi).1
            obtain ⟨f, hf⟩ : ∃ f, l.length = f + 1 := ⟨l.length - 1, by omega⟩
            rw [hf] at hc
            unfold blk at hc
            rw [Bool.or_eq_true, beq_iff_eq] at hc
            rcases hc with e | hc
            · exact hu (by rw [hb, e])
            · rw [hi] at hc
              obtain ⟨e, he, hbb⟩ := Array.any_eq_true'.1 hc
              simp only [Bool.and_eq_true] at hbb
              have := blk_listed h.closed b f e.on hbb.2 (hall e he hbb.1)
              rw [hbl] at this
              cases this
theorem fin_of (K : Array Value → Prop) (w : World) (g : Nat → Value) : ∀ (m : List (Oper × Fact)) (arr : Array Value), FinK g K w m arr → (∀ p ∈ m, ∀ t, p.1.dst = some t → p.2.keeps = true → p.2.says (g t) w) →
    K (m.foldl (fun arr p => match p.1.dst with | some t => arr.setIfInBounds t (g t) | none => arr) arr)
  | [], arr, h, _ => h
  | (⟨d, _, _, _, _, _⟩, f) :: r, arr, h, hs => by
    cases d with
    | none => exact fin_of K w g r arr h fun p hp => hs p (List.mem_cons_of_mem _ hp)
    | some t =>
      have h0 := hs _ (List.mem_cons_self) t rfl
      have hr := fun p hp => hs p (List.mem_cons_of_mem _ hp)
      cases f with
      | det v =>
        have hv : g t = v := h0 rfl
        subst hv
        exact fin_of K w g r _ h hr
      | held p => exact fin_of K w g r _ (h (g t) rfl (h0 rfl)) hr
      | used p => exact fin_of K w g r _ (h (g t) rfl) hr
theorem fold_get (g : Nat → Value) : ∀ (m : List (Oper × Fact)) (arr : Array Value) (t : Nat),
    (m.foldl (fun arr p => match p.1.dst with | some t => arr.setIfInBounds t (g t) | none => arr) arr)[t]? = if (∃ p ∈ m, p.1.dst = some t) ∧ t < arr.size then some (g t) else arr[t]?
  | [], arr, t => by simp
  | (o, f) :: r, arr, t => by
    rw [List.foldl_cons, fold_get g r]
    cases hd : o.dst with
    | none =>
      have e : (∃ p, p ∈ (o, f) :: r ∧ p.1.dst = some t) ↔ ∃ p, p ∈ r ∧ p.1.dst = some t := by simp [hd]
      simp only [e]
    | some d =>
      simp only [Array.size_setIfInBounds, List.mem_cons, exists_eq_or_imp]
      by_cases hr : ∃ p ∈ r, p.1.dst = some t
      · by_cases hlt : t < arr.size
        · rw [if_pos ⟨hr, hlt⟩, if_pos ⟨.inr hr, hlt⟩]
        · rw [if_neg (fun h => hlt h.2), if_neg (fun h => hlt h.2), Array.getElem?_eq_none (by simp; omega), Array.getElem?_eq_none (by omega)]
      · rw [if_neg (fun h => hr h.1)]
        by_cases hdt : d = t
        · subst hdt
          by_cases hlt : d < arr.size
          · rw [if_pos ⟨.inl hd, hlt⟩]
            simp [hlt]
          · have e : arr.setIfInBounds d (g d) = arr := by simp [Array.setIfInBounds, hlt]
            rw [if_neg (fun h => hlt h.2), e]
        · rw [Array.getElem?_setIfInBounds_ne hdt, if_neg]
          rintro ⟨h | h, _⟩
          · rw [hd] at h; exact hdt (Option.some.inj h)
          · exact hr h
theorem wpAny_facts {Q : Exit → Act → World → Prop} {a : Act} {w : World} (n : Nat) (F : List Fact) (Ph : List Phase) (C : World → Prop) (T : Nat → World → World → Prop) (hn : a.tmps.size = n) (hB : checkB l n = true) (hFl : F.length = l.length) (hC : C { w with drawn := w.drawn + 1 })
    (hstab : ∀ i j x w w', needB l F i j = true → i ≠ j → C w → (F.getD j (.det undef)).says x w → T i w w' → (F.getD j (.det undef)).says x w')
    (hph0 : ∀ ph ∈ Ph, ph.start = none → ph.p (sig a.eval) { w with drawn := w.drawn + 1 })
    (hph : ∀ i (ph : Phase) σ w w', ph ∈ Ph → ph.start ≠ some i → ph.upto ≠ some i → liveB l i ph.start ph.upto = true → C w → ph.p σ w → T i w w' → ph.p σ w')
    (hpl : ∀ ph ∈ Ph, ∀ a, ph.start = some a → a < l.length)
    (hob : ∀ i o, l[i]? = some o → Ob P l F Ph C T a.tmps i o)
    (hlk : lkB l (Ph.map fun ph => (ph.start, ph.looks)) = true)
    (hfin : ∀ σ w', C w' → (∀ ph ∈ Ph, ph.upto = none → ph.p σ w') → FinK σ (fun arr => Q .normal ⟨arr, a.defers⟩ w') w' (l.zip F) a.tmps) : wpAny P .any l.toArray Q l.toArray.size (Array.replicate l.toArray.size false) a { w with drawn := w.drawn + 1 } := by
  have main : ∀ (fuel : Nat) (listed : Array Bool) (a' : Act) (w' : World), Inv l F Ph C a.tmps a.defers listed a' w' → listed.toList.countP (fun b => !b) ≤ fuel → wpAny P .any l.toArray Q fuel listed a' w' := by
    have done : ∀ (listed : Array Bool) (a' : Act) (w' : World), Inv l F Ph C a.tmps a.defers listed a' w' → Region.ready .any l.toArray listed = [] → (∀ j, j < l.length → listed.getD j false = true) → Q .normal a' w' := by
      intro listed a' w' hI _ hall
      have h1 := fin_of (fun arr => Q .normal ⟨arr, a.defers⟩ w') w' (fun t => a'.tmps.getD t undef) (l.zip F) a.tmps (hfin (fun t => a'.tmps.getD t undef) w' hI.world fun ph hp hu => sig_eval a' ▸ hI.phase ph hp (fun a ha => hall a (hpl ph hp a ha)) (fun b hb => by rw [hu] at hb; cases hb)) (by
        intro p hp t hd hk
        obtain ⟨j, hj, e⟩ := List.getElem_of_mem hp
        have hjl : j < l.length := by rw [List.length_zip] at hj; omega
        have hjF : j < F.length := by omega
        rw [List.getElem_zip] at e
        have e1 : l[j]? = some p.1 := by rw [List.getElem?_eq_getElem hjl, ← e]
        have e2 : F.getD j (.det undef) = p.2 := by rw [List.getD_eq_getElem?_getD, List.getElem?_eq_getElem hjF, ← e]; rfl
        have := hI.fact j p.1 t e1 (hall j hjl) hd (.inl (by rw [e2]; exact hk))
        rw [e2] at this
        exact this)
      have h2 : ((l.zip F).foldl (fun arr p => match p.1.dst with | some t => arr.setIfInBounds t (a'.tmps.getD t undef) | none => arr) a.tmps) = a'.tmps := by
        apply Array.ext_getElem?
        intro t
        rw [fold_get]
        by_cases hex : ∃ p ∈ l.zip F, p.1.dst = some t
        · obtain ⟨p, hp, hd⟩ := hex
          obtain ⟨j, hj, e⟩ := List.getElem_of_mem hp
          have hjl : j < l.length := by rw [List.length_zip] at hj; omega
          rw [List.getElem_zip] at e
          have e1 : l[j]? = some p.1 := by rw [List.getElem?_eq_getElem hjl, ← e]
          have hlt := (checkB_dst hB e1 hd).1
          rw [if_pos ⟨⟨p, hp, hd⟩, by omega⟩, Array.getD_eq_getD_getElem?, Array.getElem?_eq_getElem (by rw [hI.size]; omega)]
          rfl
        · rw [if_neg (fun h => hex h.1)]
          refine (hI.same t fun j o hj _ hd => hex ?_).symm
          have hjl := (List.getElem?_eq_some_iff.1 hj).1
          have hjF : j < F.length := by omega
          refine ⟨(l[j], F[j]), ?_, ?_⟩
          · have hz : j < (l.zip F).length := by rw [List.length_zip]; omega
            have : (l.zip F)[j] = (l[j], F[j]) := List.getElem_zip
            rw [← this]
            exact List.getElem_mem hz
          · have : l[j] = o := (List.getElem?_eq_some_iff.1 hj).2
            rw [this]; exact hd
      rw [h2, ← hI.defers] at h1
      exact h1
    have allOf : ∀ (listed : Array Bool), listed.size = l.length → listed.toList.countP (fun b => !b) = 0 → ∀ j, j < l.length → listed.getD j false = true := by
      intro listed hs hc j hj
      rw [List.countP_eq_zero] at hc
      have h1 : j < listed.size := by omega
      have h2 := hc listed[j] (by simp)
      simpa [h1] using h2
    intro fuel
    induction fuel with
    | zero =>
      intro listed a' w' hI hf
      have hall := allOf listed hI.lsize (by omega)
      have hr : Region.ready .any l.toArray listed = [] := by
        rw [List.eq_nil_iff_forall_not_mem]
        intro i hi
        obtain ⟨hun, o, ho, _⟩ := mem_ready.1 hi
        have hlt : i < l.length := by
          rw [List.getElem?_toArray] at ho
          exact (List.getElem?_eq_some_iff.1 ho).1
        have := hall i hlt
        rw [getD_two hun] at this
        cases this
      exact ⟨hr, done listed a' w' hI hr hall⟩
    | succ fuel ih =>
      intro listed a' w' hI hf
      have stepd : ∀ i ∈ Region.ready .any l.toArray listed, wpOp P l.toArray Q i (wpAny P .any l.toArray Q fuel (listed.setIfInBounds i true)) a' w' := by
        intro i hi
        obtain ⟨hun, o, ho, hall⟩ := mem_ready.1 hi
        rw [List.getElem?_toArray] at ho
        have hlt := (List.getElem?_eq_some_iff.1 ho).1
        have hcount : (listed.setIfInBounds i true).toList.countP (fun b => !b) ≤ fuel := by
          have hls : i < listed.size := by rw [hI.lsize]; exact hlt
          have hget : listed[i] = false := by simpa [hls] using hun
          have := List.countP_set (p := fun b => !b) (l := listed.toList) (i := i) (a := true) (by simpa using hls)
          have hpos : 0 < listed.toList.countP (fun b => !b) := List.countP_pos_iff.2 ⟨listed[i], by simp, by simp [hget]⟩
          rw [Array.toList_setIfInBounds, this, if_pos (by simp [hget]), if_neg (by simp)]
          omega
        have hob1 := hob i o ho a'.eval w' (evOk a') hI.world (by
          intro t ht
          unfold slotSays
          cases hs : srcOf l o t with
          | some j =>
            obtain ⟨hon, oj, hj, hd⟩ := srcOf_some hs
            obtain ⟨e, he, hb, rfl⟩ := onB_spec hon
            exact hI.fact e.on oj t hj (hall e he hb) hd (.inr ⟨i, o, ho, getD_two hun, by unfold usesB; rw [hon, hj]; simp only [hd, Bool.true_and]; simpa using ht⟩)
          | none =>
            refine getD_of_get (hI.same t fun j oj hj hl hd => ?_)
            rcases checkB_look hB ho t ht j oj hj hd with h | h
            · rw [srcOf_none hs hj hd] at h; cases h
            · have := blk_listed hI.closed i l.length j h hl
              rw [getD_two hun] at this
              cases this) (by
          intro ph hp hs
          unfold seesB at hs
          rw [Bool.and_eq_true] at hs
          refine hI.phase ph hp (fun a ha => ?_) (fun b hb => ?_)
          · have h1 := hs.1
            rw [ha] at h1
            simp only [Bool.and_eq_true, bne_iff_ne] at h1
            obtain ⟨f, hf⟩ : ∃ f, l.length = f + 1 := ⟨l.length - 1, by omega⟩
            have h2 := h1.2
            rw [hf] at h2
            unfold blk at h2
            rw [Bool.or_eq_true, beq_iff_eq] at h2
            rcases h2 with e | h2
            · exact absurd e.symm h1.1
            · rw [ho] at h2
              obtain ⟨e, he, hbb⟩ := Array.any_eq_true'.1 h2
              simp only [Bool.and_eq_true] at hbb
              exact blk_listed hI.closed a f e.on hbb.2 (hall e he hbb.1)
          · have h1 := hs.2
            rw [hb] at h1
            cases hl : listed.getD b false with
            | false => rfl
            | true =>
              have := blk_listed hI.closed i l.length b h1 hl
              rw [getD_two hun] at this
              cases this)
        unfold wpOp
        simp only [List.getElem?_toArray, ho]
        rw [wanted_eq]
        by_cases hw : wantedBy l o a'.eval = true
        · rw [if_pos hw] at hob1 ⊢
          exact .inl (does_wp hob1 fun v w'' ⟨hC2, hT2, hF2, hS2⟩ => ih _ _ _ (hI.step hB hn ho hi hstab hph hC2 hT2 hF2 hS2 hlk) hcount)
        · rw [if_neg hw] at hob1 ⊢
          exact ih _ _ _ (hI.step hB hn ho hi hstab hph hI.world hob1.1 hob1.2.1 hob1.2.2 hlk) hcount
      refine ⟨fun hr => ?_, stepd⟩
      refine done listed a' w' hI hr ?_
      intro j
      induction j using Nat.strongRecOn with
      | _ j jh =>
        intro hj
        cases hl : listed.getD j false with
        | true => rfl
        | false =>
          exfalso
          have hnr : j ∉ Region.ready .any l.toArray listed := by rw [hr]; simp
          refine hnr (mem_ready.2 ⟨getD_inn (by rw [hI.lsize]; exact hj) hl, l[j], by rw [List.getElem?_toArray, List.getElem?_eq_getElem hj], fun e he hb => ?_⟩)
          have hlt := checkB_back hB (List.getElem?_eq_getElem hj) e he hb
          exact jh e.on hlt (by omega)
  have hrep : ∀ j, (Array.replicate l.toArray.size false).getD j false = false := fun j => by
    rw [Array.getD_eq_getD_getElem?]
    by_cases h : j < l.toArray.size
    · rw [Array.getElem?_replicate, if_pos h]; rfl
    · rw [Array.getElem?_replicate, if_neg h]; rfl
  refine main _ _ _ _ ⟨hC, by simp, rfl, rfl, ?_, fun _ _ => rfl, ?_, ?_⟩ ?_
  · intro j oj hj hl
    rw [hrep j] at hl
    cases hl
  · intro j o t hj hl
    rw [hrep j] at hl
    cases hl
  · intro ph hp hs _
    cases ha : ph.start with
    | none => exact hph0 ph hp ha
    | some a =>
      have := hs a ha
      rw [hrep a] at this
      cases this
  · rw [Array.toList_replicate]
    exact Nat.le_trans List.countP_le_length (by simp)
theorem wp_region_facts {id : Nat} {Q : Exit → Act → World → Prop} {a : Act} {w : World} (n : Nat) (F : List Fact) (Ph : List Phase) (C : World → Prop) (T : Nat → World → World → Prop) (hm : P.follows .mixedOrders = true) (hn : a.tmps.size = n) (hB : checkB l n = true) (hFl : F.length = l.length) (hC : C { w with drawn := w.drawn + 1 })
    (hstab : ∀ i j x w w', needB l F i j = true → i ≠ j → C w → (F.getD j (.det undef)).says x w → T i w w' → (F.getD j (.det undef)).says x w')
    (hph0 : ∀ ph ∈ Ph, ph.start = none → ph.p (sig a.eval) { w with drawn := w.drawn + 1 })
    (hph : ∀ i (ph : Phase) σ w w', ph ∈ Ph → ph.start ≠ some i → ph.upto ≠ some i → liveB l i ph.start ph.upto = true → C w → ph.p σ w → T i w w' → ph.p σ w')
    (hpl : ∀ ph ∈ Ph, ∀ a, ph.start = some a → a < l.length)
    (hob : ∀ i o, l[i]? = some o → Ob P l F Ph C T a.tmps i o)
    (hlk : lkB l (Ph.map fun ph => (ph.start, ph.looks)) = true)
    (hfin : ∀ σ w', C w' → (∀ ph ∈ Ph, ph.upto = none → ph.p σ w') → FinK σ (fun arr => Q .normal ⟨arr, a.defers⟩ w') w' (l.zip F) a.tmps) : (Code.region id l.toArray true).wp P Q a w :=
  wp_region_any hm (wpAny_facts n F Ph C T hn hB hFl hC hstab hph0 hph hpl hob hlk hfin)
def ObAll (P : Program) (l : List Oper) (F : List Fact) (Ph : List Phase) (C : World → Prop) (T : Nat → World → World → Prop) (a0 : Array Value) : Nat → List Oper → Prop
  | _, [] => True
  | i, o :: r => Ob P l F Ph C T a0 i o ∧ ObAll P l F Ph C T a0 (i + 1) r
theorem obAll_go : ∀ (r : List Oper) (k : Nat), ObAll P l F Ph C T a0 k r → ∀ i o, r[i]? = some o → Ob P l F Ph C T a0 (k + i) o
  | [], _, _, i, o, h => by simp at h
  | o :: r, k, h, 0, o', ho => by
    have : o = o' := by simpa using ho
    subst this
    exact h.1
  | o :: r, k, h, i + 1, o', ho => by
    have := obAll_go r (k + 1) h.2 i o' (by simpa using ho)
    rw [show k + (i + 1) = k + 1 + i by omega]
    exact this
theorem ob_all (h : ObAll P l F Ph C T a0 0 l) : ∀ i o, l[i]? = some o → Ob P l F Ph C T a0 i o := fun i o ho => by
  have := obAll_go l 0 h i o ho
  rwa [Nat.zero_add] at this
theorem see_out {o : Oper} {ev : Operand → Value} {w : World} {v : Value} (hs : ∀ t ∈ o.looksAt l.toArray, slotSays l F a0 o t (ev (.tmp t)) w) (t : Nat) (h1 : (o.looksAt l.toArray).contains t = true) (h2 : srcOf l o t = none) (h3 : a0[t]? = some v) : ev (.tmp t) = v := by
  have := hs t (by simpa using h1)
  unfold slotSays at this
  rw [h2] at this
  simp only at this
  rw [this, Array.getD_eq_getD_getElem?, h3]; rfl
theorem see_det {o : Oper} {ev : Operand → Value} {w : World} {v : Value} (hs : ∀ t ∈ o.looksAt l.toArray, slotSays l F a0 o t (ev (.tmp t)) w) (t j : Nat) (h1 : (o.looksAt l.toArray).contains t = true) (h2 : srcOf l o t = some j) (h3 : F.getD j (.det undef) = .det v) : ev (.tmp t) = v := by
  have := hs t (by simpa using h1)
  unfold slotSays at this
  rw [h2] at this
  simp only at this
  rw [h3] at this
  exact this
theorem see_held {o : Oper} {ev : Operand → Value} {w : World} {p : Value → World → Prop} (hs : ∀ t ∈ o.looksAt l.toArray, slotSays l F a0 o t (ev (.tmp t)) w) (t j : Nat) (h1 : (o.looksAt l.toArray).contains t = true) (h2 : srcOf l o t = some j) (h3 : F.getD j (.det undef) = .held p) : p (ev (.tmp t)) w := by
  have := hs t (by simpa using h1)
  unfold slotSays at this
  rw [h2] at this
  simp only at this
  rw [h3] at this
  exact this
theorem see_used {o : Oper} {ev : Operand → Value} {w : World} {p : Value → World → Prop} (hs : ∀ t ∈ o.looksAt l.toArray, slotSays l F a0 o t (ev (.tmp t)) w) (t j : Nat) (h1 : (o.looksAt l.toArray).contains t = true) (h2 : srcOf l o t = some j) (h3 : F.getD j (.det undef) = .used p) : p (ev (.tmp t)) w := by
  have := hs t (by simpa using h1)
  unfold slotSays at this
  rw [h2] at this
  simp only at this
  rw [h3] at this
  exact this
theorem wanted_none {o : Oper} {ev : Operand → Value} (h : o.guard = none) : wantedBy l o ev = true := by unfold wantedBy; rw [h]
theorem wanted_bool {o : Oper} {ev : Operand → Value} {g : Nat} {b q r : Bool} {t : Nat} (h : o.guard = some (g, b)) (hd : (l[g]?).bind (·.dst) = some t) (hv : ev (.tmp t) = .bool q) (hr : (q == b) = r) : wantedBy l o ev = r := by
  unfold wantedBy
  rw [h]
  simp only [hd, hv]
  exact hr
theorem no_start {i : Nat} (hp : Ph.all (fun ph => ph.start != some i) = true) {w : World} {σ : Nat → Value} : ∀ ph ∈ Ph, ph.start = some i → ph.p σ w := fun ph h1 h2 => by
  have := List.all_eq_true.1 hp ph h1
  rw [h2] at this
  simp at this
/-- an operation that yields a value and leaves the world -/
theorem ob_det {i : Nat} {o : Oper} {ev : Operand → Value} {w : World} {v : Value} (hw : wantedBy l o ev = true) (hF : F.getD i (.det undef) = .det v) (hp : Ph.all (fun ph => ph.start != some i) = true) (hC : C w) (hT : T i w w) (h : (execOp ev o).run P w = .ok (.value v) w) :
    if wantedBy l o ev = true then Does P ev o w (fun v w' => C w' ∧ T i w w' ∧ (F.getD i (.det undef)).says v w' ∧ ∀ ph ∈ Ph, ph.start = some i → ph.p (sig ev) w') else T i w w ∧ (F.getD i (.det undef)).says undef w ∧ ∀ ph ∈ Ph, ph.start = some i → ph.p (sig ev) w :=
  ob_yes hw (does_value h ⟨hC, hT, by rw [hF]; rfl, no_start hp⟩)
theorem ob_undef {i : Nat} {o : Oper} {ev : Operand → Value} {w : World} (hw : wantedBy l o ev = false) (hF : F.getD i (.det undef) = .det undef) (hp : Ph.all (fun ph => ph.start != some i) = true) (hT : T i w w) :
    if wantedBy l o ev = true then Does P ev o w (fun v w' => C w' ∧ T i w w' ∧ (F.getD i (.det undef)).says v w' ∧ ∀ ph ∈ Ph, ph.start = some i → ph.p (sig ev) w') else T i w w ∧ (F.getD i (.det undef)).says undef w ∧ ∀ ph ∈ Ph, ph.start = some i → ph.p (sig ev) w :=
  ob_no hw hT (by rw [hF]; rfl) (no_start hp)
def StabF (C : World → Prop) (R : World → World → Prop) : Fact → Prop
  | .det _ => True
  | .held p => ∀ x w w', C w → p x w → R w w' → p x w'
  | .used p => ∀ x w w', C w → p x w → R w w' → p x w'
def StabAll (C : World → Prop) (R : World → World → Prop) : List Fact → Prop
  | [] => True
  | f :: r => StabF C R f ∧ StabAll C R r
theorem StabF.use {R : World → World → Prop} {f : Fact} (h : StabF C R f) {x : Value} {w w' : World} (hC : C w) (hx : f.says x w) (hR : R w w') : f.says x w' := by
  cases f with
  | det v => exact hx
  | held p => exact h x w w' hC hx hR
  | used p => exact h x w w' hC hx hR
theorem stabAll_at {R : World → World → Prop} : ∀ {F : List Fact}, StabAll C R F → ∀ j, StabF C R (F.getD j (.det undef))
  | [], _, j => by simp [StabF]
  | f :: r, h, 0 => h.1
  | f :: r, h, j + 1 => by
    have := stabAll_at h.2 j
    simpa using this
theorem stab_uniform {R : World → World → Prop} (h : StabAll C R F) : ∀ i j x w w', needB l F i j = true → i ≠ j → C w → (F.getD j (.det undef)).says x w → (fun (_ : Nat) => R) i w w' → (F.getD j (.det undef)).says x w' :=
  fun _ j _ _ _ _ _ hC hx hR => (stabAll_at h j).use hC hx hR
def Fact.isDet : Fact → Bool
  | .det _ => true
  | _ => false
/-- what an operation does to the world: some do what is said of them, the others what all do -/
def TSp (sp : List (Nat × (World → World → Prop))) (R : World → World → Prop) (i : Nat) (w w' : World) : Prop := match sp.find? (fun p => p.1 == i) with | some p => p.2 w w' | none => R w w'
theorem TSp.of {sp : List (Nat × (World → World → Prop))} {R : World → World → Prop} {i : Nat} {w w' : World} (hn : sp.find? (fun p => p.1 == i) = none) (h : R w w') : TSp sp R i w w' := by unfold TSp; rw [hn]; exact h
theorem TSp.sp {sp : List (Nat × (World → World → Prop))} {R : World → World → Prop} {i : Nat} {p : Nat × (World → World → Prop)} {w w' : World} (hn : sp.find? (fun p => p.1 == i) = some p) (h : p.2 w w') : TSp sp R i w w' := by unfold TSp; rw [hn]; exact h
def stabChk (l : List Oper) (ds ks : List Bool) (js : List (Nat × Nat)) (apps : List Nat) : Bool :=
  apps.all fun i => (List.range l.length).all fun j => ds.getD j true || j == i || blk l i l.length j ||
    !(ks.getD j true || (List.range l.length).any fun k => (k != i && !blk l k l.length i) && (match l[k]? with | some o => usesB l o j | none => false)) || js.contains (i, j)
def phChk (l : List Oper) (ps : List (Option Nat × Option Nat)) (jp : List (Nat × Nat)) (apps : List Nat) : Bool :=
  apps.all fun i => (List.range ps.length).all fun k => match ps[k]? with
    | some q => q.1 == some i || q.2 == some i || !liveB l i q.1 q.2 || jp.contains (i, k)
    | none => true
theorem map_getD {B : Type} (f : Fact → B) (d : Fact) {db : B} (hd : f d = db) (j : Nat) : (F.map f).getD j db = f (F.getD j d) := by
  rw [List.getD_eq_getElem?_getD, List.getD_eq_getElem?_getD, List.getElem?_map]
  cases F[j]? with
  | none => exact hd.symm
  | some x => rfl
def JsAll (F : List Fact) (C : World → Prop) (sp : List (Nat × (World → World → Prop))) : List (Nat × Nat) → Prop
  | [] => True
  | p :: r => (match sp.find? (fun q => q.1 == p.1) with | some q => StabF C q.2 (F.getD p.2 (.det undef)) | none => False) ∧ JsAll F C sp r
theorem jsAll_at {sp : List (Nat × (World → World → Prop))} : ∀ {js : List (Nat × Nat)}, JsAll F C sp js → ∀ i j, (i, j) ∈ js → (match sp.find? (fun q => q.1 == i) with | some q => StabF C q.2 (F.getD j (.det undef)) | none => False)
  | [], _, _, _, h => by cases h
  | p :: r, h, i, j, hm => by
    rcases List.mem_cons.1 hm with e | e
    · subst e; exact h.1
    · exact jsAll_at h.2 i j e
theorem stab_sp {R : World → World → Prop} (sp : List (Nat × (World → World → Prop))) (ds ks : List Bool) (js : List (Nat × Nat)) (hds : F.map Fact.isDet = ds) (hks : F.map Fact.keeps = ks) (hFl : F.length = l.length) (hchk : stabChk l ds ks js (sp.map (·.1)) = true) (h : StabAll C R F) (hjs : JsAll F C sp js) :
    ∀ i j x w w', needB l F i j = true → i ≠ j → C w → (F.getD j (.det undef)).says x w → TSp sp R i w w' → (F.getD j (.det undef)).says x w' := by
  intro i j x w w' hn hij hC hx hT
  unfold TSp at hT
  cases ha : sp.find? (fun p => p.1 == i) with
  | none => rw [ha] at hT; exact (stabAll_at h j).use hC hx hT
  | some p =>
    rw [ha] at hT
    have hpm := List.mem_of_find?_eq_some ha
    have hpi : p.1 = i := by simpa using List.find?_some ha
    cases hd : (F.getD j (.det undef)).isDet with
    | true =>
      generalize F.getD j (.det undef) = f at *
      cases f with
      | det v => exact hx
      | held p => cases hd
      | used p => cases hd
    | false =>
      have hj : j < l.length := by
        rcases Nat.lt_or_ge j l.length with h | h
        · exact h
        · rw [List.getD_eq_getElem?_getD, List.getElem?_eq_none (by omega)] at hd; cases hd
      have h1 := List.all_eq_true.1 (List.all_eq_true.1 hchk i (List.mem_map.2 ⟨p, hpm, hpi⟩)) j (List.mem_range.2 hj)
      have e1 : ds.getD j true = (F.getD j (.det undef)).isDet := by rw [← hds]; exact map_getD Fact.isDet (.det undef) rfl j
      have e2 : ks.getD j true = (F.getD j (.det undef)).keeps := by rw [← hks]; exact map_getD Fact.keeps (.det undef) rfl j
      rw [e1, e2, hd] at h1
      unfold needB at hn
      rw [Bool.and_eq_true, Bool.not_eq_true'] at hn
      rw [hn.1, hn.2, show (j == i) = false from by simpa using fun e => hij e.symm] at h1
      have hm : (i, j) ∈ js := by simpa using h1
      have h2 := jsAll_at hjs i j hm
      rw [ha] at h2
      exact StabF.use h2 hC hx hT
def JpAll (Ph : List Phase) (C : World → Prop) (sp : List (Nat × (World → World → Prop))) : List (Nat × Nat) → Prop
  | [] => True
  | p :: r => (match sp.find? (fun q => q.1 == p.1), Ph[p.2]? with | some q, some ph => ∀ σ w w', C w → ph.p σ w → q.2 w w' → ph.p σ w' | _, _ => False) ∧ JpAll Ph C sp r
theorem jpAll_at {sp : List (Nat × (World → World → Prop))} : ∀ {jp : List (Nat × Nat)}, JpAll Ph C sp jp → ∀ i k, (i, k) ∈ jp → (match sp.find? (fun q => q.1 == i), Ph[k]? with | some q, some ph => ∀ σ w w', C w → ph.p σ w → q.2 w w' → ph.p σ w' | _, _ => False)
  | [], _, _, _, h => by cases h
  | p :: r, h, i, k, hm => by
    rcases List.mem_cons.1 hm with e | e
    · subst e; exact h.1
    · exact jpAll_at h.2 i k e
theorem phase_sp {R : World → World → Prop} (sp : List (Nat × (World → World → Prop))) (ps : List (Option Nat × Option Nat)) (jp : List (Nat × Nat)) (hps : Ph.map (fun ph => (ph.start, ph.upto)) = ps) (hchk : phChk l ps jp (sp.map (·.1)) = true) (h : ∀ ph ∈ Ph, ∀ σ w w', C w → ph.p σ w → R w w' → ph.p σ w') (hjp : JpAll Ph C sp jp) :
    ∀ i (ph : Phase) σ w w', ph ∈ Ph → ph.start ≠ some i → ph.upto ≠ some i → liveB l i ph.start ph.upto = true → C w → ph.p σ w → TSp sp R i w w' → ph.p σ w' := by
  intro i ph σ w w' hp hs hu hl hC hx hT
  unfold TSp at hT
  cases ha : sp.find? (fun p => p.1 == i) with
  | none => rw [ha] at hT; exact h ph hp σ w w' hC hx hT
  | some p =>
    rw [ha] at hT
    have hpm := List.mem_of_find?_eq_some ha
    have hpi : p.1 = i := by simpa using List.find?_some ha
    obtain ⟨k, hk, hke⟩ := List.getElem_of_mem hp
    have hkp : ps[k]? = some (ph.start, ph.upto) := by
      rw [← hps, List.getElem?_map, List.getElem?_eq_getElem hk, hke]; rfl
    have h1 := List.all_eq_true.1 (List.all_eq_true.1 hchk i (List.mem_map.2 ⟨p, hpm, hpi⟩)) k (List.mem_range.2 (List.getElem?_eq_some_iff.1 hkp).1)
    rw [hkp] at h1
    simp only [Bool.or_eq_true, beq_iff_eq, hl, Bool.not_true] at h1
    rcases h1 with ((h1 | h1) | h1) | h1
    · exact absurd h1 hs
    · exact absurd h1 hu
    · cases h1
    · have h2 := jpAll_at hjp i k (by simpa using h1)
      rw [ha, List.getElem?_eq_getElem hk, hke] at h2
      exact h2 σ w w' hC hx hT
/-- what only makes memory -/
def Grows (w w' : World) : Prop := Below w.heap.size w w'
theorem Grows.refl (w : World) : Grows w w := Below.refl _ _
end
end Go.Proofs.YtaljodmhalodhaaDoor
/-
  Walks by facts on slots: what each slot holds is a list; each operation is one step, shown from what it looks at alone.
-/
namespace Go.Proofs.YtaljodmhalodhaaDoor
open Go Go.RowKit
abbrev Env := List (Nat × Value)
def look : Env → Nat → Option Value
  | [], _ => none
  | (s, v) :: r, t => bif Nat.beq s t then some v else look r t
/-- the same, as it is reckoned out -/
def lookS : Env → Nat → Option Value
  | [], _ => none
  | (s, v) :: r, t => bif s == t then some v else lookS r t
theorem beq_two (s t : Nat) : (s == t) = Nat.beq s t := by
  rw [Bool.eq_iff_iff, beq_iff_eq]
  exact ⟨fun h => h ▸ Nat.beq_refl s, Nat.eq_of_beq_eq_true⟩
theorem lookS_eq (t : Nat) : ∀ Γ : Env, lookS Γ t = look Γ t
  | [] => rfl
  | (s, v) :: r => by
    unfold lookS look
    rw [lookS_eq t r, beq_two]
theorem look_cons (t : Nat) (v : Value) (s : Nat) (Γ : Env) : look ((t, v) :: Γ) s = bif t == s then some v else look Γ s := by rw [beq_two]; rfl
def keepE : List Nat → Env → Env
  | [], _ => []
  | t :: ks, Γ => match lookS Γ t with | some v => (t, v) :: keepE ks Γ | none => keepE ks Γ
theorem look_keep {t : Nat} {v : Value} {Γ : Env} : ∀ {ks : List Nat}, look (keepE ks Γ) t = some v → look Γ t = some v
  | [], h => by cases h
  | k :: ks, h => by
    unfold keepE at h
    cases hk : lookS Γ k with
    | none => rw [hk] at h; exact look_keep h
    | some u =>
      rw [hk] at h
      rw [look_cons] at h
      by_cases e : k = t
      · subst e
        simp only [beq_self_eq_true, cond_true] at h
        rw [← lookS_eq, hk, h]
      · have h2 : (k == t) = false := by simpa using e
        rw [h2, cond_false] at h
        exact look_keep h
def argsE : Nat → List Value → Env
  | _, [] => []
  | i, v :: r => (i, v) :: argsE (i + 1) r
theorem look_args {t : Nat} {v : Value} : ∀ {i : Nat} {l : List Value}, look (argsE i l) t = some v → i ≤ t ∧ l[t - i]? = some v
  | _, [], h => by cases h
  | i, x :: r, h => by
    unfold argsE at h
    rw [look_cons] at h
    by_cases e : i = t
    · subst e
      simp only [beq_self_eq_true, cond_true] at h
      simpa using h
    · have h2 : (i == t) = false := by simpa using e
      rw [h2, cond_false] at h
      obtain ⟨h3, h4⟩ := look_args h
      refine ⟨by omega, ?_⟩
      rw [show t - i = (t - (i + 1)) + 1 by omega]
      simpa using h4
/-- what a frame holds -/
structure At (n : Nat) (Γ : Env) (a : Act) : Prop where
  size : a.tmps.size = n
  defers : a.defers = []
  env : ∀ t v, look Γ t = some v → a.tmps[t]? = some v
structure EvIn (Γ : Env) (ev : Operand → Value) : Prop where
  ok : EvOk ev
  env : ∀ t v, look Γ t = some v → ev (.tmp t) = v
/-- what an operand is, out of a list -/
def lookD (e : Nat → Value) (t : Nat) : Env → Value
  | [] => e t
  | (s, v) :: r => bif Nat.beq s t then v else lookD e t r
@[go_sem ↓] theorem lookD_hit (e : Nat → Value) (t : Nat) (v : Value) (Γ : Env) : lookD e t ((t, v) :: Γ) = v := by unfold lookD; rw [Nat.beq_refl]; rfl
@[go_sem ↓] theorem lookD_miss (e : Nat → Value) {s t : Nat} (v : Value) (Γ : Env) (h : (s == t) = false) : lookD e t ((s, v) :: Γ) = lookD e t Γ := by
  rw [beq_two] at h
  show (bif Nat.beq s t then v else lookD e t Γ) = _
  rw [h]; rfl
theorem lookD_eq (e : Nat → Value) (t : Nat) : ∀ Γ : Env, (∀ v, look Γ t = some v → e t = v) → lookD e t Γ = e t
  | [], _ => rfl
  | (s, v) :: r, h => by
    unfold lookD
    unfold look at h
    cases hb : Nat.beq s t with
    | true => rw [hb] at h; rw [cond_true]; exact (h v rfl).symm
    | false => rw [hb] at h; rw [cond_false]; exact lookD_eq e t r h
abbrev EvT (Γ : Env) (e : Nat → Value) (ev : Operand → Value) : Prop := (∀ v, ev (.const v) = v) ∧ (∀ g, ev (.global g) = .pointer (some ⟨g, 0, none⟩)) ∧ (∀ f, ev (.func f) = .func (.func f) #[] #[]) ∧ ∀ t, ev (.tmp t) = lookD e t Γ
theorem EvIn.evt {Γ : Env} {ev : Operand → Value} (h : EvIn Γ ev) : EvT Γ (fun t => ev (.tmp t)) ev :=
  ⟨h.ok.const, h.ok.global, h.ok.func, fun t => (lookD_eq (fun t => ev (.tmp t)) t Γ fun v e => h.env t v e).symm⟩
def callOk (fn : Func) : Bool := !(fn.name == "runtime.NumGoroutine") && fn.body.isSome
/-- a call of a function that has a body -/
theorem exec_call {P : Program} {ev : Operand → Value} {o : Oper} {f : FuncId} {fn : Func} {ops : Array Operand} {tys : Array TypeId} {vals : Array Value} {w : World} (hf : P.funcs[f]? = some fn) (hc : callOk fn = true)
    (ho : o.op = .call { callee := .value (.func f), args := ops, argTypes := tys }) (hF : ev (.func f) = .func (.func f) #[] #[]) (hv : ops.map ev = vals) : (execOp ev o).run P w = .ok (.enter f vals) w := by
  unfold callOk at hc
  rw [Bool.and_eq_true, Bool.not_eq_true'] at hc
  have hn : ¬ fn.name = "runtime.NumGoroutine" := by simpa using hc.1
  have hb : ¬ fn.body = none := by
    have := hc.2
    cases h : fn.body with
    | none => rw [h] at this; cases this
    | some c => simp
  unfold execOp
  simp only [ho]
  simp [resolve, Deferred.ofValue, hF, hv, invoke, callFunc, hf, hn, hb]
section
variable {P : Program} {Q Q0 : Exit → Act → World → Prop} {a : Act} {w w' : World} {n : Nat} {Γ Γ' : Env} {l rest : List Oper} {o : Oper} {t : Nat} {v : Value} {ev : Operand → Value} {q b : Bool} {next : Act → World → Prop} {id : Nat}
theorem EvIn.get (h : EvIn Γ ev) (t : Nat) {v : Value} (e : look Γ t = some v) : ev (.tmp t) = v := h.env t v e
theorem EvIn.c (h : EvIn Γ ev) (v : Value) : ev (.const v) = v := h.ok.const v
theorem EvIn.g (h : EvIn Γ ev) (g : Nat) : ev (.global g) = .pointer (some ⟨g, 0, none⟩) := h.ok.global g
theorem EvIn.f (h : EvIn Γ ev) (f : FuncId) : ev (.func f) = .func (.func f) #[] #[] := h.ok.func f
theorem At.evin (h : At n Γ a) : EvIn Γ a.eval := ⟨evOk a, fun t v e => by
  have := h.env t v e
  simp [Act.eval, this]⟩
theorem At.getD (h : At n Γ a) (t : Nat) {v : Value} (e : look Γ t = some v) : a.tmps.getD t undef = v := by
  rw [Array.getD_eq_getD_getElem?, h.env t v e]; rfl
theorem At.put (h : At n Γ a) (ht : t < n) (v : Value) : At n ((t, v) :: Γ) (a.put (some t) v) := by
  refine ⟨by rw [put_size, h.size], by rw [put_def, h.defers], fun s u e => ?_⟩
  rw [look_cons] at e
  by_cases hts : t = s
  · subst hts
    simp only [beq_self_eq_true, cond_true, Option.some.injEq] at e
    subst e
    have : t < a.tmps.size := by rw [h.size]; exact ht
    simp [Act.put, this]
  · have h2 : (t == s) = false := by simpa using hts
    rw [h2, cond_false] at e
    rw [put_other (fun e => hts (Option.some.inj e))]
    exact h.env s u e
theorem At.keep (h : At n Γ a) (ks : List Nat) : At n (keepE ks Γ) a := ⟨h.size, h.defers, fun t v e => h.env t v (look_keep e)⟩
theorem At.to (h : At n Γ a) (e : Γ = Γ') : At n Γ' a := e ▸ h
/-- a call, entered -/
theorem calls_at {f : FuncId} {fn : Func} {c : Code} {args : Array Value} {R : Ending → World → Prop} (n : Nat) (hf : P.funcs[f]? = some fn) (hb : fn.body = some c) (hn : fn.ntmps = n) (ha : args.size ≤ n)
    (h : ∀ a, At n (argsE 0 args.toList) a → c.wp P (bodyPost P fn R) a w) : Calls P f args w R := by
  refine calls_of_wp hf hb (h _ ⟨?_, rfl, fun t v e => ?_⟩)
  · simp [hn]; omega
  · have h2 := (look_args e).2
    rw [Nat.sub_zero, Array.getElem?_toList] at h2
    show (args ++ Array.replicate (fn.ntmps - args.size) undef)[t]? = some v
    have hlt := (Array.getElem?_eq_some_iff.1 h2).1
    rw [Array.getElem?_append_left hlt]
    exact h2
-- the ways on
theorem n_then (h : next a w) : Exit.then next Q .normal a w := h
theorem n_block (h : Q .normal a w) : Exit.inBlock id Q .normal a w := h
theorem x_then {k : Nat} (h : Q (.exit k) a w) : Exit.then next Q (.exit k) a w := h
theorem x_block (h : Q .normal a w) : Exit.inBlock id Q (.exit id) a w := by
  show (if id = id then Q .normal a w else Q (.exit id) a w)
  rw [if_pos rfl]; exact h
theorem x_miss {k : Nat} (hk : k ≠ id) (h : Q (.exit k) a w) : Exit.inBlock id Q (.exit k) a w := by
  show (if k = id then Q .normal a w else Q (.exit k) a w)
  rw [if_neg hk]; exact h
theorem r_then (h : Q .ret a w) : Exit.then next Q .ret a w := h
theorem r_block (h : Q .ret a w) : Exit.inBlock id Q .ret a w := h
theorem wl_nil {ops : Array Oper} (h : Q .normal a w) : wpList P ops Q [] a w := h
/-- a test -/
theorem wp_if {x y : Code} (hA : At n Γ a) (t : Nat) (q : Bool) (hl : look Γ t = some (.bool q)) (ht : q = true → x.wp P Q a w) (hf : q = false → y.wp P Q a w) : (Code.cond (.tmp t) x y).wp P Q a w :=
  wp_cond_split (hA.evin.get t hl) ht hf
/-- what comes behind is shown once -/
theorem wp_seq_cut {x y : Code} (R : Act → World → Prop) (h : x.wp P (Exit.then R Q) a w) (hy : ∀ a w, R a w → y.wp P Q a w) : (Code.seq x y).wp P Q a w :=
  wp_seq (wp_mono h fun e a w q => by cases e <;> first | exact hy _ _ q | exact q)
/-- what comes behind a test is shown once -/
theorem wp_join {x y : Code} (R : Act → World → Prop) (h : x.wp P (Exit.then R Q) a w) (hy : ∀ a w, R a w → y.wp P Q a w) : x.wp P (Exit.then (y.wp P Q) Q) a w :=
  wp_mono h fun e a w q => by cases e <;> first | exact hy _ _ q | exact q
/-- a loop; the number goes down -/
theorem wp_loop_at {c : Code} (I : Nat → Act → World → Prop) (k : Nat) (h0 : I k a w) (round : ∀ k a w, I k a w → c.wp P (Exit.then (fun a' w' => ∃ k', k' < k ∧ I k' a' w') Q) a w) : (Code.loop c).wp P Q a w :=
  wp_loop_ghost I k h0 round
-- operations, in the text's order
theorem wl_op {v : Value} (hA : At n Γ a) (hg : o.guard = none) (hd : o.dst = some t) (ht : t < n) (hrun : ∀ ev, EvIn Γ ev → (execOp ev o).run P w = .ok (.value v) w')
    (hk : ∀ a', At n ((t, v) :: Γ) a' → wpList P l.toArray Q rest a' w') : wpList P l.toArray Q (o :: rest) a w := by
  refine wpList_plain hg fun K hK => ?_
  unfold Oper.wp
  rw [hrun _ hA.evin, Oper.upon_value, hd]
  exact hK _ _ (hk _ (hA.put ht v))
/-- new memory -/
theorem wl_new {v : Value} {x : Obj} (hA : At n Γ a) (hg : o.guard = none) (hd : o.dst = some t) (ht : t < n) (hrun : ∀ ev, EvIn Γ ev → (execOp ev o).run P w = .ok (.value v) (w.alloc x))
    (hk : ∀ w1 a', w1.heap[w.heap.size]? = some x → w1.heap.size = w.heap.size + 1 → Below w.heap.size w w1 → At n ((t, v) :: Γ) a' → wpList P l.toArray Q rest a' w1) : wpList P l.toArray Q (o :: rest) a w :=
  wl_op hA hg hd ht hrun fun a' hA' => hk _ a' (heap_alloc_new w x) (by simp) ((Below.refl _ _).alloc (Nat.le_refl _) x) hA'
/-- cells, one behind the other, are set -/
def setAll (w : World) (g : Nat) : Nat → List Value → World
  | _, [] => w
  | i, c :: r => setAll (w.setCell ⟨g, i, none⟩ c) g (i + 1) r
theorem blk_setAll {g : Nat} {T : TypeId} : ∀ (cs : List Value) (i : Nat) (w : World) (z : List Value), Blk w g T z.toArray → i + cs.length = z.length → Blk (setAll w g i cs) g T (z.take i ++ cs).toArray
  | [], i, w, z, h, hl => by
    have e : z.take i = z := List.take_of_length_le (by simp at hl; omega)
    rw [e, List.append_nil]
    exact h
  | c :: r, i, w, z, h, hl => by
    rw [List.length_cons] at hl
    have h2 := h.set_ i c
    rw [List.setIfInBounds_toArray] at h2
    have h3 := blk_setAll r (i + 1) _ _ h2 (by rw [List.length_set]; omega)
    have e : (z.set i c).take (i + 1) ++ r = z.take i ++ c :: r := by
      have hi : i < (z.set i c).length := by rw [List.length_set]; omega
      rw [List.take_succ_eq_append_getElem hi, List.getElem_set_self, List.take_set_of_le (Nat.le_refl i), List.append_assoc]
      rfl
    rw [e] at h3
    exact h3
theorem below_setAll {B g : Nat} {W : World} (hg : B ≤ g) : ∀ (cs : List Value) (i : Nat) (w : World), Below B W w → Below B W (setAll w g i cs)
  | [], _, _, h => h
  | c :: r, i, w, h => below_setAll hg r (i + 1) _ (Below.setCell h (by exact hg) c)
theorem size_setAll {g : Nat} : ∀ (cs : List Value) (i : Nat) (w : World), (setAll w g i cs).heap.size = w.heap.size
  | [], _, _ => rfl
  | c :: r, i, w => by
    show (setAll _ g (i + 1) r).heap.size = _
    rw [size_setAll r]
    simp
/-- a variable of its own, made and set -/
theorem wl_local {o2 : Oper} {T : TypeId} {z : List Value} (cs : List Value) (hA : At n Γ a) (hg : o.guard = none) (hd : o.dst = some t) (ht : t < n) (hrun : ∀ ev, EvIn Γ ev → (execOp ev o).run P w = .ok (.value (.pointer (some ⟨w.heap.size, 0, none⟩))) (w.alloc (.cells z.toArray T)))
    (hg2 : o2.guard = none) (hd2 : o2.dst = none) (hz : cs.length = z.length) (hrun2 : ∀ w1 g ev, Blk w1 g T z.toArray → EvIn ((t, .pointer (some ⟨g, 0, none⟩)) :: Γ) ev → (execOp ev o2).run P w1 = .ok .skip (setAll w1 g 0 cs))
    (hk : ∀ w1 a', Blk w1 w.heap.size T cs.toArray → w1.heap.size = w.heap.size + 1 → Below w.heap.size w w1 → At n ((t, .pointer (some ⟨w.heap.size, 0, none⟩)) :: Γ) a' → wpList P l.toArray Q rest a' w1) : wpList P l.toArray Q (o :: o2 :: rest) a w := by
  refine wl_op hA hg hd ht hrun fun a' hA' => ?_
  have hb : Blk (w.alloc (.cells z.toArray T)) w.heap.size T z.toArray := heap_alloc_new w _
  refine wpList_plain hg2 fun K hK => ?_
  unfold Oper.wp
  rw [hrun2 _ w.heap.size _ hb hA'.evin, Oper.upon_skip, hd2]
  refine hK _ _ (hk _ a' ?_ ?_ ?_ hA')
  · have := blk_setAll cs 0 _ _ hb (by omega)
    simpa using this
  · rw [size_setAll]; simp
  · exact below_setAll (Nat.le_refl _) cs 0 _ ((Below.refl _ _).alloc (Nat.le_refl _) _)
/-- only one block has turned -/
structure Only (g : Nat) (w w' : World) : Prop where
  os : w'.os = w.os
  tape : w'.tape = w.tape
  output : w'.output = w.output
  size : w'.heap.size = w.heap.size
  block : ∀ i, i ≠ g → w'.heap[i]? = w.heap[i]?
theorem Only.refl (g : Nat) (w : World) : Only g w w := ⟨rfl, rfl, rfl, rfl, fun _ _ => rfl⟩
theorem Only.trans {g : Nat} {w w' w'' : World} (h : Only g w w') (k : Only g w' w'') : Only g w w'' := ⟨k.os.trans h.os, k.tape.trans h.tape, k.output.trans h.output, k.size.trans h.size, fun i hi => (k.block i hi).trans (h.block i hi)⟩
theorem Only.set {g i : Nat} {w : World} {u : Value} : Only g w (w.setCell ⟨g, i, none⟩ u) := ⟨rfl, rfl, rfl, by simp, fun j hj => Below.heap_setCell _ _ _ _ hj⟩
theorem Only.setAll {g : Nat} : ∀ (cs : List Value) (i : Nat) (w : World), Only g w (setAll w g i cs)
  | [], _, w => Only.refl g w
  | _ :: r, i, _ => Only.set.trans (Only.setAll r (i + 1) _)
theorem Only.below {g B : Nat} {W w w' : World} (h : Only g w w') (hb : Below B W w) (hg : B ≤ g) : Below B W w' :=
  ⟨h.os.trans hb.os, h.tape.trans hb.tape, h.output.trans hb.output, by rw [h.size]; exact hb.size, fun i hi => (h.block i (by omega)).trans (hb.block i hi)⟩
theorem Only.blk {g k : Nat} {T : TypeId} {cs : Array Value} {w w' : World} (h : Only g w w') (hb : Blk w k T cs) (hk : k ≠ g) : Blk w' k T cs := (h.block k hk).trans hb
/-- a whole variable is set -/
theorem wl_set {g : Nat} {T : TypeId} {z : List Value} (cs : List Value) (hA : At n Γ a) (hg : o.guard = none) (hd : o.dst = none) (hK : Blk w g T z.toArray) (hz : cs.length = z.length) (hrun : ∀ ev, EvIn Γ ev → (execOp ev o).run P w = .ok .skip (setAll w g 0 cs))
    (hk : ∀ w1, Blk w1 g T cs.toArray → Only g w w1 → wpList P l.toArray Q rest a w1) : wpList P l.toArray Q (o :: rest) a w := by
  refine wpList_plain hg fun K hK' => ?_
  unfold Oper.wp
  rw [hrun _ hA.evin, Oper.upon_skip, hd]
  refine hK' _ _ (hk _ ?_ (Only.setAll cs 0 w))
  have := blk_setAll cs 0 _ _ hK (by omega)
  simpa using this
theorem wl_skip (hA : At n Γ a) (hg : o.guard = none) (hd : o.dst = none) (hrun : ∀ ev, EvIn Γ ev → (execOp ev o).run P w = .ok .skip w')
    (hk : wpList P l.toArray Q rest a w') : wpList P l.toArray Q (o :: rest) a w := by
  refine wpList_plain hg fun K hK => ?_
  unfold Oper.wp
  rw [hrun _ hA.evin, Oper.upon_skip, hd]
  exact hK _ _ hk
theorem wl_call {f : FuncId} {args : Array Value} {R : Ending → World → Prop} (hA : At n Γ a) (hg : o.guard = none) (hd : o.dst = some t) (ht : t < n) (hrun : ∀ ev, EvIn Γ ev → (execOp ev o).run P w = .ok (.enter f args) w)
    (hc : Calls P f args w R) (hk : ∀ e w', R e w' → ∃ v, e = .returned v ∧ ∀ a', At n ((t, v) :: Γ) a' → wpList P l.toArray Q rest a' w') : wpList P l.toArray Q (o :: rest) a w := by
  refine wpList_plain hg fun K hK => ?_
  unfold Oper.wp
  rw [hrun _ hA.evin, Oper.upon_enter]
  refine Calls.mono hc fun e w' hR => ?_
  obtain ⟨v, rfl, h⟩ := hk e w' hR
  rw [hd]
  exact hK _ _ (h _ (hA.put ht v))
/-- a call whose answer goes nowhere -/
theorem wl_call0 {f : FuncId} {args : Array Value} {R : Ending → World → Prop} (hA : At n Γ a) (hg : o.guard = none) (hd : o.dst = none) (hrun : ∀ ev, EvIn Γ ev → (execOp ev o).run P w = .ok (.enter f args) w)
    (hc : Calls P f args w R) (hk : ∀ e w', R e w' → ∃ v, e = .returned v ∧ wpList P l.toArray Q rest a w') : wpList P l.toArray Q (o :: rest) a w := by
  refine wpList_plain hg fun K hK => ?_
  unfold Oper.wp
  rw [hrun _ hA.evin, Oper.upon_enter]
  refine Calls.mono hc fun e w' hR => ?_
  obtain ⟨v, rfl, h⟩ := hk e w' hR
  rw [hd]
  exact hK _ _ h
/-- what a guarded operation leaves -/
def gw (c : Bool) (v : Value) : Value := bif c then v else undef
abbrev gv (q b : Bool) (v : Value) : Value := gw (q == b) v
theorem gw_t {c : Bool} {v : Value} (h : c = true) : gw c v = v := by rw [h]; rfl
theorem gw_a {c d : Bool} {v : Value} (h : c = true) : gw (c && d) v = gw d v := by rw [h]; rfl
theorem beq_t {q b : Bool} (h : q = b) : (q == b) = true := by rw [h]; cases b <;> rfl
theorem and_beq {c r b : Bool} (h : c = true) (k : r = b) : (c && (r == b)) = true := by rw [h, k]; cases b <;> rfl
theorem and_l {c d : Bool} (h : (c && d) = true) : c = true := (Bool.and_eq_true _ _ ▸ h : c = true ∧ d = true).1
theorem gv_same (b : Bool) (v : Value) : gv b b v = v := by cases b <;> rfl
theorem gv_tt (v : Value) : gw (true == true) v = v := rfl
theorem gv_ff (v : Value) : gw (false == false) v = v := rfl
theorem gv_or (q r : Bool) : (if q = true then Value.bool true else gw (q == false) (.bool r)) = .bool (q || r) := by cases q <;> rfl
theorem gv_and (q r : Bool) : (if q = true then gw (q == true) (.bool r) else Value.bool false) = .bool (q && r) := by cases q <;> rfl
theorem pick_and {c x y : Operand} {r : Bool} (ho : o.op = .pick c x y) (hc : ev c = .bool q) (hx : ev x = gv q true (.bool r)) (hy : ev y = .bool false) : (execOp ev o).run P w = .ok (.value (.bool (q && r))) w := by
  unfold execOp
  rw [ho]
  cases q <;> simp [go_sem, hc, hx, hy, gw]
theorem pick_or {c x y : Operand} {r : Bool} (ho : o.op = .pick c x y) (hc : ev c = .bool q) (hx : ev x = .bool true) (hy : ev y = gv q false (.bool r)) : (execOp ev o).run P w = .ok (.value (.bool (q || r))) w := by
  unfold execOp
  rw [ho]
  cases q <;> simp [go_sem, hc, hx, hy, gw]
theorem wl_guard {gi gt : Nat} {v : Value} (q : Bool) (hA : At n Γ a) (hg : o.guard = some (gi, b)) (hgd : (l[gi]?).bind (·.dst) = some gt) (hl : look Γ gt = some (.bool q)) (hd : o.dst = some t) (ht : t < n)
    (hrun : q = b → ∀ ev, EvIn Γ ev → (execOp ev o).run P w = .ok (.value v) w) (hk : ∀ a', At n ((t, gv q b v) :: Γ) a' → wpList P l.toArray Q rest a' w) : wpList P l.toArray Q (o :: rest) a w := by
  have hw : Region.wanted o (yielded l.toArray a.tmps) = (q == b) := by
    rw [wanted_eq]
    exact wanted_bool hg hgd (hA.evin.get gt hl) rfl
  refine wpList_step fun K hK => ?_
  rw [hw]
  cases hqb : q == b with
  | true =>
    rw [if_pos rfl]
    unfold Oper.wp
    rw [hrun (by simpa using hqb) _ hA.evin, Oper.upon_value, hd]
    have := hk _ (hA.put ht (gv q b v))
    unfold gv gw at this
    rw [hqb] at this
    exact hK _ _ this
  | false =>
    rw [if_neg (by simp), hd]
    have := hk _ (hA.put ht (gv q b v))
    unfold gv gw at this
    rw [hqb] at this
    exact hK _ _ this
/-- a guard that is guarded itself -/
theorem wl_guard2 {gi gt : Nat} {v : Value} (c r : Bool) (hA : At n Γ a) (hg : o.guard = some (gi, b)) (hgd : (l[gi]?).bind (·.dst) = some gt) (hl : look Γ gt = some (gw c (.bool r))) (hd : o.dst = some t) (ht : t < n)
    (hrun : c = true → r = b → ∀ ev, EvIn Γ ev → (execOp ev o).run P w = .ok (.value v) w) (hk : ∀ a', At n ((t, gw (c && (r == b)) v) :: Γ) a' → wpList P l.toArray Q rest a' w) : wpList P l.toArray Q (o :: rest) a w := by
  have hev := hA.evin.get gt hl
  have hw : Region.wanted o (yielded l.toArray a.tmps) = (c && (r == b)) := by
    rw [wanted_eq]
    unfold wantedBy
    rw [hg]
    simp only [hgd, hev]
    unfold gw
    cases c <;> rfl
  refine wpList_step fun K hK => ?_
  rw [hw]
  have h3 := hk _ (hA.put ht (gw (c && (r == b)) v))
  unfold gw at h3
  cases hcb : c && (r == b) with
  | true =>
    rw [hcb] at h3
    rw [if_pos rfl]
    rw [Bool.and_eq_true, beq_iff_eq] at hcb
    unfold Oper.wp
    rw [hrun hcb.1 hcb.2 _ hA.evin, Oper.upon_value, hd]
    exact hK _ _ h3
  | false =>
    rw [hcb] at h3
    rw [if_neg (by simp), hd]
    exact hK _ _ h3
/-- a guarded call -/
theorem wl_gcall {gi gt : Nat} {f : FuncId} {args : Array Value} {R : Ending → World → Prop} (q : Bool) (hA : At n Γ a) (hg : o.guard = some (gi, b)) (hgd : (l[gi]?).bind (·.dst) = some gt) (hl : look Γ gt = some (.bool q)) (hd : o.dst = some t) (ht : t < n)
    (hrun : q = b → ∀ ev, EvIn Γ ev → (execOp ev o).run P w = .ok (.enter f args) w) (hc : q = b → Calls P f args w R) (K : Value → World → Prop)
    (hR : q = b → ∀ e w', R e w' → ∃ v, e = .returned v ∧ K v w') (hn : q ≠ b → K undef w) (hk : ∀ v a' w', K v w' → At n ((t, gv q b v) :: Γ) a' → wpList P l.toArray Q rest a' w') : wpList P l.toArray Q (o :: rest) a w := by
  have hw : Region.wanted o (yielded l.toArray a.tmps) = (q == b) := by
    rw [wanted_eq]
    exact wanted_bool hg hgd (hA.evin.get gt hl) rfl
  refine wpList_step fun K' hK => ?_
  rw [hw]
  cases hqb : q == b with
  | true =>
    have e : q = b := by simpa using hqb
    rw [if_pos rfl]
    unfold Oper.wp
    rw [hrun e _ hA.evin, Oper.upon_enter]
    refine Calls.mono (hc e) fun e' w' hR' => ?_
    obtain ⟨v, rfl, h⟩ := hR e e' w' hR'
    rw [hd]
    have := hk v _ w' h (hA.put ht (gv q b v))
    unfold gv gw at this
    rw [hqb] at this
    exact hK _ _ this
  | false =>
    rw [if_neg (by simp), hd]
    have := hk undef _ w (hn (by simpa using hqb)) (hA.put ht (gv q b undef))
    unfold gv gw at this
    rw [hqb] at this
    exact hK _ _ this
/-- a guarded call that answers with a value and makes memory alone -/
theorem wl_gcallv {gi gt : Nat} {f : FuncId} {args : Array Value} {v : Value} (q : Bool) (hA : At n Γ a) (hg : o.guard = some (gi, b)) (hgd : (l[gi]?).bind (·.dst) = some gt) (hl : look Γ gt = some (.bool q)) (hd : o.dst = some t) (ht : t < n)
    (hrun : q = b → ∀ ev, EvIn Γ ev → (execOp ev o).run P w = .ok (.enter f args) w) (hc : q = b → Calls P f args w fun e w' => e = .returned v ∧ Below w.heap.size w w')
    (hk : ∀ a' w', Below w.heap.size w w' → At n ((t, gv q b v) :: Γ) a' → wpList P l.toArray Q rest a' w') : wpList P l.toArray Q (o :: rest) a w := by
  have hw : Region.wanted o (yielded l.toArray a.tmps) = (q == b) := by
    rw [wanted_eq]
    exact wanted_bool hg hgd (hA.evin.get gt hl) rfl
  refine wpList_step fun K' hK => ?_
  rw [hw]
  cases hqb : q == b with
  | true =>
    have e : q = b := by simpa using hqb
    rw [if_pos rfl]
    unfold Oper.wp
    rw [hrun e _ hA.evin, Oper.upon_enter]
    refine Calls.mono (hc e) fun e' w' ⟨he, hb⟩ => ?_
    subst he
    rw [hd]
    have := hk _ w' hb (hA.put ht (gv q b v))
    unfold gv gw at this
    rw [hqb] at this
    exact hK _ _ this
  | false =>
    rw [if_neg (by simp), hd]
    have := hk _ w (Below.refl _ _) (hA.put ht (gv q b v))
    unfold gv gw at this
    rw [hqb] at this
    exact hK _ _ this
theorem wl_gcallv2 {gi gt : Nat} {f : FuncId} {args : Array Value} {v : Value} (c r : Bool) (hA : At n Γ a) (hg : o.guard = some (gi, b)) (hgd : (l[gi]?).bind (·.dst) = some gt) (hl : look Γ gt = some (gw c (.bool r))) (hd : o.dst = some t) (ht : t < n)
    (hrun : c = true → r = b → ∀ ev, EvIn Γ ev → (execOp ev o).run P w = .ok (.enter f args) w) (hc : c = true → r = b → Calls P f args w fun e w' => e = .returned v ∧ Below w.heap.size w w')
    (hk : ∀ a' w', Below w.heap.size w w' → At n ((t, gw (c && (r == b)) v) :: Γ) a' → wpList P l.toArray Q rest a' w') : wpList P l.toArray Q (o :: rest) a w := by
  have hev := hA.evin.get gt hl
  have hw : Region.wanted o (yielded l.toArray a.tmps) = (c && (r == b)) := by
    rw [wanted_eq]
    unfold wantedBy
    rw [hg]
    simp only [hgd, hev]
    unfold gw
    cases c <;> rfl
  refine wpList_step fun K' hK => ?_
  rw [hw]
  cases hqb : c && (r == b) with
  | true =>
    have e := hqb
    rw [Bool.and_eq_true, beq_iff_eq] at e
    rw [if_pos rfl]
    unfold Oper.wp
    rw [hrun e.1 e.2 _ hA.evin, Oper.upon_enter]
    refine Calls.mono (hc e.1 e.2) fun e' w' ⟨he, hb⟩ => ?_
    subst he
    rw [hd]
    have := hk _ w' hb (hA.put ht (gw (c && (r == b)) v))
    unfold gw at this
    rw [hqb] at this
    exact hK _ _ this
  | false =>
    rw [if_neg (by simp), hd]
    have := hk _ w (Below.refl _ _) (hA.put ht (gw (c && (r == b)) v))
    unfold gw at this
    rw [hqb] at this
    exact hK _ _ this
-- what is left behind a region whose order is open
def FinE (σ : Nat → Value) (K : Env → Prop) (w : World) : List (Oper × Fact) → Env → Prop
  | [], Γ => K Γ
  | (⟨some t, _, _, _, _, _⟩, .det v) :: r, Γ => FinE σ K w r ((t, v) :: Γ)
  | (⟨some t, _, _, _, _, _⟩, .held p) :: r, Γ => ∀ x, x = σ t → p x w → FinE σ K w r ((t, x) :: Γ)
  | (⟨some t, _, _, _, _, _⟩, .used _) :: r, Γ => ∀ x, x = σ t → FinE σ K w r ((t, x) :: Γ)
  | (⟨none, _, _, _, _, _⟩, _) :: r, Γ => FinE σ K w r Γ
theorem fin_env {σ : Nat → Value} {w : World} {ds : List Deferred} (hds : ds = []) : ∀ (m : List (Oper × Fact)) (arr : Array Value) (Γ : Env), (∀ p ∈ m, ∀ t, p.1.dst = some t → t < n) → At n Γ ⟨arr, ds⟩ → FinE σ (fun Γ => ∀ a', At n Γ a' → Q .normal a' w) w m Γ → FinK σ (fun arr => Q .normal ⟨arr, ds⟩ w) w m arr
  | [], arr, Γ, _, hA, h => h _ hA
  | (⟨d, _, _, _, _, _⟩, f) :: r, arr, Γ, hm, hA, h => by
    have hr := fun p hp => hm p (List.mem_cons_of_mem _ hp)
    cases d with
    | none => exact fin_env hds r arr Γ hr hA h
    | some t =>
      have ht : t < n := hm _ List.mem_cons_self t rfl
      cases f with
      | det v => exact fin_env hds r _ _ hr (hA.put ht v) h
      | held p => exact fun x he hx => fin_env hds r _ _ hr (hA.put ht x) (h x he hx)
      | used p => exact fun x he => fin_env hds r _ _ hr (hA.put ht x) (h x he)
def dstsB (l : List Oper) (n : Nat) : Bool := l.all fun o => match o.dst with | some t => decide (t < n) | none => true
theorem wp_any_at {id : Nat} {d : Bool} (hA : At n Γ a) (F : List Fact) (Ph : List Phase) (C : World → Prop) (T : Nat → World → World → Prop) (hm : P.follows .mixedOrders = true) (hdr : d = true) (hB : checkB l n = true) (hdB : dstsB l n = true) (hFl : F.length = l.length) (hC : C { w with drawn := w.drawn + 1 })
    (hstab : ∀ i j x w w', needB l F i j = true → i ≠ j → C w → (F.getD j (.det undef)).says x w → T i w w' → (F.getD j (.det undef)).says x w')
    (hph0 : ∀ ph ∈ Ph, ph.start = none → ph.p (sig a.eval) { w with drawn := w.drawn + 1 })
    (hph : ∀ i (ph : Phase) σ w w', ph ∈ Ph → ph.start ≠ some i → ph.upto ≠ some i → liveB l i ph.start ph.upto = true → C w → ph.p σ w → T i w w' → ph.p σ w')
    (hpl : ∀ ph ∈ Ph, ∀ a, ph.start = some a → a < l.length)
    (hob : ObAll P l F Ph C T a.tmps 0 l)
    (hlk : lkB l (Ph.map fun ph => (ph.start, ph.looks)) = true)
    (hfin : ∀ σ w', C w' → (∀ ph ∈ Ph, ph.upto = none → ph.p σ w') → FinE σ (fun Γ => ∀ a', At n Γ a' → Q .normal a' w') w' (l.zip F) Γ) : (Code.region id l.toArray d).wp P Q a w := by
  subst hdr
  refine wp_region_facts n F Ph C T hm hA.size hB hFl hC hstab hph0 hph hpl (ob_all hob) hlk fun σ w' hC' hp' => ?_
  refine fin_env hA.defers _ _ Γ (fun p hp t ht => ?_) hA (hfin σ w' hC' hp')
  have hpl := (List.of_mem_zip (a := p.1) (b := p.2) hp).1
  unfold dstsB at hdB
  have := List.all_eq_true.1 hdB p.1 hpl
  rw [ht] at this
  simpa using this
theorem see_env {F : List Fact} {o : Oper} {ev : Operand → Value} {w : World} {v : Value} (hA : At n Γ a) (hs : ∀ t ∈ o.looksAt l.toArray, slotSays l F a.tmps o t (ev (.tmp t)) w) (t : Nat) (h1 : (o.looksAt l.toArray).contains t = true) (h2 : srcOf l o t = none) (h3 : look Γ t = some v) : ev (.tmp t) = v :=
  see_out hs t h1 h2 (hA.env t v h3)
theorem ob_gv {F : List Fact} {Ph : List Phase} {C : World → Prop} {T : Nat → World → World → Prop} {i gi gt : Nat} {o : Oper} {ev : Operand → Value} {w : World} {v u : Value} {b : Bool} (q : Bool) (hg : o.guard = some (gi, b)) (hgd : (l[gi]?).bind (·.dst) = some gt) (hv : ev (.tmp gt) = .bool q) (hF : F.getD i (.det undef) = .det u) (hp : Ph.all (fun ph => ph.start != some i) = true) (hC : C w) (hT : T i w w) (h : q = b → (execOp ev o).run P w = .ok (.value v) w) (hu : u = gv q b v) :
    if wantedBy l o ev = true then Does P ev o w (fun v w' => C w' ∧ T i w w' ∧ (F.getD i (.det undef)).says v w' ∧ ∀ ph ∈ Ph, ph.start = some i → ph.p (sig ev) w') else T i w w ∧ (F.getD i (.det undef)).says undef w ∧ ∀ ph ∈ Ph, ph.start = some i → ph.p (sig ev) w := by
  subst hu
  have hw := wanted_bool (l := l) (r := (q == b)) hg hgd hv rfl
  cases hqb : q == b with
  | true =>
    rw [hqb] at hw
    refine ob_yes hw (does_value (h (by simpa using hqb)) ⟨hC, hT, ?_, no_start hp⟩)
    rw [hF]; unfold gv gw; rw [hqb]; rfl
  | false =>
    rw [hqb] at hw
    refine ob_no hw hT ?_ (no_start hp)
    rw [hF]; unfold gv gw; rw [hqb]; rfl
theorem ob_gw {F : List Fact} {Ph : List Phase} {C : World → Prop} {T : Nat → World → World → Prop} {i gi gt : Nat} {o : Oper} {ev : Operand → Value} {w : World} {v u : Value} {b : Bool} (c r : Bool) (hg : o.guard = some (gi, b)) (hgd : (l[gi]?).bind (·.dst) = some gt) (hv : ev (.tmp gt) = gw c (.bool r)) (hF : F.getD i (.det undef) = .det u) (hp : Ph.all (fun ph => ph.start != some i) = true) (hC : C w) (hT : T i w w) (h : c = true → r = b → (execOp ev o).run P w = .ok (.value v) w) (hu : u = gw (c && (r == b)) v) :
    if wantedBy l o ev = true then Does P ev o w (fun v w' => C w' ∧ T i w w' ∧ (F.getD i (.det undef)).says v w' ∧ ∀ ph ∈ Ph, ph.start = some i → ph.p (sig ev) w') else T i w w ∧ (F.getD i (.det undef)).says undef w ∧ ∀ ph ∈ Ph, ph.start = some i → ph.p (sig ev) w := by
  subst hu
  have hw : wantedBy l o ev = (c && (r == b)) := by
    unfold wantedBy
    rw [hg]
    simp only [hgd, hv]
    unfold gw
    cases c <;> rfl
  cases hqb : c && (r == b) with
  | true =>
    rw [hqb] at hw
    rw [Bool.and_eq_true, beq_iff_eq] at hqb
    refine ob_yes hw (does_value (h hqb.1 hqb.2) ⟨hC, hT, ?_, no_start hp⟩)
    rw [hF]; unfold gw; rw [hqb.1, hqb.2]; cases b <;> rfl
  | false =>
    rw [hqb] at hw
    refine ob_no hw hT ?_ (no_start hp)
    rw [hF]; unfold gw; rw [hqb]; rfl
/-- a guarded call, in a region whose order is open, that answers with a value and makes memory alone -/
theorem ob_gcall {F : List Fact} {Ph : List Phase} {C : World → Prop} {T : Nat → World → World → Prop} {i gi gt : Nat} {f : FuncId} {args : Array Value} {o : Oper} {ev : Operand → Value} {w : World} {v u : Value} {b : Bool} (q : Bool) (hg : o.guard = some (gi, b)) (hgd : (l[gi]?).bind (·.dst) = some gt) (hv : ev (.tmp gt) = .bool q) (hF : F.getD i (.det undef) = .det u) (hp : Ph.all (fun ph => ph.start != some i) = true) (hu : u = gv q b v)
    (h : q = b → (execOp ev o).run P w = .ok (.enter f args) w) (hc : q = b → Calls P f args w fun e w' => e = .returned v ∧ Below w.heap.size w w') (hk : ∀ w', Below w.heap.size w w' → C w' ∧ T i w w') :
    if wantedBy l o ev = true then Does P ev o w (fun v w' => C w' ∧ T i w w' ∧ (F.getD i (.det undef)).says v w' ∧ ∀ ph ∈ Ph, ph.start = some i → ph.p (sig ev) w') else T i w w ∧ (F.getD i (.det undef)).says undef w ∧ ∀ ph ∈ Ph, ph.start = some i → ph.p (sig ev) w := by
  subst hu
  have hw := wanted_bool (l := l) (r := (q == b)) hg hgd hv rfl
  cases hqb : q == b with
  | true =>
    rw [hqb] at hw
    have e : q = b := by simpa using hqb
    refine ob_yes hw (does_enter (h e) (Calls.mono (hc e) fun e' w' ⟨he, hb⟩ => ⟨_, he, (hk w' hb).1, (hk w' hb).2, ?_, no_start hp⟩))
    rw [hF]; unfold gv gw; rw [hqb]; rfl
  | false =>
    rw [hqb] at hw
    refine ob_no hw (hk w (Below.refl _ _)).2 ?_ (no_start hp)
    rw [hF]; unfold gv gw; rw [hqb]; rfl
/-- a call, in a region whose order is open, that answers with a value and makes memory alone -/
theorem ob_dcall {F : List Fact} {Ph : List Phase} {C : World → Prop} {T : Nat → World → World → Prop} {i : Nat} {f : FuncId} {args : Array Value} {o : Oper} {ev : Operand → Value} {w : World} {u v : Value} (hw : wantedBy l o ev = true) (hF : F.getD i (.det undef) = .det u) (hp : Ph.all (fun ph => ph.start != some i) = true)
    (hc : Calls P f args w fun e w' => e = .returned v ∧ Below w.heap.size w w') (h : (execOp ev o).run P w = .ok (.enter f args) w) (hu : u = v) (hk : ∀ w', Below w.heap.size w w' → C w' ∧ T i w w') :
    if wantedBy l o ev = true then Does P ev o w (fun v w' => C w' ∧ T i w w' ∧ (F.getD i (.det undef)).says v w' ∧ ∀ ph ∈ Ph, ph.start = some i → ph.p (sig ev) w') else T i w w ∧ (F.getD i (.det undef)).says undef w ∧ ∀ ph ∈ Ph, ph.start = some i → ph.p (sig ev) w :=
  ob_yes hw (does_enter h (Calls.mono hc fun _ w' ⟨he, hb⟩ => ⟨_, he, (hk w' hb).1, (hk w' hb).2, by rw [hF, hu]; rfl, no_start hp⟩))
theorem no_1 {i : Nat} (h : (none : Option Nat) = some i) : False := by cases h
theorem no_2 {i j : Nat} (hne : Nat.beq i j = false) (h : some i = some j) : False := by
  injection h with h
  subst h
  rw [Nat.beq_refl] at hne
  cases hne
theorem At.keepN (h : At n Γ a) (ks : List Nat) (e : keepE ks Γ = Γ' := by simp only [argsE, keepE, lookS, Nat.reduceBEq, cond_true, cond_false, Nat.reduceAdd, gv_tt, gv_ff, Bool.true_and, Bool.false_and, Bool.true_or, Bool.false_or] <;> rfl) : At n Γ' a := e ▸ h.keep ks
theorem At.norm (h : At n Γ a) (e : Γ = Γ' := by simp only [argsE, keepE, lookS, Nat.reduceBEq, cond_true, cond_false, Nat.reduceAdd, gv_tt, gv_ff, Bool.true_and, Bool.false_and, Bool.true_or, Bool.false_or] <;> rfl) : At n Γ' a := e ▸ h
theorem nT (h : next a w) : Exit.then next Q .normal a w := h
theorem nB (h : Q .normal a w) : Exit.inBlock id Q .normal a w := h
theorem xT {k : Nat} (h : Q (.exit k) a w) : Exit.then next Q (.exit k) a w := h
theorem xB (h : Q .normal a w) : Exit.inBlock id Q (.exit id) a w := x_block h
theorem rT (h : Q .ret a w) : Exit.then next Q .ret a w := h
theorem rB (h : Q .ret a w) : Exit.inBlock id Q .ret a w := h
theorem wN {ops : Array Oper} (h : Q .normal a w) : wpList P ops Q [] a w := h
theorem wS {x y : Code} (h : x.wp P (Exit.then (y.wp P Q) Q) a w) : (Code.seq x y).wp P Q a w := wp_seq h
theorem wB {c : Code} (h : c.wp P (Exit.inBlock id Q) a w) : (Code.block id c).wp P Q a w := wp_block h
theorem wR {ops : List Oper} (h : wpList P ops.toArray Q ops a w) : (Code.region id ops.toArray false).wp P Q a w := wp_region_lit h
/-- an operation, in a run of such -/
theorem wo {v : Value} (hg : o.guard = none) (hd : o.dst = some t) (ht : t < n) (hrun : ∀ ev e, EvT Γ e ev → (execOp ev o).run P w = .ok (.value v) w)
    (hk : ∀ a', At n ((t, v) :: Γ) a' → wpList P l.toArray Q rest a' w) : ∀ a, At n Γ a → wpList P l.toArray Q (o :: rest) a w :=
  fun _ hA => wl_op hA hg hd ht (fun ev h => hrun ev _ h.evt) hk
theorem wg {gi gt : Nat} {v : Value} (q : Bool) (hg : o.guard = some (gi, b)) (hgd : (l[gi]?).bind (·.dst) = some gt) (hl : look Γ gt = some (.bool q)) (hd : o.dst = some t) (ht : t < n)
    (hrun : q = b → ∀ ev e, EvT Γ e ev → (execOp ev o).run P w = .ok (.value v) w) (hk : ∀ a', At n ((t, gv q b v) :: Γ) a' → wpList P l.toArray Q rest a' w) : ∀ a, At n Γ a → wpList P l.toArray Q (o :: rest) a w :=
  fun _ hA => wl_guard q hA hg hgd hl hd ht (fun hq ev h => hrun hq ev _ h.evt) hk
theorem wg2 {gi gt : Nat} {v : Value} (c r : Bool) (hg : o.guard = some (gi, b)) (hgd : (l[gi]?).bind (·.dst) = some gt) (hl : look Γ gt = some (gw c (.bool r))) (hd : o.dst = some t) (ht : t < n)
    (hrun : c = true → r = b → ∀ ev e, EvT Γ e ev → (execOp ev o).run P w = .ok (.value v) w) (hk : ∀ a', At n ((t, gw (c && (r == b)) v) :: Γ) a' → wpList P l.toArray Q rest a' w) : ∀ a, At n Γ a → wpList P l.toArray Q (o :: rest) a w :=
  fun _ hA => wl_guard2 c r hA hg hgd hl hd ht (fun hc hq ev h => hrun hc hq ev _ h.evt) hk
theorem wka {tc tx : Nat} {r : Bool} (hg : o.guard = none) (hd : o.dst = some t) (ht : t < n) (ho : o.op = .pick (.tmp tc) (.tmp tx) (.const (.bool false))) (hc : look Γ tc = some (.bool q)) (hx : look Γ tx = some (gv q true (.bool r)))
    (hk : ∀ a', At n ((t, .bool (q && r)) :: Γ) a' → wpList P l.toArray Q rest a' w) : ∀ a, At n Γ a → wpList P l.toArray Q (o :: rest) a w :=
  fun _ hA => wl_op hA hg hd ht (fun _ h => pick_and ho (h.env _ _ hc) (h.env _ _ hx) (h.c _)) hk
theorem wko {tc tx : Nat} {r : Bool} (hg : o.guard = none) (hd : o.dst = some t) (ht : t < n) (ho : o.op = .pick (.tmp tc) (.const (.bool true)) (.tmp tx)) (hc : look Γ tc = some (.bool q)) (hx : look Γ tx = some (gv q false (.bool r)))
    (hk : ∀ a', At n ((t, .bool (q || r)) :: Γ) a' → wpList P l.toArray Q rest a' w) : ∀ a, At n Γ a → wpList P l.toArray Q (o :: rest) a w :=
  fun _ hA => wl_op hA hg hd ht (fun _ h => pick_or ho (h.env _ _ hc) (h.c _) (h.env _ _ hx)) hk
theorem mL : (∀ (f : Operand → Value) (l : List Operand), l.toArray.map f = (l.map f).toArray) ∧ (∀ (f : Operand → Value) (x : Operand) (l : List Operand), (x :: l).map f = f x :: l.map f) ∧ ∀ (f : Operand → Value), ([] : List Operand).map f = [] := ⟨fun f l => by simp, fun _ _ _ => rfl, fun _ => rfl⟩
-- operations of a region whose order is open
section
variable {F : List Fact} {Ph : List Phase} {C : World → Prop} {T : Nat → World → World → Prop} {i : Nat} {a0 : Array Value}
abbrev Slots (l : List Oper) (F : List Fact) (a0 : Array Value) (o : Oper) (ev : Operand → Value) (w : World) : Prop := ∀ t ∈ o.looksAt l.toArray, slotSays l F a0 o t (ev (.tmp t)) w
theorem sd (hs : Slots l F a0 o ev w) (t j : Nat) {v : Value} (h1 : (o.looksAt l.toArray).contains t = true := by kernel_rfl) (h2 : srcOf l o t = some j := by kernel_rfl) (h3 : F.getD j (.det undef) = .det v := by rfl) : ev (.tmp t) = v := see_det hs t j h1 h2 h3
theorem se (hA : At n Γ a) (hs : Slots l F a.tmps o ev w) (t : Nat) {v : Value} (h1 : (o.looksAt l.toArray).contains t = true := by kernel_rfl) (h2 : srcOf l o t = none := by kernel_rfl) (h3 : look Γ t = some v := by rfl) : ev (.tmp t) = v := see_out hs t h1 h2 (hA.env t v h3)
theorem sh {p : Value → World → Prop} (hs : Slots l F a0 o ev w) (t j : Nat) (h1 : (o.looksAt l.toArray).contains t = true := by kernel_rfl) (h2 : srcOf l o t = some j := by kernel_rfl) (h3 : F.getD j (.det undef) = .held p := by rfl) : p (ev (.tmp t)) w := see_held hs t j h1 h2 h3
theorem su {p : Value → World → Prop} (hs : Slots l F a0 o ev w) (t j : Nat) (h1 : (o.looksAt l.toArray).contains t = true := by kernel_rfl) (h2 : srcOf l o t = some j := by kernel_rfl) (h3 : F.getD j (.det undef) = .used p := by rfl) : p (ev (.tmp t)) w := see_used hs t j h1 h2 h3
theorem od {v : Value} (hg : o.guard = none) (hF : F.getD i (.det undef) = .det v) (hp : Ph.all (fun ph => ph.start != some i) = true) (hC : C w) (hT : T i w w) (h : (execOp ev o).run P w = .ok (.value v) w) :
    if wantedBy l o ev = true then Does P ev o w (fun v w' => C w' ∧ T i w w' ∧ (F.getD i (.det undef)).says v w' ∧ ∀ ph ∈ Ph, ph.start = some i → ph.p (sig ev) w') else T i w w ∧ (F.getD i (.det undef)).says undef w ∧ ∀ ph ∈ Ph, ph.start = some i → ph.p (sig ev) w :=
  ob_det (wanted_none hg) hF hp hC hT h
end
-- answers
theorem ret_1 {fn : Func} {R : Ending → World → Prop} (hA : At n Γ a) (t : Nat) {v : Value} (hr : fn.results = #[.tmp t]) (hl : look Γ t = some v) (hR : R (.returned v) w) : bodyPost P fn R .ret a w :=
  ⟨hA.defers, v, by rw [← hA.getD t hl]; simp [results, hr], hR⟩
theorem ret_2 {fn : Func} {R : Ending → World → Prop} (hA : At n Γ a) (t u : Nat) {x y : Value} (hr : fn.results = #[.tmp t, .tmp u]) (hl : look Γ t = some x) (hl2 : look Γ u = some y) (hR : R (.returned (.tuple #[x, y])) w) : bodyPost P fn R .ret a w :=
  ⟨hA.defers, _, by rw [← hA.getD t hl, ← hA.getD u hl2]; simp [results, hr], hR⟩
theorem ret_3 {fn : Func} {R : Ending → World → Prop} (hA : At n Γ a) (t u s : Nat) {x y z : Value} (hr : fn.results = #[.tmp t, .tmp u, .tmp s]) (hl : look Γ t = some x) (hl2 : look Γ u = some y) (hl3 : look Γ s = some z) (hR : R (.returned (.tuple #[x, y, z])) w) : bodyPost P fn R .ret a w :=
  ⟨hA.defers, _, by rw [← hA.getD t hl, ← hA.getD u hl2, ← hA.getD s hl3]; simp [results, hr], hR⟩
theorem ret_0 {fn : Func} {R : Ending → World → Prop} (hA : At n Γ a) (hr : fn.results = #[]) (hR : R (.returned (.tuple #[])) w) : bodyPost P fn R .ret a w :=
  ⟨hA.defers, _, by simp [results, hr], hR⟩
theorem end_0 {fn : Func} {R : Ending → World → Prop} (hA : At n Γ a) (hr : fn.results = #[]) (hR : R (.returned (.tuple #[])) w) : bodyPost P fn R .normal a w :=
  ⟨hA.defers, _, by simp [results, hr], hR⟩
end
end Go.Proofs.YtaljodmhalodhaaDoor
/-
  A slice that reads as a list, nil let in.
-/
namespace Go.Proofs.YtaljodmhalodhaaDoor
open Go.RowKit
theorem block_of_add (a : Addr) (n : Nat) : (a.add n).block = a.block := by unfold Addr.add; split <;> rfl
theorem add_of_add (a : Addr) (i j : Nat) : (a.add i).add j = a.add (i + j) := by
  unfold Addr.add
  by_cases hi : i = 0 <;> by_cases hj : j = 0 <;> simp [hi, hj, Nat.add_assoc]

def Reads (w : World) (B size : Nat) (A : Option Addr) (n : Nat) (xs : List Value) : Prop :=
  xs.length = n * size ∧ (0 < n → ∃ ad, A = some ad ∧ ad.block < B ∧ ∀ j u, xs[j]? = some u → w.cell? (ad.add j) = some u)

section
variable {w w' : World} {B B' size n : Nat} {A : Option Addr} {xs : List Value}
theorem Reads.none_ : Reads w B size A 0 [] := ⟨by simp, fun h => absurd h (by omega)⟩
theorem Reads.at_ {k : Nat} (h : Reads w B 1 A n xs) (hk : k < n) : ∃ ad u, A = some ad ∧ ad.block < B ∧ xs[k]? = some u ∧ w.cell? (ad.add k) = some u := by
  obtain ⟨ad, e, hb, hc⟩ := h.2 (by omega)
  have hl : k < xs.length := by have := h.1; omega
  exact ⟨ad, xs[k], e, hb, List.getElem?_eq_getElem hl, hc k _ (List.getElem?_eq_getElem hl)⟩
theorem Reads.keep (h : Reads w B size A n xs) (hk : ∀ p : Addr, p.block < B → w'.cell? p = w.cell? p) : Reads w' B size A n xs :=
  ⟨h.1, fun hn => by
    obtain ⟨ad, e, hb, hc⟩ := h.2 hn
    exact ⟨ad, e, hb, fun j u hu => (hk _ (by rw [block_of_add]; exact hb)).trans (hc j u hu)⟩⟩
theorem Reads.more (h : Reads w B size A n xs) (hB : B ≤ B') : Reads w B' size A n xs :=
  ⟨h.1, fun hn => by
    obtain ⟨ad, e, hb, hc⟩ := h.2 hn
    exact ⟨ad, e, by omega, hc⟩⟩
theorem Reads.below (h : Reads w B size A n xs) (hb : Below B w w') : Reads w' B size A n xs := h.keep fun _ hp => hb.cell hp
theorem Reads.drew (h : Reads w B size A n xs) : Reads w.drew B size A n xs := h
theorem Reads.drewN (h : Reads w B size A n xs) (k : Nat) : Reads (w.drewN k) B size A n xs := h
theorem Reads.alloc (h : Reads w B size A n xs) (hB : B ≤ w.heap.size) (o : Obj) : Reads (w.alloc o) B size A n xs := h.keep fun p hp => World.cell?_alloc_lt w o p (by omega)
theorem Reads.setCell (h : Reads w B size A n xs) {p : Addr} (hB : B ≤ p.block) (u : Value) : Reads (w.setCell p u) B size A n xs :=
  h.keep fun q hq => World.cell?_setCell_other w p q u (fun e => by subst e; omega)
theorem Reads.grown (h : Reads w B size A n xs) {row : Option Nat} (hg : w.grownBy w' row) (hB : B ≤ w.heap.size) (hr : ∀ g, row = some g → B ≤ g) : Reads w' B size A n xs :=
  h.keep fun p hp => World.cell?_of_block (hg.block p.block (by omega) (fun e => by have := hr _ e.symm; omega))
theorem Reads.cut (h : Reads w B size A n xs) {k cap : Nat} (hk : k ≤ n) (hc : n ≤ cap) :
    Reads w B size (if cap = k then A else A.map (·.add (k * size))) (n - k) (xs.drop (k * size)) := by
  refine ⟨by rw [List.length_drop, h.1, Nat.sub_mul], fun hn => ?_⟩
  obtain ⟨ad, rfl, hb, hcell⟩ := h.2 (by omega)
  rw [if_neg (by omega)]
  refine ⟨ad.add (k * size), rfl, by rw [block_of_add]; exact hb, fun j u hu => ?_⟩
  rw [add_of_add]
  exact hcell _ u (by rw [← hu, List.getElem?_drop])
theorem Reads.of_own {base : Nat} {e : TypeId} {c : Nat} (h : w.ownsRow base e size (.slice A n c) n xs) : Reads w w.heap.size size A n xs := by
  refine ⟨h.1, fun hn => ?_⟩
  obtain ⟨g, cap, hv, _, hlt⟩ := h.form hn
  have hA : A = some ⟨g, 0, none⟩ := by injection hv
  subst hA
  exact ⟨_, rfl, hlt, h.cells (g := g) rfl⟩
end
end Go.Proofs.YtaljodmhalodhaaDoor
/-
  append(own, src...) at whatever slice is appended, nil let in: its run, and the law for the walk.
-/
namespace Go.Proofs.YtaljodmhalodhaaDoor
open Go.RowKit
/-- what a slice that is appended yields -/
def Gives (w : World) (size : Nat) (A : Option Addr) (m : Nat) (news : List Value) : Prop :=
  news.length = m * size ∧ (0 < m → ∃ ad, A = some ad ∧ ∀ j u, news[j]? = some u → w.cell? (ad.add j) = some u) ∧ ∀ u ∈ news, u.oneCell' = true
theorem Gives.of_reads {w : World} {B size m : Nat} {A : Option Addr} {xs : List Value} (h : Reads w B size A m xs) (h1 : ∀ u ∈ xs, u.oneCell' = true) : Gives w size A m xs :=
  ⟨h.1, fun hm => by obtain ⟨ad, e, _, hc⟩ := h.2 hm; exact ⟨ad, e, hc⟩, h1⟩
theorem setCells_nil (w : World) (b off : Nat) : w.setCells b off [] = w := by simp [World.setCells]
theorem run_append_any {P : Program} (w : World) (base : Nat) (t ty e : TypeId) (i : TypeInfo) (z : Value) (size bytes : Nat) (ht : P.underlying t = some (.slice e)) (hi : P.info? e = some i) (hz : i.zero = some z)
    (hsize : i.size = size) (hby : i.bytes = bytes) (hzs : z.cells.size = size) (hsz : 0 < size) (v : Value) (n : Nat) (xs : List Value) (hown : w.ownsRow base e size v n xs)
    (A : Option Addr) (m c : Nat) (news : List Value) (hg : Gives w size A m news) (h63 : n + m ≤ maxLen) (hbytes : (n + m) * bytes ≤ 140737488355328) (hbase : base ≤ w.heap.size) :
    ∃ v' w', (Builtin.append_ #[t, t] ty #[v, .slice A m c]).run P w = .ok v' w' ∧ w'.ownsRow base e size v' (n + m) (xs ++ news) ∧ w.grownBy w' v.ownBlock := by
  obtain ⟨hl, hnews, h1⟩ := hg
  cases A with
  | some ad =>
    have hc : ∀ j u, news[j]? = some u → w.cell? (ad.add j) = some u := by
      rcases Nat.eq_zero_or_pos m with h | h
      · subst h
        intro j u hj
        have : news = [] := List.length_eq_zero_iff.1 (by simpa using hl)
        rw [this] at hj; cases hj
      · obtain ⟨ad', e, hc⟩ := hnews h
        injection e with e; subst e; exact hc
    obtain ⟨v', w', hr, h2, h3, _⟩ := run_append_own (P := P) w base t ty e i z size bytes ht hi hz hsize hby hzs hsz v n xs hown ad m c news hl hc h1 h63 hbytes hbase
    exact ⟨v', w', hr, h2, h3⟩
  | none =>
    have h0 : m = 0 := by
      rcases Nat.eq_zero_or_pos m with h | h
      · exact h
      · obtain ⟨ad, e, _⟩ := hnews h; cases e
    subst h0
    have hn : news = [] := List.length_eq_zero_iff.1 (by simpa using hl)
    subst hn
    have hrun : (Builtin.append_ #[t, t] ty #[v, .slice none 0 c]).run P w = .ok v w := by
      rcases hown.2 with ⟨rfl, rfl⟩ | ⟨g, cap, cur, rfl, _, _, hnc, _⟩
      · simp [Builtin.append_, run_underlying ht, sizeOf, typeInfo, hi, Builtin.lenOf, Builtin.firstCells, Result.andThen]
      · have := run_append_room_src (P := P) w t t ty e i ht hi g 0 n cap (.slice none 0 c) 0 [] (Src.ofNil w ht c) (by omega) (fun j hj => by simp at hj) (fun j hj => by simp at hj)
        rw [setCells_nil] at this
        exact this
    exact ⟨v, w, hrun, by simpa using hown, ⟨rfl, rfl, rfl, Nat.le_refl _, fun _ _ _ => rfl⟩⟩
theorem wpList_append_any {P : Program} (w : World) {ops : Array Oper} {rest : List Oper} {o : Oper} {a : Act} {Q : Exit → Act → World → Prop} (hgd : o.guard = none) (s x : Operand) (t : TypeId)
    (ho : o.op = .call { callee := .builtin .append, args := #[s, x], argTypes := #[t, t] })
    (base : Nat) (e : TypeId) (i : TypeInfo) (z : Value) (size bytes : Nat) (ht : P.underlying t = some (.slice e)) (hi : P.info? e = some i) (hz : i.zero = some z)
    (hsize : i.size = size) (hby : i.bytes = bytes) (hzs : z.cells.size = size) (hsz : 0 < size) (v : Value) (n : Nat) (xs : List Value) (hs : a.eval s = v) (hown : w.ownsRow base e size v n xs)
    (A : Option Addr) (m c : Nat) (news : List Value) (hx : a.eval x = .slice A m c) (hg : Gives w size A m news) (h63 : n + m ≤ maxLen) (hbytes : (n + m) * bytes ≤ 140737488355328) (hbase : base ≤ w.heap.size)
    (h : ∀ v' w', w'.ownsRow base e size v' (n + m) (xs ++ news) → w.grownBy w' v.ownBlock → wpList P ops Q rest (a.put o.dst v') w') : wpList P ops Q (o :: rest) a w := by
  refine wpList_plain hgd fun K hK => ?_
  obtain ⟨v', w', hr, h2, h3⟩ := run_append_any (P := P) w base t o.type e i z size bytes ht hi hz hsize hby hzs hsz v n xs hown A m c news hg h63 hbytes hbase
  unfold Oper.wp execOp
  simp only [ho, resolve, invoke, builtin, Sem.run_bind, Sem.run_pure, Result.andThen_ok, List.map_toArray, List.map_cons, List.map_nil, hs, hx, hr]
  exact hK _ _ (h v' w' h2 h3)
end Go.Proofs.YtaljodmhalodhaaDoor
/-
  More plain words on memory: bytes turned into strings.
-/
namespace Go.Proofs.YtaljodmhalodhaaDoor
open Go.RowKit
theorem push_all : ∀ (bs : List UInt8) (acc : ByteArray), (bs.map fun b => ((b.toNat : Nat) : Int)).foldl (fun r n => r.push (UInt8.ofNat n.toNat)) acc = ⟨acc.data ++ bs.toArray⟩
  | [], acc => by simp
  | b :: bs, acc => by
    rw [List.map_cons, List.foldl_cons, push_all bs]
    simp [ByteArray.push]
/-- string(b), b a slice whose cells are known -/
theorem run_string_bytes {P : Program} (w : World) (src dst e : TypeId) (a : Addr) (bs : List UInt8) (cap : Nat)
    (hs : P.underlying src = some (.slice e)) (he : P.underlying e = some (.int .u8)) (hd : P.underlying dst = some .string)
    (hc : ∀ j b, bs[j]? = some b → w.cell? (a.add j) = some (.int .u8 ((b.toNat : Nat) : Int))) :
    (convert src dst (.slice (some a) bs.length cap)).run P w = .ok (.string ⟨bs.toArray⟩) w := by
  rw [run_convert_bytes_string w src dst e (some a) bs.length cap hs he hd]
  have hl := run_loadCells_list (P := P) w a (bs.map fun b => Value.int .u8 ((b.toNat : Nat) : Int)) (fun j v hv => by
    rw [List.getElem?_map] at hv
    cases hb : bs[j]? with
    | none => rw [hb] at hv; cases hv
    | some b => rw [hb] at hv; simp at hv; subst hv; exact hc j b hb)
  rw [List.length_map] at hl
  have := run_bytesToString (P := P) w a bs.length cap (bs.map fun b => ((b.toNat : Nat) : Int)) (by rw [List.map_map]; exact hl)
  rw [this, push_all]
  rw [show (⟨ByteArray.empty.data ++ bs.toArray⟩ : ByteArray) = ⟨bs.toArray⟩ from by congr 1; show #[] ++ bs.toArray = _; simp]
theorem u8_nat (n : Nat) (h : n < 256) : (UInt8.ofNat n).toNat = n := by simp; omega
end Go.Proofs.YtaljodmhalodhaaDoor
/-
  DERIVED: THE SHELF's CONTRACTS AT THIS DUMP, IN PLAIN WORDS (tools/lay-plain.mjs out of 'TrydShelf.lean', which tools/lay-shelf.mjs wrote): THE SAME DECLARATIONS UNDER THE SAME NAMES: 'import', 'namespace', 'open', 'def', 'theorem' AND NOTHING ELSE: no command of the shelf's: FOR A HAND-IN. Each laying: the table of numbers ('.._ren') and one theorem, a field a fact of the dump's own or the kernel's comparison; each contract: ONE APPLICATION.
-/
namespace Go.Proofs
open Go.Shelf
def Tryd.lays137_ren : Go.Shelf.Ren := ⟨fun | 137 => 40 | 217 => 55 | 266 => 74 | n => n, fun | 9 => 9 | 5 => 5 | 3 => 3 | n => n, fun | n => n⟩
theorem Tryd.lays137 : Go.Proofs.Lays.n137 Tryd.prog Tryd.lays137_ren := {
  mixed := by kernel_rfl
  f137 := Tryd.func40.trans (congrArg some (by kernel_rfl))
  f217 := Tryd.func55.trans (congrArg some (by kernel_rfl))
  f266 := Tryd.func74.trans (congrArg some (by kernel_rfl))
  t3 := Tryd.underlying3
  a3 := Tryd.isAgg3
  z3 := Tryd.sizeOf3
  v3 := Tryd.zeroValue3
  t5 := Tryd.underlying5
  a5 := Tryd.isAgg5
  z5 := Tryd.sizeOf5
  v5 := Tryd.zeroValue5
  t9 := Tryd.underlying9
  a9 := Tryd.isAgg9
  z9 := Tryd.sizeOf9
  v9 := Tryd.zeroValue9 }
open Go.RowKit in
/-- strings.IndexByte: "IndexByte returns the index of the first instance of c in s, or -1 if c is not present in s.": IT RETURNS 'Lib.indexByte s c'; the world is as it was. (LAID: no walk: one application.) -/
theorem Tryd.strings_IndexByte (s : ByteArray) (c : Int) (w : World) :
    Calls Tryd.prog 40 #[.string s, .int .u8 c] w fun e w' => e = .returned (.int .i64 (Lib.indexByte s.data.toList c.toNat.toUInt8)) ∧ w' = w := Any.strings_IndexByte Tryd.lays137 s c w
def Tryd.lays103_ren : Go.Shelf.Ren := ⟨fun | 103 => 30 | 210 => 41 | 206 => 56 | n => n, fun | 9 => 9 | 4 => 4 | 24 => 34 | 3 => 3 | n => n, fun | n => n⟩
theorem Tryd.lays103 : Go.Proofs.Lays.n103 Tryd.prog Tryd.lays103_ren := {
  mixed := by kernel_rfl
  f103 := Tryd.func30.trans (congrArg some (by kernel_rfl))
  f206 := Tryd.func56.trans (congrArg some (by kernel_rfl))
  f210 := Tryd.func41.trans (congrArg some (by kernel_rfl))
  t3 := Tryd.underlying3
  a3 := Tryd.isAgg3
  z3 := Tryd.sizeOf3
  v3 := Tryd.zeroValue3
  t4 := Tryd.underlying4
  a4 := Tryd.isAgg4
  z4 := Tryd.sizeOf4
  v4 := Tryd.zeroValue4
  t9 := Tryd.underlying9
  a9 := Tryd.isAgg9
  z9 := Tryd.sizeOf9
  v9 := Tryd.zeroValue9
  t24 := Tryd.underlying34
  a24 := Tryd.isAgg34
  z24 := Tryd.sizeOf34
  v24 := Tryd.zeroValue34 }
open Go.RowKit in
/-- strings.CutPrefix: "CutPrefix returns s without the provided leading prefix string and reports whether it found the prefix. If s doesn't start with prefix, CutPrefix returns s, false. If prefix is the empty string, CutPrefix returns s, true.": IT RETURNS '(Lib.trimPrefix s p, Lib.hasPrefix s p)'; the world is as it was. (LAID: no walk: one application.) -/
theorem Tryd.strings_CutPrefix (s p : ByteArray) (w : World) :
    Calls Tryd.prog 30 #[.string s, .string p] w fun e w' => e = .returned (.tuple #[.string ⟨(Lib.trimPrefix s.data.toList p.data.toList).toArray⟩, .bool (Lib.hasPrefix s.data.toList p.data.toList)]) ∧ w' = w := Any.strings_CutPrefix Tryd.lays103 s p w
def Tryd.lays104_ren : Go.Shelf.Ren := ⟨fun | 104 => 51 | 211 => 64 | 207 => 84 | n => n, fun | 9 => 9 | 4 => 4 | 24 => 34 | 3 => 3 | n => n, fun | n => n⟩
theorem Tryd.lays104 : Go.Proofs.Lays.n104 Tryd.prog Tryd.lays104_ren := {
  mixed := by kernel_rfl
  f104 := Tryd.func51.trans (congrArg some (by kernel_rfl))
  f207 := Tryd.func84.trans (congrArg some (by kernel_rfl))
  f211 := Tryd.func64.trans (congrArg some (by kernel_rfl))
  t3 := Tryd.underlying3
  a3 := Tryd.isAgg3
  z3 := Tryd.sizeOf3
  v3 := Tryd.zeroValue3
  t4 := Tryd.underlying4
  a4 := Tryd.isAgg4
  z4 := Tryd.sizeOf4
  v4 := Tryd.zeroValue4
  t9 := Tryd.underlying9
  a9 := Tryd.isAgg9
  z9 := Tryd.sizeOf9
  v9 := Tryd.zeroValue9
  t24 := Tryd.underlying34
  a24 := Tryd.isAgg34
  z24 := Tryd.sizeOf34
  v24 := Tryd.zeroValue34 }
open Go.RowKit in
/-- strings.CutSuffix: "CutSuffix returns s without the provided ending suffix string and reports whether it found the suffix. If s doesn't end with suffix, CutSuffix returns s, false. If suffix is the empty string, CutSuffix returns s, true.": IT RETURNS '(Lib.trimSuffix s p, Lib.hasSuffix s p)'; the world is as it was. (LAID: no walk: one application.) -/
theorem Tryd.strings_CutSuffix (s p : ByteArray) (w : World) (hs : s.size ≤ 9223372036854775807) :
    Calls Tryd.prog 51 #[.string s, .string p] w fun e w' => e = .returned (.tuple #[.string ⟨(Lib.trimSuffix s.data.toList p.data.toList).toArray⟩, .bool (Lib.hasSuffix s.data.toList p.data.toList)]) ∧ w' = w := Any.strings_CutSuffix Tryd.lays104 s p w hs
def Tryd.lays172_ren : Go.Shelf.Ren := ⟨fun | 172 => 53 | 244 => 72 | 245 => 73 | 247 => 88 | 279 => 89 | 280 => 90 | 281 => 91 | 282 => 92 | 287 => 101 | 316 => 102 | 171 => 31 | 205 => 103 | 321 => 107 | 322 => 108 | 243 => 42 | 246 => 57 | 283 => 75 | 284 => 76 | 285 => 77 | 286 => 78 | 129 => 94 | 317 => 93 | 318 => 95 | 319 => 96 | 320 => 97 | 337 => 104 | 338 => 105 | n => n, fun | 9 => 9 | 3 => 3 | 75 => 75 | 76 => 76 | 4 => 4 | 5 => 5 | 167 => 108 | 37 => 22 | 0 => 0 | 85 => 109 | 2 => 2 | 168 => 111 | 53 => 56 | 175 => 123 | 46 => 102 | 210 => 126 | 127 => 84 | 145 => 133 | 143 => 131 | 21 => 21 | 171 => 93 | 173 => 96 | 212 => 115 | 51 => 116 | 20 => 20 | 213 => 117 | 232 => 134 | 233 => 135 | 80 => 80 | n => n, fun | 15 => 4 | 16 => 5 | 17 => 3 | 18 => 6 | 19 => 7 | n => n⟩
theorem Tryd.lays172 : Go.Proofs.Lays.n172 Tryd.prog Tryd.lays172_ren := {
  mixed := by kernel_rfl
  f129 := Tryd.func94.trans (congrArg some (by kernel_rfl))
  f171 := Tryd.func31.trans (congrArg some (by kernel_rfl))
  f172 := Tryd.func53.trans (congrArg some (by kernel_rfl))
  f205 := Tryd.func103.trans (congrArg some (by kernel_rfl))
  f243 := Tryd.func42.trans (congrArg some (by kernel_rfl))
  f244 := Tryd.func72.trans (congrArg some (by kernel_rfl))
  f245 := Tryd.func73.trans (congrArg some (by kernel_rfl))
  f246 := Tryd.func57.trans (congrArg some (by kernel_rfl))
  f247 := Tryd.func88.trans (congrArg some (by kernel_rfl))
  f279 := Tryd.func89.trans (congrArg some (by kernel_rfl))
  f280 := Tryd.func90.trans (congrArg some (by kernel_rfl))
  f281 := Tryd.func91.trans (congrArg some (by kernel_rfl))
  f282 := Tryd.func92.trans (congrArg some (by kernel_rfl))
  f283 := Tryd.func75.trans (congrArg some (by kernel_rfl))
  f284 := Tryd.func76.trans (congrArg some (by kernel_rfl))
  f285 := Tryd.func77.trans (congrArg some (by kernel_rfl))
  f286 := Tryd.func78.trans (congrArg some (by kernel_rfl))
  f287 := Tryd.func101.trans (congrArg some (by kernel_rfl))
  f316 := Tryd.func102.trans (congrArg some (by kernel_rfl))
  f317 := Tryd.func93.trans (congrArg some (by kernel_rfl))
  f318 := Tryd.func95.trans (congrArg some (by kernel_rfl))
  f319 := Tryd.func96.trans (congrArg some (by kernel_rfl))
  f320 := Tryd.func97.trans (congrArg some (by kernel_rfl))
  f321 := Tryd.func107.trans (congrArg some (by kernel_rfl))
  f322 := Tryd.func108.trans (congrArg some (by kernel_rfl))
  f337 := Tryd.func104.trans (congrArg some (by kernel_rfl))
  f338 := Tryd.func105.trans (congrArg some (by kernel_rfl))
  t0 := Tryd.underlying0
  a0 := Tryd.isAgg0
  z0 := Tryd.sizeOf0
  v0 := Tryd.zeroValue0
  t2 := Tryd.underlying2
  a2 := Tryd.isAgg2
  z2 := Tryd.sizeOf2
  v2 := Tryd.zeroValue2
  t3 := Tryd.underlying3
  a3 := Tryd.isAgg3
  z3 := Tryd.sizeOf3
  v3 := Tryd.zeroValue3
  t4 := Tryd.underlying4
  a4 := Tryd.isAgg4
  z4 := Tryd.sizeOf4
  v4 := Tryd.zeroValue4
  t5 := Tryd.underlying5
  a5 := Tryd.isAgg5
  z5 := Tryd.sizeOf5
  v5 := Tryd.zeroValue5
  t9 := Tryd.underlying9
  a9 := Tryd.isAgg9
  z9 := Tryd.sizeOf9
  v9 := Tryd.zeroValue9
  t20 := Tryd.underlying20
  a20 := Tryd.isAgg20
  z20 := Tryd.sizeOf20
  v20 := Tryd.zeroValue20
  t21 := Tryd.underlying21
  a21 := Tryd.isAgg21
  z21 := Tryd.sizeOf21
  v21 := Tryd.zeroValue21
  t37 := Tryd.underlying22
  a37 := Tryd.isAgg22
  z37 := Tryd.sizeOf22
  v37 := Tryd.zeroValue22
  t46 := Tryd.underlying102
  a46 := Tryd.isAgg102
  z46 := Tryd.sizeOf102
  v46 := Tryd.zeroValue102
  t51 := Tryd.underlying116
  a51 := Tryd.isAgg116
  z51 := Tryd.sizeOf116
  v51 := Tryd.zeroValue116
  t53 := Tryd.underlying56
  a53 := Tryd.isAgg56
  z53 := Tryd.sizeOf56
  v53 := Tryd.zeroValue56
  t75 := Tryd.underlying75
  a75 := Tryd.isAgg75
  z75 := Tryd.sizeOf75
  v75 := Tryd.zeroValue75
  t76 := Tryd.underlying76
  a76 := Tryd.isAgg76
  z76 := Tryd.sizeOf76
  v76 := Tryd.zeroValue76
  t85 := Tryd.underlying109
  a85 := Tryd.isAgg109
  z85 := Tryd.sizeOf109
  v85 := Tryd.zeroValue109
  t127 := Tryd.underlying84
  a127 := Tryd.isAgg84
  z127 := Tryd.sizeOf84
  v127 := Tryd.zeroValue84
  t143 := Tryd.underlying131
  a143 := Tryd.isAgg131
  z143 := Tryd.sizeOf131
  v143 := Tryd.zeroValue131
  t145 := Tryd.underlying133
  a145 := Tryd.isAgg133
  z145 := Tryd.sizeOf133
  v145 := Tryd.zeroValue133
  t167 := Tryd.underlying108
  a167 := Tryd.isAgg108
  z167 := Tryd.sizeOf108
  v167 := Tryd.zeroValue108
  t168 := Tryd.underlying111
  a168 := Tryd.isAgg111
  z168 := Tryd.sizeOf111
  v168 := Tryd.zeroValue111
  t171 := Tryd.underlying93
  a171 := Tryd.isAgg93
  z171 := Tryd.sizeOf93
  v171 := Tryd.zeroValue93
  t173 := Tryd.underlying96
  a173 := Tryd.isAgg96
  z173 := Tryd.sizeOf96
  v173 := Tryd.zeroValue96
  t175 := Tryd.underlying123
  a175 := Tryd.isAgg123
  z175 := Tryd.sizeOf123
  v175 := Tryd.zeroValue123
  t210 := Tryd.underlying126
  a210 := Tryd.isAgg126
  z210 := Tryd.sizeOf126
  v210 := Tryd.zeroValue126
  t212 := Tryd.underlying115
  a212 := Tryd.isAgg115
  z212 := Tryd.sizeOf115
  v212 := Tryd.zeroValue115
  t213 := Tryd.underlying117
  a213 := Tryd.isAgg117
  z213 := Tryd.sizeOf117
  t232 := Tryd.underlying134
  a232 := Tryd.isAgg134
  z232 := Tryd.sizeOf134
  v232 := Tryd.zeroValue134
  t233 := Tryd.underlying135
  a233 := Tryd.isAgg135
  z233 := Tryd.sizeOf135
  v233 := Tryd.zeroValue135
  g15 := by kernel_rfl
  g16 := by kernel_rfl
  g17 := by kernel_rfl
  g18 := by kernel_rfl
  g19 := by kernel_rfl }
open Go.RowKit in
/-- strconv.Atoi: "Atoi is equivalent to ParseInt(s, 10, 0), converted to type int.": AT A DECIMAL NUMERAL OF AT MOST 18 BYTES: its value, and a nil error. The world behind the call: the one new row that the library's '[]byte(s)' lays. (LAID: no walk: one application.) -/
theorem Tryd.strconv_Atoi (s : ByteArray) (n : Int) (hl : s.size ≤ 18) (h : Lib.atoi s.data.toList = some n) (w : World) :
    Calls Tryd.prog 53 #[.string s] w fun e w' => e = .returned (.tuple #[.int .i64 n, .nilIface]) ∧ ∃ t, w' = Lib.bytesWorld w 5 t := Any.strconv_Atoi Tryd.lays172 s n hl h w
def Tryd.laysM171_ren : Go.Shelf.Ren := ⟨fun | 171 => 31 | 243 => 42 | 246 => 57 | 283 => 75 | 284 => 76 | 285 => 77 | 286 => 78 | 129 => 94 | 317 => 93 | 318 => 95 | 319 => 96 | 320 => 97 | 337 => 104 | 338 => 105 | n => n, fun | 3 => 3 | 9 => 9 | 2 => 2 | 4 => 4 | 171 => 93 | 0 => 0 | 53 => 56 | 37 => 22 | 5 => 5 | 173 => 96 | 212 => 115 | 51 => 116 | 20 => 20 | 213 => 117 | 46 => 102 | 232 => 134 | 233 => 135 | n => n, fun | 17 => 3 | 18 => 6 | 19 => 7 | n => n⟩
theorem Tryd.laysM171 : Go.Proofs.LaysM.n171 Tryd.prog Tryd.laysM171_ren := {
  mixed := by kernel_rfl
  f129 := Tryd.func94.trans (congrArg some (by kernel_rfl))
  f171 := Tryd.func31.trans (congrArg some (by kernel_rfl))
  f243 := Tryd.func42.trans (congrArg some (by kernel_rfl))
  f246 := Tryd.func57.trans (congrArg some (by kernel_rfl))
  f283 := Tryd.func75.trans (congrArg some (by kernel_rfl))
  f284 := Tryd.func76.trans (congrArg some (by kernel_rfl))
  f285 := Tryd.func77.trans (congrArg some (by kernel_rfl))
  f286 := Tryd.func78.trans (congrArg some (by kernel_rfl))
  f317 := Tryd.func93.trans (congrArg some (by kernel_rfl))
  f318 := Tryd.func95.trans (congrArg some (by kernel_rfl))
  f319 := Tryd.func96.trans (congrArg some (by kernel_rfl))
  f320 := Tryd.func97.trans (congrArg some (by kernel_rfl))
  f337 := Tryd.func104.trans (congrArg some (by kernel_rfl))
  f338 := Tryd.func105.trans (congrArg some (by kernel_rfl))
  t0 := Tryd.underlying0
  a0 := Tryd.isAgg0
  z0 := Tryd.sizeOf0
  v0 := Tryd.zeroValue0
  t2 := Tryd.underlying2
  a2 := Tryd.isAgg2
  z2 := Tryd.sizeOf2
  v2 := Tryd.zeroValue2
  t3 := Tryd.underlying3
  a3 := Tryd.isAgg3
  z3 := Tryd.sizeOf3
  v3 := Tryd.zeroValue3
  t4 := Tryd.underlying4
  a4 := Tryd.isAgg4
  z4 := Tryd.sizeOf4
  v4 := Tryd.zeroValue4
  t5 := Tryd.underlying5
  a5 := Tryd.isAgg5
  z5 := Tryd.sizeOf5
  v5 := Tryd.zeroValue5
  t9 := Tryd.underlying9
  a9 := Tryd.isAgg9
  z9 := Tryd.sizeOf9
  v9 := Tryd.zeroValue9
  t20 := Tryd.underlying20
  a20 := Tryd.isAgg20
  z20 := Tryd.sizeOf20
  v20 := Tryd.zeroValue20
  t37 := Tryd.underlying22
  a37 := Tryd.isAgg22
  z37 := Tryd.sizeOf22
  v37 := Tryd.zeroValue22
  t46 := Tryd.underlying102
  a46 := Tryd.isAgg102
  z46 := Tryd.sizeOf102
  v46 := Tryd.zeroValue102
  t51 := Tryd.underlying116
  a51 := Tryd.isAgg116
  z51 := Tryd.sizeOf116
  v51 := Tryd.zeroValue116
  t53 := Tryd.underlying56
  a53 := Tryd.isAgg56
  z53 := Tryd.sizeOf56
  v53 := Tryd.zeroValue56
  t171 := Tryd.underlying93
  a171 := Tryd.isAgg93
  z171 := Tryd.sizeOf93
  v171 := Tryd.zeroValue93
  t173 := Tryd.underlying96
  a173 := Tryd.isAgg96
  z173 := Tryd.sizeOf96
  v173 := Tryd.zeroValue96
  t212 := Tryd.underlying115
  a212 := Tryd.isAgg115
  z212 := Tryd.sizeOf115
  v212 := Tryd.zeroValue115
  t213 := Tryd.underlying117
  a213 := Tryd.isAgg117
  z213 := Tryd.sizeOf117
  t232 := Tryd.underlying134
  a232 := Tryd.isAgg134
  z232 := Tryd.sizeOf134
  v232 := Tryd.zeroValue134
  t233 := Tryd.underlying135
  a233 := Tryd.isAgg135
  z233 := Tryd.sizeOf135
  v233 := Tryd.zeroValue135
  g17 := by kernel_rfl
  g18 := by kernel_rfl
  g19 := by kernel_rfl
  i0 := by kernel_rfl
  i2 := by kernel_rfl
  i3 := by kernel_rfl
  i4 := by kernel_rfl
  i5 := by kernel_rfl
  i9 := by kernel_rfl
  i20 := by kernel_rfl
  i37 := by kernel_rfl
  i46 := by kernel_rfl
  i51 := by kernel_rfl
  i53 := by kernel_rfl
  i171 := by kernel_rfl
  i173 := by kernel_rfl
  i212 := by kernel_rfl
  i232 := by kernel_rfl
  i233 := by kernel_rfl
  m17 := by kernel_rfl
  m18 := by kernel_rfl
  m19 := by kernel_rfl }
open Go.RowKit Go.Sort Go.Lib in
/-- strconv.Itoa: "Itoa is equivalent to FormatInt(int64(i), 10).": i's DECIMAL NUMERAL ('Lib.itoa': a '-' where i is negative, then the digits), FOR EVERY int. The world behind the call: the world before it, new blocks behind the heap (the library's 'var a [24]byte'), draws. (LAID: no walk: one application.) -/
theorem Tryd.strconv_Itoa (n : Int) (h0 : -9223372036854775808 ≤ n) (h1 : n ≤ 9223372036854775807) (w : World) (htab : Lib.TabIs Tryd.prog w "internal/strconv.uint64pow10" .u64 Lib.pow10Tab) :
    Calls Tryd.prog 31 #[.int .i64 n] w fun e w' => e = .returned (.string ⟨(Lib.itoa n).toArray⟩) ∧ ∃ k os, w' = grow (w.drewN k) os := Any.strconv_Itoa Tryd.laysM171 n h0 h1 w htab
def Tryd.lays145_ren : Go.Shelf.Ren := ⟨fun | 145 => 37 | 220 => 50 | 219 => 62 | 217 => 55 | 225 => 81 | 224 => 82 | 267 => 83 | 266 => 74 | 314 => 98 | n => n, fun | 9 => 9 | 4 => 4 | 59 => 59 | 3 => 3 | 5 => 5 | 46 => 102 | 146 => 120 | 51 => 116 | n => n, fun | 1 => 0 | n => n⟩
theorem Tryd.lays145 : Go.Proofs.Lays.n145 Tryd.prog Tryd.lays145_ren := {
  mixed := by kernel_rfl
  f145 := Tryd.func37.trans (congrArg some (by kernel_rfl))
  f217 := Tryd.func55.trans (congrArg some (by kernel_rfl))
  f219 := Tryd.func62.trans (congrArg some (by kernel_rfl))
  f220 := Tryd.func50.trans (congrArg some (by kernel_rfl))
  f224 := Tryd.func82.trans (congrArg some (by kernel_rfl))
  f225 := Tryd.func81.trans (congrArg some (by kernel_rfl))
  f266 := Tryd.func74.trans (congrArg some (by kernel_rfl))
  f267 := Tryd.func83.trans (congrArg some (by kernel_rfl))
  f314 := Tryd.func98.trans (congrArg some (by kernel_rfl))
  t3 := Tryd.underlying3
  a3 := Tryd.isAgg3
  z3 := Tryd.sizeOf3
  v3 := Tryd.zeroValue3
  t4 := Tryd.underlying4
  a4 := Tryd.isAgg4
  z4 := Tryd.sizeOf4
  v4 := Tryd.zeroValue4
  t5 := Tryd.underlying5
  a5 := Tryd.isAgg5
  z5 := Tryd.sizeOf5
  v5 := Tryd.zeroValue5
  t9 := Tryd.underlying9
  a9 := Tryd.isAgg9
  z9 := Tryd.sizeOf9
  v9 := Tryd.zeroValue9
  t46 := Tryd.underlying102
  a46 := Tryd.isAgg102
  z46 := Tryd.sizeOf102
  v46 := Tryd.zeroValue102
  t51 := Tryd.underlying116
  a51 := Tryd.isAgg116
  z51 := Tryd.sizeOf116
  v51 := Tryd.zeroValue116
  t59 := Tryd.underlying59
  a59 := Tryd.isAgg59
  z59 := Tryd.sizeOf59
  v59 := Tryd.zeroValue59
  t146 := Tryd.underlying120
  a146 := Tryd.isAgg120
  z146 := Tryd.sizeOf120
  v146 := Tryd.zeroValue120
  g1 := by kernel_rfl }
open Go.RowKit Go.Lib in
/-- strings.Cut: "Cut slices s around the first instance of sep, returning the text before and after sep. The found result reports whether sep appears in s. If sep does not appear in s, cut returns s, "", false.": IT RETURNS 'Lib.cut s sep'; the world is as it was but for the count of draws. (LAID: no walk: one application.) -/
theorem Tryd.strings_Cut (s sep : ByteArray) (m : Int) (w : World) (hs : s.size < 4294967281) (hm : w.cell? ⟨0, 0, none⟩ = some (.int .i64 m)) :
    Calls Tryd.prog 37 #[.string s, .string sep] w fun e w' => e = .returned (.tuple #[.string ⟨(Lib.cut s.data.toList sep.data.toList).1.toArray⟩, .string ⟨(Lib.cut s.data.toList sep.data.toList).2.1.toArray⟩, .bool (Lib.cut s.data.toList sep.data.toList).2.2]) ∧ ∃ n, w' = w.drewN n := Any.strings_Cut Tryd.lays145 s sep m w hs hm
def Tryd.lays149_ren : Go.Shelf.Ren := ⟨fun | 149 => 39 | 222 => 54 | n => n, fun | 9 => 9 | 5 => 5 | 3 => 3 | 4 => 4 | n => n, fun | n => n⟩
theorem Tryd.lays149 : Go.Proofs.Lays.n149 Tryd.prog Tryd.lays149_ren := {
  mixed := by kernel_rfl
  f149 := Tryd.func39.trans (congrArg some (by kernel_rfl))
  f222 := Tryd.func54.trans (congrArg some (by kernel_rfl))
  t3 := Tryd.underlying3
  a3 := Tryd.isAgg3
  z3 := Tryd.sizeOf3
  v3 := Tryd.zeroValue3
  t4 := Tryd.underlying4
  a4 := Tryd.isAgg4
  z4 := Tryd.sizeOf4
  v4 := Tryd.zeroValue4
  t5 := Tryd.underlying5
  a5 := Tryd.isAgg5
  z5 := Tryd.sizeOf5
  v5 := Tryd.zeroValue5
  t9 := Tryd.underlying9
  a9 := Tryd.isAgg9
  z9 := Tryd.sizeOf9
  v9 := Tryd.zeroValue9 }
open Go.RowKit Go.Lib in
/-- strings.LastIndexByte: "LastIndexByte returns the index of the last instance of c in s, or -1 if c is not present in s." (LAID: no walk: one application.) -/
theorem Tryd.strings_LastIndexByte (s : ByteArray) (c : Int) (hs : s.size < 4611686018427387904) (w : World) :
    Calls Tryd.prog 39 #[.string s, .int .u8 c] w fun e w' => e = .returned (.int .i64 (Lib.lastIndexByte s c)) ∧ w' = w := Any.strings_LastIndexByte Tryd.lays149 s c hs w
def Tryd.lays155_ren : Go.Shelf.Ren := ⟨fun | 155 => 24 | 154 => 32 | 138 => 43 | 165 => 44 | 143 => 45 | 166 => 46 | 197 => 47 | 169 => 48 | 195 => 58 | 218 => 59 | 240 => 60 | 241 => 61 | 219 => 62 | 260 => 63 | 276 => 79 | 277 => 80 | 217 => 55 | 225 => 81 | 224 => 82 | 267 => 83 | 266 => 74 | 314 => 98 | n => n, fun | 9 => 9 | 3 => 3 | 4 => 4 | 72 => 72 | 0 => 0 | 76 => 76 | 105 => 78 | 21 => 21 | 5 => 5 | 70 => 70 | 20 => 20 | 37 => 22 | 75 => 75 | 127 => 84 | 164 => 98 | 46 => 102 | 119 => 103 | 139 => 106 | 138 => 105 | 146 => 120 | 51 => 116 | 80 => 80 | n => n, fun | 1 => 0 | 3 => 1 | 4 => 2 | n => n⟩
theorem Tryd.lays155 : Go.Proofs.Lays.n155 Tryd.prog Tryd.lays155_ren := {
  mixed := by kernel_rfl
  f138 := Tryd.func43.trans (congrArg some (by kernel_rfl))
  f143 := Tryd.func45.trans (congrArg some (by kernel_rfl))
  f154 := Tryd.func32.trans (congrArg some (by kernel_rfl))
  f155 := Tryd.func24.trans (congrArg some (by kernel_rfl))
  f165 := Tryd.func44.trans (congrArg some (by kernel_rfl))
  f166 := Tryd.func46.trans (congrArg some (by kernel_rfl))
  f169 := Tryd.func48.trans (congrArg some (by kernel_rfl))
  f195 := Tryd.func58.trans (congrArg some (by kernel_rfl))
  f197 := Tryd.func47.trans (congrArg some (by kernel_rfl))
  f217 := Tryd.func55.trans (congrArg some (by kernel_rfl))
  f218 := Tryd.func59.trans (congrArg some (by kernel_rfl))
  f219 := Tryd.func62.trans (congrArg some (by kernel_rfl))
  f224 := Tryd.func82.trans (congrArg some (by kernel_rfl))
  f225 := Tryd.func81.trans (congrArg some (by kernel_rfl))
  f240 := Tryd.func60.trans (congrArg some (by kernel_rfl))
  f241 := Tryd.func61.trans (congrArg some (by kernel_rfl))
  f260 := Tryd.func63.trans (congrArg some (by kernel_rfl))
  f266 := Tryd.func74.trans (congrArg some (by kernel_rfl))
  f267 := Tryd.func83.trans (congrArg some (by kernel_rfl))
  f276 := Tryd.func79.trans (congrArg some (by kernel_rfl))
  f277 := Tryd.func80.trans (congrArg some (by kernel_rfl))
  f314 := Tryd.func98.trans (congrArg some (by kernel_rfl))
  t0 := Tryd.underlying0
  a0 := Tryd.isAgg0
  z0 := Tryd.sizeOf0
  v0 := Tryd.zeroValue0
  t3 := Tryd.underlying3
  a3 := Tryd.isAgg3
  z3 := Tryd.sizeOf3
  v3 := Tryd.zeroValue3
  t4 := Tryd.underlying4
  a4 := Tryd.isAgg4
  z4 := Tryd.sizeOf4
  v4 := Tryd.zeroValue4
  t5 := Tryd.underlying5
  a5 := Tryd.isAgg5
  z5 := Tryd.sizeOf5
  v5 := Tryd.zeroValue5
  t9 := Tryd.underlying9
  a9 := Tryd.isAgg9
  z9 := Tryd.sizeOf9
  v9 := Tryd.zeroValue9
  t20 := Tryd.underlying20
  a20 := Tryd.isAgg20
  z20 := Tryd.sizeOf20
  v20 := Tryd.zeroValue20
  t21 := Tryd.underlying21
  a21 := Tryd.isAgg21
  z21 := Tryd.sizeOf21
  v21 := Tryd.zeroValue21
  t37 := Tryd.underlying22
  a37 := Tryd.isAgg22
  z37 := Tryd.sizeOf22
  v37 := Tryd.zeroValue22
  t46 := Tryd.underlying102
  a46 := Tryd.isAgg102
  z46 := Tryd.sizeOf102
  v46 := Tryd.zeroValue102
  t51 := Tryd.underlying116
  a51 := Tryd.isAgg116
  z51 := Tryd.sizeOf116
  v51 := Tryd.zeroValue116
  t70 := Tryd.underlying70
  a70 := Tryd.isAgg70
  z70 := Tryd.sizeOf70
  v70 := Tryd.zeroValue70
  t72 := Tryd.underlying72
  a72 := Tryd.isAgg72
  z72 := Tryd.sizeOf72
  v72 := Tryd.zeroValue72
  t75 := Tryd.underlying75
  a75 := Tryd.isAgg75
  z75 := Tryd.sizeOf75
  v75 := Tryd.zeroValue75
  t76 := Tryd.underlying76
  a76 := Tryd.isAgg76
  z76 := Tryd.sizeOf76
  v76 := Tryd.zeroValue76
  t105 := Tryd.underlying78
  a105 := Tryd.isAgg78
  z105 := Tryd.sizeOf78
  v105 := Tryd.zeroValue78
  t119 := Tryd.underlying103
  a119 := Tryd.isAgg103
  z119 := Tryd.sizeOf103
  t127 := Tryd.underlying84
  a127 := Tryd.isAgg84
  z127 := Tryd.sizeOf84
  v127 := Tryd.zeroValue84
  t138 := Tryd.underlying105
  a138 := Tryd.isAgg105
  z138 := Tryd.sizeOf105
  v138 := Tryd.zeroValue105
  t139 := Tryd.underlying106
  a139 := Tryd.isAgg106
  z139 := Tryd.sizeOf106
  v139 := Tryd.zeroValue106
  t146 := Tryd.underlying120
  a146 := Tryd.isAgg120
  z146 := Tryd.sizeOf120
  v146 := Tryd.zeroValue120
  t164 := Tryd.underlying98
  a164 := Tryd.isAgg98
  z164 := Tryd.sizeOf98
  v164 := Tryd.zeroValue98
  g1 := by kernel_rfl
  g3 := by kernel_rfl
  g4 := by kernel_rfl }
theorem Tryd.Builder_Extra_155 : Builder.Extra Tryd.prog Tryd.lays155_ren := {
  sizeBuilder := by kernel_rfl
  liesBuilder := by kernel_rfl
  t5 := Tryd.underlying5
  a5 := Tryd.isAgg5
  z5 := Tryd.sizeOf5
  v5 := Tryd.zeroValue5
  infoByte := by kernel_rfl
  cellsByte := by kernel_rfl
  sizeByte := by kernel_rfl
  neB5 := by decide }
open Go.RowKit Go.Lib in
/-- strings.ReplaceAll: "ReplaceAll returns a copy of the string s with all non-overlapping instances of old replaced by new.": AT AN old THAT IS NOT EMPTY: 'Lib.replaceAll s old new'. (LAID: no walk: one application.) -/
theorem Tryd.strings_ReplaceAll (s old new : ByteArray) (m : Int) (w : World) (hs : s.size < 4294967281) (hm : w.cell? ⟨0, 0, none⟩ = some (.int .i64 m)) (h1 : 1 ≤ old.size) (hlen : s.size + Lib.countB s old * new.size ≤ 140737488355328) :
    Calls Tryd.prog 24 #[.string s, .string old, .string new] w fun e w' =>
      e = .returned (.string ⟨(Lib.replaceAll s.data.toList old.data.toList new.data.toList).toArray⟩) ∧ Below w.heap.size w w' := Any.strings_ReplaceAll Tryd.lays155 Tryd.Builder_Extra_155 s old new m w hs hm h1 hlen
def Tryd.lays227_ren : Go.Shelf.Ren := ⟨fun | 227 => 67 | n => n, fun | 9 => 9 | 116 => 87 | 4 => 4 | 0 => 0 | 3 => 3 | 5 => 5 | n => n, fun | n => n⟩
theorem Tryd.lays227 : Go.Proofs.Lays.n227 Tryd.prog Tryd.lays227_ren := {
  mixed := by kernel_rfl
  f227 := Tryd.func67.trans (congrArg some (by kernel_rfl))
  t0 := Tryd.underlying0
  a0 := Tryd.isAgg0
  z0 := Tryd.sizeOf0
  v0 := Tryd.zeroValue0
  t3 := Tryd.underlying3
  a3 := Tryd.isAgg3
  z3 := Tryd.sizeOf3
  v3 := Tryd.zeroValue3
  t4 := Tryd.underlying4
  a4 := Tryd.isAgg4
  z4 := Tryd.sizeOf4
  v4 := Tryd.zeroValue4
  t5 := Tryd.underlying5
  a5 := Tryd.isAgg5
  z5 := Tryd.sizeOf5
  v5 := Tryd.zeroValue5
  t9 := Tryd.underlying9
  a9 := Tryd.isAgg9
  z9 := Tryd.sizeOf9
  v9 := Tryd.zeroValue9
  t116 := Tryd.underlying87
  a116 := Tryd.isAgg87
  z116 := Tryd.sizeOf87 }
open Go.RowKit Go.Lib in
theorem Tryd.strings_makeASCIISet (hv116 : ∀ w, (zeroValue 87).run Tryd.prog w = .ok (.agg (Array.replicate 256 (.bool false))) w) (chars : ByteArray) (w : World) (hs : chars.size < 4294967281) (hascii : ∀ (j : Nat) b, chars.data.toList[j]? = some b → b.toNat < 128) :
    Calls Tryd.prog 67 #[.string chars] w fun e w' => e = .returned (.tuple #[.agg (Lib.setCells chars.data.toList), .bool true]) ∧ w' = w.alloc (.cells (Lib.setCells chars.data.toList) 87) := Any.strings_makeASCIISet Tryd.lays227 hv116 (by kernel_rfl) chars w hs hascii
def Tryd.lays228_ren : Go.Shelf.Ren := ⟨fun | 228 => 85 | n => n, fun | 124 => 91 | 5 => 5 | 4 => 4 | 0 => 0 | 116 => 87 | n => n, fun | n => n⟩
theorem Tryd.lays228 : Go.Proofs.Lays.n228 Tryd.prog Tryd.lays228_ren := {
  mixed := by kernel_rfl
  f228 := Tryd.func85.trans (congrArg some (by kernel_rfl))
  t0 := Tryd.underlying0
  a0 := Tryd.isAgg0
  z0 := Tryd.sizeOf0
  v0 := Tryd.zeroValue0
  t4 := Tryd.underlying4
  a4 := Tryd.isAgg4
  z4 := Tryd.sizeOf4
  v4 := Tryd.zeroValue4
  t5 := Tryd.underlying5
  a5 := Tryd.isAgg5
  z5 := Tryd.sizeOf5
  v5 := Tryd.zeroValue5
  t116 := Tryd.underlying87
  a116 := Tryd.isAgg87
  z116 := Tryd.sizeOf87
  t124 := Tryd.underlying91
  a124 := Tryd.isAgg91
  z124 := Tryd.sizeOf91
  v124 := Tryd.zeroValue91 }
open Go.RowKit Go.Lib in
/-- '(as *asciiSet) contains(c)': 'as[c]': the set lies at block b, whole. (LAID: no walk: one application.) -/
theorem Tryd.asciiSet_contains (b : Nat) (x : UInt8) (v : Bool) (w : World) (hc : w.cell? ⟨b, x.toNat, none⟩ = some (.bool v)) :
    Calls Tryd.prog 85 #[.pointer (some ⟨b, 0, none⟩), .int .u8 x.toNat] w fun e w' => e = .returned (.bool v) ∧ w' = w := Any.asciiSet_contains Tryd.lays228 b x v w hc
def Tryd.laysSlK4_ren : Go.Shelf.Ren := ⟨fun | 4 => 36 | n => n, fun | 22 => 22 | 4 => 4 | 5 => 5 | n => n, fun | n => n⟩
theorem Tryd.laysSlK4 : Go.Proofs.SlLaysK.n4 Tryd.prog Tryd.laysSlK4_ren := {
  mixed := by kernel_rfl
  f4 := Tryd.func36.trans (congrArg some (by kernel_rfl))
  t4 := Tryd.underlying4
  a4 := Tryd.isAgg4
  z4 := Tryd.sizeOf4
  v4 := Tryd.zeroValue4
  t22 := Tryd.underlying22
  a22 := Tryd.isAgg22
  z22 := Tryd.sizeOf22
  v22 := Tryd.zeroValue22
  t5 := Tryd.underlying5
  i5 := by kernel_rfl }
open Go.RowKit Go.Lib in
/-- bytes.Clone: "Clone returns a copy of b[:len(b)]. The result may have additional unused capacity.": OF A SLICE THAT IS NOT nil IT RETURNS A SLICE THAT IS NOT nil, OF THE SAME BYTES, IN MEMORY OF THE CALL's OWN: in the how-to's words (6f): 'w'.ownsRow B e 1 v' n cells' · 'Below B w w'', B the heap's size at the call. b AT WHATEVER ADDRESS, its cells as 'open_ints' hands them ('a.add i'; the numbers 'xs'). No byte: no cell is asked for. (LAID: no walk: one application.) -/
theorem Tryd.bytes_Clone_at (a : Addr) (n c : Nat) (xs : List Int) (w : World) (hx : xs.length = n) (hbig : n ≤ 140737488355328) (hc : ∀ i, i < n → w.cell? (a.add i) = some (.int .u8 (xs.getD i 0))) :
    Calls Tryd.prog 36 #[.slice (some a) n c] w fun e w' => ∃ v', e = .returned v' ∧ w'.ownsRow w.heap.size 5 1 v' n (xs.map (Value.int .u8)) ∧ v' ≠ .slice none 0 0 ∧ Below w.heap.size w w' := Any.bytes_Clone_at Tryd.laysSlK4 a n c xs w hx hbig hc
open Go.RowKit Go.Lib in
/-- "Clone(nil) returns nil.": the world is as it was. (LAID: no walk: one application.) -/
theorem Tryd.bytes_Clone_nil (n c : Nat) (w : World) :
    Calls Tryd.prog 36 #[.slice none n c] w fun e w' => e = .returned (.slice none 0 0) ∧ w' = w := Any.bytes_Clone_nil Tryd.laysSlK4 n c w
def Tryd.laysnb117_ren : Go.Shelf.Ren := ⟨fun | 117 => 33 | 115 => 49 | n => n, fun | 37 => 22 | 4 => 4 | 3 => 3 | 9 => 9 | 5 => 5 | n => n, fun | n => n⟩
theorem Tryd.laysnb117 : Go.Proofs.Lays.nb117 Tryd.prog Tryd.laysnb117_ren := {
  mixed := by kernel_rfl
  f115 := Tryd.func49.trans (congrArg some (by kernel_rfl))
  f117 := Tryd.func33.trans (congrArg some (by kernel_rfl))
  t3 := Tryd.underlying3
  a3 := Tryd.isAgg3
  z3 := Tryd.sizeOf3
  v3 := Tryd.zeroValue3
  t4 := Tryd.underlying4
  a4 := Tryd.isAgg4
  z4 := Tryd.sizeOf4
  v4 := Tryd.zeroValue4
  t9 := Tryd.underlying9
  a9 := Tryd.isAgg9
  z9 := Tryd.sizeOf9
  v9 := Tryd.zeroValue9
  t37 := Tryd.underlying22
  a37 := Tryd.isAgg22
  z37 := Tryd.sizeOf22
  v37 := Tryd.zeroValue22
  t5 := Tryd.underlying5
  a5 := Tryd.isAgg5
  z5 := Tryd.sizeOf5
  v5 := Tryd.zeroValue5 }
/-- bytes.HasSuffix: WHOLE: each argument nil, or of no byte at whatever address, or at an address with its cells. (LAID: no walk: one application.) -/
theorem Tryd.bytes_HasSuffix_all (p1 p2 : Option Addr) (n c m d : Nat) (xs ys : List Int) (w : World) (hx : xs.length = n) (hy : ys.length = m) (hnc : n ≤ c) (hbig : n ≤ 9223372036854775807) (h1 : Lib.BytesIn w p1 n xs) (h2 : Lib.BytesIn w p2 m ys) :
    Calls Tryd.prog 33 #[.slice p1 n c, .slice p2 m d] w fun e w' => e = .returned (.bool (Lib.hasSuffix (Lib.bytesOf xs) (Lib.bytesOf ys))) ∧ w' = w := Any.bytes_HasSuffix_all Tryd.laysnb117 p1 p2 n c m d xs ys w hx hy hnc hbig h1 h2
def Tryd.laysnb115_ren : Go.Shelf.Ren := ⟨fun | 115 => 49 | n => n, fun | 37 => 22 | 4 => 4 | 9 => 9 | 5 => 5 | n => n, fun | n => n⟩
theorem Tryd.laysnb115 : Go.Proofs.Lays.nb115 Tryd.prog Tryd.laysnb115_ren := {
  mixed := by kernel_rfl
  f115 := Tryd.func49.trans (congrArg some (by kernel_rfl))
  t4 := Tryd.underlying4
  a4 := Tryd.isAgg4
  z4 := Tryd.sizeOf4
  v4 := Tryd.zeroValue4
  t9 := Tryd.underlying9
  a9 := Tryd.isAgg9
  z9 := Tryd.sizeOf9
  v9 := Tryd.zeroValue9
  t37 := Tryd.underlying22
  a37 := Tryd.isAgg22
  z37 := Tryd.sizeOf22
  v37 := Tryd.zeroValue22
  t5 := Tryd.underlying5
  a5 := Tryd.isAgg5
  z5 := Tryd.sizeOf5
  v5 := Tryd.zeroValue5 }
/-- bytes.Equal: WHOLE. (LAID: no walk: one application.) -/
theorem Tryd.bytes_Equal_all (p1 p2 : Option Addr) (n c m d : Nat) (xs ys : List Int) (w : World) (hx : xs.length = n) (hy : ys.length = m) (h1 : Lib.BytesIn w p1 n xs) (h2 : Lib.BytesIn w p2 m ys) :
    Calls Tryd.prog 49 #[.slice p1 n c, .slice p2 m d] w fun e w' => e = .returned (.bool (Lib.bytesOf xs == Lib.bytesOf ys)) ∧ w' = w := Any.bytes_Equal_all Tryd.laysnb115 p1 p2 n c m d xs ys w hx hy h1 h2
end Go.Proofs
/-
  Bytes in memory: rows that are owned, cloned, compared, and made texts.
-/
namespace Go.Proofs.YtaljodmhalodhaaDoor
open Go.RowKit
def u8s (l : List UInt8) : List Value := l.map fun b => Value.int .u8 ((b.toNat : Nat) : Int)
theorem u8s_length (l : List UInt8) : (u8s l).length = l.length := by simp [u8s]
theorem u8s_get (l : List UInt8) (j : Nat) : (u8s l)[j]? = (l[j]?).map fun b => Value.int .u8 ((b.toNat : Nat) : Int) := by simp [u8s]
theorem u8s_append (l m : List UInt8) : u8s (l ++ m) = u8s l ++ u8s m := by simp [u8s]
theorem u8s_one (l : List UInt8) : ∀ u ∈ u8s l, u.oneCell' = true := by
  intro u hu
  simp only [u8s, List.mem_map] at hu
  obtain ⟨p, _, rfl⟩ := hu
  rfl
theorem u8_info : (Tryd.prog.info? 5).map (fun i => (i.zero, i.size, i.bytes)) = some (some (.int .u8 0), 1, 1) := by kernel_rfl
theorem info_parts {P : Program} {t : TypeId} {z : Value} {s b : Nat} (h : (P.info? t).map (fun i => (i.zero, i.size, i.bytes)) = some (some z, s, b)) : ∃ i, P.info? t = some i ∧ i.zero = some z ∧ i.size = s ∧ i.bytes = b := by
  cases hi : P.info? t with
  | none => rw [hi] at h; cases h
  | some i => rw [hi] at h; simp at h; exact ⟨i, rfl, h.1, h.2.1, h.2.2⟩
theorem own_reads {w : World} {base n size : Nat} {e : TypeId} {v : Value} {xs : List Value} (h : w.ownsRow base e size v n xs) : ∃ A c, v = .slice A n c ∧ Reads w w.heap.size size A n xs ∧ n ≤ c := by
  rcases h.2 with ⟨rfl, h0⟩ | ⟨g, cap, cur, rfl, h1, h2, h3, h4⟩
  · subst h0
    exact ⟨none, 0, rfl, ⟨h.1, fun hn => absurd hn (by omega)⟩, Nat.le_refl _⟩
  · exact ⟨_, cap, rfl, Reads.of_own h, by omega⟩
theorem own_mono {w : World} {base base' : Nat} {e : TypeId} {size : Nat} {v : Value} {n : Nat} {xs : List Value} (h : w.ownsRow base e size v n xs) (hb : base' ≤ base) : w.ownsRow base' e size v n xs := by
  refine ⟨h.1, ?_⟩
  rcases h.2 with h0 | ⟨g, cap, cur, e, hb', hr⟩
  · exact .inl h0
  · exact .inr ⟨g, cap, cur, e, Nat.le_trans hb hb', hr⟩
theorem own_keep {w w' : World} {base : Nat} {v : Value} {e : TypeId} {size n : Nat} {xs : List Value} (h : w.ownsRow base e size v n xs) (hk : ∀ g, v.ownBlock = some g → w'.heap[g]? = w.heap[g]?) : w'.ownsRow base e size v n xs := by
  refine ⟨h.1, ?_⟩
  rcases h.2 with h0 | ⟨g, cap, cur, rfl, hb, hg, hr⟩
  · exact .inl h0
  · exact .inr ⟨g, cap, cur, rfl, hb, (hk g rfl).trans hg, hr⟩
theorem own_below {w w' : World} {base : Nat} {v : Value} {e : TypeId} {size n : Nat} {xs : List Value} (h : w.ownsRow base e size v n xs) (hb : Below w.heap.size w w') : w'.ownsRow base e size v n xs :=
  own_keep h fun g hg => hb.block g (h.lt g hg).2
theorem bytes_empty (w : World) : (w.alloc (.cells #[] 5)).ownsRow w.heap.size 5 1 (.slice (some ⟨w.heap.size, 0, none⟩) 0 0) 0 [] := World.ownsRow_lit w #[] 0 (Nat.le_refl _) (by unfold maxLen; omega) rfl
/-- a row of bytes, of a list's length -/
theorem own8 {w : World} {base n : Nat} {v : Value} {l : List UInt8} (h : w.ownsRow base 5 1 v n (u8s l)) : w.ownsRow base 5 1 v l.length (u8s l) := by
  have : n = l.length := by have := h.1; rw [u8s_length] at this; omega
  rw [← this]; exact h
theorem Reads.take8 {w : World} {B n : Nat} {A : Option Addr} {l : List UInt8} (h : Reads w B 1 A n (u8s l)) {k : Nat} (hk : k ≤ n) : Reads w B 1 A k (u8s (l.take k)) := by
  have hl : l.length = n := by have := h.1; rw [u8s_length] at this; omega
  refine ⟨by rw [u8s_length, List.length_take]; omega, fun hp => ?_⟩
  obtain ⟨ad, e, hlt, hc⟩ := h.2 (by omega)
  refine ⟨ad, e, hlt, fun j u hu => hc j u ?_⟩
  rw [u8s_get] at hu ⊢
  rw [List.getElem?_take] at hu
  split at hu
  · exact hu
  · cases hu
theorem u8s_drop (l : List UInt8) (k : Nat) : u8s (l.drop k) = (u8s l).drop k := by simp [u8s]
theorem Reads.drop8 {w : World} {B n c : Nat} {A : Option Addr} {l : List UInt8} (h : Reads w B 1 A n (u8s l)) {k : Nat} (hk : k ≤ n) (hc : n ≤ c) : Reads w B 1 (if c = k then A else A.map (·.add k)) (n - k) (u8s (l.drop k)) := by
  have := h.cut (k := k) (cap := c) hk hc
  rw [Nat.mul_one] at this
  rw [u8s_drop]
  exact this
theorem Reads.none8 {w : World} {B : Nat} : Reads w B 1 none 0 (u8s []) := Reads.none_
theorem Reads.empty8 {w : World} {B n : Nat} {l : List UInt8} (h : Reads w B 1 none n (u8s l)) : n = 0 ∧ l = [] := by
  have hl : l.length = n := by have := h.1; rw [u8s_length] at this; omega
  rcases Nat.eq_zero_or_pos n with h0 | h0
  · exact ⟨h0, List.length_eq_zero_iff.1 (by omega)⟩
  · obtain ⟨ad, e, _⟩ := h.2 h0; cases e
def ints8 (l : List UInt8) : List Int := l.map fun b => ((b.toNat : Nat) : Int)
theorem ints8_at {w : World} {B n : Nat} {a : Addr} {l : List UInt8} (hl : l.length = n) (hr : Reads w B 1 (some a) n (u8s l)) : ∀ i, i < n → w.cell? (a.add i) = some (.int .u8 ((ints8 l).getD i 0)) := by
  intro i hi
  obtain ⟨ad, e, _, hc⟩ := hr.2 (by omega)
  injection e with e
  subst e
  have hil : i < l.length := by omega
  refine hc i _ ?_
  rw [u8s_get, List.getElem?_eq_getElem hil]
  simp [ints8, List.getD, hil]
theorem bytesOf_ints8 (l : List UInt8) : Lib.bytesOf (ints8 l) = l := by
  unfold Lib.bytesOf ints8
  rw [List.map_map]
  conv => rhs; rw [← List.map_id l]
  apply List.map_congr_left
  intro b _
  simp
theorem bytesIn8 {w : World} {B n : Nat} {A : Option Addr} {l : List UInt8} (hl : l.length = n) (hr : Reads w B 1 A n (u8s l)) : Lib.BytesIn w A n (ints8 l) := by
  cases A with
  | none =>
    obtain ⟨rfl, rfl⟩ := hr.empty8
    exact Lib.BytesIn.nil _ _ _
  | some a => exact Lib.BytesIn.of_cells (ints8_at hl hr)
theorem equal_any (A1 A2 : Option Addr) (n c m d : Nat) (l1 l2 : List UInt8) (w : World) (h1 : l1.length = n) (h2 : l2.length = m) (r1 : Reads w w.heap.size 1 A1 n (u8s l1)) (r2 : Reads w w.heap.size 1 A2 m (u8s l2)) :
    Calls Tryd.prog 49 #[.slice A1 n c, .slice A2 m d] w fun e w' => e = .returned (.bool (l1 == l2)) ∧ w' = w := by
  have h := Tryd.bytes_Equal_all A1 A2 n c m d (ints8 l1) (ints8 l2) w (by simpa [ints8] using h1) (by simpa [ints8] using h2) (bytesIn8 h1 r1) (bytesIn8 h2 r2)
  rw [bytesOf_ints8, bytesOf_ints8] at h
  exact h
theorem clone_any (A : Option Addr) (n c : Nat) (l : List UInt8) (w : World) (hl : l.length = n) (hn : n ≤ 1000000000) (hr : Reads w w.heap.size 1 A n (u8s l)) :
    Calls Tryd.prog 36 #[.slice A n c] w fun e w' => ∃ v, e = .returned v ∧ w'.ownsRow w.heap.size 5 1 v n (u8s l) ∧ Below w.heap.size w w' := by
  cases A with
  | none =>
    obtain ⟨rfl, rfl⟩ := hr.empty8
    refine (Tryd.bytes_Clone_nil 0 c w).mono ?_
    rintro e w' ⟨rfl, rfl⟩
    exact ⟨_, rfl, World.ownsRow_nil _ _ _ _, Below.refl _ _⟩
  | some a =>
    refine (Tryd.bytes_Clone_at a n c (ints8 l) w (by simpa [ints8] using hl) (by omega) (ints8_at hl hr)).mono ?_
    rintro e w' ⟨v', rfl, ho, _, hb⟩
    refine ⟨v', rfl, ?_, hb⟩
    unfold ints8 at ho
    rw [List.map_map] at ho
    exact ho
theorem conv_nil (c : Nat) (w : World) : (convert 22 9 (.slice none 0 c)).run Tryd.prog w = .ok (.string ⟨#[]⟩) w := by kernel_rfl
/-- string(b), whatever slice b is -/
theorem conv_reads {w : World} {B n c : Nat} {A : Option Addr} {l : List UInt8} (hl : l.length = n) (hr : Reads w B 1 A n (u8s l)) : (convert 22 9 (.slice A n c)).run Tryd.prog w = .ok (.string ⟨l.toArray⟩) w := by
  subst hl
  cases A with
  | none =>
    obtain ⟨h0, rfl⟩ := hr.empty8
    exact conv_nil c w
  | some a =>
    refine run_string_bytes w 22 9 5 a l c Tryd.underlying22 Tryd.underlying5 Tryd.underlying9 fun j b hj => ?_
    have hp : 0 < l.length := by
      rcases Nat.lt_or_ge j l.length with h | h
      · omega
      · rw [List.getElem?_eq_none h] at hj; cases hj
    obtain ⟨ad, e, _, hc⟩ := hr.2 hp
    injection e with e
    subst e
    exact hc j _ (by rw [u8s_get, hj]; rfl)
end Go.Proofs.YtaljodmhalodhaaDoor
/-
  Walks by facts on slots: a field of a variable is set; appends.
-/
namespace Go.Proofs.YtaljodmhalodhaaDoor
open Go Go.RowKit
theorem own_kind {w : World} {base n size g : Nat} {v : Value} {e : TypeId} {xs : List Value} (h : w.ownsRow base e size v n xs) (hg : v.ownBlock = some g) : ∃ cs, w.heap[g]? = some (.cells cs e (0, 0)) := by
  rcases h.2 with ⟨rfl, _⟩ | ⟨g', cap, cur, rfl, _, hc, _⟩
  · cases hg
  · have : g' = g := by simpa [Value.ownBlock] using hg
    subst this
    exact ⟨cur, hc⟩
theorem own_ne {w : World} {base n size i : Nat} {v : Value} {e t : TypeId} {xs : List Value} {cs : Array Value} (h : w.ownsRow base e size v n xs) (hi : Blk w i t cs) (ht : t ≠ e) : ∀ g, v.ownBlock = some g → g ≠ i := fun g hg he => by
  obtain ⟨cs', hc⟩ := own_kind h hg
  unfold Blk at hi
  rw [he, hi] at hc
  injection hc with hc
  injection hc with _ hc
  exact ht hc
theorem add0 (g k : Nat) : (⟨g, 0, none⟩ : Addr).add k = ⟨g, k, none⟩ := by
  unfold Addr.add
  by_cases h : k = 0 <;> simp [h]
theorem Only.grown {g : Nat} {w w' : World} (h : Only g w w') : w.grownBy w' (some g) := ⟨h.os, h.tape, h.output, by rw [h.size]; exact Nat.le_refl _, fun k _ hk => h.block k (fun e => hk (by rw [e]))⟩
theorem ownsRow_empty {w : World} {B g size : Nat} {T : TypeId} (K : Blk w g T #[]) (hb : B ≤ g) : w.ownsRow B T size (.slice (some ⟨g, 0, none⟩) 0 0) 0 [] :=
  ⟨by simp, .inr ⟨g, 0, #[], rfl, hb, K, Nat.le_refl _, by unfold maxLen; omega, by simp, by simp⟩⟩
theorem nil_eq {P : Program} {t e : TypeId} (ht : P.underlying t = some (.slice e)) (a : Option Addr) (l c : Nat) (w : World) : (binOp .eql t (.slice a l c) (.slice none 0 0)).run P w = .ok (.bool a.isNone) w := Lib.run_eql_slice_nil w t e a l c 0 0 ht
section
variable {P : Program} {Q : Exit → Act → World → Prop} {a : Act} {w w' : World} {n : Nat} {Γ : Env} {l rest : List Oper} {o : Oper} {t : Nat} {v : Value}
/-- a field of a variable is set -/
theorem wl_setf {g j : Nat} {T : TypeId} {z : List Value} (zs : List Value) (c : Value) (hA : At n Γ a) (hg : o.guard = none) (hd : o.dst = none) (hK : Blk w g T z.toArray) (hz : z.set j c = zs) (hrun : ∀ ev, EvIn Γ ev → (execOp ev o).run P w = .ok .skip (w.setCell ⟨g, j, none⟩ c))
    (hk : ∀ w1, Blk w1 g T zs.toArray → Only g w w1 → wpList P l.toArray Q rest a w1) : wpList P l.toArray Q (o :: rest) a w := by
  refine wl_skip hA hg hd hrun (hk _ ?_ Only.set)
  have := hK.set_ j c
  rw [List.setIfInBounds_toArray, hz] at this
  exact this
/-- an operation whose answer goes nowhere -/
theorem wl_val0 {v : Value} (hA : At n Γ a) (hg : o.guard = none) (hd : o.dst = none) (hrun : ∀ ev, EvIn Γ ev → (execOp ev o).run P w = .ok (.value v) w')
    (hk : wpList P l.toArray Q rest a w') : wpList P l.toArray Q (o :: rest) a w := by
  refine wpList_plain hg fun K hK => ?_
  unfold Oper.wp
  rw [hrun _ hA.evin, Oper.upon_value, hd]
  exact hK _ _ hk
end
end Go.Proofs.YtaljodmhalodhaaDoor
/-
  Walks by facts on slots: a whole array, or struct, is loaded, stored, answered, whatever its cells.
-/
namespace Go.Proofs.YtaljodmhalodhaaDoor
open Go Go.RowKit
def isRowD (d : TypeDesc) : Bool := match d with | .struct _ | .array _ _ => true | _ => false
section
variable {P : Program} {Q : Exit → Act → World → Prop} {a : Act} {w w' : World} {n : Nat} {Γ : Env} {l rest : List Oper} {o : Oper} {t : Nat} {v : Value} {ev : Operand → Value} {g k : Nat} {T T' : TypeId} {cs : List Value} {d : TypeDesc}
theorem blk_load (K : Blk w g T cs.toArray) (hu : P.underlying T' = some d) (hd : isRowD d = true) (hi : (P.info? T').map (·.size) = some k) (hk : cs.length = k) : (loadVar T' ⟨g, 0, none⟩).run P w = .ok (.agg cs.toArray) w :=
  run_loadVar_row w g T T' cs.toArray (0, 0) d K hu (by cases d <;> first | rfl | (cases hd)) (by rw [hi, List.size_toArray, hk])
theorem exec_loadA {x : Operand} (K : Blk w g T cs.toArray) (hu : P.underlying T' = some d) (hd : isRowD d = true) (hi : (P.info? T').map (·.size) = some k) (hk : cs.length = k) (ho : o.op = .load T' x) (hx : ev x = .pointer (some ⟨g, 0, none⟩)) : (execOp ev o).run P w = .ok (.value (.agg cs.toArray)) w := by
  have h := blk_load K hu hd hi hk
  unfold execOp
  simp only [ho]
  simp [Instr.loadAt, Instr.sureAddr, hx, h, Result.andThen]
theorem Only.setRow {cs : Array Value} : Only g w (w.setRow g cs) := ⟨rfl, rfl, rfl, by unfold World.setRow; simp, fun i hi => by
  unfold World.setRow
  simp only [Array.getElem?_modify]
  rw [if_neg (fun e => hi e.symm)]⟩
/-- a whole variable is set -/
theorem wl_setw {x y : Operand} {z : List Value} (cs : List Value) (hA : At n Γ a) (hg : o.guard = none) (hd : o.dst = none) (K : Blk w g T z.toArray) (hz : z.length = k) (hk : cs.length = k) (hi : (P.info? T').map (·.size) = some k) (h1 : cs.all (·.oneCell') = true) (ho : o.op = .store T' x y)
    (hx : ∀ ev, EvIn Γ ev → ev x = .pointer (some ⟨g, 0, none⟩) ∧ ev y = .agg cs.toArray)
    (hk' : ∀ w1, Blk w1 g T cs.toArray → Only g w w1 → wpList P l.toArray Q rest a w1) : wpList P l.toArray Q (o :: rest) a w := by
  refine wl_skip hA hg hd (fun ev h => ?_) (hk' (w.setRow g cs.toArray) (setRow_heap w g _ _ T _ K) Only.setRow)
  obtain ⟨hx1, hx2⟩ := hx ev h
  have hs := run_storeVar_row (P := P) w g T T' z.toArray cs.toArray K (by rw [hi, List.size_toArray, hk]) (by simp; omega) (by simpa using h1)
  unfold execOp
  simp only [ho]
  simp [Instr.storeAt, Instr.sureAddr, hx1, hx2, hs, Result.andThen]
theorem results_cell {fn : Func} {t : Nat} {arr : Array Value} (hr : fn.results = #[.cell t T']) (ht : arr.getD t undef = .pointer (some ⟨g, 0, none⟩)) (K : Blk w g T cs.toArray) (hu : P.underlying T' = some d) (hd : isRowD d = true) (hi : (P.info? T').map (·.size) = some k) (hk : cs.length = k) : (results fn arr).run P w = .ok (.agg cs.toArray) w := by
  have h := blk_load K hu hd hi hk
  simp only [Array.getD_eq_getD_getElem?] at ht
  simp [results, hr, ht, asAddr, h]
theorem ret_cell {fn : Func} {R : Ending → World → Prop} (hA : At n Γ a) (t : Nat) (hr : fn.results = #[.cell t T']) (hl : look Γ t = some (.pointer (some ⟨g, 0, none⟩))) (K : Blk w g T cs.toArray) (hu : P.underlying T' = some d) (hd : isRowD d = true) (hi : (P.info? T').map (·.size) = some k) (hk : cs.length = k) (hR : R (.returned (.agg cs.toArray)) w) : bodyPost P fn R .ret a w :=
  ⟨hA.defers, _, results_cell hr (hA.getD t hl) K hu hd hi hk, hR⟩
def constOf : Operand → Value
  | .const v => v
  | _ => undef
def isConst : Operand → Bool
  | .const _ => true
  | _ => false
/-- an array of constants -/
theorem exec_buildC {Γ : Env} {parts : Array (Nat × Operand)} {v : Value} (hev : EvIn Γ ev) (ho : o.op = .build T parts) (hc : parts.all (fun p => isConst p.2) = true) (hr : (Instr.build T (parts.map fun p => (p.1, constOf p.2))).run P w = .ok v w) : (execOp ev o).run P w = .ok (.value v) w := by
  have e : (parts.map fun p => (p.1, ev p.2)) = parts.map fun p => (p.1, constOf p.2) := by
    apply Array.map_congr_left
    intro p hp
    have h1 := (Array.all_eq_true_iff_forall_mem.1 hc) p hp
    obtain ⟨i, x⟩ := p
    cases x with
    | const u => exact congrArg _ (hev.c u)
    | _ => cases h1
  unfold execOp
  simp only [ho]
  have e2 : (parts.map fun (x : Nat × Operand) => match x with | (i, p) => (i, ev p)) = parts.map fun p => (p.1, constOf p.2) := e
  simp [e2, hr]
end
end Go.Proofs.YtaljodmhalodhaaDoor
/-
  Walks: strings.Trim at an ASCII cutset.
-/
namespace Go.Proofs.YtaljodmhalodhaaDoor
open Go.RowKit
set_option linter.unusedSimpArgs false
set_option linter.unusedVariables false
/-- a text of bytes -/
abbrev St (l : List UInt8) : ByteArray := ⟨l.toArray⟩
def trimL (cut : List UInt8) (l : List UInt8) : List UInt8 := l.dropWhile (cut.contains ·)
/-- what is left without the last ones that are in a set -/
def trimR (cut : List UInt8) : List UInt8 → List UInt8
  | [] => []
  | x :: r => bif (x :: r).all (cut.contains ·) then [] else x :: trimR cut r
theorem trimR_snoc (cut : List UInt8) (x : UInt8) : ∀ l : List UInt8, trimR cut (l ++ [x]) = bif cut.contains x then trimR cut l else l ++ [x]
  | [] => by
    show (bif ([x]).all (cut.contains ·) then [] else x :: trimR cut []) = _
    rw [show ([x]).all (cut.contains ·) = cut.contains x by rw [List.all_cons, List.all_nil, Bool.and_true]]
    cases cut.contains x <;> rfl
  | y :: r => by
    have ih := trimR_snoc cut x r
    rw [List.cons_append]
    show (bif (y :: (r ++ [x])).all (cut.contains ·) then [] else y :: trimR cut (r ++ [x])) = bif cut.contains x then (bif (y :: r).all (cut.contains ·) then [] else y :: trimR cut r) else y :: (r ++ [x])
    rw [ih, ← List.cons_append, List.all_append, show ([x]).all (cut.contains ·) = cut.contains x by rw [List.all_cons, List.all_nil, Bool.and_true]]
    cases cut.contains x
    · rw [Bool.and_false]; rfl
    · rw [Bool.and_true]; rfl
theorem cell_add0 {w : World} {g k : Nat} {v : Value} (h : w.cell? ((⟨g, 0, none⟩ : Addr).add k) = v) : w.cell? ⟨g, k, none⟩ = v := by rwa [add0] at h
theorem set_cell {w : World} {g : Nat} {T : TypeId} {cut : List UInt8} (K : Blk w g T (Lib.setCells cut)) (x : UInt8) : w.cell? ⟨g, x.toNat, none⟩ = some (.bool (cut.contains x)) := by
  rw [K.cell, Lib.setCells_at]
theorem extract_drop (l : List UInt8) (a b : Nat) (h : b = l.length) : (St l).extract a b = St (l.drop a) := by
  apply ByteArray.ext
  apply Array.ext'
  subst h
  rw [ByteArray.data_extract, Array.toList_extract, List.extract_eq_take_drop]
  exact List.take_of_length_le (by rw [List.length_drop]; exact Nat.le_refl _)
theorem extract_take (l : List UInt8) (b : Nat) : (St l).extract 0 b = St (l.take b) := by
  apply ByteArray.ext
  apply Array.ext'
  simp
set_option maxRecDepth 100000 in
theorem trimLeft_any (cut l : List UInt8) (g : Nat) (w : World) (hl : l.length ≤ 1000000) (K : Blk w g 87 (Lib.setCells cut)) :
    Calls Tryd.prog 68 #[.string (St l), .pointer (some ⟨g, 0, none⟩)] w fun ev w' => ev = .returned (.string (St (trimL cut l))) ∧ w' = w := by
  refine calls_at 16 Tryd.func68 rfl rfl (Nat.le_of_ble_eq_true rfl) ?_
  intro a hA; replace hA := hA.norm
  refine wS (wR ?_)
  revert a; refine wo rfl rfl (by decide) (fun ev e h => by simp [go_sem, h] <;> rfl) ?_; intro a hA
  replace hA := hA.keepN [0, 1]
  refine wN (nT (wS (wB ?_)))
  refine wp_loop_at (fun k a wx => ∃ (m : List UInt8), m.length = k ∧ trimL cut l = trimL cut m ∧ At 16 [(0, .string (St m)), (1, .pointer (some ⟨g, 0, none⟩))] a ∧ wx = w) (l.length) ?_ ?_
  · exact ⟨l, rfl, rfl, hA, rfl⟩
  rintro k a wx ⟨m, hm, ht, hA, rfl⟩
  refine wS (wS (wR ?_))
  revert a; (iterate 3 refine wo rfl rfl (by decide) (fun ev e h => by simp [go_sem, h] <;> rfl) ?_); intro a hA
  replace hA := hA.keepN [0, 1, 7]
  refine wN (nT ?_)
  refine wp_if hA 7 _ rfl (fun hq => ?yL) (fun hq => ?nL)
  case yL =>
    match m, hm with
    | [], hm =>
      exact absurd hq (by decide)
    | x :: r, hm =>
      refine wp_skip (nT (wB (wS (wS (wR ?_)))))
      revert a; (iterate 3 refine wo rfl rfl (by decide) (fun ev e h => by simp [go_sem, h] <;> rfl) ?_); intro a hA
      refine wl_call hA rfl rfl (by decide) (fun ev h => exec_call Tryd.func85 (by kernel_rfl) rfl (h.f _) (by first | (simp only [mL, h.get 8 rfl, h.get 10 rfl, h.c] <;> rfl) | (simp [mL, h.get 8 rfl, h.get 10 rfl, h.c] <;> rfl))) (Tryd.asciiSet_contains g x (cut.contains x) _ (set_cell K x)) ?_
      rintro e wa ⟨rfl, rfl⟩
      refine ⟨_, rfl, fun a hA => ?_⟩
      revert a; refine wo rfl rfl (by decide) (fun ev e h => by simp [go_sem, h] <;> rfl) ?_; intro a hA
      replace hA := hA.keepN [0, 1, 12]
      refine wN (nT ?_)
      refine wp_if hA 12 _ rfl (fun hq2 => ?yR) (fun hq2 => ?nR)
      case yR =>
        have hx : cut.contains x = false := by simpa using hq2
        replace hA := hA.keepN [0]
        refine wp_exit (xT (x_miss (by decide) (xT (xB (nT (wS (wR ?_)))))))
        revert a; (iterate 2 refine wo rfl rfl (by decide) (fun ev e h => by simp [go_sem, h] <;> rfl) ?_); intro a hA
        replace hA := hA.keepN [4]
        refine wN (nT (wp_ret ?_))
        refine ret_1 hA 4 rfl rfl ?_
        refine ⟨?_, rfl⟩
        rw [ht]
        unfold trimL
        rw [List.dropWhile_cons, hx]
        rfl
      case nR =>
        have hx : cut.contains x = true := by simpa using hq2
        have hext : (St (x :: r)).extract 1 (r.length + 1) = St r := extract_drop (x :: r) 1 _ rfl
        have hle : (1 : Int) ≤ (r.length : Int) + 1 := by omega
        refine wp_skip (nT (wR ?_))
        revert a; (iterate 3 refine wo rfl rfl (by decide) (fun ev e h => by simp [go_sem, h, hext, hle] <;> rfl) ?_); intro a hA
        replace hA := hA.keepN [0, 1]
        refine wN (nB (nT ?_))
        refine ⟨r.length, by rw [← hm]; exact Nat.lt_succ_self _, r, rfl, ?_, hA, rfl⟩
        rw [ht]
        unfold trimL
        rw [List.dropWhile_cons, hx]
        rfl
  case nL =>
    have hm0 : m = [] := by
      have : m.length = 0 := by simp at hq; exact hq ▸ rfl
      exact List.length_eq_zero_iff.1 this
    subst hm0
    replace hA := hA.keepN [0]
    refine wp_exit (xT (xT (xB (nT (wS (wR ?_))))))
    revert a; (iterate 2 refine wo rfl rfl (by decide) (fun ev e h => by simp [go_sem, h] <;> rfl) ?_); intro a hA
    replace hA := hA.keepN [4]
    refine wN (nT (wp_ret ?_))
    refine ret_1 hA 4 rfl rfl ?_
    exact ⟨by rw [ht]; rfl, rfl⟩
theorem snoc_of {l : List UInt8} {k : Nat} (h : l.length = k + 1) : ∃ r x, l = r ++ [x] ∧ r.length = k := by
  refine ⟨l.dropLast, l.getLast (fun e => by rw [e] at h; cases h), (List.dropLast_concat_getLast _).symm, by rw [List.length_dropLast, h]; rfl⟩
theorem get_snoc (r : List UInt8) (x : UInt8) (k : Nat) (hk : r.length = k) (h : k < (St (r ++ [x])).size) : (St (r ++ [x]))[k] = x := by
  subst hk
  show (r ++ [x])[r.length]'_ = x
  simp
set_option maxRecDepth 100000 in
theorem trimRight_any (cut l : List UInt8) (g : Nat) (w : World) (hl : l.length ≤ 1000000) (K : Blk w g 87 (Lib.setCells cut)) :
    Calls Tryd.prog 69 #[.string (St l), .pointer (some ⟨g, 0, none⟩)] w fun ev w' => ev = .returned (.string (St (trimR cut l))) ∧ w' = w := by
  refine calls_at 22 Tryd.func69 rfl rfl (Nat.le_of_ble_eq_true rfl) ?_
  intro a hA; replace hA := hA.norm
  refine wS (wR ?_)
  revert a; refine wo rfl rfl (by decide) (fun ev e h => by simp [go_sem, h] <;> rfl) ?_; intro a hA
  replace hA := hA.keepN [0, 1]
  refine wN (nT (wS (wB ?_)))
  refine wp_loop_at (fun k a wx => ∃ (m : List UInt8), m.length = k ∧ k ≤ 1000000 ∧ trimR cut l = trimR cut m ∧ At 22 [(0, .string (St m)), (1, .pointer (some ⟨g, 0, none⟩))] a ∧ wx = w) (l.length) ?_ ?_
  · exact ⟨l, rfl, hl, rfl, hA, rfl⟩
  rintro k a wx ⟨m, hm, hk, ht, hA, rfl⟩
  refine wS (wS (wR ?_))
  revert a; (iterate 3 refine wo rfl rfl (by decide) (fun ev e h => by simp [go_sem, h] <;> rfl) ?_); intro a hA
  replace hA := hA.keepN [0, 1, 7]
  refine wN (nT ?_)
  refine wp_if hA 7 _ rfl (fun hq => ?yL) (fun hq => ?nL)
  case yL =>
    obtain ⟨q, rfl⟩ : ∃ q, k = q + 1 := ⟨k - 1, by simp at hq; omega⟩
    obtain ⟨r, x, hM, hr⟩ := snoc_of hm
    have e1 : IntKind.i64.wrap (q : Int) = (q : Int) := IntWalk.i64_in _ (by omega)
    have j1 : (0 : Int) ≤ (q : Int) := by omega
    have j2 : (q : Int) < (q : Int) + 1 := by omega
    have j3 : q < q + 1 := by omega
    have hgx : ∀ h : q < (St m).size, (St m)[q]'h = x := fun h => by subst hM; exact get_snoc r x q hr h
    refine wp_skip (nT (wB (wS (wS (wR ?_)))))
    revert a; (iterate 6 refine wo rfl rfl (by decide) (fun ev e h => by simp [go_sem, h, hm, e1, j1, j2, j3, hgx] <;> rfl) ?_); intro a hA
    refine wl_call hA rfl rfl (by decide) (fun ev h => exec_call Tryd.func85 (by kernel_rfl) rfl (h.f _) (by first | (simp only [mL, h.get 8 rfl, h.get 13 rfl, h.c] <;> rfl) | (simp [mL, h.get 8 rfl, h.get 13 rfl, h.c, hm, e1, j1, j2, j3, hgx] <;> rfl))) (Tryd.asciiSet_contains g x (cut.contains x) _ (set_cell K x)) ?_
    rintro e wa ⟨rfl, rfl⟩
    refine ⟨_, rfl, fun a hA => ?_⟩
    have hsn := trimR_snoc cut x r
    rw [← hM] at hsn
    revert a; refine wo rfl rfl (by decide) (fun ev e h => by simp [go_sem, h, hm, e1, j1, j2, j3, hgx] <;> rfl) ?_; intro a hA
    replace hA := hA.keepN [0, 1, 15]
    refine wN (nT ?_)
    refine wp_if hA 15 _ rfl (fun hq2 => ?yR) (fun hq2 => ?nR)
    case yR =>
      have hx : cut.contains x = false := by simpa using hq2
      replace hA := hA.keepN [0]
      refine wp_exit (xT (x_miss (by decide) (xT (xB (nT (wS (wR ?_)))))))
      revert a; (iterate 2 refine wo rfl rfl (by decide) (fun ev e h => by simp [go_sem, h, hm, e1, j1, j2, j3, hgx] <;> rfl) ?_); intro a hA
      replace hA := hA.keepN [4]
      refine wN (nT (wp_ret ?_))
      refine ret_1 hA 4 rfl rfl ?_
      refine ⟨?_, rfl⟩
      rw [ht, hsn, hx, hM]
      rfl
    case nR =>
      have hx : cut.contains x = true := by simpa using hq2
      have hext : (St m).extract 0 q = St r := by rw [extract_take, hM, ← hr, List.take_left' rfl]
      have j4 : (q : Int) ≤ (q : Int) + 1 := by omega
      refine wp_skip (nT (wR ?_))
      revert a; (iterate 6 refine wo rfl rfl (by decide) (fun ev e h => by simp [go_sem, h, hm, e1, j1, j4, hext] <;> rfl) ?_); intro a hA
      replace hA := hA.keepN [0, 1]
      refine wN (nB (nT ?_))
      refine ⟨q, Nat.lt_succ_self _, r, hr, by omega, ?_, hA, rfl⟩
      rw [ht, hsn, hx]
      rfl
  case nL =>
    have hm0 : m = [] := by simpa using hq
    subst hm0
    replace hA := hA.keepN [0]
    refine wp_exit (xT (xT (xB (nT (wS (wR ?_))))))
    revert a; (iterate 2 refine wo rfl rfl (by decide) (fun ev e h => by simp [go_sem, h] <;> rfl) ?_); intro a hA
    replace hA := hA.keepN [4]
    refine wN (nT (wp_ret ?_))
    refine ret_1 hA 4 rfl rfl ?_
    exact ⟨by rw [ht]; rfl, rfl⟩
def trimS (cut l : List UInt8) : List UInt8 := trimL cut (trimR cut l)
theorem trimR_len (cut : List UInt8) : ∀ l : List UInt8, (trimR cut l).length ≤ l.length
  | [] => Nat.le_refl _
  | x :: r => by
    unfold trimR
    cases (x :: r).all (cut.contains ·)
    · have := trimR_len cut r
      simp only [cond_false, List.length_cons]
      omega
    · simp
theorem trimR_all {cut l : List UInt8} (h : l.all (cut.contains ·) = true) : trimR cut l = [] := by
  cases l with
  | nil => rfl
  | cons x r => unfold trimR; rw [h]; rfl
theorem trimR_ne {cut : List UInt8} : ∀ {l : List UInt8}, l.all (cut.contains ·) = false → ∃ r x, trimR cut l = r ++ [x] ∧ cut.contains x = false
  | [], h => by cases h
  | x :: r, h => by
    unfold trimR
    rw [h, cond_false]
    cases hr : r.all (cut.contains ·) with
    | true =>
      rw [trimR_all hr]
      rw [List.all_cons, hr, Bool.and_true] at h
      exact ⟨[], x, rfl, h⟩
    | false =>
      obtain ⟨s, y, e, hy⟩ := trimR_ne hr
      exact ⟨x :: s, y, by rw [e]; rfl, hy⟩
/-- nothing is left just of what is in the set -/
theorem trimS_nil (cut l : List UInt8) : (trimS cut l == []) = l.all (cut.contains ·) := by
  unfold trimS
  cases h : l.all (cut.contains ·) with
  | true => rw [trimR_all h]; rfl
  | false =>
    obtain ⟨r, x, e, hx⟩ := trimR_ne h
    rw [e]
    unfold trimL
    have : ∀ s : List UInt8, (s ++ [x]).dropWhile (cut.contains ·) ≠ [] := by
      intro s
      induction s with
      | nil => rw [List.nil_append, List.dropWhile_cons, hx]; simp
      | cons y s ih =>
        rw [List.cons_append, List.dropWhile_cons]
        split
        · exact ih
        · simp
    simpa using this r
set_option maxRecDepth 100000 in
theorem trim_any (cut l : List UInt8) (w : World) (hl : l.length ≤ 1000000) (h2 : 2 ≤ cut.length) (hc : cut.length ≤ 1000) (hascii : ∀ (j : Nat) b, cut[j]? = some b → b.toNat < 128) :
    Calls Tryd.prog 52 #[.string (St l), .string (St cut)] w fun ev w' => ev = .returned (.string (St (trimS cut l))) ∧ Below w.heap.size w w' := by
  have hv : ∀ w, (zeroValue 87).run Tryd.prog w = .ok (.agg (Array.replicate 256 (.bool false))) w := fun w => by kernel_rfl
  obtain ⟨C, hC⟩ : ∃ C, St cut = C := ⟨_, rfl⟩
  have hsz : C.size = cut.length := by rw [← hC]; rfl
  have hCl : C.data.toList = cut := by rw [← hC]
  have c1 : ((cut.length : Int) == 1) = false := by simp; omega
  have hCe : C.toList.isEmpty = false := by
    rw [ByteArray.toList_eq, hCl]
    cases cut with
    | nil => simp at h2
    | cons x r => rfl
  have hCa : ∀ (j : Nat) b, C.data.toList[j]? = some b → b.toNat < 128 := by rw [hCl]; exact hascii
  rw [hC]
  refine calls_at 43 Tryd.func52 rfl rfl (Nat.le_of_ble_eq_true rfl) ?_
  intro a hA; replace hA := hA.norm
  refine wS (wR ?_)
  revert a; refine wo rfl rfl (by decide) (fun ev e h => by simp [go_sem, h, hsz, c1, hCe] <;> rfl) ?_; intro a hA
  replace hA := hA.keepN [0, 1]
  refine wN (nT (wS (wS (wR ?_))))
  revert a; (iterate 3 refine wo rfl rfl (by decide) (fun ev e h => by simp [go_sem, h, hsz, c1, hCe] <;> rfl) ?_); (iterate 2 refine wg _ rfl rfl rfl rfl (by decide) (fun hq ev e h => by simp [go_sem, h, ↓gw_t (beq_t hq), hsz, c1, hCe] <;> rfl) ?_); (first | refine wko rfl rfl (by decide) rfl rfl rfl ?_ | refine wo rfl rfl (by decide) (fun ev e h => by simp [go_sem, h, gv_or, gv_and, hsz, c1, hCe] <;> rfl) ?_); intro a hA
  replace hA := hA.keepN [0, 1, 12]
  refine wN (nT ?_)
  rw [Bool.or_false] at hA
  refine wp_if hA 12 _ rfl (fun hq => ?yA) (fun hq => ?nA)
  case yA =>
    have hl0 : l = [] := by simpa using hq
    subst hl0
    refine wS (wR ?_)
    revert a; (iterate 2 refine wo rfl rfl (by decide) (fun ev e h => by simp [go_sem, h, hsz, c1, hCe] <;> rfl) ?_); intro a hA
    replace hA := hA.keepN [4]
    refine wN (nT (wp_ret (rT ?_)))
    refine ret_1 hA 4 rfl rfl ?_
    exact ⟨rfl, Below.refl _ _⟩
  case nA =>
    refine wp_skip (nT (wS (wS (wR ?_))))
    refine wl_op hA rfl rfl (by decide) (fun ev h => by simp [go_sem, h.get 1 rfl, hsz, c1]; try first | exact ⟨rfl, rfl⟩ | rfl) fun a hA => ?_
    refine wl_op hA rfl rfl (by decide) (fun ev h => by simp [go_sem, h.get 14 rfl, hsz, c1]; try first | exact ⟨rfl, rfl⟩ | rfl) fun a hA => ?_
    refine wl_op hA rfl rfl (by decide) (fun ev h => by simp [go_sem, h.c, h.get 15 rfl, hsz, c1]; try first | exact ⟨rfl, rfl⟩ | rfl) fun a hA => ?_
    refine wl_op hA rfl rfl (by decide) (fun ev h => by simp [go_sem, h.get 16 rfl, hsz, c1]; try first | exact ⟨rfl, rfl⟩ | rfl) fun a hA => ?_
    refine wl_guard _ (v := .bool false) hA rfl rfl rfl rfl (by decide) (fun hq ev h => by first | (cases hq; done) | (cases hr; done)) fun a hA => ?_
    refine wl_guard _ (v := .bool false) hA rfl rfl rfl rfl (by decide) (fun hq ev h => by first | (cases hq; done) | (cases hr; done)) fun a hA => ?_
    refine wl_guard _ (v := .bool false) hA rfl rfl rfl rfl (by decide) (fun hq ev h => by first | (cases hq; done) | (cases hr; done)) fun a hA => ?_
    revert a; (first | refine wka rfl rfl (by decide) rfl rfl rfl ?_ | refine wo rfl rfl (by decide) (fun ev e h => by simp [go_sem, h, gv_or, gv_and, hsz, c1] <;> rfl) ?_); intro a hA
    replace hA := hA.keepN [0, 1, 21]
    refine wN (nT ?_)
    refine wp_if hA 21 _ rfl (fun hq2 => ?yB) (fun hq2 => ?nB)
    case yB => cases hq2
    case nB =>
      refine wp_skip (nT (wS (wS (wR ?_))))
      revert a; refine wo rfl rfl (by decide) (fun ev e h => by simp [go_sem, h, hsz, c1] <;> rfl) ?_; intro a hA
      refine wl_call hA rfl rfl (by decide) (fun ev h => exec_call Tryd.func67 (by kernel_rfl) rfl (h.f _) (by first | (simp only [mL, h.get 30 rfl, h.c] <;> rfl) | (simp [mL, h.get 30 rfl, h.c, hsz, c1] <;> rfl))) (Tryd.strings_makeASCIISet hv C _ (by rw [hsz]; omega) hCa) ?_
      rintro e w1 ⟨rfl, hw1⟩
      refine ⟨_, rfl, fun a hA => ?_⟩
      have hb1 : Below w.heap.size w w1 := by rw [hw1]; exact (Below.refl _ _).alloc (Nat.le_refl _) _
      clear hw1
      rw [hCl] at hA
      revert a; (iterate 3 refine wo rfl rfl (by decide) (fun ev e h => by simp [go_sem, h, hv] <;> rfl) ?_); intro a hA
      refine wl_new hA rfl rfl (by decide) (fun ev h => by simp [go_sem, hv]; try first | exact ⟨rfl, rfl⟩ | rfl) fun w2 a (K : Blk _ _ _ _) hz hb2 hA => ?_
      replace K : Blk w2 w1.heap.size 87 (List.replicate 256 (.bool false)).toArray := by rw [List.toArray_replicate]; exact K
      have h256 : (Lib.setCells cut).toList.length = 256 := by rw [Array.length_toList, Lib.setCells_size]
      have hone : (Lib.setCells cut).toList.all (·.oneCell') = true := by
        have := Lib.setCells_one cut
        rwa [← Array.all_toList] at this
      refine wl_setw ((Lib.setCells cut).toList) hA rfl rfl K (by simp) h256 (by kernel_rfl) hone rfl (fun ev h => ⟨h.get 5 rfl, h.get 32 rfl⟩) fun w3 (K : Blk _ _ _ _) hs => ?_
      have hb3 := hs.below hb2 (Nat.le_refl _)
      replace K : Blk w3 w1.heap.size 87 (Lib.setCells cut) := K
      revert a; refine wo rfl rfl (by decide) (fun ev e h => by simp [go_sem, h] <;> rfl) ?_; intro a hA
      replace hA := hA.keepN [0, 1, 5, 6]
      refine wN (nT (wS (wR ?_)))
      revert a; refine wo rfl rfl (by decide) (fun ev e h => by simp [go_sem, h] <;> rfl) ?_; intro a hA
      replace hA := hA.keepN [0, 1, 5, 34]
      refine wN (nT ?_)
      refine wp_if hA 34 _ rfl (fun hq3 => ?yD) (fun hq3 => ?nD)
      case nD => cases hq3
      case yD =>
        refine wS (wR ?_)
        revert a; refine wo rfl rfl (by decide) (fun ev e h => by simp [go_sem, h] <;> rfl) ?_; intro a hA
        refine wl_call hA rfl rfl (by decide) (fun ev h => exec_call Tryd.func69 (by kernel_rfl) rfl (h.f _) (by first | (simp only [mL, h.get 35 rfl, h.get 5 rfl, h.c] <;> rfl) | (simp [mL, h.get 35 rfl, h.get 5 rfl, h.c] <;> rfl))) (trimRight_any cut l _ _ hl K) ?_
        rintro e w4 ⟨rfl, rfl⟩
        refine ⟨_, rfl, fun a hA => ?_⟩
        refine wl_call hA rfl rfl (by decide) (fun ev h => exec_call Tryd.func68 (by kernel_rfl) rfl (h.f _) (by first | (simp only [mL, h.get 36 rfl, h.get 5 rfl, h.c] <;> rfl) | (simp [mL, h.get 36 rfl, h.get 5 rfl, h.c] <;> rfl))) (trimLeft_any cut (trimR cut l) _ _ (Nat.le_trans (trimR_len cut l) hl) K) ?_
        rintro e w5 ⟨rfl, rfl⟩
        refine ⟨_, rfl, fun a hA => ?_⟩
        revert a; refine wo rfl rfl (by decide) (fun ev e h => by simp [go_sem, h] <;> rfl) ?_; intro a hA
        replace hA := hA.keepN [4]
        refine wN (nT (wp_ret (rT ?_)))
        refine ret_1 hA 4 rfl rfl ?_
        exact ⟨rfl, hb1.trans (hb3.mono hb1.size)⟩
end Go.Proofs.YtaljodmhalodhaaDoor
/-
  Units of bytes, plainly: byte by byte, and line by line: the same.
-/
namespace Go.Proofs.YtaljodmhalodhaaDoor
structure ChunkS where
  done : List UInt8
  line : List UInt8
  left : Nat
  lost : Bool
  ahead : List UInt8
def chunk0 : ChunkS := ⟨[], [], 0, false, []⟩
abbrev UnitB := Nat × List UInt8
def digitB (b : UInt8) : Bool := decide (48 ≤ b.toNat) && decide (b.toNat ≤ 57)
def valB (ds : List UInt8) : Nat := ds.foldl (fun n b => n * 10 + (b.toNat - 48)) 0
/-- the length that a line's end asks for -/
def litP (line : List UInt8) : Option Nat := match line.reverse with
  | 125 :: r => (match r.dropWhile digitB with
    | 123 :: _ => if 1 ≤ (r.takeWhile digitB).length ∧ (r.takeWhile digitB).length ≤ 6 then some (valB (r.takeWhile digitB).reverse) else none
    | _ => none)
  | _ => none
/-- what a whole line completes -/
def endS (s : ChunkS) : ChunkS × List UnitB :=
  if s.lost = true then (chunk0, [(2, s.ahead)]) else match litP s.line with
    | some n => if 20000 < n then (chunk0, [(3, (s.done ++ s.line).take 100)]) else (⟨s.done ++ s.line ++ [13, 10], [], n, false, s.ahead⟩, [(4, [])])
    | none => (chunk0, [(1, s.done ++ s.line)])
def longL (n : Nat) (x : UInt8) : Bool := decide (2001 < n) || (decide (2000 < n) && !(x == 13))
def keepS (s : ChunkS) (x : UInt8) (line : List UInt8) : ChunkS :=
  if s.lost = true then ⟨s.done, [x], s.left, true, s.ahead⟩ else if longL line.length x = true then ⟨s.done, [x], s.left, true, (s.done ++ line).take 100⟩ else ⟨s.done, line, s.left, false, s.ahead⟩
def addS (s : ChunkS) (x : UInt8) : ChunkS × List UnitB :=
  if (s.line ++ [x]).drop ((s.line ++ [x]).length - 2) = [13, 10] then endS ⟨s.done, (s.line ++ [x]).take ((s.line ++ [x]).length - 2), s.left, s.lost, s.ahead⟩ else (keepS s x (s.line ++ [x]), [])
def stepS (s : ChunkS) (x : UInt8) : ChunkS × List UnitB := if 0 < s.left then (⟨s.done ++ [x], s.line, s.left - 1, s.lost, s.ahead⟩, []) else addS s x
def feedS : ChunkS → List UInt8 → ChunkS × List UnitB
  | s, [] => (s, [])
  | s, x :: r => ((feedS (stepS s x).1 r).1, (stepS s x).2 ++ (feedS (stepS s x).1 r).2)
theorem feed_nil (s : ChunkS) : feedS s [] = (s, []) := rfl
theorem feed_cons (s : ChunkS) (x : UInt8) (r : List UInt8) : feedS s (x :: r) = ((feedS (stepS s x).1 r).1, (stepS s x).2 ++ (feedS (stepS s x).1 r).2) := rfl
theorem feed_append : ∀ (s : ChunkS) (a b : List UInt8), feedS s (a ++ b) = ((feedS (feedS s a).1 b).1, (feedS s a).2 ++ (feedS (feedS s a).1 b).2)
  | s, [], b => by rw [List.nil_append, feed_nil, List.nil_append]
  | s, x :: a, b => by
    rw [List.cons_append, feed_cons, feed_cons, feed_append _ a b, List.append_assoc]
/-- bytes of a literal -/
theorem feed_left : ∀ (b : List UInt8) (s : ChunkS), b.length ≤ s.left → feedS s b = (⟨s.done ++ b, s.line, s.left - b.length, s.lost, s.ahead⟩, [])
  | [], s, _ => by unfold feedS; simp
  | x :: b, s, h => by
    rw [List.length_cons] at h
    have e : stepS s x = (⟨s.done ++ [x], s.line, s.left - 1, s.lost, s.ahead⟩, []) := by unfold stepS; rw [if_pos (by omega)]
    rw [feed_cons, e, feed_left b _ (show b.length ≤ s.left - 1 by omega)]
    simp only [List.append_assoc, List.nil_append, List.length_cons, List.singleton_append]
    rw [show s.left - 1 - b.length = s.left - (b.length + 1) by omega]
/-- the first line, and what stands behind it -/
def crlf : List UInt8 → Option (List UInt8 × List UInt8)
  | [] => none
  | x :: r => if x = 13 ∧ r.head? = some 10 then some ([], r.tail) else (crlf r).map fun p => (x :: p.1, p.2)
theorem crlf_some : ∀ {b l r : List UInt8}, crlf b = some (l, r) → b = l ++ [13, 10] ++ r
  | [], l, r, h => by cases h
  | x :: b, l, r, h => by
    unfold crlf at h
    split at h
    · rename_i hx
      obtain ⟨rfl, h2⟩ := hx
      injection h with h
      injection h with h3 h4
      subst h3 h4
      cases b with
      | nil => cases h2
      | cons y b =>
        injection h2 with h2
        subst h2
        rfl
    · cases hc : crlf b with
      | none => rw [hc] at h; cases h
      | some p =>
        rw [hc] at h
        injection h with h
        injection h with h3 h4
        subst h3 h4
        rw [crlf_some (b := b) (l := p.1) (r := p.2) (by rw [hc])]
        rfl
def unitsS : Nat → List UInt8 → List UInt8 → List UnitB × Bool
  | 0, _, _ => ([], false)
  | f + 1, d, b => match crlf b with
    | none => ([], false)
    | some (line, rest) =>
      if 2000 < line.length then ((2, (d ++ line).take 100) :: (unitsS f [] rest).1, (unitsS f [] rest).2) else match litP line with
        | some n => if 20000 < n then ((3, (d ++ line).take 100) :: (unitsS f [] rest).1, (unitsS f [] rest).2) else if rest.length < n then ([(4, [])], true) else ((4, []) :: (unitsS f (d ++ line ++ [13, 10] ++ rest.take n) (rest.drop n)).1, (unitsS f (d ++ line ++ [13, 10] ++ rest.take n) (rest.drop n)).2)
        | none => ((1, d ++ line) :: (unitsS f [] rest).1, (unitsS f [] rest).2)
-- a line, byte by byte
def lostP (p : List UInt8) : Bool := decide (2001 < p.length) || (decide (2000 < p.length) && !(p.getLast? == some 13))
def after (d p : List UInt8) : ChunkS := if lostP p = true then ⟨d, [p.getLast?.getD 0], 0, true, (d ++ p).take 100⟩ else ⟨d, p, 0, false, []⟩
theorem take100 (d p : List UInt8) (x : List UInt8) (h : 2000 < p.length) : (d ++ (p ++ x)).take 100 = (d ++ p).take 100 := by
  rw [← List.append_assoc, List.take_append_of_le_length (by rw [List.length_append]; omega)]
theorem drop_two (p : List UInt8) (x : UInt8) : (p ++ [x]).drop ((p ++ [x]).length - 2) = [13, 10] ↔ p.getLast? = some 13 ∧ x = 10 := by
  rcases List.eq_nil_or_concat p with e | ⟨q, y, e⟩
  · subst e
    simp
  · subst e
    rw [List.concat_eq_append, List.append_assoc, List.getLast?_concat, List.length_append, show [y] ++ [x] = [y, x] from rfl, show q.length + [y, x].length - 2 = q.length by simp, List.drop_left' rfl]
    simp
theorem take_two (p : List UInt8) (x y : UInt8) : (p ++ [x] ++ [y]).take ((p ++ [x] ++ [y]).length - 2) = p := by
  rw [List.append_assoc, List.length_append, show p.length + ([x] ++ [y]).length - 2 = p.length by simp, List.take_left' rfl]
theorem lostP_snoc (p : List UInt8) (x : UInt8) : lostP (p ++ [x]) = longL (p.length + 1) x := by
  unfold lostP longL
  rw [List.length_append, List.getLast?_concat]
  simp
theorem lostP_len {p : List UInt8} (h : lostP p = true) : 2000 < p.length := by
  unfold lostP at h
  simp at h
  omega
theorem after_step (d p : List UInt8) (x : UInt8) (h : ¬ (p.getLast? = some 13 ∧ x = 10)) : stepS (after d p) x = (after d (p ++ [x]), []) := by
  unfold stepS addS
  cases hl : lostP p with
  | true =>
    have h1 := lostP_len hl
    have e : after d p = ⟨d, [p.getLast?.getD 0], 0, true, (d ++ p).take 100⟩ := by unfold after; rw [if_pos hl]
    have hlast : ¬ ([p.getLast?.getD 0] ++ [x]).drop (([p.getLast?.getD 0] ++ [x]).length - 2) = [13, 10] := by
      rw [drop_two]
      intro ⟨h3, h4⟩
      refine h ⟨?_, h4⟩
      rcases List.eq_nil_or_concat p with e2 | ⟨q, y, e2⟩
      · rw [e2] at h1; simp at h1
      · rw [e2, List.concat_eq_append, List.getLast?_concat] at h3 ⊢
        simpa using h3
    rw [e, if_neg (by simp), if_neg hlast]
    have h2 : lostP (p ++ [x]) = true := by rw [lostP_snoc]; unfold longL; simp; omega
    unfold keepS after
    rw [if_pos rfl, if_pos h2, take100 d p [x] h1, List.getLast?_concat]
    rfl
  | false =>
    have e : after d p = ⟨d, p, 0, false, []⟩ := by unfold after; rw [if_neg (by rw [hl]; decide)]
    have hlast : ¬ (p ++ [x]).drop ((p ++ [x]).length - 2) = [13, 10] := by rw [drop_two]; exact h
    rw [e, if_neg (by simp), if_neg hlast]
    unfold keepS after
    rw [if_neg (fun h => by cases h), lostP_snoc]
    have e2 : (p ++ [x]).length = p.length + 1 := by simp
    show (if longL (p ++ [x]).length x = true then _ else _, ([] : List UnitB)) = _
    rw [e2]
    by_cases h2 : longL (p.length + 1) x = true
    · rw [if_pos h2, if_pos h2, List.getLast?_concat]
      rfl
    · rw [if_neg h2, if_neg h2]
theorem after_end (d line : List UInt8) : stepS (after d (line ++ [13])) 10 = if 2000 < line.length then (chunk0, [(2, (d ++ line).take 100)]) else endS ⟨d, line, 0, false, []⟩ := by
  unfold stepS addS
  by_cases hl : 2000 < line.length
  · have h1 : lostP (line ++ [13]) = true := by rw [lostP_snoc]; unfold longL; simp; omega
    have e : after d (line ++ [13]) = ⟨d, [13], 0, true, (d ++ line).take 100⟩ := by
      unfold after
      rw [if_pos h1, List.getLast?_concat, take100 d line [13] hl]
      rfl
    rw [e, if_pos hl, if_neg (by simp), if_pos (by rfl)]
    unfold endS
    rw [if_pos rfl]
  · have h1 : lostP (line ++ [13]) = false := by rw [lostP_snoc]; unfold longL; simp; omega
    have e : after d (line ++ [13]) = ⟨d, line ++ [13], 0, false, []⟩ := by unfold after; rw [if_neg (by rw [h1]; decide)]
    rw [e, if_neg hl, if_neg (by simp), if_pos (by rw [drop_two, List.getLast?_concat]; exact ⟨rfl, rfl⟩)]
    show endS ⟨d, (line ++ [13] ++ [10]).take ((line ++ [13] ++ [10]).length - 2), 0, false, []⟩ = _
    rw [take_two]
theorem feed_line : ∀ {b : List UInt8} (d p : List UInt8), (crlf b = none → (p.getLast? = some 13 → b.head? ≠ some 10) → feedS (after d p) b = (after d (p ++ b), [])) ∧
    ∀ l r, crlf b = some (l, r) → (p.getLast? = some 13 → b.head? ≠ some 10) → feedS (after d p) b = ((feedS (stepS (after d (p ++ l ++ [13])) 10).1 r).1, (stepS (after d (p ++ l ++ [13])) 10).2 ++ (feedS (stepS (after d (p ++ l ++ [13])) 10).1 r).2)
  | [], d, p => ⟨fun _ _ => by unfold feedS; simp, fun l r h => by cases h⟩
  | x :: b, d, p => by
    have hx : (p.getLast? = some 13 → (x :: b).head? ≠ some 10) → ¬ (p.getLast? = some 13 ∧ x = 10) := fun h ⟨h1, h2⟩ => h h1 (by rw [h2]; rfl)
    have hn : ¬ (x = 13 ∧ b.head? = some 10) → (p ++ [x]).getLast? = some 13 → b.head? ≠ some 10 := fun h h1 h2 => by
      rw [List.getLast?_concat] at h1
      injection h1 with h1
      exact h ⟨h1, h2⟩
    obtain ⟨ih1, ih2⟩ := feed_line (b := b) d (p ++ [x])
    refine ⟨fun h hp => ?_, fun l r h hp => ?_⟩
    · unfold crlf at h
      split at h
      · cases h
      · rename_i hc
        have h3 : crlf b = none := by cases hb : crlf b with | none => rfl | some q => rw [hb] at h; cases h
        rw [feed_cons, after_step d p x (hx hp), ih1 h3 (hn hc), List.append_assoc]
        rfl
    · unfold crlf at h
      split at h
      · rename_i hc
        obtain ⟨rfl, h2⟩ := hc
        injection h with h
        injection h with h3 h4
        subst h3 h4
        cases b with
        | nil => cases h2
        | cons y b =>
          injection h2 with h2
          subst h2
          rw [feed_cons, after_step d p 13 (hx hp), feed_cons, List.append_nil]
          rfl
      · rename_i hc
        cases hb : crlf b with
        | none => rw [hb] at h; cases h
        | some q =>
          rw [hb] at h
          injection h with h
          injection h with h3 h4
          subst h3 h4
          rw [feed_cons, after_step d p x (hx hp), ih2 q.1 q.2 (by rw [hb]) (hn hc)]
          rw [List.nil_append, show p ++ x :: q.1 = p ++ [x] ++ q.1 by simp]
theorem after_nil (d : List UInt8) : after d [] = ⟨d, [], 0, false, []⟩ := rfl
/-- byte by byte, and line by line: the same -/
theorem feed_units : ∀ (f : Nat) (d b : List UInt8), b.length < f → (feedS ⟨d, [], 0, false, []⟩ b).2 = (unitsS f d b).1 ∧ decide (0 < (feedS ⟨d, [], 0, false, []⟩ b).1.left) = (unitsS f d b).2
  | 0, d, b, h => by omega
  | f + 1, d, b, h => by
    obtain ⟨h1, h2⟩ := feed_line (b := b) d []
    rw [after_nil] at h1 h2
    unfold unitsS
    cases hc : crlf b with
    | none =>
      rw [h1 hc (fun h => by cases h), List.nil_append]
      refine ⟨rfl, ?_⟩
      unfold after
      split <;> rfl
    | some q =>
      obtain ⟨line, rest⟩ := q
      rw [h2 line rest hc (fun h => by cases h), List.nil_append, after_end]
      have hb := congrArg List.length (crlf_some hc)
      rw [List.length_append, List.length_append] at hb
      have hr : rest.length < f := by simp at hb; omega
      have ih0 := feed_units f [] rest hr
      have z : feedS chunk0 rest = feedS ⟨[], [], 0, false, []⟩ rest := rfl
      by_cases hl : 2000 < line.length
      · simp only [if_pos hl]
        rw [z]
        exact ⟨by rw [ih0.1]; rfl, ih0.2⟩
      · simp only [if_neg hl]
        unfold endS
        rw [if_neg (fun h => by cases h)]
        cases hn : litP line with
        | none =>
          simp only []
          rw [z]
          exact ⟨by rw [ih0.1]; rfl, ih0.2⟩
        | some n =>
          simp only []
          by_cases h2 : 20000 < n
          · simp only [if_pos h2]
            rw [z]
            exact ⟨by rw [ih0.1]; rfl, ih0.2⟩
          · simp only [if_neg h2]
            by_cases h3 : rest.length < n
            · simp only [if_pos h3]
              rw [feed_left rest _ (by show rest.length ≤ n; omega)]
              refine ⟨rfl, ?_⟩
              show decide (0 < n - rest.length) = true
              simp
              omega
            · simp only [if_neg h3]
              have ih3 := feed_units f (d ++ line ++ [13, 10] ++ rest.take n) (rest.drop n) (by rw [List.length_drop]; omega)
              have e : feedS ⟨d ++ line ++ [13, 10], [], n, false, []⟩ rest = feedS ⟨d ++ line ++ [13, 10] ++ rest.take n, [], 0, false, []⟩ (rest.drop n) := by
                have h4 := feed_append ⟨d ++ line ++ [13, 10], [], n, false, []⟩ (rest.take n) (rest.drop n)
                rw [List.take_append_drop, feed_left (rest.take n) _ (by rw [List.length_take]; show min n _ ≤ n; omega), List.nil_append] at h4
                have h5 : (rest.take n).length = n := by rw [List.length_take]; omega
                rw [h4, h5]
                show (_, _) = _
                rw [Nat.sub_self]
              rw [e]
              exact ⟨by rw [ih3.1]; rfl, ih3.2⟩
end Go.Proofs.YtaljodmhalodhaaDoor
/-
  Tokens, plainly: what is written of them is read as they were.
-/
namespace Go.Proofs.YtaljodmhalodhaaDoor
structure TokS where
  k : Nat
  t : List UInt8
def plainB (c : UInt8) : Bool := decide (33 ≤ c.toNat) && decide (c.toNat ≤ 126) && !(c == 40 || c == 41 || c == 123 || c == 34)
/-- a text in quotes, behind the first one -/
def quotedS (acc : List UInt8) : List UInt8 → Option (List UInt8 × List UInt8)
  | [] => none
  | c :: r => if c = 34 then some (acc, r) else if c = 92 then (match r with
      | [] => none
      | y :: r' => if y = 34 ∨ y = 92 then quotedS (acc ++ [y]) r' else none) else if c = 13 ∨ c = 10 then none else quotedS (acc ++ [c]) r
/-- a literal -/
def countedS (s : List UInt8) : Option (List UInt8 × List UInt8) := match crlf s with
  | none => none
  | some (head, rest) => match litP head with
    | none => none
    | some n => if n ≤ rest.length ∧ head.tail.contains 123 = false then some (rest.take n, rest.drop n) else none
def oneS : List UInt8 → Option (TokS × List UInt8)
  | [] => none
  | c :: r => if c = 40 then some (⟨3, []⟩, r) else if c = 41 then some (⟨4, []⟩, r) else if c = 34 then (quotedS [] r).map fun p => (⟨2, p.1⟩, p.2) else if c = 123 then (countedS (c :: r)).map fun p => (⟨2, p.1⟩, p.2)
    else if plainB c = true then some (⟨1, (c :: r).takeWhile plainB⟩, (c :: r).dropWhile plainB) else none
theorem one_cons (c : UInt8) (r : List UInt8) : oneS (c :: r) = if c = 40 then some (⟨3, []⟩, r) else if c = 41 then some (⟨4, []⟩, r) else if c = 34 then (quotedS [] r).map fun p => (⟨2, p.1⟩, p.2) else if c = 123 then (countedS (c :: r)).map fun p => (⟨2, p.1⟩, p.2)
    else if plainB c = true then some (⟨1, (c :: r).takeWhile plainB⟩, (c :: r).dropWhile plainB) else none := rfl
theorem quoted_cons (acc : List UInt8) (c : UInt8) (r : List UInt8) : quotedS acc (c :: r) = if c = 34 then some (acc, r) else if c = 92 then (match r with
      | [] => none
      | y :: r' => if y = 34 ∨ y = 92 then quotedS (acc ++ [y]) r' else none) else if c = 13 ∨ c = 10 then none else quotedS (acc ++ [c]) r := by
  cases r with
  | nil => conv => lhs; unfold quotedS
  | cons y r => conv => lhs; unfold quotedS
/-- the blank between two tokens -/
def apartS (s : List UInt8) (k : Nat) : Option (List UInt8) := match s with
  | [] => some []
  | c :: r => if c = 32 then (match r with
      | [] => none
      | d :: r' => if d ≠ 32 ∧ d ≠ 41 ∧ k ≠ 3 then some (d :: r') else none) else if c = 41 ∨ k = 3 then some (c :: r) else none
def deepS (d : Int) (k : Nat) : Int := if k = 3 then d + 1 else if k = 4 then d - 1 else d
def tokS : Nat → Int → Nat → List UInt8 → Option (List TokS)
  | 0, _, _, _ => none
  | f + 1, d, n, s => if s = [] then (if d = 0 then some [] else none) else match oneS s with
    | none => none
    | some (t, rest) => if n = 200 ∨ deepS d t.k < 0 then none else match apartS rest t.k with
      | none => none
      | some s' => (tokS f (deepS d t.k) (n + 1) s').map (t :: ·)
-- written
def countB : Nat → Nat → List UInt8
  | 0, _ => []
  | f + 1, n => if n < 10 then [UInt8.ofNat (48 + n)] else countB f (n / 10) ++ [UInt8.ofNat (48 + n % 10)]
def escB (c : UInt8) : List UInt8 := if c = 34 ∨ c = 92 then [92, c] else [c]
def bodyS (lit : Bool) (t : TokS) : List UInt8 := if t.k = 1 then t.t else if t.k = 2 then (if lit = true then [123] ++ countB 7 t.t.length ++ [125] ++ [13, 10] ++ t.t else [34] ++ t.t.flatMap escB ++ [34]) else if t.k = 3 then [40] else [41]
def sepS (p k : Nat) : List UInt8 := if k ≠ 4 ∧ p ≠ 3 then [32] else []
/-- those behind a token of a kind -/
def restS (lit : Bool) : Nat → List TokS → List UInt8
  | _, [] => []
  | p, t :: r => sepS p t.k ++ bodyS lit t ++ restS lit t.k r
def writtenS (lit : Bool) : List TokS → List UInt8
  | [] => []
  | t :: r => bodyS lit t ++ restS lit t.k r
def okTok (lit : Bool) (t : TokS) : Prop := (t.k = 1 ∧ t.t ≠ [] ∧ ∀ c ∈ t.t, plainB c = true) ∨ (t.k = 2 ∧ t.t.length < 1000000 ∧ (lit = true ∨ ∀ c ∈ t.t, c ≠ 13 ∧ c ≠ 10)) ∨ ((t.k = 3 ∨ t.k = 4) ∧ t.t = [])
def deepOk : Int → List TokS → Prop
  | d, [] => d = 0
  | d, t :: r => 0 ≤ deepS d t.k ∧ deepOk (deepS d t.k) r
-- numbers
theorem countB_digit : ∀ (f n : Nat), ∀ c ∈ countB f n, digitB c = true
  | 0, _, c, h => by cases h
  | f + 1, n, c, h => by
    unfold countB at h
    have hd : ∀ m, m < 10 → digitB (UInt8.ofNat (48 + m)) = true := fun m hm => by
      have : (UInt8.ofNat (48 + m)).toNat = 48 + m := by simp; omega
      unfold digitB
      rw [this]
      simp
      omega
    split at h
    · rename_i hn
      rw [List.mem_singleton.1 h]
      exact hd n hn
    · rcases List.mem_append.1 h with h | h
      · exact countB_digit f _ c h
      · rw [List.mem_singleton.1 h]
        exact hd _ (Nat.mod_lt _ (by decide))
theorem valB_snoc (l : List UInt8) (b : UInt8) : valB (l ++ [b]) = valB l * 10 + (b.toNat - 48) := by
  unfold valB
  rw [List.foldl_append]
  rfl
theorem countB_val : ∀ (f n : Nat), n < 10 ^ f → valB (countB f n) = n
  | 0, n, h => by
    have : n = 0 := by omega
    subst this
    rfl
  | f + 1, n, h => by
    have hd : ∀ m, m < 10 → (UInt8.ofNat (48 + m)).toNat - 48 = m := fun m hm => by simp; omega
    unfold countB
    split
    · rename_i hn
      show 0 * 10 + ((UInt8.ofNat (48 + n)).toNat - 48) = n
      rw [hd n hn]
      omega
    · rw [valB_snoc, countB_val f (n / 10) (by rw [Nat.pow_succ] at h; omega), hd _ (Nat.mod_lt _ (by decide))]
      omega
theorem countB_len : ∀ (f n : Nat), (countB f n).length ≤ f
  | 0, _ => Nat.le_refl _
  | f + 1, n => by
    unfold countB
    split
    · simp
    · rw [List.length_append]
      have := countB_len f (n / 10)
      simp
      omega
theorem countB_six {n : Nat} (h : n < 1000000) : countB 7 n = countB 6 n := by
  suffices H : ∀ f n, n < 10 ^ f → 0 < f → countB (f + 1) n = countB f n from H 6 n h (by decide)
  intro f
  induction f with
  | zero => intro n _ h; omega
  | succ f ih =>
    intro n h _
    by_cases hn : n < 10
    · show (if n < 10 then _ else _) = (if n < 10 then _ else _)
      rw [if_pos hn, if_pos hn]
    · show (if n < 10 then _ else countB (f + 1) (n / 10) ++ _) = (if n < 10 then _ else countB f (n / 10) ++ _)
      rw [if_neg hn, if_neg hn]
      have hf : 0 < f := by
        rcases Nat.eq_zero_or_pos f with h0 | h0
        · subst h0; omega
        · exact h0
      rw [ih (n / 10) (by rw [Nat.pow_succ] at h; omega) hf]
theorem countB_pos (f n : Nat) : 1 ≤ (countB (f + 1) n).length := by
  unfold countB
  split
  · simp
  · rw [List.length_append]; simp
theorem digit_ne {c : UInt8} (h : digitB c = true) : c ≠ 123 ∧ c ≠ 13 ∧ c ≠ 10 ∧ c ≠ 125 := by
  unfold digitB at h
  simp at h
  refine ⟨?_, ?_, ?_, ?_⟩ <;> (intro e; subst e; revert h; decide)
theorem takeWhile_app {α : Type} {p : α → Bool} {a b : List α} (h : ∀ x ∈ a, p x = true) (hb : ∀ x, b.head? = some x → p x = false) : (a ++ b).takeWhile p = a ∧ (a ++ b).dropWhile p = b := by
  induction a with
  | nil =>
    cases b with
    | nil => exact ⟨rfl, rfl⟩
    | cons y b =>
      have := hb y rfl
      rw [List.nil_append, List.takeWhile_cons, List.dropWhile_cons, this]
      exact ⟨rfl, rfl⟩
  | cons x a ih =>
    obtain ⟨h1, h2⟩ := ih fun y hy => h y (List.mem_cons_of_mem _ hy)
    have hx := h x List.mem_cons_self
    rw [List.cons_append, List.takeWhile_cons, List.dropWhile_cons, hx]
    exact ⟨by simp [h1], by simp [h2]⟩
theorem litP_count {n : Nat} (h : n < 1000000) : litP ([123] ++ countB 7 n ++ [125]) = some n := by
  have hr : ([123] ++ countB 7 n ++ [125]).reverse = 125 :: ((countB 7 n).reverse ++ [123]) := by simp
  have hd : ∀ x ∈ (countB 7 n).reverse, digitB x = true := fun x hx => countB_digit 7 n x (List.mem_reverse.1 hx)
  obtain ⟨h1, h2⟩ := takeWhile_app (p := digitB) (a := (countB 7 n).reverse) (b := [123]) hd (fun x hx => by injection hx with hx; subst hx; rfl)
  unfold litP
  rw [hr]
  simp only []
  rw [h2, h1]
  simp only []
  have h3 := countB_pos 6 n
  have h4 : (countB 7 n).length ≤ 6 := by rw [countB_six h]; exact countB_len 6 n
  rw [if_pos (by rw [List.length_reverse]; exact ⟨h3, h4⟩), List.reverse_reverse, countB_val 7 n (by omega)]
theorem crlf_app : ∀ {a : List UInt8} (r : List UInt8), (∀ c ∈ a, c ≠ 13) → crlf (a ++ [13, 10] ++ r) = some (a, r)
  | [], r, _ => rfl
  | x :: a, r, h => by
    have hx := h x List.mem_cons_self
    rw [List.cons_append, List.cons_append]
    unfold crlf
    rw [if_neg (fun e => hx e.1), crlf_app r fun c hc => h c (List.mem_cons_of_mem _ hc)]
    rfl
theorem counted_ok (t r : List UInt8) (h : t.length < 1000000) : countedS ([123] ++ countB 7 t.length ++ [125] ++ [13, 10] ++ t ++ r) = some (t, r) := by
  have hd := countB_digit 7 t.length
  have hc : ∀ c ∈ [123] ++ countB 7 t.length ++ [125], c ≠ 13 := by
    intro c hc
    rcases List.mem_append.1 hc with hc | hc
    · rcases List.mem_append.1 hc with hc | hc
      · rw [List.mem_singleton.1 hc]; decide
      · exact (digit_ne (hd c hc)).2.1
    · rw [List.mem_singleton.1 hc]; decide
  unfold countedS
  rw [List.append_assoc _ t r, crlf_app (t ++ r) hc]
  simp only []
  rw [litP_count h]
  simp only []
  have hn : (([123] ++ countB 7 t.length ++ [125]) : List UInt8).tail.contains 123 = false := by
    rw [List.append_assoc, List.singleton_append, List.tail_cons]
    cases hcc : (countB 7 t.length ++ [125]).contains 123 with
    | false => rfl
    | true =>
      rw [List.contains_iff_mem] at hcc
      rcases List.mem_append.1 hcc with hcc | hcc
      · exact absurd rfl (digit_ne (hd _ hcc)).1
      · rw [List.mem_singleton] at hcc; exact absurd hcc (by decide)
  rw [if_pos ⟨by rw [List.length_append]; omega, hn⟩, List.take_left' rfl, List.drop_left' rfl]
theorem quoted_ok : ∀ (t acc r : List UInt8), (∀ c ∈ t, c ≠ 13 ∧ c ≠ 10) → quotedS acc (t.flatMap escB ++ [34] ++ r) = some (acc ++ t, r)
  | [], acc, r, _ => by
    show quotedS acc (34 :: r) = _
    rw [quoted_cons, if_pos rfl, List.append_nil]
  | c :: t, acc, r, h => by
    have hc := h c List.mem_cons_self
    have ih := fun acc => quoted_ok t acc r fun x hx => h x (List.mem_cons_of_mem _ hx)
    rw [List.flatMap_cons]
    unfold escB
    by_cases h1 : c = 34 ∨ c = 92
    · rw [if_pos h1]
      show quotedS acc (92 :: c :: (t.flatMap escB ++ [34] ++ r)) = _
      rw [quoted_cons, if_neg (by decide), if_pos rfl]
      simp only []
      rw [if_pos h1, ih, List.append_assoc]
      rfl
    · rw [if_neg h1]
      show quotedS acc (c :: (t.flatMap escB ++ [34] ++ r)) = _
      rw [quoted_cons, if_neg (fun e => h1 (.inl e)), if_neg (fun e => h1 (.inr e)), if_neg (fun e => by rcases e with e | e; exact hc.1 e; exact hc.2 e), ih, List.append_assoc]
      rfl
/-- a token that is written is cut off -/
theorem one_ok (lit : Bool) (t : TokS) (r : List UInt8) (h : okTok lit t) (hr : t.k = 1 → ∀ x, r.head? = some x → plainB x = false) : oneS (bodyS lit t ++ r) = some (t, r) := by
  obtain ⟨k, tx⟩ := t
  unfold bodyS
  rcases h with ⟨rfl, hne, hp⟩ | ⟨rfl, hlen, hl⟩ | ⟨hk, rfl⟩
  · simp only [if_pos]
    obtain ⟨h1, h2⟩ := takeWhile_app hp (hr rfl)
    cases tx with
    | nil => exact absurd rfl hne
    | cons c tx =>
      have hc := hp c List.mem_cons_self
      have hc2 := hc
      unfold plainB at hc2
      simp at hc2
      rw [List.cons_append] at h1 h2 ⊢
      rw [one_cons, if_neg hc2.2.1.1.1, if_neg hc2.2.1.1.2, if_neg hc2.2.2, if_neg hc2.2.1.2, if_pos hc, h1, h2]
  · rw [if_neg (fun e => by cases e), if_pos rfl]
    cases lit with
    | true =>
      rw [if_pos rfl]
      have hcd := counted_ok tx r hlen
      have e : [123] ++ countB 7 tx.length ++ [125] ++ [13, 10] ++ tx ++ r = 123 :: (countB 7 tx.length ++ [125] ++ [13, 10] ++ tx ++ r) := by simp
      rw [e] at hcd ⊢
      rw [one_cons, if_neg (by decide), if_neg (by decide), if_neg (by decide), if_pos rfl, hcd]
      rfl
    | false =>
      have hno : ∀ c ∈ tx, c ≠ 13 ∧ c ≠ 10 := by
        rcases hl with hl | hl
        · cases hl
        · exact hl
      rw [if_neg (by decide)]
      have hq := quoted_ok tx [] r hno
      rw [List.nil_append] at hq
      show oneS (34 :: (tx.flatMap escB ++ [34] ++ r)) = _
      rw [one_cons, if_neg (by decide), if_neg (by decide), if_pos rfl, hq]
      rfl
  · rcases hk with rfl | rfl <;> rfl
theorem body_head (lit : Bool) (t : TokS) (h : okTok lit t) : ∃ c r, bodyS lit t = c :: r ∧ c ≠ 32 ∧ (c = 41 ↔ t.k = 4) := by
  obtain ⟨k, tx⟩ := t
  unfold bodyS
  rcases h with ⟨rfl, hne, hp⟩ | ⟨rfl, hlen, hl⟩ | ⟨hk, rfl⟩
  · cases tx with
    | nil => exact absurd rfl hne
    | cons c tx =>
      have hc := hp c List.mem_cons_self
      unfold plainB at hc
      simp at hc
      refine ⟨c, tx, rfl, ?_, ?_⟩
      · intro e; subst e; revert hc; decide
      · exact ⟨fun e => absurd e hc.2.1.1.2, fun e => by cases e⟩
  · rw [if_neg (fun e => by cases e), if_pos rfl]
    cases lit with
    | true => exact ⟨123, _, rfl, by decide, ⟨fun e => absurd e (by decide), fun e => by cases e⟩⟩
    | false => exact ⟨34, _, rfl, by decide, ⟨fun e => absurd e (by decide), fun e => by cases e⟩⟩
  · rcases hk with rfl | rfl
    · exact ⟨40, [], rfl, by decide, ⟨fun e => absurd e (by decide), fun e => by cases e⟩⟩
    · exact ⟨41, [], rfl, by decide, ⟨fun _ => rfl, fun _ => rfl⟩⟩
theorem apart_ok (lit : Bool) (p : Nat) (l : List TokS) (h : ∀ t ∈ l, okTok lit t) : apartS (restS lit p l) p = some (match l with | [] => [] | t :: r => bodyS lit t ++ restS lit t.k r) := by
  cases l with
  | nil => rfl
  | cons t r =>
    obtain ⟨c, b, hb, h1, h2⟩ := body_head lit t (h t List.mem_cons_self)
    show apartS (sepS p t.k ++ bodyS lit t ++ restS lit t.k r) p = some (bodyS lit t ++ restS lit t.k r)
    unfold sepS
    rw [hb]
    by_cases hs : t.k ≠ 4 ∧ p ≠ 3
    · rw [if_pos hs]
      unfold apartS
      show (if (32 : UInt8) = 32 then _ else _) = _
      rw [if_pos rfl]
      show (if c ≠ 32 ∧ c ≠ 41 ∧ p ≠ 3 then some (c :: (b ++ restS lit t.k r)) else none) = _
      rw [if_pos ⟨h1, fun e => hs.1 (h2.1 e), hs.2⟩]
      rfl
    · rw [if_neg hs]
      unfold apartS
      show (if c = 32 then _ else if c = 41 ∨ p = 3 then some (c :: (b ++ restS lit t.k r)) else none) = _
      have : c = 41 ∨ p = 3 := by
        by_cases h4 : t.k = 4
        · exact .inl (h2.2 h4)
        · by_cases hp : p = 3
          · exact .inr hp
          · exact absurd ⟨h4, hp⟩ hs
      rw [if_neg h1, if_pos this]
      rfl
theorem rest_head (lit : Bool) (p : Nat) (l : List TokS) (h : ∀ t ∈ l, okTok lit t) (hp : p ≠ 3) : ∀ x, (restS lit p l).head? = some x → plainB x = false := by
  intro x hx
  cases l with
  | nil => cases hx
  | cons t r =>
    obtain ⟨c, b, hb, h1, h2⟩ := body_head lit t (h t List.mem_cons_self)
    unfold restS sepS at hx
    by_cases h4 : t.k = 4
    · rw [if_neg (fun e => e.1 h4), hb] at hx
      injection hx with hx
      rw [h2.2 h4] at hx
      rw [← hx]
      rfl
    · rw [if_pos ⟨h4, hp⟩] at hx
      injection hx with hx
      rw [← hx]
      rfl
theorem tok_rest (lit : Bool) : ∀ (l : List TokS) (f : Nat) (d : Int) (n : Nat), (∀ t ∈ l, okTok lit t) → deepOk d l → n + l.length ≤ 200 → l.length < f → tokS f d n (match l with | [] => [] | t :: r => bodyS lit t ++ restS lit t.k r) = some l
  | [], f, d, n, _, hd, _, hf => by
    cases f with
    | zero => omega
    | succ f =>
      have hd : d = 0 := hd
      show (if ([] : List UInt8) = [] then _ else _) = _
      rw [if_pos rfl, if_pos hd]
  | t :: r, f, d, n, h, hd, hn, hf => by
    cases f with
    | zero => omega
    | succ f =>
      obtain ⟨hd1, hd2⟩ := hd
      have ht := h t List.mem_cons_self
      have hr := fun x hx => h x (List.mem_cons_of_mem t hx)
      rw [List.length_cons] at hn hf
      obtain ⟨c, b, hb, h1, h2⟩ := body_head lit t ht
      show tokS (f + 1) d n (bodyS lit t ++ restS lit t.k r) = _
      unfold tokS
      rw [if_neg (by rw [hb]; simp), one_ok lit t _ ht (fun hk => rest_head lit t.k r hr (by omega))]
      simp only []
      rw [if_neg (by omega), apart_ok lit t.k r hr]
      simp only []
      have ih := tok_rest lit r f (deepS d t.k) (n + 1) hr hd2 (by omega) (by omega)
      cases r with
      | nil => rw [ih]; rfl
      | cons t2 r2 => rw [ih]; rfl
/-- what is written is read as it was -/
theorem tok_back (lit : Bool) (l : List TokS) (f : Nat) (h : ∀ t ∈ l, okTok lit t) (hd : deepOk 0 l) (hn : l.length ≤ 200) (hf : l.length < f) : tokS f 0 0 (writtenS lit l) = some l := by
  have := tok_rest lit l f 0 0 h hd (by omega) hf
  cases l with
  | nil => exact this
  | cons t r => exact this
-- what is read may be written
theorem quoted_len : ∀ (n : Nat) {s acc t r : List UInt8}, s.length ≤ n → quotedS acc s = some (t, r) → t.length ≤ acc.length + s.length ∧ r.length ≤ s.length
  | _, [], acc, t, r, _, h => by cases h
  | 0, c :: s, acc, t, r, hn, h => by simp at hn
  | n + 1, c :: s, acc, t, r, hn, h => by
    rw [List.length_cons] at hn ⊢
    rw [quoted_cons] at h
    split at h
    · injection h with h
      injection h with h1 h2
      subst h1 h2
      omega
    · split at h
      · cases s with
        | nil => cases h
        | cons y s =>
          simp only [] at h
          split at h
          · rw [List.length_cons] at hn ⊢
            have := quoted_len n (by omega) h
            rw [List.length_append, List.length_singleton] at this
            omega
          · cases h
      · split at h
        · cases h
        · have := quoted_len n (by omega) h
          rw [List.length_append, List.length_singleton] at this
          omega
theorem counted_len {s t r : List UInt8} (h : countedS s = some (t, r)) : t.length ≤ s.length ∧ r.length ≤ s.length := by
  unfold countedS at h
  cases hc : crlf s with
  | none => rw [hc] at h; cases h
  | some p =>
    obtain ⟨head, rest⟩ := p
    have hs := congrArg List.length (crlf_some hc)
    rw [List.length_append] at hs
    rw [hc] at h
    simp only [] at h
    cases hl : litP head with
    | none => rw [hl] at h; cases h
    | some n =>
      rw [hl] at h
      simp only [] at h
      split at h
      · injection h with h
        injection h with h1 h2
        subst h1 h2
        rw [List.length_take, List.length_drop]
        omega
      · cases h
theorem dropWhile_len {α : Type} (p : α → Bool) (l : List α) : (l.dropWhile p).length ≤ l.length ∧ (l.takeWhile p).length ≤ l.length := by
  have := congrArg List.length (List.takeWhile_append_dropWhile (p := p) (l := l))
  rw [List.length_append] at this
  omega
theorem takeWhile_all {α : Type} (p : α → Bool) : ∀ (l : List α), ∀ x ∈ l.takeWhile p, p x = true
  | [], x, h => by cases h
  | y :: l, x, h => by
    rw [List.takeWhile_cons] at h
    split at h
    · rename_i hy
      rcases List.mem_cons.1 h with e | h
      · rw [e]; exact hy
      · exact takeWhile_all p l x h
    · cases h
theorem one_len {s r : List UInt8} {t : TokS} (h : oneS s = some (t, r)) (hs : s.length < 1000000) : okTok true t ∧ r.length ≤ s.length := by
  cases s with
  | nil => cases h
  | cons c s =>
    rw [one_cons] at h
    split at h
    · injection h with h
      injection h with h1 h2
      subst h1 h2
      exact ⟨.inr (.inr ⟨.inl rfl, rfl⟩), by simp⟩
    · split at h
      · injection h with h
        injection h with h1 h2
        subst h1 h2
        exact ⟨.inr (.inr ⟨.inr rfl, rfl⟩), by simp⟩
      · split at h
        · cases hq : quotedS [] s with
          | none => rw [hq] at h; cases h
          | some p =>
            rw [hq] at h
            injection h with h
            injection h with h1 h2
            subst h1 h2
            have := quoted_len s.length (Nat.le_refl _) (t := p.1) (r := p.2) hq
            rw [List.length_cons] at hs ⊢
            rw [List.length_nil] at this
            exact ⟨.inr (.inl ⟨rfl, by show p.1.length < _; omega, .inl rfl⟩), by omega⟩
        · split at h
          · cases hq : countedS (c :: s) with
            | none => rw [hq] at h; cases h
            | some p =>
              rw [hq] at h
              injection h with h
              injection h with h1 h2
              subst h1 h2
              have := counted_len (t := p.1) (r := p.2) hq
              exact ⟨.inr (.inl ⟨rfl, by show p.1.length < _; omega, .inl rfl⟩), by omega⟩
          · split at h
            · rename_i hp
              injection h with h
              injection h with h1 h2
              subst h1 h2
              refine ⟨.inl ⟨rfl, ?_, takeWhile_all plainB _⟩, (dropWhile_len plainB _).1⟩
              show (c :: s).takeWhile plainB ≠ []
              rw [List.takeWhile_cons, if_pos hp]
              simp
            · cases h
theorem apart_len {s r : List UInt8} {k : Nat} (h : apartS s k = some r) : r.length ≤ s.length := by
  cases s with
  | nil => injection h with h; subst h; exact Nat.le_refl _
  | cons c s =>
    unfold apartS at h
    simp only [] at h
    split at h
    · cases s with
      | nil => cases h
      | cons d s =>
        simp only [] at h
        split at h
        · injection h with h; subst h; simp
        · cases h
    · split at h
      · injection h with h; subst h; exact Nat.le_refl _
      · cases h
theorem tok_ok : ∀ (f : Nat) (d : Int) (n : Nat) (s : List UInt8) (l : List TokS), s.length < 1000000 → n ≤ 200 → tokS f d n s = some l → (∀ t ∈ l, okTok true t) ∧ deepOk d l ∧ n + l.length ≤ 200
  | 0, d, n, s, l, _, _, h => by cases h
  | f + 1, d, n, s, l, hs, hn, h => by
    unfold tokS at h
    split at h
    · split at h
      · rename_i hd
        injection h with h
        subst h
        exact ⟨fun t h => (by cases h), hd, by simpa using hn⟩
      · cases h
    · cases ho : oneS s with
      | none => rw [ho] at h; cases h
      | some p =>
        obtain ⟨t, rest⟩ := p
        rw [ho] at h
        simp only [] at h
        split at h
        · cases h
        · rename_i hc
          obtain ⟨h1, h2⟩ := one_len ho hs
          cases ha : apartS rest t.k with
          | none => rw [ha] at h; cases h
          | some s' =>
            have h3 := apart_len ha
            rw [ha] at h
            simp only [] at h
            cases hr : tokS f (deepS d t.k) (n + 1) s' with
            | none => rw [hr] at h; cases h
            | some l' =>
              rw [hr] at h
              injection h with h
              subst h
              obtain ⟨h4, h5, h6⟩ := tok_ok f (deepS d t.k) (n + 1) s' l' (by omega) (by omega) hr
              refine ⟨fun x hx => ?_, ⟨by omega, h5⟩, by rw [List.length_cons]; omega⟩
              rcases List.mem_cons.1 hx with e | hx
              · rw [e]; exact h1
              · exact h4 x hx
end Go.Proofs.YtaljodmhalodhaaDoor
/-
  What a line's end asks for, plainly: by its last brace, and by its digits from behind.
-/
namespace Go.Proofs.YtaljodmhalodhaaDoor
theorem lit_end {line : List UInt8} (h : line.getLast? ≠ some 125) : litP line = none := by
  unfold litP
  rw [← List.head?_reverse] at h
  cases hr : line.reverse with
  | nil => rfl
  | cons c r =>
    rw [hr] at h
    have hc : c ≠ 125 := fun e => h (by rw [e]; rfl)
    split
    · rename_i e
      injection e with e1 _
      exact absurd e1 hc
    · rfl
theorem dropWhile_mem {α : Type} {p : α → Bool} : ∀ {l : List α} {x : α} {r : List α}, l.dropWhile p = x :: r → x ∈ l ∧ p x = false
  | [], x, r, h => by cases h
  | y :: l, x, r, h => by
    rw [List.dropWhile_cons] at h
    split at h
    · have := dropWhile_mem h
      exact ⟨List.mem_cons_of_mem _ this.1, this.2⟩
    · rename_i hy
      injection h with h1 h2
      subst h1
      exact ⟨List.mem_cons_self, by simpa using hy⟩
theorem litP_snoc (s : List UInt8) : litP (s ++ [125]) = match s.reverse.dropWhile digitB with
    | 123 :: _ => if 1 ≤ (s.reverse.takeWhile digitB).length ∧ (s.reverse.takeWhile digitB).length ≤ 6 then some (valB (s.reverse.takeWhile digitB).reverse) else none
    | _ => none := by
  unfold litP
  rw [List.reverse_append]
  rfl
theorem lit_none {s : List UInt8} (h : ∀ c ∈ s, c ≠ 123) : litP (s ++ [125]) = none := by
  rw [litP_snoc]
  cases hd : s.reverse.dropWhile digitB with
  | nil => rfl
  | cons c r =>
    have := (dropWhile_mem hd).1
    have hc := h c (List.mem_reverse.1 this)
    split
    · rename_i e
      injection e with e1 _
      exact absurd e1 hc
    · rfl
theorem lit_brace {a d : List UInt8} (h : ∀ c ∈ d, c ≠ 123) : litP (a ++ [123] ++ d ++ [125]) = if 1 ≤ d.length ∧ d.length ≤ 6 ∧ d.all digitB = true then some (valB d) else none := by
  rw [litP_snoc]
  have hr : (a ++ [123] ++ d).reverse = d.reverse ++ 123 :: a.reverse := by simp
  rw [hr]
  by_cases hall : d.all digitB = true
  · have hd : ∀ x ∈ d.reverse, digitB x = true := fun x hx => List.all_eq_true.1 hall x (List.mem_reverse.1 hx)
    obtain ⟨h1, h2⟩ := takeWhile_app (p := digitB) (a := d.reverse) (b := 123 :: a.reverse) hd (fun x hx => by injection hx with hx; subst hx; rfl)
    rw [h1, h2]
    simp only []
    rw [List.length_reverse, List.reverse_reverse]
    by_cases hl : 1 ≤ d.length ∧ d.length ≤ 6
    · rw [if_pos hl, if_pos ⟨hl.1, hl.2, hall⟩]
    · rw [if_neg hl, if_neg fun e => hl ⟨e.1, e.2.1⟩]
  · rw [show (if 1 ≤ d.length ∧ d.length ≤ 6 ∧ d.all digitB = true then some (valB d) else none) = none from if_neg fun e => hall e.2.2]
    have hex : ∃ x ∈ d.reverse, digitB x = false := by
      rw [List.all_eq_true] at hall
      simp only [Classical.not_forall] at hall
      obtain ⟨x, hx, hx2⟩ := hall
      exact ⟨x, List.mem_reverse.2 hx, by simpa using hx2⟩
    obtain ⟨x, hx, hx2⟩ := hex
    have hdw : ∀ {l : List UInt8} (r : List UInt8), x ∈ l → ∃ y m, (l ++ r).dropWhile digitB = y :: m ∧ y ∈ l := by
      intro l
      induction l with
      | nil => intro r h; cases h
      | cons z l ih =>
        intro r h
        rw [List.cons_append, List.dropWhile_cons]
        split
        · rename_i hz
          rcases List.mem_cons.1 h with e | h
          · rw [← e, hx2] at hz; cases hz
          · obtain ⟨y, m, h1, h2⟩ := ih r h
            exact ⟨y, m, h1, List.mem_cons_of_mem _ h2⟩
        · exact ⟨z, _, rfl, List.mem_cons_self⟩
    obtain ⟨y, m, h1, h2⟩ := hdw (123 :: a.reverse) hx
    rw [h1]
    have hy := h y (List.mem_reverse.1 h2)
    split
    · rename_i e
      injection e with e1 _
      exact absurd e1 hy
    · rfl
/-- digits from behind: k of them were looked at -/
theorem lit_digits {s : List UInt8} {k : Nat} (hk : k ≤ s.length) (hall : ∀ x ∈ s.reverse.take k, digitB x = true) (hstop : 6 < k ∨ ∀ x, s.reverse[k]? = some x → digitB x = false) :
    litP (s ++ [125]) = if s.reverse[k]? = some 123 ∧ 1 ≤ k ∧ k ≤ 6 then some (valB (s.drop (s.length - k))) else none := by
  rw [litP_snoc]
  have hsp : s.reverse = s.reverse.take k ++ s.reverse.drop k := (List.take_append_drop k _).symm
  have hlen : (s.reverse.take k).length = k := by rw [List.length_take, List.length_reverse]; omega
  rcases hstop with h6 | hst
  · rw [show (if s.reverse[k]? = some 123 ∧ 1 ≤ k ∧ k ≤ 6 then some (valB (s.drop (s.length - k))) else none) = none from if_neg (by omega)]
    have htw : 6 < (s.reverse.takeWhile digitB).length := by
      suffices H : ∀ (a b : List UInt8), (∀ x ∈ a, digitB x = true) → a.length ≤ ((a ++ b).takeWhile digitB).length by
        have := H (s.reverse.take k) (s.reverse.drop k) hall
        rw [List.take_append_drop, hlen] at this
        omega
      intro a b
      induction a with
      | nil => intro _; exact Nat.zero_le _
      | cons z a ih =>
        intro h
        rw [List.cons_append, List.takeWhile_cons, if_pos (h z List.mem_cons_self), List.length_cons, List.length_cons]
        have := ih fun x hx => h x (List.mem_cons_of_mem _ hx)
        omega
    split
    · rw [if_neg (by omega)]
    · rfl
  · have hb : ∀ x, (s.reverse.drop k).head? = some x → digitB x = false := fun x hx => hst x (by rw [List.head?_drop] at hx; exact hx)
    obtain ⟨h1, h2⟩ := takeWhile_app hall hb
    rw [← hsp] at h1 h2
    rw [h1, h2, hlen]
    have hv : (s.reverse.take k).reverse = s.drop (s.length - k) := by rw [List.take_reverse, List.reverse_reverse]
    rw [hv]
    have hg : (s.reverse.drop k).head? = s.reverse[k]? := List.head?_drop
    cases hd : s.reverse.drop k with
    | nil =>
      rw [hd] at hg
      rw [← hg]
      simp
    | cons c r =>
      rw [hd] at hg
      rw [← hg]
      by_cases hc : c = 123
      · subst hc
        simp
      · have : ¬ (some c = some (123 : UInt8)) := fun e => hc (Option.some.inj e)
        rw [show (c :: r).head? = some c from rfl, show (if some c = some (123 : UInt8) ∧ 1 ≤ k ∧ k ≤ 6 then some (valB (s.drop (s.length - k))) else none) = none from if_neg fun e => this e.1]
        split
        · rename_i e
          injection e with e1 _
          exact absurd e1 hc
        · rfl
end Go.Proofs.YtaljodmhalodhaaDoor
/-
  Rows of bytes that are owned, and what is taken from them, for the walks by facts.
-/
namespace Go.Proofs.YtaljodmhalodhaaDoor
open Go.RowKit
theorem lit_one (w : World) (c : UInt8) : Reads (w.alloc (.cells #[.int .u8 ((c.toNat : Nat) : Int)] 5)) (w.heap.size + 1) 1 (some ⟨w.heap.size, 0, none⟩) 1 (u8s [c]) := by
  refine ⟨rfl, fun _ => ⟨⟨w.heap.size, 0, none⟩, rfl, Nat.lt_succ_self _, fun j u hu => ?_⟩⟩
  have hb : Blk (w.alloc (.cells #[.int .u8 ((c.toNat : Nat) : Int)] 5)) w.heap.size 5 #[.int .u8 ((c.toNat : Nat) : Int)] := Blk.new w _ _
  rcases j with _ | j
  · have ha : (⟨w.heap.size, 0, none⟩ : Addr).add 0 = ⟨w.heap.size, 0, none⟩ := by unfold Addr.add; simp
    rw [ha, hb.cell]
    exact hu
  · cases hu
theorem own8_reads {w : World} {B n : Nat} {v : Value} {l : List UInt8} (h : w.ownsRow B 5 1 v n (u8s l)) : ∃ A c, v = .slice A l.length c ∧ Reads w w.heap.size 1 A l.length (u8s l) := by
  obtain ⟨A, c, rfl, hr, _⟩ := own_reads (own8 h)
  have hn : n = l.length := by have := h.1; rw [u8s_length] at this; omega
  subst hn
  obtain ⟨A, c, e, hr, _⟩ := own_reads h
  injection e with e1 e2 e3
  subst e1 e3
  exact ⟨_, _, rfl, hr⟩
/-- what is taken: a slice that reads as bytes -/
def Took (w : World) (r : Value) (l : List UInt8) : Prop := ∃ A c, r = .slice A l.length c ∧ Reads w w.heap.size 1 A l.length (u8s l)
theorem Took.nil (w : World) : Took w (.slice none 0 0) [] := ⟨none, 0, rfl, Reads.none8⟩
/-- a row of bytes of one's own -/
def Own8 (B : Nat) (w : World) (v : Value) (l : List UInt8) : Prop := w.ownsRow B 5 1 v l.length (u8s l)
section
variable {w w' : World} {B B' : Nat} {v : Value} {l m : List UInt8} {P : Program} {ev : Operand → Value} {o : Oper}
theorem Own8.below (h : Own8 B w v l) (hb : Below w.heap.size w w') : Own8 B w' v l := own_below h hb
theorem Own8.mono (h : Own8 B w v l) (hb : B' ≤ B) : Own8 B' w v l := own_mono h hb
theorem Own8.keep (h : Own8 B w v l) (hk : ∀ g, v.ownBlock = some g → w'.heap[g]? = w.heap[g]?) : Own8 B w' v l := own_keep h hk
theorem Own8.took (h : Own8 B w v l) : Took w v l := own8_reads h
theorem Own8.of {n : Nat} (h : w.ownsRow B 5 1 v n (u8s l)) : Own8 B w v l := own8 h
theorem Own8.nil (w : World) : Own8 B w (.slice none 0 0) [] := World.ownsRow_nil _ _ _ _
theorem Took.below (h : Took w v l) (hb : Below w.heap.size w w') : Took w' v l := by
  obtain ⟨A, c, e, hr⟩ := h
  exact ⟨A, c, e, (hr.below hb).more hb.size⟩
theorem exec_append {s x : Operand} {T T' : TypeId} {u r : Value} (ho : o.op = .call { callee := .builtin .append, args := #[s, x], argTypes := #[T, T'] }) (hs : ev s = v) (hx : ev x = u)
    (hr : (Builtin.append_ #[T, T'] o.type #[v, u]).run P w = .ok r w') : (execOp ev o).run P w = .ok (.value r) w' := by
  unfold execOp
  simp only [ho, resolve, invoke, builtin, Sem.run_bind, Sem.run_pure, Result.andThen_ok, List.map_toArray, List.map_cons, List.map_nil, hs, hx, hr]
theorem run_app8 {u : Value} (h : Own8 B w v l) (hu : Took w u m) (hlen : l.length + m.length ≤ 1000000000) (hB : B ≤ w.heap.size) :
    ∃ r w', (Builtin.append_ #[22, 22] 22 #[v, u]).run Tryd.prog w = .ok r w' ∧ Own8 B w' r (l ++ m) ∧ w.grownBy w' v.ownBlock := by
  obtain ⟨A, c, rfl, hr⟩ := hu
  obtain ⟨i0, hi0, hz0, hz1, hz2⟩ := info_parts u8_info
  obtain ⟨v', w', hrun, ho, hg⟩ := run_append_any (P := Tryd.prog) w B 22 22 5 i0 _ 1 1 Tryd.underlying22 hi0 hz0 hz1 hz2 rfl (by omega) v l.length (u8s l) h A m.length c (u8s m) (Gives.of_reads hr (u8s_one m)) (by unfold maxLen; omega) (by omega) hB
  rw [← u8s_append] at ho
  exact ⟨v', w', hrun, .of ho, hg⟩
/-- append of bytes -/
theorem exec_app8 {s x : Operand} {u : Value} (ho : o.op = .call { callee := .builtin .append, args := #[s, x], argTypes := #[22, 22] }) (hty : o.type = 22) (hs : ev s = v) (hx : ev x = u) (h : Own8 B w v l) (hu : Took w u m) (hlen : l.length + m.length ≤ 1000000000) (hB : B ≤ w.heap.size) :
    ∃ r w', (execOp ev o).run Tryd.prog w = .ok (.value r) w' ∧ Own8 B w' r (l ++ m) ∧ w.grownBy w' v.ownBlock := by
  obtain ⟨r, w', hr, h2, h3⟩ := run_app8 h hu hlen hB
  exact ⟨r, w', exec_append ho hs hx (by rw [hty]; exact hr), h2, h3⟩
theorem below_app8 {W : World} {B0 : Nat} (hb : Below B0 W w) (h : Own8 B w v l) (hg : w.grownBy w' v.ownBlock) (h0 : B0 ≤ B) (hB : B0 ≤ w.heap.size) : Below B0 W w' :=
  hb.grown hg hB fun k hk => Nat.le_trans h0 (World.ownsRow.lt h k hk).1
/-- a written slice of one byte -/
theorem took_one (w : World) (c : UInt8) : Took (w.alloc (.cells #[.int .u8 ((c.toNat : Nat) : Int)] 5)) (.slice (some ⟨w.heap.size, 0, none⟩) 1 1) [c] :=
  ⟨_, _, rfl, by simpa using lit_one w c⟩
theorem took_blk {g : Nat} {c : UInt8} (h : Blk w g 5 #[.int .u8 ((c.toNat : Nat) : Int)]) : Took w (.slice (some ⟨g, 0, none⟩) 1 1) [c] := by
  refine ⟨_, _, rfl, rfl, fun _ => ⟨⟨g, 0, none⟩, rfl, h.lt, fun j u hu => ?_⟩⟩
  rcases j with _ | j
  · have ha : (⟨g, 0, none⟩ : Addr).add 0 = ⟨g, 0, none⟩ := by unfold Addr.add; simp
    rw [ha, h.cell]
    exact hu
  · cases hu
end
end Go.Proofs.YtaljodmhalodhaaDoor
