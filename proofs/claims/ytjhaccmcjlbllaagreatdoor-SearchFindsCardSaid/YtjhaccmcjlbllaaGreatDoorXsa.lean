/-
  Plain words on memory, bytes and rows for the walks: no program in sight but its name in the namespace.
-/
import Derived.WalkKit
import Derived.WalkSpells
import Derived.WalkLawsBesides
import Derived.Handy
import Derived.ProofKit
import Derived.OpenShut
import Derived.Deep.Draws
import Derived.Deep.QuietTactic
import Derived.BigQuiet
import Derived.Lib.Hide
import Derived.ChangeSame
import Derived.Deep.DeepHandedRow
import Derived.Lay
import Derived.LaidMore
import Derived.LaidLaws
import Derived.Stop.Joined
import Derived.Orders
import Derived.OrdersHeld
import Derived.Below
import Derived.Deep.LoopGhost
import Derived.Laws.OwnMore
import Derived.Deep.AppendLies
import Derived.Deep.AppendSrc
import Derived.OwnWalk
import Derived.Deep.Cut
import Derived.Lib.QuietBelow
import Derived.Laws.BytesString
import Derived.Shelf.Strings.Builder1
import Derived.Shelf.Strings.Builder2
import Derived.Shelf.Strings.OnBuilder
import Derived.Shelf.Strings.Trim
import Derived.Shelf.Small.Utf8
import Derived.Shelf.Small.Strs
import Derived.Shelf.Small.Wraps
import Derived.Shelf.Strings.BuilderF
import Derived.Shelf.Strings.BuilderK
import Derived.Shelf.Strings.BuilderRune
import Derived.Shelf.Utf8.RuneCount
import Derived.Shelf.Strings.Builder2Cap
import Derived.Shelf.Strconv.Atoi
import Derived.Shelf.Strconv.Itoa0
import Derived.Shelf.Strconv.Itoa1
import Derived.Shelf.LaysM
import Derived.Shelf.Strconv.Itoa2
import Derived.Shelf.Strconv.Itoa3
import Derived.Shelf.Strconv.Itoa4
import Derived.Shelf.Strconv.AtoiErrFast
import Derived.Shelf.Strconv.ParseIntEmpty
import Derived.Shelf.Strconv.AtoiFail
import Derived.Shelf.Strconv.Clone
import Derived.Shelf.Strconv.SyntaxError
import Derived.Shelf.LaysC
import Derived.Shelf.Strconv.ToError
import Derived.Shelf.Strconv.Lower
import Derived.Shelf.Strconv.ParseUint10
import Derived.Shelf.Strconv.ParseUint10Empty
import Derived.Shelf.Strconv.ParseUint10Any
import Derived.Shelf.Strconv.ParseInt10
import Derived.Shelf.Strconv.AtoiLong
import Derived.Shelf.Strconv.AtoiInnerAll
import Derived.Shelf.Strconv.RangeError
import Derived.Shelf.Strconv.ToErrorRange
import Derived.Shelf.Strconv.AtoiAll
import Derived.Shelf.Strconv.ParseUintEmpty
import Derived.Shelf.Strconv.ParseUint10b64
import Derived.Shelf.Strconv.ParseUint10b32
import Derived.Shelf.Strconv.ParseUint10b16
import Derived.Shelf.Strconv.ParseUint10b8
import Derived.Ground.MpProg
import Derived.Shelf.Pu.ParseUintPublic10
import Derived.Shelf.Pu.ErrVarParseUint
import Derived.Shelf.Strings.Search1
import Derived.Shelf.Strings.Search2
import Derived.Shelf.Strings.Search3
import Derived.Shelf.Strings.Cut
import Derived.Shelf.Strings.Count
import Derived.Shelf.Strings.Shaped
import Derived.Shelf.Strings.LastIndex
import Derived.Shelf.Strings.Prefix
import Derived.Shelf.Strings.Split
import Derived.Shelf.Strings.Replace
import Derived.Shelf.Strings.SplitShaped
import Derived.Shelf.Unicode.Latin
import Derived.Shelf.Unicode.Decode
import Derived.Shelf.Strings.Runes
import Derived.Shelf.Strings.RuneCount
import Derived.Shelf.Strings.AsciiSet
import Derived.Shelf.Strings.Explode
import Derived.Shelf.Unicode.DecodeSlow
import Derived.Shelf.Unicode.DecodeAny
import Derived.Shelf.Unicode.DecodeLast
import Derived.Shelf.Unicode.CaseLookup
import Derived.Shelf.Unicode.CaseConvert
import Derived.Shelf.Unicode.CaseTo
import Derived.Shelf.Unicode.CaseLaid
import Derived.Shelf.Strings.MapAny
import Derived.Shelf.Strings.CaseAny
import Derived.Shelf.Slices.Turned
import Derived.Shelf.Bytes.SlIndexAt
import Derived.Shelf.Bytes.SlSearch0
import Derived.Ground.SlbCloneProg
import Derived.Shelf.Bytes.SlClone
import Derived.Shelf.Bytes.IndexByte
import Derived.Test.YtjhaccmcjlbllaaGreatDoorProg
import Derived.Lib.Bytes
import Derived.Test.YtjhaccmcjlbllaaGreatDoorChecked
import Derived.IntWalk
import Derived.Lib.ConvBytes
namespace Go.Proofs.YtjhaccmcjlbllaaGreatDoor
open Go.RowKit Go.WideShapes Go.ChangeShapes

/-- block g holds just these cells, none frozen -/
def Blk (w : World) (g : Nat) (t : TypeId) (cs : Array Value) : Prop := w.heap[g]? = some (.cells cs t (0, 0))
section
variable {w w' : World} {g : Nat} {t : TypeId} {cs : Array Value}
theorem Blk.lt (h : Blk w g t cs) : g < w.heap.size := by
  rcases Nat.lt_or_ge g w.heap.size with hlt | hge
  · exact hlt
  · unfold Blk at h; rw [Array.getElem?_eq_none hge] at h; cases h
theorem Blk.cell (h : Blk w g t cs) (i : Nat) : w.cell? ⟨g, i, none⟩ = cs[i]? := cell_of_row w g i cs t (0, 0) h
theorem Blk.frozen (h : Blk w g t cs) (i : Nat) : w.frozen? ⟨g, i, none⟩ = false := by
  unfold Blk at h
  simp [World.frozen?, h]
theorem Blk.new (w : World) (t : TypeId) (cs : Array Value) : Blk (w.alloc (.cells cs t)) w.heap.size t cs := heap_alloc_new w _
theorem Blk.drew (h : Blk w g t cs) : Blk w.drew g t cs := h
theorem Blk.drewN (h : Blk w g t cs) (n : Nat) : Blk (w.drewN n) g t cs := h
theorem Blk.alloc (h : Blk w g t cs) (o : Obj) : Blk (w.alloc o) g t cs := (Below.heap_alloc w o g h.lt).trans h
theorem Blk.set_ (h : Blk w g t cs) (i : Nat) (u : Value) : Blk (w.setCell ⟨g, i, none⟩ u) g t (cs.setIfInBounds i u) := by
  unfold Blk at h ⊢
  simp [World.setCell, Array.getElem?_modify, h]
theorem Blk.far (h : Blk w g t cs) {p : Addr} (hp : g ≠ p.block) (u : Value) : Blk (w.setCell p u) g t cs := (Below.heap_setCell w p u g hp).trans h
theorem Blk.below {B : Nat} (h : Blk w g t cs) (hb : Below B w w') (hg : g < B) : Blk w' g t cs := (hb.block g hg).trans h
theorem Blk.grown {row : Option Nat} (h : Blk w g t cs) (hb : w.grownBy w' row) (hg : some g ≠ row) : Blk w' g t cs := (hb.block g h.lt hg).trans h
end
theorem below_drewN {B : Nat} {a w : World} (h : Below B a w) (n : Nat) : Below B a (w.drewN n) := ⟨h.os, h.tape, h.output, h.size, h.block⟩

/-- the byte at a place -/
def bat (s : ByteArray) (i : Nat) : UInt8 := if h : i < s.size then s[i] else 0
theorem bat_eq (s : ByteArray) (i : Nat) (h : i < s.size) : bat s i = s[i] := by simp [bat, h]
theorem take_snoc (s : ByteArray) (k : Nat) (h : k < s.size) : s.data.toList.take (k + 1) = s.data.toList.take k ++ [s[k]] := by
  rw [List.take_succ_eq_append_getElem (by simpa using h)]; rfl
theorem ret_bool {a b : Bool} (h : a = b) : Ending.returned (.bool a) = .returned (.bool b) := by rw [h]
theorem ret_int {k : IntKind} {a b : Int} (h : a = b) : Ending.returned (.int k a) = .returned (.int k b) := by rw [h]
theorem ret_str {a b : ByteArray} (h : a = b) : Ending.returned (.string a) = .returned (.string b) := by rw [h]

theorem run_make_rowN {P : Program} (t e : TypeId) (i : TypeInfo) (z : Value) (ht : P.underlying t = some (.slice e)) (hi : P.info? e = some i) (hz : i.zero = some z)
    (kl kc : IntKind) (n c : Nat) (hnc : n ≤ c) (hbytes : i.bytes * c ≤ 281474976710656) (h63 : c ≤ 9223372036854775807) (w : World) :
    (Instr.makeSlice t (.int kl (n : Int)) (.int kc (c : Int))).run P w = .ok (.slice (some ⟨w.heap.size, 0, none⟩) n c) (w.alloc (.cells (madeCells z.cells (c * i.size)) e)) := by
  have hb : (i.bytes : Int) * (c : Int) ≤ 281474976710656 := by
    have h : ((i.bytes * c : Nat) : Int) ≤ 281474976710656 := by omega
    rwa [Int.natCast_mul] at h
  have hr := run_make (P := P) w t e i z ht hi hz kl kc n c (by omega) (by omega) hb (by omega)
  simp only [Int.toNat_natCast] at hr
  exact hr

/-- a row of booleans -/
def bcells (l : List Bool) : Array Value := (l.map Value.bool).toArray
/-- a row of booleans, told by a function -/
def bfn (f : Nat → Bool) (n : Nat) : Array Value := ((List.range n).map (fun j => Value.bool (f j))).toArray
def uptoB (f : Nat → Bool) (k : Nat) : Nat → Bool := fun j => decide (j < k) && f j
theorem bfn_get (f : Nat → Bool) (n i : Nat) (h : i < n) : (bfn f n)[i]? = some (.bool (f i)) := by simp [bfn, h]
theorem bfn_ext (f g : Nat → Bool) (n : Nat) (h : ∀ i, i < n → f i = g i) : bfn f n = bfn g n := by
  unfold bfn; congr 1; apply List.map_congr_left; intro a ha; simp at ha; rw [h a ha]
theorem bfn_setAt (f g : Nat → Bool) (n k : Nat) (b : Bool) (hb : b = g k) (h : ∀ i, i < n → i ≠ k → f i = g i) : (bfn f n).setIfInBounds k (.bool b) = bfn g n := by
  subst hb
  apply Array.ext
  · simp [bfn]
  · intro i h1 h2
    have hi : i < n := by simpa [bfn] using h2
    rw [Array.getElem_setIfInBounds (by simpa [bfn] using h2)]
    simp only [bfn, List.getElem_toArray, List.getElem_map, List.getElem_range]
    by_cases e : k = i
    · subst e; simp
    · simp only [e, if_false]
      rw [h i hi (fun x => e x.symm)]
theorem bfn_set (f : Nat → Bool) (n k : Nat) (b : Bool) (hb : b = f k) : (bfn (uptoB f k) n).setIfInBounds k (.bool b) = bfn (uptoB f (k+1)) n :=
  bfn_setAt _ _ _ _ _ (by simp [uptoB, hb]) (fun i _ hne => by
    have : (i < k) ↔ (i < k + 1) := by omega
    simp [uptoB, this])
theorem bfn_none (n : Nat) : bcells (List.replicate n false) = bfn (fun _ => false) n := by
  apply Array.ext
  · simp [bfn, bcells]
  · intro i h1 h2; simp [bfn, bcells]
theorem madeBools (n : Nat) : madeCells (Value.bool false).cells n = bcells (List.replicate n false) := by
  unfold madeCells bcells
  apply Array.ext
  · simp
  · intro i h1 h2; simp [Value.cells, Nat.mod_one]

/-- the row's last step where the call made memory of its own -/
theorem post_of_below {H : Type} {enc : TypeId × Value → H} {P : Program}
    {f : Func} {s : ChangeSpec} {apart fresh handsOn again : Bool} {W W' : World} {args : Array Value} {v : Value} {ds gs : List (DataW H)} {before pa pv : List MemPlace}
    (hW : DataW.Whole enc P f.params.toList s.vars apart W args.toList ds gs before)
    (hres : ∀ (b : Nat) (sp : Nat → Bool) (hd : Bool), DataW.TrodAll enc P W' b sp hd f.resultTypes.toList (v.resultList f.resultTypes.size) (s.fn H (ds ++ gs)).results [])
    (hargs : ∀ sp : Nat → Bool, (∀ p ∈ before, sp p.block = true) → DataW.TrodAll enc P W' 0 sp true f.params.toList args.toList (s.fn H (ds ++ gs)).args pa)
    (hvars : ∀ sp : Nat → Bool, (∀ p ∈ before, sp p.block = true) → DataW.TrodVars enc P W' sp s.vars (s.fn H (ds ++ gs)).vars pv)
    (hps : before = pa ++ pv) (hb : Below W.heap.size W W')
    (hok : ∀ (j : Nat) (t : TypeId) (r : Value), f.resultTypes[j]? = some t → (v.resultList f.resultTypes.size)[j]? = some r → Value.okWide P W' .any 0 t r) :
    s.post enc P f apart fresh handsOn again W args v W' := by
  have hlt : ∀ p ∈ before, p.block < W.heap.size := fun p hp => hW.lt p hp
  have hold : ∀ p ∈ before, (fun b => decide (b < W.heap.size)) p.block = true := fun p hp => by simpa using hlt p hp
  refine ⟨ds, gs, before, [], pa, pv, hW, hres _ _ _, hargs _ hold, hvars _ hold, World.keptBut_mono (fun p hp => ⟨hp, ?_⟩) (hb.frame (· ∈ before)), fun _ => ?_⟩
  · rw [hps, List.mem_append] at hp
    exact Or.inr hp
  · obtain ⟨_, _, _, _, _, hz, hn⟩ := hW
    refine ⟨hok, _, _, ([] ++ pa) ++ pv, ⟨[] ++ pa, pv, trodAll_append (hargs _ (fun _ _ => rfl)) (hres _ _ _), hvars _ (fun _ _ => rfl), rfl, ?_, ?_⟩, ?_⟩
    · intro b off hp
      have hin : MemPlace.cell b off ∈ before := by rw [hps]; simpa using hp
      rw [hb.frozen (hlt _ hin)]
      exact hz b off hin
    · intro ha
      have := hn ha
      rw [hps] at this
      simpa using this
    · intro p hp _
      rw [hps]
      simpa using hp
/-- there is an input that fits, at a world whose shape is given -/
theorem witness_row_shaped {H : Type} {enc : TypeId × Value → H} {C : Checked} {os : Os} {f : FuncId} {fn : Func} {s : OpenSpec} {conds : List PathCond} {apart : Bool} {laid : List (String × DataW Unit)} (modest : Bool) (w0 : World) (args : Array Value) (hos : w0.os = os)
    (hsh : (w0.forCall (fun _ _ => 0) ⟨#[], args, []⟩).Shaped C.prog)
    (hok : Input.okWideB C.prog (w0.forCall (fun _ _ => 0) ⟨#[], args, []⟩) f ⟨#[], args, []⟩ = true)
    (hrow : s.preRow enc C.prog fn conds apart laid (w0.forCall (fun _ _ => 0) ⟨#[], args, []⟩).memory args) :
    ∃ (w : World) (tape : Tape) (i : Input), w.os = os ∧ (w.forCall tape i).Shaped C.prog ∧ i.vars = [] ∧ Input.okWide C.prog (w.forCall tape i) .any w.heap.size f i ∧
      s.preRow enc C.prog fn conds apart laid (w.forCall tape i).memory i.args ∧ ({ modest := modest } : Assume).holds C.prog (lone (Frame.enter C.prog f i.args .normal) [] (w.forCall tape i)) :=
  ⟨w0, fun _ _ => 0, ⟨#[], args, []⟩, hos, hsh, (Input.okWide_of_okWideB (base := 0) hok).1, (Input.okWide_of_okWideB hok).2, hrow, by
    simp only [Assume.holds]
    exact ⟨by simp, by simp, fun _ => Modest.zero, by simp, by simp⟩⟩
end Go.Proofs.YtjhaccmcjlbllaaGreatDoor
/-
  A region that draws its order, by facts: of each operation what its slot then holds is said once (a value, or a word on the value and the world); each operation is shown to do so from the words on what it looks at; in whatever order they come up, at the end all words hold.
-/
namespace Go.Proofs.YtjhaccmcjlbllaaGreatDoor
open Go Go.RowKit
/-- what is said of an operation's slot: it is a value; a word holds of it, to the end; a word holds of it, till it is used -/
inductive Fact where
  | det (v : Value)
  | held (p : Value → World → Prop)
  | used (p : Value → World → Prop)
def Fact.says : Fact → Value → World → Prop
  | .det v, x, _ => x = v
  | .held p, x, w => p x w
  | .used p, x, w => p x w
def Fact.keeps : Fact → Bool
  | .used _ => false
  | _ => true
/-- what holds of the world from behind one operation up to another -/
structure Phase where
  start : Option Nat
  upto : Option Nat
  looks : List Nat
  p : (Nat → Value) → World → Prop
  ext : ∀ σ σ' w, (∀ t ∈ looks, σ t = σ' t) → p σ w → p σ' w
/-- what the slots hold -/
def sig (ev : Operand → Value) : Nat → Value := fun t => ev (.tmp t)
def onB (o : Oper) (j : Nat) : Bool := o.after.any fun e => Region.binds .any e && e.on == j
def dstIs (l : List Oper) (j t : Nat) : Bool := match l[j]? with | some o => o.dst == some t | none => false
/-- k waits for i -/
def blk (l : List Oper) (i : Nat) : Nat → Nat → Bool
  | 0, _ => false
  | f + 1, k => k == i || (match l[k]? with | some o => o.after.any fun e => Region.binds .any e && blk l i f e.on | none => false)
/-- an operation looks at what another one ahead has yielded -/
def usesB (l : List Oper) (o : Oper) (j : Nat) : Bool := onB o j && (match l[j]? with | some oj => (match oj.dst with | some t => (o.looksAt l.toArray).contains t | none => false) | none => false)
def needB (l : List Oper) (F : List Fact) (i j : Nat) : Bool :=
  !blk l i l.length j && ((F.getD j (.det undef)).keeps || (List.range l.length).any fun k => (k != i && !blk l k l.length i) && (match l[k]? with | some o => usesB l o j | none => false))
/-- which operation ahead has written a slot -/
def srcOf (l : List Oper) (o : Oper) (t : Nat) : Option Nat := (List.range l.length).find? fun j => onB o j && dstIs l j t
def slotSays (l : List Oper) (F : List Fact) (a0 : Array Value) (o : Oper) (t : Nat) (x : Value) (w : World) : Prop :=
  match srcOf l o t with
  | some j => (F.getD j (.det undef)).says x w
  | none => x = a0.getD t undef
/-- an operation finds a phase alive -/
def seesB (l : List Oper) (i : Nat) (s u : Option Nat) : Bool :=
  (match s with | some a => a != i && blk l a l.length i | none => true) && (match u with | some b => blk l i l.length b | none => true)
/-- an operation may come up while a phase is alive -/
def liveB (l : List Oper) (i : Nat) (s u : Option Nat) : Bool :=
  (match s with | some a => !blk l i l.length a | none => true) && (match u with | some b => !blk l b l.length i | none => true)
def lookB (l : List Oper) (i : Nat) (o : Oper) (t : Nat) : Bool :=
  (List.range l.length).all fun j => !dstIs l j t || onB o j || blk l i l.length j
def checkB (l : List Oper) (n : Nat) : Bool :=
  (List.range l.length).all fun i => match l[i]? with
    | none => true
    | some o => (match o.dst with | some t => decide (t < n) && (List.range l.length).all fun j => j == i || !dstIs l j t | none => true) && (o.after.all fun e => !Region.binds .any e || decide (e.on < i)) &&
        (o.looksAt l.toArray).all fun t => lookB l i o t
/-- slots that a phase looks at are written ahead of its start alone -/
def lkB (l : List Oper) (ps : List (Option Nat × List Nat)) : Bool :=
  (List.range l.length).all fun i => match l[i]? with
    | some o => (match o.dst with
      | some d => ps.all fun q => !q.2.contains d || (match q.1 with | some s => s != i && blk l i l.length s | none => false)
      | none => true)
    | none => true
structure EvOk (ev : Operand → Value) : Prop where
  const : ∀ v, ev (.const v) = v
  global : ∀ g, ev (.global g) = .pointer (some ⟨g, 0, none⟩)
  func : ∀ f, ev (.func f) = .func (.func f) #[] #[]
def Does (P : Program) (ev : Operand → Value) (o : Oper) (w : World) (K : Value → World → Prop) : Prop :=
  match (execOp ev o).run P w with
  | .ok (.value v) w' => K v w'
  | .ok .skip w' => K undef w'
  | .ok (.enter f args) w' => Calls P f args w' fun e w'' => ∃ v, e = .returned v ∧ K v w''
  | _ => False
def wantedBy (l : List Oper) (o : Oper) (ev : Operand → Value) : Bool :=
  match o.guard with
  | none => true
  | some (g, b) => match (l[g]?).bind (·.dst) with
    | some t => (match ev (.tmp t) with | .bool q => q == b | _ => false)
    | none => false
section
variable {P : Program} {l : List Oper} {F : List Fact} {Ph : List Phase} {C : World → Prop} {T : Nat → World → World → Prop} {a0 : Array Value}
/-- what is to be shown of an operation -/
def Ob (P : Program) (l : List Oper) (F : List Fact) (Ph : List Phase) (C : World → Prop) (T : Nat → World → World → Prop) (a0 : Array Value) (i : Nat) (o : Oper) : Prop :=
  ∀ (ev : Operand → Value) (w : World), EvOk ev → C w → (∀ t ∈ o.looksAt l.toArray, slotSays l F a0 o t (ev (.tmp t)) w) → (∀ ph ∈ Ph, seesB l i ph.start ph.upto = true → ph.p (sig ev) w) →
    if wantedBy l o ev = true then Does P ev o w (fun v w' => C w' ∧ T i w w' ∧ (F.getD i (.det undef)).says v w' ∧ ∀ ph ∈ Ph, ph.start = some i → ph.p (sig ev) w') else T i w w ∧ (F.getD i (.det undef)).says undef w ∧ ∀ ph ∈ Ph, ph.start = some i → ph.p (sig ev) w
theorem does_value {P : Program} {ev : Operand → Value} {o : Oper} {w w' : World} {v : Value} {K : Value → World → Prop} (h : (execOp ev o).run P w = .ok (.value v) w') (hK : K v w') : Does P ev o w K := by
  unfold Does; rw [h]; exact hK
theorem does_skip {P : Program} {ev : Operand → Value} {o : Oper} {w w' : World} {K : Value → World → Prop} (h : (execOp ev o).run P w = .ok .skip w') (hK : K undef w') : Does P ev o w K := by
  unfold Does; rw [h]; exact hK
theorem does_enter {P : Program} {ev : Operand → Value} {o : Oper} {w w' : World} {f : FuncId} {args : Array Value} {K : Value → World → Prop} (h : (execOp ev o).run P w = .ok (.enter f args) w') (hK : Calls P f args w' fun e w'' => ∃ v, e = .returned v ∧ K v w'') : Does P ev o w K := by
  unfold Does; rw [h]; exact hK
theorem ob_yes {i : Nat} {o : Oper} {ev : Operand → Value} {w : World} (hw : wantedBy l o ev = true) (h : Does P ev o w (fun v w' => C w' ∧ T i w w' ∧ (F.getD i (.det undef)).says v w' ∧ ∀ ph ∈ Ph, ph.start = some i → ph.p (sig ev) w')) :
    if wantedBy l o ev = true then Does P ev o w (fun v w' => C w' ∧ T i w w' ∧ (F.getD i (.det undef)).says v w' ∧ ∀ ph ∈ Ph, ph.start = some i → ph.p (sig ev) w') else T i w w ∧ (F.getD i (.det undef)).says undef w ∧ ∀ ph ∈ Ph, ph.start = some i → ph.p (sig ev) w := by
  rw [if_pos hw]; exact h
theorem ob_no {i : Nat} {o : Oper} {ev : Operand → Value} {w : World} (hw : wantedBy l o ev = false) (hT : T i w w) (h : (F.getD i (.det undef)).says undef w) (hs : ∀ ph ∈ Ph, ph.start = some i → ph.p (sig ev) w) :
    if wantedBy l o ev = true then Does P ev o w (fun v w' => C w' ∧ T i w w' ∧ (F.getD i (.det undef)).says v w' ∧ ∀ ph ∈ Ph, ph.start = some i → ph.p (sig ev) w') else T i w w ∧ (F.getD i (.det undef)).says undef w ∧ ∀ ph ∈ Ph, ph.start = some i → ph.p (sig ev) w := by
  rw [if_neg (by simp [hw])]; exact ⟨hT, h, hs⟩
/-- what is left behind the region: the slots are set to what is said of them -/
def FinK (σ : Nat → Value) (K : Array Value → Prop) (w : World) : List (Oper × Fact) → Array Value → Prop
  | [], arr => K arr
  | (⟨some t, _, _, _, _, _⟩, .det v) :: r, arr => FinK σ K w r (arr.setIfInBounds t v)
  | (⟨some t, _, _, _, _, _⟩, .held p) :: r, arr => ∀ x, x = σ t → p x w → FinK σ K w r (arr.setIfInBounds t x)
  | (⟨some t, _, _, _, _, _⟩, .used _) :: r, arr => ∀ x, x = σ t → FinK σ K w r (arr.setIfInBounds t x)
  | (⟨none, _, _, _, _, _⟩, _) :: r, arr => FinK σ K w r arr
structure Inv (l : List Oper) (F : List Fact) (Ph : List Phase) (C : World → Prop) (a0 : Array Value) (ds : List Deferred) (listed : Array Bool) (a : Act) (w : World) : Prop where
  world : C w
  lsize : listed.size = l.length
  size : a.tmps.size = a0.size
  defers : a.defers = ds
  closed : ∀ j oj, l[j]? = some oj → listed.getD j false = true → ∀ e ∈ oj.after, Region.binds .any e = true → listed.getD e.on false = true
  same : ∀ t, (∀ j o, l[j]? = some o → listed.getD j false = true → o.dst ≠ some t) → a.tmps[t]? = a0[t]?
  fact : ∀ j o t, l[j]? = some o → listed.getD j false = true → o.dst = some t →
    ((F.getD j (.det undef)).keeps = true ∨ ∃ (k : Nat) (ok : Oper), l[k]? = some ok ∧ listed.getD k false = false ∧ usesB l ok j = true) → (F.getD j (.det undef)).says (a.tmps.getD t undef) w
  phase : ∀ ph ∈ Ph, (∀ a, ph.start = some a → listed.getD a false = true) → (∀ b, ph.upto = some b → listed.getD b false = false) → ph.p (sig a.eval) w
theorem getD_two {listed : Array Bool} {i : Nat} (h : listed.getD i true = false) : listed.getD i false = false := by
  rcases Nat.lt_or_ge i listed.size with h' | h'
  · simp [h'] at h ⊢; exact h
  · simp [Array.getElem?_eq_none h'] at h
theorem getD_inn {listed : Array Bool} {i : Nat} (hi : i < listed.size) (h : listed.getD i false = false) : listed.getD i true = false := by
  simp [hi] at h ⊢; exact h
theorem onB_spec {o : Oper} {j : Nat} (h : onB o j = true) : ∃ e ∈ o.after, Region.binds .any e = true ∧ e.on = j := by
  unfold onB at h
  obtain ⟨e, he, hb⟩ := Array.any_eq_true'.1 h
  simp only [Bool.and_eq_true, beq_iff_eq] at hb
  exact ⟨e, he, hb.1, hb.2⟩
theorem blk_listed {listed : Array Bool} (hc : ∀ j oj, l[j]? = some oj → listed.getD j false = true → ∀ e ∈ oj.after, Region.binds .any e = true → listed.getD e.on false = true) (i : Nat) :
    ∀ (f k : Nat), blk l i f k = true → listed.getD k false = true → listed.getD i false = true
  | 0, _, h, _ => by simp [blk] at h
  | f + 1, k, h, hk => by
    unfold blk at h
    rw [Bool.or_eq_true, beq_iff_eq] at h
    rcases h with rfl | h
    · exact hk
    · cases ho : l[k]? with
      | none => rw [ho] at h; cases h
      | some o =>
        rw [ho] at h
        obtain ⟨e, he, hb⟩ := Array.any_eq_true'.1 h
        simp only [Bool.and_eq_true] at hb
        exact blk_listed hc i f e.on hb.2 (hc k o ho hk e he hb.1)
theorem srcOf_some {o : Oper} {t j : Nat} (h : srcOf l o t = some j) : onB o j = true ∧ ∃ oj, l[j]? = some oj ∧ oj.dst = some t := by
  have := List.find?_some h
  rw [Bool.and_eq_true] at this
  refine ⟨this.1, ?_⟩
  have h2 := this.2
  unfold dstIs at h2
  cases ho : l[j]? with
  | none => rw [ho] at h2; cases h2
  | some oj => rw [ho] at h2; exact ⟨oj, rfl, by simpa using h2⟩
theorem srcOf_none {o : Oper} {t : Nat} (h : srcOf l o t = none) {j : Nat} {oj : Oper} (hj : l[j]? = some oj) (hd : oj.dst = some t) : onB o j = false := by
  have h2 := (List.find?_eq_none.1 h) j (List.mem_range.2 (List.getElem?_eq_some_iff.1 hj).1)
  have h3 : dstIs l j t = true := by unfold dstIs; rw [hj]; simp [hd]
  rw [h3, Bool.and_true] at h2
  simpa using h2
theorem checkB_look {n i : Nat} {o : Oper} (h : checkB l n = true) (hi : l[i]? = some o) : ∀ t ∈ o.looksAt l.toArray, ∀ j oj, l[j]? = some oj → oj.dst = some t → onB o j = true ∨ blk l i l.length j = true := by
  intro t ht j oj hj hd
  have h1 := List.all_eq_true.1 h i (List.mem_range.2 (List.getElem?_eq_some_iff.1 hi).1)
  rw [hi] at h1
  simp only [Bool.and_eq_true] at h1
  have h2 := List.all_eq_true.1 h1.2 t ht
  have h3 := List.all_eq_true.1 h2 j (List.mem_range.2 (List.getElem?_eq_some_iff.1 hj).1)
  have h4 : dstIs l j t = true := by unfold dstIs; rw [hj]; simp [hd]
  rw [h4] at h3
  simpa using h3
theorem checkB_dst {n i : Nat} {o : Oper} {t : Nat} (h : checkB l n = true) (hi : l[i]? = some o) (hd : o.dst = some t) : t < n ∧ ∀ j oj, l[j]? = some oj → oj.dst = some t → j = i := by
  have h1 := List.all_eq_true.1 h i (List.mem_range.2 (List.getElem?_eq_some_iff.1 hi).1)
  rw [hi] at h1
  simp only [Bool.and_eq_true, hd, decide_eq_true_eq] at h1
  refine ⟨h1.1.1.1, fun j oj hj hdj => ?_⟩
  have h3 := List.all_eq_true.1 h1.1.1.2 j (List.mem_range.2 (List.getElem?_eq_some_iff.1 hj).1)
  have h4 : dstIs l j t = true := by unfold dstIs; rw [hj]; simp [hdj]
  rw [h4] at h3
  simpa using h3
theorem checkB_back {n i : Nat} {o : Oper} (h : checkB l n = true) (hi : l[i]? = some o) : ∀ e ∈ o.after, Region.binds .any e = true → e.on < i := by
  intro e he hb
  have h1 := List.all_eq_true.1 h i (List.mem_range.2 (List.getElem?_eq_some_iff.1 hi).1)
  rw [hi] at h1
  simp only [Bool.and_eq_true] at h1
  have h2 := Array.all_eq_true'.1 h1.1.2 e he
  rw [hb] at h2
  simpa using h2
theorem wanted_eq {o : Oper} {a : Act} : Region.wanted o (yielded l.toArray a.tmps) = wantedBy l o a.eval := by
  unfold Region.wanted wantedBy
  cases o.guard with
  | none => rfl
  | some g =>
    obtain ⟨g, b⟩ := g
    simp only [yielded, List.getElem?_toArray]
    cases hd : (l[g]?).bind (·.dst) with
    | none => simp
    | some t =>
      simp only [Option.bind_some, Act.eval]
      cases ht : a.tmps[t]? with
      | none => simp [ht, undef]
      | some v => cases v <;> simp [ht]
theorem evOk (a : Act) : EvOk a.eval := ⟨fun _ => rfl, fun _ => rfl, fun _ => rfl⟩
theorem does_wp {Q : Exit → Act → World → Prop} {a : Act} {o : Oper} {w : World} {K : Value → World → Prop} {next : Act → World → Prop} (h : Does P a.eval o w K) (hn : ∀ v w', K v w' → next (a.put o.dst v) w') : o.wp P a w next Q := by
  unfold Does at h
  unfold Oper.wp
  generalize (execOp a.eval o).run P w = r at *
  cases r with
  | ok nx w' =>
    cases nx <;> first
      | exact hn _ _ h
      | exact h.elim
      | exact Calls.mono h fun e w'' ⟨v, he, hk⟩ => by subst he; exact hn _ _ hk
  | halt x w' => exact h.elim
theorem put_get {a : Act} {t : Nat} {v : Value} (h : t < a.tmps.size) : (a.put (some t) v).tmps.getD t undef = v := by
  simp [Act.put, h]
theorem put_other {a : Act} {d : Option Tmp} {t : Nat} {v : Value} (h : d ≠ some t) : (a.put d v).tmps[t]? = a.tmps[t]? := by
  cases d with
  | none => rfl
  | some d =>
    have : d ≠ t := fun e => h (by rw [e])
    simp [Act.put, Array.getElem?_setIfInBounds_ne this]
theorem getD_of_get {x y : Array Value} {t : Nat} (h : x[t]? = y[t]?) : x.getD t undef = y.getD t undef := by
  rw [Array.getD_eq_getD_getElem?, Array.getD_eq_getD_getElem?, h]
theorem put_size (a : Act) (d : Option Tmp) (v : Value) : (a.put d v).tmps.size = a.tmps.size := by cases d <;> simp [Act.put]
theorem put_def (a : Act) (d : Option Tmp) (v : Value) : (a.put d v).defers = a.defers := by cases d <;> rfl
theorem listed_ne {listed : Array Bool} {i j : Nat} (hij : i ≠ j) : (listed.setIfInBounds i true).getD j false = listed.getD j false := getD_set_ne false hij
theorem sig_eval (a : Act) : sig a.eval = fun t => a.tmps.getD t undef := rfl
theorem sig_put {a : Act} {d : Option Tmp} {t : Nat} {v : Value} (h : d ≠ some t) : sig a.eval t = sig (a.put d v).eval t := by
  rw [sig_eval, sig_eval]
  exact (getD_of_get (put_other h)).symm
theorem Inv.step {n : Nat} {ds : List Deferred} {listed : Array Bool} {a : Act} {w w' : World} {i : Nat} {o : Oper} {v : Value} (h : Inv l F Ph C a0 ds listed a w) (hB : checkB l n = true) (hn : a0.size = n) (hi : l[i]? = some o) (hr : i ∈ Region.ready .any l.toArray listed)
    (hstab : ∀ i j x w w', needB l F i j = true → i ≠ j → C w → (F.getD j (.det undef)).says x w → T i w w' → (F.getD j (.det undef)).says x w')
    (hph : ∀ i (ph : Phase) σ w w', ph ∈ Ph → ph.start ≠ some i → ph.upto ≠ some i → liveB l i ph.start ph.upto = true → C w → ph.p σ w → T i w w' → ph.p σ w')
    (hC : C w') (hT : T i w w') (hF : (F.getD i (.det undef)).says v w') (hS : ∀ ph ∈ Ph, ph.start = some i → ph.p (sig a.eval) w') (hlk : lkB l (Ph.map fun ph => (ph.start, ph.looks)) = true) : Inv l F Ph C a0 ds (listed.setIfInBounds i true) (a.put o.dst v) w' := by
  obtain ⟨hun, o', ho', hall⟩ := mem_ready.1 hr
  have hoo : o' = o := by
    rw [List.getElem?_toArray, hi] at ho'
    exact (Option.some.inj ho').symm
  subst hoo
  have hil : i < listed.size := by rw [h.lsize]; exact (List.getElem?_eq_some_iff.1 hi).1
  have hun2 := getD_two hun
  refine ⟨hC, by simp [h.lsize], by rw [put_size, h.size], by rw [put_def, h.defers], ?_, ?_, ?_, ?_⟩
  · intro j oj hj hl e he hb
    by_cases hij : i = j
    · subst hij
      have : oj = o' := Option.some.inj (hj.symm.trans hi)
      subst this
      exact getD_set_true (hall e he hb)
    · rw [listed_ne hij] at hl
      exact getD_set_true (h.closed j oj hj hl e he hb)
  · intro t ht
    have hd : o'.dst ≠ some t := ht i o' hi (by simp [hil])
    rw [put_other hd]
    exact h.same t fun j oj hj hl => ht j oj hj (getD_set_true hl)
  · intro j oj t hj hl hd hne
    by_cases hij : i = j
    · subst hij
      have : oj = o' := Option.some.inj (hj.symm.trans hi)
      subst this
      have hlt := (checkB_dst hB hi hd).1
      rw [hd, put_get (by rw [h.size, hn]; exact hlt)]
      exact hF
    · rw [listed_ne hij] at hl
      have hd2 : o'.dst ≠ some t := fun e => hij ((checkB_dst hB hj hd).2 i o' hi e)
      rw [getD_of_get (put_other hd2)]
      have hne2 : (F.getD j (.det undef)).keeps = true ∨ ∃ (k : Nat) (ok : Oper), l[k]? = some ok ∧ listed.getD k false = false ∧ usesB l ok j = true := by
        rcases hne with hk | ⟨k, ok, hk, hkl, hon⟩
        · exact .inl hk
        · refine .inr ⟨k, ok, hk, ?_, hon⟩
          by_cases hik : i = k
          · subst hik; exact hun2
          · rw [listed_ne hik] at hkl; exact hkl
      refine hstab i j _ w w' ?_ hij h.world (h.fact j oj t hj hl hd hne2) hT
      unfold needB
      have hnb : blk l i l.length j = false := by
        cases hb : blk l i l.length j with
        | false => rfl
        | true =>
          have := blk_listed h.closed i l.length j hb hl
          rw [hun2] at this
          cases this
      rw [hnb, Bool.not_false, Bool.true_and, Bool.or_eq_true]
      rcases hne with hk | ⟨k, ok, hk, hkl, hon⟩
      · exact .inl hk
      · refine .inr (List.any_eq_true.2 ⟨k, List.mem_range.2 (List.getElem?_eq_some_iff.1 hk).1, ?_⟩)
        rw [hk]
        have hik : k ≠ i := fun e => by
          subst e
          simp [hil] at hkl
        rw [listed_ne (fun e => hik e.symm)] at hkl
        have hbk : blk l k l.length i = false := by
          cases hbb : blk l k l.length i with
          | false => rfl
          | true =>
            exfalso
            obtain ⟨f, hf⟩ : ∃ f, l.length = f + 1 := ⟨l.length - 1, by have := (List.getElem?_eq_some_iff.1 hi).1; omega⟩
            rw [hf] at hbb
            unfold blk at hbb
            rw [Bool.or_eq_true, beq_iff_eq] at hbb
            rcases hbb with e | hbb
            · exact hik e.symm
            · rw [hi] at hbb
              obtain ⟨e, he, hb2⟩ := Array.any_eq_true'.1 hbb
              simp only [Bool.and_eq_true] at hb2
              have := blk_listed h.closed k f e.on hb2.2 (hall e he hb2.1)
              rw [hkl] at this
              cases this
        simp [hik, hon, hbk]
  · intro ph hp hfrom hupto
    have hlook : ∀ d, o'.dst = some d → d ∈ ph.looks → ∃ s, ph.start = some s ∧ s ≠ i ∧ blk l i l.length s = true := fun d hd hdl => by
      have h1 := List.all_eq_true.1 hlk i (List.mem_range.2 (List.getElem?_eq_some_iff.1 hi).1)
      rw [hi] at h1
      simp only [hd] at h1
      have h2 := List.all_eq_true.1 h1 _ (List.mem_map.2 ⟨ph, hp, rfl⟩)
      simp only [Bool.or_eq_true, Bool.not_eq_true'] at h2
      rcases h2 with h2 | h2
      · simp [hdl] at h2
      · cases hst : ph.start with
        | none => rw [hst] at h2; cases h2
        | some s =>
          rw [hst] at h2
          simp only [Bool.and_eq_true, bne_iff_ne] at h2
          exact ⟨s, rfl, h2.1, h2.2⟩
    by_cases hs : ph.start = some i
    · refine ph.ext _ _ w' (fun t ht => sig_put fun hd => ?_) (hS ph hp hs)
      obtain ⟨s, h1, h2, _⟩ := hlook t hd ht
      rw [hs] at h1
      exact h2 (Option.some.inj h1).symm
    · have hu : ph.upto ≠ some i := fun e => by
        have := hupto i e
        simp [hil] at this
      have hf2 : ∀ a, ph.start = some a → listed.getD a false = true := fun a ha => by
        have h1 := hfrom a ha
        rwa [listed_ne (fun e => hs (by rw [e]; exact ha))] at h1
      have hu2 : ∀ b, ph.upto = some b → listed.getD b false = false := fun b hb => by
        have h1 := hupto b hb
        rwa [listed_ne (fun e => hu (by rw [e]; exact hb))] at h1
      refine ph.ext _ _ w' (fun t ht => sig_put fun hd => ?_) (hph i ph _ w w' hp hs hu ?_ h.world (h.phase ph hp hf2 hu2) hT)
      · obtain ⟨s, h1, _, h3⟩ := hlook t hd ht
        have := blk_listed h.closed i l.length s h3 (hf2 s h1)
        rw [hun2] at this
        cases this
      unfold liveB
      rw [Bool.and_eq_true]
      constructor
      · cases ha : ph.start with
        | none => rfl
        | some a =>
          cases hb : blk l i l.length a with
          | false => simp [hb]
          | true =>
            have := blk_listed h.closed i l.length a hb (hf2 a ha)
            rw [hun2] at this
            cases this
      · cases hb : ph.upto with
        | none => rfl
        | some b =>
          cases hc : blk l b l.length i with
          | false => simp [hc]
          | true =>
            exfalso
            have hbl := hu2 b hb
            have hpos : 0 < l.length := Nat.lt_of_le_of_lt (Nat.zero_le _) (List.getElem?_eq_some_iff.1 hi).1
            obtain ⟨f, hf⟩ : ∃ f, l.length = f + 1 := ⟨l.length - 1, by omega⟩
            rw [hf] at hc
            unfold blk at hc
            rw [Bool.or_eq_true, beq_iff_eq] at hc
            rcases hc with e | hc
            · exact hu (by rw [hb, e])
            · rw [hi] at hc
              obtain ⟨e, he, hbb⟩ := Array.any_eq_true'.1 hc
              simp only [Bool.and_eq_true] at hbb
              have := blk_listed h.closed b f e.on hbb.2 (hall e he hbb.1)
              rw [hbl] at this
              cases this
theorem fin_of (K : Array Value → Prop) (w : World) (g : Nat → Value) : ∀ (m : List (Oper × Fact)) (arr : Array Value), FinK g K w m arr → (∀ p ∈ m, ∀ t, p.1.dst = some t → p.2.keeps = true → p.2.says (g t) w) →
    K (m.foldl (fun arr p => match p.1.dst with | some t => arr.setIfInBounds t (g t) | none => arr) arr)
  | [], arr, h, _ => h
  | (⟨d, _, _, _, _, _⟩, f) :: r, arr, h, hs => by
    cases d with
    | none => exact fin_of K w g r arr h fun p hp => hs p (List.mem_cons_of_mem _ hp)
    | some t =>
      have h0 := hs _ (List.mem_cons_self) t rfl
      have hr := fun p hp => hs p (List.mem_cons_of_mem _ hp)
      cases f with
      | det v =>
        have hv : g t = v := h0 rfl
        subst hv
        exact fin_of K w g r _ h hr
      | held p => exact fin_of K w g r _ (h (g t) rfl (h0 rfl)) hr
      | used p => exact fin_of K w g r _ (h (g t) rfl) hr
theorem fold_get (g : Nat → Value) : ∀ (m : List (Oper × Fact)) (arr : Array Value) (t : Nat),
    (m.foldl (fun arr p => match p.1.dst with | some t => arr.setIfInBounds t (g t) | none => arr) arr)[t]? = if (∃ p ∈ m, p.1.dst = some t) ∧ t < arr.size then some (g t) else arr[t]?
  | [], arr, t => by simp
  | (o, f) :: r, arr, t => by
    rw [List.foldl_cons, fold_get g r]
    cases hd : o.dst with
    | none =>
      have e : (∃ p, p ∈ (o, f) :: r ∧ p.1.dst = some t) ↔ ∃ p, p ∈ r ∧ p.1.dst = some t := by simp [hd]
      simp only [e]
    | some d =>
      simp only [Array.size_setIfInBounds, List.mem_cons, exists_eq_or_imp]
      by_cases hr : ∃ p ∈ r, p.1.dst = some t
      · by_cases hlt : t < arr.size
        · rw [if_pos ⟨hr, hlt⟩, if_pos ⟨.inr hr, hlt⟩]
        · rw [if_neg (fun h => hlt h.2), if_neg (fun h => hlt h.2), Array.getElem?_eq_none (by simp; omega), Array.getElem?_eq_none (by omega)]
      · rw [if_neg (fun h => hr h.1)]
        by_cases hdt : d = t
        · subst hdt
          by_cases hlt : d < arr.size
          · rw [if_pos ⟨.inl hd, hlt⟩]
            simp [hlt]
          · have e : arr.setIfInBounds d (g d) = arr := by simp [Array.setIfInBounds, hlt]
            rw [if_neg (fun h => hlt h.2), e]
        · rw [Array.getElem?_setIfInBounds_ne hdt, if_neg]
          rintro ⟨h | h, _⟩
          · rw [hd] at h; exact hdt (Option.some.inj h)
          · exact hr h
theorem wpAny_facts {Q : Exit → Act → World → Prop} {a : Act} {w : World} (n : Nat) (F : List Fact) (Ph : List Phase) (C : World → Prop) (T : Nat → World → World → Prop) (hn : a.tmps.size = n) (hB : checkB l n = true) (hFl : F.length = l.length) (hC : C { w with drawn := w.drawn + 1 })
    (hstab : ∀ i j x w w', needB l F i j = true → i ≠ j → C w → (F.getD j (.det undef)).says x w → T i w w' → (F.getD j (.det undef)).says x w')
    (hph0 : ∀ ph ∈ Ph, ph.start = none → ph.p (sig a.eval) { w with drawn := w.drawn + 1 })
    (hph : ∀ i (ph : Phase) σ w w', ph ∈ Ph → ph.start ≠ some i → ph.upto ≠ some i → liveB l i ph.start ph.upto = true → C w → ph.p σ w → T i w w' → ph.p σ w')
    (hpl : ∀ ph ∈ Ph, ∀ a, ph.start = some a → a < l.length)
    (hob : ∀ i o, l[i]? = some o → Ob P l F Ph C T a.tmps i o)
    (hlk : lkB l (Ph.map fun ph => (ph.start, ph.looks)) = true)
    (hfin : ∀ σ w', C w' → (∀ ph ∈ Ph, ph.upto = none → ph.p σ w') → FinK σ (fun arr => Q .normal ⟨arr, a.defers⟩ w') w' (l.zip F) a.tmps) : wpAny P .any l.toArray Q l.toArray.size (Array.replicate l.toArray.size false) a { w with drawn := w.drawn + 1 } := by
  have main : ∀ (fuel : Nat) (listed : Array Bool) (a' : Act) (w' : World), Inv l F Ph C a.tmps a.defers listed a' w' → listed.toList.countP (fun b => !b) ≤ fuel → wpAny P .any l.toArray Q fuel listed a' w' := by
    have done : ∀ (listed : Array Bool) (a' : Act) (w' : World), Inv l F Ph C a.tmps a.defers listed a' w' → Region.ready .any l.toArray listed = [] → (∀ j, j < l.length → listed.getD j false = true) → Q .normal a' w' := by
      intro listed a' w' hI _ hall
      have h1 := fin_of (fun arr => Q .normal ⟨arr, a.defers⟩ w') w' (fun t => a'.tmps.getD t undef) (l.zip F) a.tmps (hfin (fun t => a'.tmps.getD t undef) w' hI.world fun ph hp hu => sig_eval a' ▸ hI.phase ph hp (fun a ha => hall a (hpl ph hp a ha)) (fun b hb => by rw [hu] at hb; cases hb)) (by
        intro p hp t hd hk
        obtain ⟨j, hj, e⟩ := List.getElem_of_mem hp
        have hjl : j < l.length := by rw [List.length_zip] at hj; omega
        have hjF : j < F.length := by omega
        rw [List.getElem_zip] at e
        have e1 : l[j]? = some p.1 := by rw [List.getElem?_eq_getElem hjl, ← e]
        have e2 : F.getD j (.det undef) = p.2 := by rw [List.getD_eq_getElem?_getD, List.getElem?_eq_getElem hjF, ← e]; rfl
        have := hI.fact j p.1 t e1 (hall j hjl) hd (.inl (by rw [e2]; exact hk))
        rw [e2] at this
        exact this)
      have h2 : ((l.zip F).foldl (fun arr p => match p.1.dst with | some t => arr.setIfInBounds t (a'.tmps.getD t undef) | none => arr) a.tmps) = a'.tmps := by
        apply Array.ext_getElem?
        intro t
        rw [fold_get]
        by_cases hex : ∃ p ∈ l.zip F, p.1.dst = some t
        · obtain ⟨p, hp, hd⟩ := hex
          obtain ⟨j, hj, e⟩ := List.getElem_of_mem hp
          have hjl : j < l.length := by rw [List.length_zip] at hj; omega
          rw [List.getElem_zip] at e
          have e1 : l[j]? = some p.1 := by rw [List.getElem?_eq_getElem hjl, ← e]
          have hlt := (checkB_dst hB e1 hd).1
          rw [if_pos ⟨⟨p, hp, hd⟩, by omega⟩, Array.getD_eq_getD_getElem?, Array.getElem?_eq_getElem (by rw [hI.size]; omega)]
          rfl
        · rw [if_neg (fun h => hex h.1)]
          refine (hI.same t fun j o hj _ hd => hex ?_).symm
          have hjl := (List.getElem?_eq_some_iff.1 hj).1
          have hjF : j < F.length := by omega
          refine ⟨(l[j], F[j]), ?_, ?_⟩
          · have hz : j < (l.zip F).length := by rw [List.length_zip]; omega
            have : (l.zip F)[j] = (l[j], F[j]) := List.getElem_zip
            rw [← this]
            exact List.getElem_mem hz
          · have : l[j] = o := (List.getElem?_eq_some_iff.1 hj).2
            rw [this]; exact hd
      rw [h2, ← hI.defers] at h1
      exact h1
    have allOf : ∀ (listed : Array Bool), listed.size = l.length → listed.toList.countP (fun b => !b) = 0 → ∀ j, j < l.length → listed.getD j false = true := by
      intro listed hs hc j hj
      rw [List.countP_eq_zero] at hc
      have h1 : j < listed.size := by omega
      have h2 := hc listed[j] (by simp)
      simpa [h1] using h2
    intro fuel
    induction fuel with
    | zero =>
      intro listed a' w' hI hf
      have hall := allOf listed hI.lsize (by omega)
      have hr : Region.ready .any l.toArray listed = [] := by
        rw [List.eq_nil_iff_forall_not_mem]
        intro i hi
        obtain ⟨hun, o, ho, _⟩ := mem_ready.1 hi
        have hlt : i < l.length := by
          rw [List.getElem?_toArray] at ho
          exact (List.getElem?_eq_some_iff.1 ho).1
        have := hall i hlt
        rw [getD_two hun] at this
        cases this
      exact ⟨hr, done listed a' w' hI hr hall⟩
    | succ fuel ih =>
      intro listed a' w' hI hf
      have stepd : ∀ i ∈ Region.ready .any l.toArray listed, wpOp P l.toArray Q i (wpAny P .any l.toArray Q fuel (listed.setIfInBounds i true)) a' w' := by
        intro i hi
        obtain ⟨hun, o, ho, hall⟩ := mem_ready.1 hi
        rw [List.getElem?_toArray] at ho
        have hlt := (List.getElem?_eq_some_iff.1 ho).1
        have hcount : (listed.setIfInBounds i true).toList.countP (fun b => !b) ≤ fuel := by
          have hls : i < listed.size := by rw [hI.lsize]; exact hlt
          have hget : listed[i] = false := by simpa [hls] using hun
          have := List.countP_set (p := fun b => !b) (l := listed.toList) (i := i) (a := true) (by simpa using hls)
          have hpos : 0 < listed.toList.countP (fun b => !b) := List.countP_pos_iff.2 ⟨listed[i], by simp, by simp [hget]⟩
          rw [Array.toList_setIfInBounds, this, if_pos (by simp [hget]), if_neg (by simp)]
          omega
        have hob1 := hob i o ho a'.eval w' (evOk a') hI.world (by
          intro t ht
          unfold slotSays
          cases hs : srcOf l o t with
          | some j =>
            obtain ⟨hon, oj, hj, hd⟩ := srcOf_some hs
            obtain ⟨e, he, hb, rfl⟩ := onB_spec hon
            exact hI.fact e.on oj t hj (hall e he hb) hd (.inr ⟨i, o, ho, getD_two hun, by unfold usesB; rw [hon, hj]; simp only [hd, Bool.true_and]; simpa using ht⟩)
          | none =>
            refine getD_of_get (hI.same t fun j oj hj hl hd => ?_)
            rcases checkB_look hB ho t ht j oj hj hd with h | h
            · rw [srcOf_none hs hj hd] at h; cases h
            · have := blk_listed hI.closed i l.length j h hl
              rw [getD_two hun] at this
              cases this) (by
          intro ph hp hs
          unfold seesB at hs
          rw [Bool.and_eq_true] at hs
          refine hI.phase ph hp (fun a ha => ?_) (fun b hb => ?_)
          · have h1 := hs.1
            rw [ha] at h1
            simp only [Bool.and_eq_true, bne_iff_ne] at h1
            obtain ⟨f, hf⟩ : ∃ f, l.length = f + 1 := ⟨l.length - 1, by omega⟩
            have h2 := h1.2
            rw [hf] at h2
            unfold blk at h2
            rw [Bool.or_eq_true, beq_iff_eq] at h2
            rcases h2 with e | h2
            · exact absurd e.symm h1.1
            · rw [ho] at h2
              obtain ⟨e, he, hbb⟩ := Array.any_eq_true'.1 h2
              simp only [Bool.and_eq_true] at hbb
              exact blk_listed hI.closed a f e.on hbb.2 (hall e he hbb.1)
          · have h1 := hs.2
            rw [hb] at h1
            cases hl : listed.getD b false with
            | false => rfl
            | true =>
              have := blk_listed hI.closed i l.length b h1 hl
              rw [getD_two hun] at this
              cases this)
        unfold wpOp
        simp only [List.getElem?_toArray, ho]
        rw [wanted_eq]
        by_cases hw : wantedBy l o a'.eval = true
        · rw [if_pos hw] at hob1 ⊢
          exact .inl (does_wp hob1 fun v w'' ⟨hC2, hT2, hF2, hS2⟩ => ih _ _ _ (hI.step hB hn ho hi hstab hph hC2 hT2 hF2 hS2 hlk) hcount)
        · rw [if_neg hw] at hob1 ⊢
          exact ih _ _ _ (hI.step hB hn ho hi hstab hph hI.world hob1.1 hob1.2.1 hob1.2.2 hlk) hcount
      refine ⟨fun hr => ?_, stepd⟩
      refine done listed a' w' hI hr ?_
      intro j
      induction j using Nat.strongRecOn with
      | _ j jh =>
        intro hj
        cases hl : listed.getD j false with
        | true => rfl
        | false =>
          exfalso
          have hnr : j ∉ Region.ready .any l.toArray listed := by rw [hr]; simp
          refine hnr (mem_ready.2 ⟨getD_inn (by rw [hI.lsize]; exact hj) hl, l[j], by rw [List.getElem?_toArray, List.getElem?_eq_getElem hj], fun e he hb => ?_⟩)
          have hlt := checkB_back hB (List.getElem?_eq_getElem hj) e he hb
          exact jh e.on hlt (by omega)
  have hrep : ∀ j, (Array.replicate l.toArray.size false).getD j false = false := fun j => by
    rw [Array.getD_eq_getD_getElem?]
    by_cases h : j < l.toArray.size
    · rw [Array.getElem?_replicate, if_pos h]; rfl
    · rw [Array.getElem?_replicate, if_neg h]; rfl
  refine main _ _ _ _ ⟨hC, by simp, rfl, rfl, ?_, fun _ _ => rfl, ?_, ?_⟩ ?_
  · intro j oj hj hl
    rw [hrep j] at hl
    cases hl
  · intro j o t hj hl
    rw [hrep j] at hl
    cases hl
  · intro ph hp hs _
    cases ha : ph.start with
    | none => exact hph0 ph hp ha
    | some a =>
      have := hs a ha
      rw [hrep a] at this
      cases this
  · rw [Array.toList_replicate]
    exact Nat.le_trans List.countP_le_length (by simp)
theorem wp_region_facts {id : Nat} {Q : Exit → Act → World → Prop} {a : Act} {w : World} (n : Nat) (F : List Fact) (Ph : List Phase) (C : World → Prop) (T : Nat → World → World → Prop) (hm : P.follows .mixedOrders = true) (hn : a.tmps.size = n) (hB : checkB l n = true) (hFl : F.length = l.length) (hC : C { w with drawn := w.drawn + 1 })
    (hstab : ∀ i j x w w', needB l F i j = true → i ≠ j → C w → (F.getD j (.det undef)).says x w → T i w w' → (F.getD j (.det undef)).says x w')
    (hph0 : ∀ ph ∈ Ph, ph.start = none → ph.p (sig a.eval) { w with drawn := w.drawn + 1 })
    (hph : ∀ i (ph : Phase) σ w w', ph ∈ Ph → ph.start ≠ some i → ph.upto ≠ some i → liveB l i ph.start ph.upto = true → C w → ph.p σ w → T i w w' → ph.p σ w')
    (hpl : ∀ ph ∈ Ph, ∀ a, ph.start = some a → a < l.length)
    (hob : ∀ i o, l[i]? = some o → Ob P l F Ph C T a.tmps i o)
    (hlk : lkB l (Ph.map fun ph => (ph.start, ph.looks)) = true)
    (hfin : ∀ σ w', C w' → (∀ ph ∈ Ph, ph.upto = none → ph.p σ w') → FinK σ (fun arr => Q .normal ⟨arr, a.defers⟩ w') w' (l.zip F) a.tmps) : (Code.region id l.toArray true).wp P Q a w :=
  wp_region_any hm (wpAny_facts n F Ph C T hn hB hFl hC hstab hph0 hph hpl hob hlk hfin)
def ObAll (P : Program) (l : List Oper) (F : List Fact) (Ph : List Phase) (C : World → Prop) (T : Nat → World → World → Prop) (a0 : Array Value) : Nat → List Oper → Prop
  | _, [] => True
  | i, o :: r => Ob P l F Ph C T a0 i o ∧ ObAll P l F Ph C T a0 (i + 1) r
theorem obAll_go : ∀ (r : List Oper) (k : Nat), ObAll P l F Ph C T a0 k r → ∀ i o, r[i]? = some o → Ob P l F Ph C T a0 (k + i) o
  | [], _, _, i, o, h => by simp at h
  | o :: r, k, h, 0, o', ho => by
    have : o = o' := by simpa using ho
    subst this
    exact h.1
  | o :: r, k, h, i + 1, o', ho => by
    have := obAll_go r (k + 1) h.2 i o' (by simpa using ho)
    rw [show k + (i + 1) = k + 1 + i by omega]
    exact this
theorem ob_all (h : ObAll P l F Ph C T a0 0 l) : ∀ i o, l[i]? = some o → Ob P l F Ph C T a0 i o := fun i o ho => by
  have := obAll_go l 0 h i o ho
  rwa [Nat.zero_add] at this
theorem see_out {o : Oper} {ev : Operand → Value} {w : World} {v : Value} (hs : ∀ t ∈ o.looksAt l.toArray, slotSays l F a0 o t (ev (.tmp t)) w) (t : Nat) (h1 : (o.looksAt l.toArray).contains t = true) (h2 : srcOf l o t = none) (h3 : a0[t]? = some v) : ev (.tmp t) = v := by
  have := hs t (by simpa using h1)
  unfold slotSays at this
  rw [h2] at this
  simp only at this
  rw [this, Array.getD_eq_getD_getElem?, h3]; rfl
theorem see_det {o : Oper} {ev : Operand → Value} {w : World} {v : Value} (hs : ∀ t ∈ o.looksAt l.toArray, slotSays l F a0 o t (ev (.tmp t)) w) (t j : Nat) (h1 : (o.looksAt l.toArray).contains t = true) (h2 : srcOf l o t = some j) (h3 : F.getD j (.det undef) = .det v) : ev (.tmp t) = v := by
  have := hs t (by simpa using h1)
  unfold slotSays at this
  rw [h2] at this
  simp only at this
  rw [h3] at this
  exact this
theorem see_held {o : Oper} {ev : Operand → Value} {w : World} {p : Value → World → Prop} (hs : ∀ t ∈ o.looksAt l.toArray, slotSays l F a0 o t (ev (.tmp t)) w) (t j : Nat) (h1 : (o.looksAt l.toArray).contains t = true) (h2 : srcOf l o t = some j) (h3 : F.getD j (.det undef) = .held p) : p (ev (.tmp t)) w := by
  have := hs t (by simpa using h1)
  unfold slotSays at this
  rw [h2] at this
  simp only at this
  rw [h3] at this
  exact this
theorem see_used {o : Oper} {ev : Operand → Value} {w : World} {p : Value → World → Prop} (hs : ∀ t ∈ o.looksAt l.toArray, slotSays l F a0 o t (ev (.tmp t)) w) (t j : Nat) (h1 : (o.looksAt l.toArray).contains t = true) (h2 : srcOf l o t = some j) (h3 : F.getD j (.det undef) = .used p) : p (ev (.tmp t)) w := by
  have := hs t (by simpa using h1)
  unfold slotSays at this
  rw [h2] at this
  simp only at this
  rw [h3] at this
  exact this
theorem wanted_none {o : Oper} {ev : Operand → Value} (h : o.guard = none) : wantedBy l o ev = true := by unfold wantedBy; rw [h]
theorem wanted_bool {o : Oper} {ev : Operand → Value} {g : Nat} {b q r : Bool} {t : Nat} (h : o.guard = some (g, b)) (hd : (l[g]?).bind (·.dst) = some t) (hv : ev (.tmp t) = .bool q) (hr : (q == b) = r) : wantedBy l o ev = r := by
  unfold wantedBy
  rw [h]
  simp only [hd, hv]
  exact hr
theorem no_start {i : Nat} (hp : Ph.all (fun ph => ph.start != some i) = true) {w : World} {σ : Nat → Value} : ∀ ph ∈ Ph, ph.start = some i → ph.p σ w := fun ph h1 h2 => by
  have := List.all_eq_true.1 hp ph h1
  rw [h2] at this
  simp at this
/-- an operation that yields a value and leaves the world -/
theorem ob_det {i : Nat} {o : Oper} {ev : Operand → Value} {w : World} {v : Value} (hw : wantedBy l o ev = true) (hF : F.getD i (.det undef) = .det v) (hp : Ph.all (fun ph => ph.start != some i) = true) (hC : C w) (hT : T i w w) (h : (execOp ev o).run P w = .ok (.value v) w) :
    if wantedBy l o ev = true then Does P ev o w (fun v w' => C w' ∧ T i w w' ∧ (F.getD i (.det undef)).says v w' ∧ ∀ ph ∈ Ph, ph.start = some i → ph.p (sig ev) w') else T i w w ∧ (F.getD i (.det undef)).says undef w ∧ ∀ ph ∈ Ph, ph.start = some i → ph.p (sig ev) w :=
  ob_yes hw (does_value h ⟨hC, hT, by rw [hF]; rfl, no_start hp⟩)
theorem ob_undef {i : Nat} {o : Oper} {ev : Operand → Value} {w : World} (hw : wantedBy l o ev = false) (hF : F.getD i (.det undef) = .det undef) (hp : Ph.all (fun ph => ph.start != some i) = true) (hT : T i w w) :
    if wantedBy l o ev = true then Does P ev o w (fun v w' => C w' ∧ T i w w' ∧ (F.getD i (.det undef)).says v w' ∧ ∀ ph ∈ Ph, ph.start = some i → ph.p (sig ev) w') else T i w w ∧ (F.getD i (.det undef)).says undef w ∧ ∀ ph ∈ Ph, ph.start = some i → ph.p (sig ev) w :=
  ob_no hw hT (by rw [hF]; rfl) (no_start hp)
def StabF (C : World → Prop) (R : World → World → Prop) : Fact → Prop
  | .det _ => True
  | .held p => ∀ x w w', C w → p x w → R w w' → p x w'
  | .used p => ∀ x w w', C w → p x w → R w w' → p x w'
def StabAll (C : World → Prop) (R : World → World → Prop) : List Fact → Prop
  | [] => True
  | f :: r => StabF C R f ∧ StabAll C R r
theorem StabF.use {R : World → World → Prop} {f : Fact} (h : StabF C R f) {x : Value} {w w' : World} (hC : C w) (hx : f.says x w) (hR : R w w') : f.says x w' := by
  cases f with
  | det v => exact hx
  | held p => exact h x w w' hC hx hR
  | used p => exact h x w w' hC hx hR
theorem stabAll_at {R : World → World → Prop} : ∀ {F : List Fact}, StabAll C R F → ∀ j, StabF C R (F.getD j (.det undef))
  | [], _, j => by simp [StabF]
  | f :: r, h, 0 => h.1
  | f :: r, h, j + 1 => by
    have := stabAll_at h.2 j
    simpa using this
theorem stab_uniform {R : World → World → Prop} (h : StabAll C R F) : ∀ i j x w w', needB l F i j = true → i ≠ j → C w → (F.getD j (.det undef)).says x w → (fun (_ : Nat) => R) i w w' → (F.getD j (.det undef)).says x w' :=
  fun _ j _ _ _ _ _ hC hx hR => (stabAll_at h j).use hC hx hR
def Fact.isDet : Fact → Bool
  | .det _ => true
  | _ => false
/-- what an operation does to the world: some do what is said of them, the others what all do -/
def TSp (sp : List (Nat × (World → World → Prop))) (R : World → World → Prop) (i : Nat) (w w' : World) : Prop := match sp.find? (fun p => p.1 == i) with | some p => p.2 w w' | none => R w w'
theorem TSp.of {sp : List (Nat × (World → World → Prop))} {R : World → World → Prop} {i : Nat} {w w' : World} (hn : sp.find? (fun p => p.1 == i) = none) (h : R w w') : TSp sp R i w w' := by unfold TSp; rw [hn]; exact h
theorem TSp.sp {sp : List (Nat × (World → World → Prop))} {R : World → World → Prop} {i : Nat} {p : Nat × (World → World → Prop)} {w w' : World} (hn : sp.find? (fun p => p.1 == i) = some p) (h : p.2 w w') : TSp sp R i w w' := by unfold TSp; rw [hn]; exact h
def stabChk (l : List Oper) (ds ks : List Bool) (js : List (Nat × Nat)) (apps : List Nat) : Bool :=
  apps.all fun i => (List.range l.length).all fun j => ds.getD j true || j == i || blk l i l.length j ||
    !(ks.getD j true || (List.range l.length).any fun k => (k != i && !blk l k l.length i) && (match l[k]? with | some o => usesB l o j | none => false)) || js.contains (i, j)
def phChk (l : List Oper) (ps : List (Option Nat × Option Nat)) (jp : List (Nat × Nat)) (apps : List Nat) : Bool :=
  apps.all fun i => (List.range ps.length).all fun k => match ps[k]? with
    | some q => q.1 == some i || q.2 == some i || !liveB l i q.1 q.2 || jp.contains (i, k)
    | none => true
theorem map_getD {B : Type} (f : Fact → B) (d : Fact) {db : B} (hd : f d = db) (j : Nat) : (F.map f).getD j db = f (F.getD j d) := by
  rw [List.getD_eq_getElem?_getD, List.getD_eq_getElem?_getD, List.getElem?_map]
  cases F[j]? with
  | none => exact hd.symm
  | some x => rfl
def JsAll (F : List Fact) (C : World → Prop) (sp : List (Nat × (World → World → Prop))) : List (Nat × Nat) → Prop
  | [] => True
  | p :: r => (match sp.find? (fun q => q.1 == p.1) with | some q => StabF C q.2 (F.getD p.2 (.det undef)) | none => False) ∧ JsAll F C sp r
theorem jsAll_at {sp : List (Nat × (World → World → Prop))} : ∀ {js : List (Nat × Nat)}, JsAll F C sp js → ∀ i j, (i, j) ∈ js → (match sp.find? (fun q => q.1 == i) with | some q => StabF C q.2 (F.getD j (.det undef)) | none => False)
  | [], _, _, _, h => by cases h
  | p :: r, h, i, j, hm => by
    rcases List.mem_cons.1 hm with e | e
    · subst e; exact h.1
    · exact jsAll_at h.2 i j e
theorem stab_sp {R : World → World → Prop} (sp : List (Nat × (World → World → Prop))) (ds ks : List Bool) (js : List (Nat × Nat)) (hds : F.map Fact.isDet = ds) (hks : F.map Fact.keeps = ks) (hFl : F.length = l.length) (hchk : stabChk l ds ks js (sp.map (·.1)) = true) (h : StabAll C R F) (hjs : JsAll F C sp js) :
    ∀ i j x w w', needB l F i j = true → i ≠ j → C w → (F.getD j (.det undef)).says x w → TSp sp R i w w' → (F.getD j (.det undef)).says x w' := by
  intro i j x w w' hn hij hC hx hT
  unfold TSp at hT
  cases ha : sp.find? (fun p => p.1 == i) with
  | none => rw [ha] at hT; exact (stabAll_at h j).use hC hx hT
  | some p =>
    rw [ha] at hT
    have hpm := List.mem_of_find?_eq_some ha
    have hpi : p.1 = i := by simpa using List.find?_some ha
    cases hd : (F.getD j (.det undef)).isDet with
    | true =>
      generalize F.getD j (.det undef) = f at *
      cases f with
      | det v => exact hx
      | held p => cases hd
      | used p => cases hd
    | false =>
      have hj : j < l.length := by
        rcases Nat.lt_or_ge j l.length with h | h
        · exact h
        · rw [List.getD_eq_getElem?_getD, List.getElem?_eq_none (by omega)] at hd; cases hd
      have h1 := List.all_eq_true.1 (List.all_eq_true.1 hchk i (List.mem_map.2 ⟨p, hpm, hpi⟩)) j (List.mem_range.2 hj)
      have e1 : ds.getD j true = (F.getD j (.det undef)).isDet := by rw [← hds]; exact map_getD Fact.isDet (.det undef) rfl j
      have e2 : ks.getD j true = (F.getD j (.det undef)).keeps := by rw [← hks]; exact map_getD Fact.keeps (.det undef) rfl j
      rw [e1, e2, hd] at h1
      unfold needB at hn
      rw [Bool.and_eq_true, Bool.not_eq_true'] at hn
      rw [hn.1, hn.2, show (j == i) = false from by simpa using fun e => hij e.symm] at h1
      have hm : (i, j) ∈ js := by simpa using h1
      have h2 := jsAll_at hjs i j hm
      rw [ha] at h2
      exact StabF.use h2 hC hx hT
def JpAll (Ph : List Phase) (C : World → Prop) (sp : List (Nat × (World → World → Prop))) : List (Nat × Nat) → Prop
  | [] => True
  | p :: r => (match sp.find? (fun q => q.1 == p.1), Ph[p.2]? with | some q, some ph => ∀ σ w w', C w → ph.p σ w → q.2 w w' → ph.p σ w' | _, _ => False) ∧ JpAll Ph C sp r
theorem jpAll_at {sp : List (Nat × (World → World → Prop))} : ∀ {jp : List (Nat × Nat)}, JpAll Ph C sp jp → ∀ i k, (i, k) ∈ jp → (match sp.find? (fun q => q.1 == i), Ph[k]? with | some q, some ph => ∀ σ w w', C w → ph.p σ w → q.2 w w' → ph.p σ w' | _, _ => False)
  | [], _, _, _, h => by cases h
  | p :: r, h, i, k, hm => by
    rcases List.mem_cons.1 hm with e | e
    · subst e; exact h.1
    · exact jpAll_at h.2 i k e
theorem phase_sp {R : World → World → Prop} (sp : List (Nat × (World → World → Prop))) (ps : List (Option Nat × Option Nat)) (jp : List (Nat × Nat)) (hps : Ph.map (fun ph => (ph.start, ph.upto)) = ps) (hchk : phChk l ps jp (sp.map (·.1)) = true) (h : ∀ ph ∈ Ph, ∀ σ w w', C w → ph.p σ w → R w w' → ph.p σ w') (hjp : JpAll Ph C sp jp) :
    ∀ i (ph : Phase) σ w w', ph ∈ Ph → ph.start ≠ some i → ph.upto ≠ some i → liveB l i ph.start ph.upto = true → C w → ph.p σ w → TSp sp R i w w' → ph.p σ w' := by
  intro i ph σ w w' hp hs hu hl hC hx hT
  unfold TSp at hT
  cases ha : sp.find? (fun p => p.1 == i) with
  | none => rw [ha] at hT; exact h ph hp σ w w' hC hx hT
  | some p =>
    rw [ha] at hT
    have hpm := List.mem_of_find?_eq_some ha
    have hpi : p.1 = i := by simpa using List.find?_some ha
    obtain ⟨k, hk, hke⟩ := List.getElem_of_mem hp
    have hkp : ps[k]? = some (ph.start, ph.upto) := by
      rw [← hps, List.getElem?_map, List.getElem?_eq_getElem hk, hke]; rfl
    have h1 := List.all_eq_true.1 (List.all_eq_true.1 hchk i (List.mem_map.2 ⟨p, hpm, hpi⟩)) k (List.mem_range.2 (List.getElem?_eq_some_iff.1 hkp).1)
    rw [hkp] at h1
    simp only [Bool.or_eq_true, beq_iff_eq, hl, Bool.not_true] at h1
    rcases h1 with ((h1 | h1) | h1) | h1
    · exact absurd h1 hs
    · exact absurd h1 hu
    · cases h1
    · have h2 := jpAll_at hjp i k (by simpa using h1)
      rw [ha, List.getElem?_eq_getElem hk, hke] at h2
      exact h2 σ w w' hC hx hT
/-- what only makes memory -/
def Grows (w w' : World) : Prop := Below w.heap.size w w'
theorem Grows.refl (w : World) : Grows w w := Below.refl _ _
end
end Go.Proofs.YtjhaccmcjlbllaaGreatDoor
/-
  Walks by facts on slots: what each slot holds is a list; each operation is one step, shown from what it looks at alone.
-/
namespace Go.Proofs.YtjhaccmcjlbllaaGreatDoor
open Go Go.RowKit
abbrev Env := List (Nat × Value)
def look : Env → Nat → Option Value
  | [], _ => none
  | (s, v) :: r, t => bif Nat.beq s t then some v else look r t
/-- the same, as it is reckoned out -/
def lookS : Env → Nat → Option Value
  | [], _ => none
  | (s, v) :: r, t => bif s == t then some v else lookS r t
theorem beq_two (s t : Nat) : (s == t) = Nat.beq s t := by
  rw [Bool.eq_iff_iff, beq_iff_eq]
  exact ⟨fun h => h ▸ Nat.beq_refl s, Nat.eq_of_beq_eq_true⟩
theorem lookS_eq (t : Nat) : ∀ Γ : Env, lookS Γ t = look Γ t
  | [] => rfl
  | (s, v) :: r => by
    unfold lookS look
    rw [lookS_eq t r, beq_two]
theorem look_cons (t : Nat) (v : Value) (s : Nat) (Γ : Env) : look ((t, v) :: Γ) s = bif t == s then some v else look Γ s := by rw [beq_two]; rfl
def keepE : List Nat → Env → Env
  | [], _ => []
  | t :: ks, Γ => match lookS Γ t with | some v => (t, v) :: keepE ks Γ | none => keepE ks Γ
theorem look_keep {t : Nat} {v : Value} {Γ : Env} : ∀ {ks : List Nat}, look (keepE ks Γ) t = some v → look Γ t = some v
  | [], h => by cases h
  | k :: ks, h => by
    unfold keepE at h
    cases hk : lookS Γ k with
    | none => rw [hk] at h; exact look_keep h
    | some u =>
      rw [hk] at h
      rw [look_cons] at h
      by_cases e : k = t
      · subst e
        simp only [beq_self_eq_true, cond_true] at h
        rw [← lookS_eq, hk, h]
      · have h2 : (k == t) = false := by simpa using e
        rw [h2, cond_false] at h
        exact look_keep h
def argsE : Nat → List Value → Env
  | _, [] => []
  | i, v :: r => (i, v) :: argsE (i + 1) r
theorem look_args {t : Nat} {v : Value} : ∀ {i : Nat} {l : List Value}, look (argsE i l) t = some v → i ≤ t ∧ l[t - i]? = some v
  | _, [], h => by cases h
  | i, x :: r, h => by
    unfold argsE at h
    rw [look_cons] at h
    by_cases e : i = t
    · subst e
      simp only [beq_self_eq_true, cond_true] at h
      simpa using h
    · have h2 : (i == t) = false := by simpa using e
      rw [h2, cond_false] at h
      obtain ⟨h3, h4⟩ := look_args h
      refine ⟨by omega, ?_⟩
      rw [show t - i = (t - (i + 1)) + 1 by omega]
      simpa using h4
/-- what a frame holds -/
structure At (n : Nat) (Γ : Env) (a : Act) : Prop where
  size : a.tmps.size = n
  defers : a.defers = []
  env : ∀ t v, look Γ t = some v → a.tmps[t]? = some v
structure EvIn (Γ : Env) (ev : Operand → Value) : Prop where
  ok : EvOk ev
  env : ∀ t v, look Γ t = some v → ev (.tmp t) = v
/-- what an operand is, out of a list -/
def lookD (e : Nat → Value) (t : Nat) : Env → Value
  | [] => e t
  | (s, v) :: r => bif Nat.beq s t then v else lookD e t r
@[go_sem ↓] theorem lookD_hit (e : Nat → Value) (t : Nat) (v : Value) (Γ : Env) : lookD e t ((t, v) :: Γ) = v := by unfold lookD; rw [Nat.beq_refl]; rfl
@[go_sem ↓] theorem lookD_miss (e : Nat → Value) {s t : Nat} (v : Value) (Γ : Env) (h : (s == t) = false) : lookD e t ((s, v) :: Γ) = lookD e t Γ := by
  rw [beq_two] at h
  show (bif Nat.beq s t then v else lookD e t Γ) = _
  rw [h]; rfl
theorem lookD_eq (e : Nat → Value) (t : Nat) : ∀ Γ : Env, (∀ v, look Γ t = some v → e t = v) → lookD e t Γ = e t
  | [], _ => rfl
  | (s, v) :: r, h => by
    unfold lookD
    unfold look at h
    cases hb : Nat.beq s t with
    | true => rw [hb] at h; rw [cond_true]; exact (h v rfl).symm
    | false => rw [hb] at h; rw [cond_false]; exact lookD_eq e t r h
abbrev EvT (Γ : Env) (e : Nat → Value) (ev : Operand → Value) : Prop := (∀ v, ev (.const v) = v) ∧ (∀ g, ev (.global g) = .pointer (some ⟨g, 0, none⟩)) ∧ (∀ f, ev (.func f) = .func (.func f) #[] #[]) ∧ ∀ t, ev (.tmp t) = lookD e t Γ
theorem EvIn.evt {Γ : Env} {ev : Operand → Value} (h : EvIn Γ ev) : EvT Γ (fun t => ev (.tmp t)) ev :=
  ⟨h.ok.const, h.ok.global, h.ok.func, fun t => (lookD_eq (fun t => ev (.tmp t)) t Γ fun v e => h.env t v e).symm⟩
def callOk (fn : Func) : Bool := !(fn.name == "runtime.NumGoroutine") && fn.body.isSome
/-- a call of a function that has a body -/
theorem exec_call {P : Program} {ev : Operand → Value} {o : Oper} {f : FuncId} {fn : Func} {ops : Array Operand} {tys : Array TypeId} {vals : Array Value} {w : World} (hf : P.funcs[f]? = some fn) (hc : callOk fn = true)
    (ho : o.op = .call { callee := .value (.func f), args := ops, argTypes := tys }) (hF : ev (.func f) = .func (.func f) #[] #[]) (hv : ops.map ev = vals) : (execOp ev o).run P w = .ok (.enter f vals) w := by
  unfold callOk at hc
  rw [Bool.and_eq_true, Bool.not_eq_true'] at hc
  have hn : ¬ fn.name = "runtime.NumGoroutine" := by simpa using hc.1
  have hb : ¬ fn.body = none := by
    have := hc.2
    cases h : fn.body with
    | none => rw [h] at this; cases this
    | some c => simp
  unfold execOp
  simp only [ho]
  simp [resolve, Deferred.ofValue, hF, hv, invoke, callFunc, hf, hn, hb]
section
variable {P : Program} {Q Q0 : Exit → Act → World → Prop} {a : Act} {w w' : World} {n : Nat} {Γ Γ' : Env} {l rest : List Oper} {o : Oper} {t : Nat} {v : Value} {ev : Operand → Value} {q b : Bool} {next : Act → World → Prop} {id : Nat}
theorem EvIn.get (h : EvIn Γ ev) (t : Nat) {v : Value} (e : look Γ t = some v) : ev (.tmp t) = v := h.env t v e
theorem EvIn.c (h : EvIn Γ ev) (v : Value) : ev (.const v) = v := h.ok.const v
theorem EvIn.g (h : EvIn Γ ev) (g : Nat) : ev (.global g) = .pointer (some ⟨g, 0, none⟩) := h.ok.global g
theorem EvIn.f (h : EvIn Γ ev) (f : FuncId) : ev (.func f) = .func (.func f) #[] #[] := h.ok.func f
theorem At.evin (h : At n Γ a) : EvIn Γ a.eval := ⟨evOk a, fun t v e => by
  have := h.env t v e
  simp [Act.eval, this]⟩
theorem At.getD (h : At n Γ a) (t : Nat) {v : Value} (e : look Γ t = some v) : a.tmps.getD t undef = v := by
  rw [Array.getD_eq_getD_getElem?, h.env t v e]; rfl
theorem At.put (h : At n Γ a) (ht : t < n) (v : Value) : At n ((t, v) :: Γ) (a.put (some t) v) := by
  refine ⟨by rw [put_size, h.size], by rw [put_def, h.defers], fun s u e => ?_⟩
  rw [look_cons] at e
  by_cases hts : t = s
  · subst hts
    simp only [beq_self_eq_true, cond_true, Option.some.injEq] at e
    subst e
    have : t < a.tmps.size := by rw [h.size]; exact ht
    simp [Act.put, this]
  · have h2 : (t == s) = false := by simpa using hts
    rw [h2, cond_false] at e
    rw [put_other (fun e => hts (Option.some.inj e))]
    exact h.env s u e
theorem At.keep (h : At n Γ a) (ks : List Nat) : At n (keepE ks Γ) a := ⟨h.size, h.defers, fun t v e => h.env t v (look_keep e)⟩
theorem At.to (h : At n Γ a) (e : Γ = Γ') : At n Γ' a := e ▸ h
/-- a call, entered -/
theorem calls_at {f : FuncId} {fn : Func} {c : Code} {args : Array Value} {R : Ending → World → Prop} (n : Nat) (hf : P.funcs[f]? = some fn) (hb : fn.body = some c) (hn : fn.ntmps = n) (ha : args.size ≤ n)
    (h : ∀ a, At n (argsE 0 args.toList) a → c.wp P (bodyPost P fn R) a w) : Calls P f args w R := by
  refine calls_of_wp hf hb (h _ ⟨?_, rfl, fun t v e => ?_⟩)
  · simp [hn]; omega
  · have h2 := (look_args e).2
    rw [Nat.sub_zero, Array.getElem?_toList] at h2
    show (args ++ Array.replicate (fn.ntmps - args.size) undef)[t]? = some v
    have hlt := (Array.getElem?_eq_some_iff.1 h2).1
    rw [Array.getElem?_append_left hlt]
    exact h2
-- the ways on
theorem n_then (h : next a w) : Exit.then next Q .normal a w := h
theorem n_block (h : Q .normal a w) : Exit.inBlock id Q .normal a w := h
theorem x_then {k : Nat} (h : Q (.exit k) a w) : Exit.then next Q (.exit k) a w := h
theorem x_block (h : Q .normal a w) : Exit.inBlock id Q (.exit id) a w := by
  show (if id = id then Q .normal a w else Q (.exit id) a w)
  rw [if_pos rfl]; exact h
theorem x_miss {k : Nat} (hk : k ≠ id) (h : Q (.exit k) a w) : Exit.inBlock id Q (.exit k) a w := by
  show (if k = id then Q .normal a w else Q (.exit k) a w)
  rw [if_neg hk]; exact h
theorem r_then (h : Q .ret a w) : Exit.then next Q .ret a w := h
theorem r_block (h : Q .ret a w) : Exit.inBlock id Q .ret a w := h
theorem wl_nil {ops : Array Oper} (h : Q .normal a w) : wpList P ops Q [] a w := h
/-- a test -/
theorem wp_if {x y : Code} (hA : At n Γ a) (t : Nat) (q : Bool) (hl : look Γ t = some (.bool q)) (ht : q = true → x.wp P Q a w) (hf : q = false → y.wp P Q a w) : (Code.cond (.tmp t) x y).wp P Q a w :=
  wp_cond_split (hA.evin.get t hl) ht hf
/-- what comes behind is shown once -/
theorem wp_seq_cut {x y : Code} (R : Act → World → Prop) (h : x.wp P (Exit.then R Q) a w) (hy : ∀ a w, R a w → y.wp P Q a w) : (Code.seq x y).wp P Q a w :=
  wp_seq (wp_mono h fun e a w q => by cases e <;> first | exact hy _ _ q | exact q)
/-- what comes behind a test is shown once -/
theorem wp_join {x y : Code} (R : Act → World → Prop) (h : x.wp P (Exit.then R Q) a w) (hy : ∀ a w, R a w → y.wp P Q a w) : x.wp P (Exit.then (y.wp P Q) Q) a w :=
  wp_mono h fun e a w q => by cases e <;> first | exact hy _ _ q | exact q
/-- a loop; the number goes down -/
theorem wp_loop_at {c : Code} (I : Nat → Act → World → Prop) (k : Nat) (h0 : I k a w) (round : ∀ k a w, I k a w → c.wp P (Exit.then (fun a' w' => ∃ k', k' < k ∧ I k' a' w') Q) a w) : (Code.loop c).wp P Q a w :=
  wp_loop_ghost I k h0 round
-- operations, in the text's order
theorem wl_op {v : Value} (hA : At n Γ a) (hg : o.guard = none) (hd : o.dst = some t) (ht : t < n) (hrun : ∀ ev, EvIn Γ ev → (execOp ev o).run P w = .ok (.value v) w')
    (hk : ∀ a', At n ((t, v) :: Γ) a' → wpList P l.toArray Q rest a' w') : wpList P l.toArray Q (o :: rest) a w := by
  refine wpList_plain hg fun K hK => ?_
  unfold Oper.wp
  rw [hrun _ hA.evin, Oper.upon_value, hd]
  exact hK _ _ (hk _ (hA.put ht v))
/-- new memory -/
theorem wl_new {v : Value} {x : Obj} (hA : At n Γ a) (hg : o.guard = none) (hd : o.dst = some t) (ht : t < n) (hrun : ∀ ev, EvIn Γ ev → (execOp ev o).run P w = .ok (.value v) (w.alloc x))
    (hk : ∀ w1 a', w1.heap[w.heap.size]? = some x → w1.heap.size = w.heap.size + 1 → Below w.heap.size w w1 → At n ((t, v) :: Γ) a' → wpList P l.toArray Q rest a' w1) : wpList P l.toArray Q (o :: rest) a w :=
  wl_op hA hg hd ht hrun fun a' hA' => hk _ a' (heap_alloc_new w x) (by simp) ((Below.refl _ _).alloc (Nat.le_refl _) x) hA'
/-- cells, one behind the other, are set -/
def setAll (w : World) (g : Nat) : Nat → List Value → World
  | _, [] => w
  | i, c :: r => setAll (w.setCell ⟨g, i, none⟩ c) g (i + 1) r
theorem blk_setAll {g : Nat} {T : TypeId} : ∀ (cs : List Value) (i : Nat) (w : World) (z : List Value), Blk w g T z.toArray → i + cs.length = z.length → Blk (setAll w g i cs) g T (z.take i ++ cs).toArray
  | [], i, w, z, h, hl => by
    have e : z.take i = z := List.take_of_length_le (by simp at hl; omega)
    rw [e, List.append_nil]
    exact h
  | c :: r, i, w, z, h, hl => by
    rw [List.length_cons] at hl
    have h2 := h.set_ i c
    rw [List.setIfInBounds_toArray] at h2
    have h3 := blk_setAll r (i + 1) _ _ h2 (by rw [List.length_set]; omega)
    have e : (z.set i c).take (i + 1) ++ r = z.take i ++ c :: r := by
      have hi : i < (z.set i c).length := by rw [List.length_set]; omega
      rw [List.take_succ_eq_append_getElem hi, List.getElem_set_self, List.take_set_of_le (Nat.le_refl i), List.append_assoc]
      rfl
    rw [e] at h3
    exact h3
theorem below_setAll {B g : Nat} {W : World} (hg : B ≤ g) : ∀ (cs : List Value) (i : Nat) (w : World), Below B W w → Below B W (setAll w g i cs)
  | [], _, _, h => h
  | c :: r, i, w, h => below_setAll hg r (i + 1) _ (Below.setCell h (by exact hg) c)
theorem size_setAll {g : Nat} : ∀ (cs : List Value) (i : Nat) (w : World), (setAll w g i cs).heap.size = w.heap.size
  | [], _, _ => rfl
  | c :: r, i, w => by
    show (setAll _ g (i + 1) r).heap.size = _
    rw [size_setAll r]
    simp
/-- a variable of its own, made and set -/
theorem wl_local {o2 : Oper} {T : TypeId} {z : List Value} (cs : List Value) (hA : At n Γ a) (hg : o.guard = none) (hd : o.dst = some t) (ht : t < n) (hrun : ∀ ev, EvIn Γ ev → (execOp ev o).run P w = .ok (.value (.pointer (some ⟨w.heap.size, 0, none⟩))) (w.alloc (.cells z.toArray T)))
    (hg2 : o2.guard = none) (hd2 : o2.dst = none) (hz : cs.length = z.length) (hrun2 : ∀ w1 g ev, Blk w1 g T z.toArray → EvIn ((t, .pointer (some ⟨g, 0, none⟩)) :: Γ) ev → (execOp ev o2).run P w1 = .ok .skip (setAll w1 g 0 cs))
    (hk : ∀ w1 a', Blk w1 w.heap.size T cs.toArray → w1.heap.size = w.heap.size + 1 → Below w.heap.size w w1 → At n ((t, .pointer (some ⟨w.heap.size, 0, none⟩)) :: Γ) a' → wpList P l.toArray Q rest a' w1) : wpList P l.toArray Q (o :: o2 :: rest) a w := by
  refine wl_op hA hg hd ht hrun fun a' hA' => ?_
  have hb : Blk (w.alloc (.cells z.toArray T)) w.heap.size T z.toArray := heap_alloc_new w _
  refine wpList_plain hg2 fun K hK => ?_
  unfold Oper.wp
  rw [hrun2 _ w.heap.size _ hb hA'.evin, Oper.upon_skip, hd2]
  refine hK _ _ (hk _ a' ?_ ?_ ?_ hA')
  · have := blk_setAll cs 0 _ _ hb (by omega)
    simpa using this
  · rw [size_setAll]; simp
  · exact below_setAll (Nat.le_refl _) cs 0 _ ((Below.refl _ _).alloc (Nat.le_refl _) _)
/-- only one block has turned -/
structure Only (g : Nat) (w w' : World) : Prop where
  os : w'.os = w.os
  tape : w'.tape = w.tape
  output : w'.output = w.output
  size : w'.heap.size = w.heap.size
  block : ∀ i, i ≠ g → w'.heap[i]? = w.heap[i]?
theorem Only.refl (g : Nat) (w : World) : Only g w w := ⟨rfl, rfl, rfl, rfl, fun _ _ => rfl⟩
theorem Only.trans {g : Nat} {w w' w'' : World} (h : Only g w w') (k : Only g w' w'') : Only g w w'' := ⟨k.os.trans h.os, k.tape.trans h.tape, k.output.trans h.output, k.size.trans h.size, fun i hi => (k.block i hi).trans (h.block i hi)⟩
theorem Only.set {g i : Nat} {w : World} {u : Value} : Only g w (w.setCell ⟨g, i, none⟩ u) := ⟨rfl, rfl, rfl, by simp, fun j hj => Below.heap_setCell _ _ _ _ hj⟩
theorem Only.setAll {g : Nat} : ∀ (cs : List Value) (i : Nat) (w : World), Only g w (setAll w g i cs)
  | [], _, w => Only.refl g w
  | _ :: r, i, _ => Only.set.trans (Only.setAll r (i + 1) _)
theorem Only.below {g B : Nat} {W w w' : World} (h : Only g w w') (hb : Below B W w) (hg : B ≤ g) : Below B W w' :=
  ⟨h.os.trans hb.os, h.tape.trans hb.tape, h.output.trans hb.output, by rw [h.size]; exact hb.size, fun i hi => (h.block i (by omega)).trans (hb.block i hi)⟩
theorem Only.blk {g k : Nat} {T : TypeId} {cs : Array Value} {w w' : World} (h : Only g w w') (hb : Blk w k T cs) (hk : k ≠ g) : Blk w' k T cs := (h.block k hk).trans hb
/-- a whole variable is set -/
theorem wl_set {g : Nat} {T : TypeId} {z : List Value} (cs : List Value) (hA : At n Γ a) (hg : o.guard = none) (hd : o.dst = none) (hK : Blk w g T z.toArray) (hz : cs.length = z.length) (hrun : ∀ ev, EvIn Γ ev → (execOp ev o).run P w = .ok .skip (setAll w g 0 cs))
    (hk : ∀ w1, Blk w1 g T cs.toArray → Only g w w1 → wpList P l.toArray Q rest a w1) : wpList P l.toArray Q (o :: rest) a w := by
  refine wpList_plain hg fun K hK' => ?_
  unfold Oper.wp
  rw [hrun _ hA.evin, Oper.upon_skip, hd]
  refine hK' _ _ (hk _ ?_ (Only.setAll cs 0 w))
  have := blk_setAll cs 0 _ _ hK (by omega)
  simpa using this
theorem wl_skip (hA : At n Γ a) (hg : o.guard = none) (hd : o.dst = none) (hrun : ∀ ev, EvIn Γ ev → (execOp ev o).run P w = .ok .skip w')
    (hk : wpList P l.toArray Q rest a w') : wpList P l.toArray Q (o :: rest) a w := by
  refine wpList_plain hg fun K hK => ?_
  unfold Oper.wp
  rw [hrun _ hA.evin, Oper.upon_skip, hd]
  exact hK _ _ hk
theorem wl_call {f : FuncId} {args : Array Value} {R : Ending → World → Prop} (hA : At n Γ a) (hg : o.guard = none) (hd : o.dst = some t) (ht : t < n) (hrun : ∀ ev, EvIn Γ ev → (execOp ev o).run P w = .ok (.enter f args) w)
    (hc : Calls P f args w R) (hk : ∀ e w', R e w' → ∃ v, e = .returned v ∧ ∀ a', At n ((t, v) :: Γ) a' → wpList P l.toArray Q rest a' w') : wpList P l.toArray Q (o :: rest) a w := by
  refine wpList_plain hg fun K hK => ?_
  unfold Oper.wp
  rw [hrun _ hA.evin, Oper.upon_enter]
  refine Calls.mono hc fun e w' hR => ?_
  obtain ⟨v, rfl, h⟩ := hk e w' hR
  rw [hd]
  exact hK _ _ (h _ (hA.put ht v))
/-- a call whose answer goes nowhere -/
theorem wl_call0 {f : FuncId} {args : Array Value} {R : Ending → World → Prop} (hA : At n Γ a) (hg : o.guard = none) (hd : o.dst = none) (hrun : ∀ ev, EvIn Γ ev → (execOp ev o).run P w = .ok (.enter f args) w)
    (hc : Calls P f args w R) (hk : ∀ e w', R e w' → ∃ v, e = .returned v ∧ wpList P l.toArray Q rest a w') : wpList P l.toArray Q (o :: rest) a w := by
  refine wpList_plain hg fun K hK => ?_
  unfold Oper.wp
  rw [hrun _ hA.evin, Oper.upon_enter]
  refine Calls.mono hc fun e w' hR => ?_
  obtain ⟨v, rfl, h⟩ := hk e w' hR
  rw [hd]
  exact hK _ _ h
/-- what a guarded operation leaves -/
def gw (c : Bool) (v : Value) : Value := bif c then v else undef
abbrev gv (q b : Bool) (v : Value) : Value := gw (q == b) v
theorem gw_t {c : Bool} {v : Value} (h : c = true) : gw c v = v := by rw [h]; rfl
theorem gw_a {c d : Bool} {v : Value} (h : c = true) : gw (c && d) v = gw d v := by rw [h]; rfl
theorem beq_t {q b : Bool} (h : q = b) : (q == b) = true := by rw [h]; cases b <;> rfl
theorem and_beq {c r b : Bool} (h : c = true) (k : r = b) : (c && (r == b)) = true := by rw [h, k]; cases b <;> rfl
theorem and_l {c d : Bool} (h : (c && d) = true) : c = true := (Bool.and_eq_true _ _ ▸ h : c = true ∧ d = true).1
theorem gv_same (b : Bool) (v : Value) : gv b b v = v := by cases b <;> rfl
theorem gv_tt (v : Value) : gw (true == true) v = v := rfl
theorem gv_ff (v : Value) : gw (false == false) v = v := rfl
theorem gv_or (q r : Bool) : (if q = true then Value.bool true else gw (q == false) (.bool r)) = .bool (q || r) := by cases q <;> rfl
theorem gv_and (q r : Bool) : (if q = true then gw (q == true) (.bool r) else Value.bool false) = .bool (q && r) := by cases q <;> rfl
theorem pick_and {c x y : Operand} {r : Bool} (ho : o.op = .pick c x y) (hc : ev c = .bool q) (hx : ev x = gv q true (.bool r)) (hy : ev y = .bool false) : (execOp ev o).run P w = .ok (.value (.bool (q && r))) w := by
  unfold execOp
  rw [ho]
  cases q <;> simp [go_sem, hc, hx, hy, gw]
theorem pick_or {c x y : Operand} {r : Bool} (ho : o.op = .pick c x y) (hc : ev c = .bool q) (hx : ev x = .bool true) (hy : ev y = gv q false (.bool r)) : (execOp ev o).run P w = .ok (.value (.bool (q || r))) w := by
  unfold execOp
  rw [ho]
  cases q <;> simp [go_sem, hc, hx, hy, gw]
theorem wl_guard {gi gt : Nat} {v : Value} (q : Bool) (hA : At n Γ a) (hg : o.guard = some (gi, b)) (hgd : (l[gi]?).bind (·.dst) = some gt) (hl : look Γ gt = some (.bool q)) (hd : o.dst = some t) (ht : t < n)
    (hrun : q = b → ∀ ev, EvIn Γ ev → (execOp ev o).run P w = .ok (.value v) w) (hk : ∀ a', At n ((t, gv q b v) :: Γ) a' → wpList P l.toArray Q rest a' w) : wpList P l.toArray Q (o :: rest) a w := by
  have hw : Region.wanted o (yielded l.toArray a.tmps) = (q == b) := by
    rw [wanted_eq]
    exact wanted_bool hg hgd (hA.evin.get gt hl) rfl
  refine wpList_step fun K hK => ?_
  rw [hw]
  cases hqb : q == b with
  | true =>
    rw [if_pos rfl]
    unfold Oper.wp
    rw [hrun (by simpa using hqb) _ hA.evin, Oper.upon_value, hd]
    have := hk _ (hA.put ht (gv q b v))
    unfold gv gw at this
    rw [hqb] at this
    exact hK _ _ this
  | false =>
    rw [if_neg (by simp), hd]
    have := hk _ (hA.put ht (gv q b v))
    unfold gv gw at this
    rw [hqb] at this
    exact hK _ _ this
/-- a guard that is guarded itself -/
theorem wl_guard2 {gi gt : Nat} {v : Value} (c r : Bool) (hA : At n Γ a) (hg : o.guard = some (gi, b)) (hgd : (l[gi]?).bind (·.dst) = some gt) (hl : look Γ gt = some (gw c (.bool r))) (hd : o.dst = some t) (ht : t < n)
    (hrun : c = true → r = b → ∀ ev, EvIn Γ ev → (execOp ev o).run P w = .ok (.value v) w) (hk : ∀ a', At n ((t, gw (c && (r == b)) v) :: Γ) a' → wpList P l.toArray Q rest a' w) : wpList P l.toArray Q (o :: rest) a w := by
  have hev := hA.evin.get gt hl
  have hw : Region.wanted o (yielded l.toArray a.tmps) = (c && (r == b)) := by
    rw [wanted_eq]
    unfold wantedBy
    rw [hg]
    simp only [hgd, hev]
    unfold gw
    cases c <;> rfl
  refine wpList_step fun K hK => ?_
  rw [hw]
  have h3 := hk _ (hA.put ht (gw (c && (r == b)) v))
  unfold gw at h3
  cases hcb : c && (r == b) with
  | true =>
    rw [hcb] at h3
    rw [if_pos rfl]
    rw [Bool.and_eq_true, beq_iff_eq] at hcb
    unfold Oper.wp
    rw [hrun hcb.1 hcb.2 _ hA.evin, Oper.upon_value, hd]
    exact hK _ _ h3
  | false =>
    rw [hcb] at h3
    rw [if_neg (by simp), hd]
    exact hK _ _ h3
/-- a guarded call -/
theorem wl_gcall {gi gt : Nat} {f : FuncId} {args : Array Value} {R : Ending → World → Prop} (q : Bool) (hA : At n Γ a) (hg : o.guard = some (gi, b)) (hgd : (l[gi]?).bind (·.dst) = some gt) (hl : look Γ gt = some (.bool q)) (hd : o.dst = some t) (ht : t < n)
    (hrun : q = b → ∀ ev, EvIn Γ ev → (execOp ev o).run P w = .ok (.enter f args) w) (hc : q = b → Calls P f args w R) (K : Value → World → Prop)
    (hR : q = b → ∀ e w', R e w' → ∃ v, e = .returned v ∧ K v w') (hn : q ≠ b → K undef w) (hk : ∀ v a' w', K v w' → At n ((t, gv q b v) :: Γ) a' → wpList P l.toArray Q rest a' w') : wpList P l.toArray Q (o :: rest) a w := by
  have hw : Region.wanted o (yielded l.toArray a.tmps) = (q == b) := by
    rw [wanted_eq]
    exact wanted_bool hg hgd (hA.evin.get gt hl) rfl
  refine wpList_step fun K' hK => ?_
  rw [hw]
  cases hqb : q == b with
  | true =>
    have e : q = b := by simpa using hqb
    rw [if_pos rfl]
    unfold Oper.wp
    rw [hrun e _ hA.evin, Oper.upon_enter]
    refine Calls.mono (hc e) fun e' w' hR' => ?_
    obtain ⟨v, rfl, h⟩ := hR e e' w' hR'
    rw [hd]
    have := hk v _ w' h (hA.put ht (gv q b v))
    unfold gv gw at this
    rw [hqb] at this
    exact hK _ _ this
  | false =>
    rw [if_neg (by simp), hd]
    have := hk undef _ w (hn (by simpa using hqb)) (hA.put ht (gv q b undef))
    unfold gv gw at this
    rw [hqb] at this
    exact hK _ _ this
/-- a guarded call that answers with a value and makes memory alone -/
theorem wl_gcallv {gi gt : Nat} {f : FuncId} {args : Array Value} {v : Value} (q : Bool) (hA : At n Γ a) (hg : o.guard = some (gi, b)) (hgd : (l[gi]?).bind (·.dst) = some gt) (hl : look Γ gt = some (.bool q)) (hd : o.dst = some t) (ht : t < n)
    (hrun : q = b → ∀ ev, EvIn Γ ev → (execOp ev o).run P w = .ok (.enter f args) w) (hc : q = b → Calls P f args w fun e w' => e = .returned v ∧ Below w.heap.size w w')
    (hk : ∀ a' w', Below w.heap.size w w' → At n ((t, gv q b v) :: Γ) a' → wpList P l.toArray Q rest a' w') : wpList P l.toArray Q (o :: rest) a w := by
  have hw : Region.wanted o (yielded l.toArray a.tmps) = (q == b) := by
    rw [wanted_eq]
    exact wanted_bool hg hgd (hA.evin.get gt hl) rfl
  refine wpList_step fun K' hK => ?_
  rw [hw]
  cases hqb : q == b with
  | true =>
    have e : q = b := by simpa using hqb
    rw [if_pos rfl]
    unfold Oper.wp
    rw [hrun e _ hA.evin, Oper.upon_enter]
    refine Calls.mono (hc e) fun e' w' ⟨he, hb⟩ => ?_
    subst he
    rw [hd]
    have := hk _ w' hb (hA.put ht (gv q b v))
    unfold gv gw at this
    rw [hqb] at this
    exact hK _ _ this
  | false =>
    rw [if_neg (by simp), hd]
    have := hk _ w (Below.refl _ _) (hA.put ht (gv q b v))
    unfold gv gw at this
    rw [hqb] at this
    exact hK _ _ this
theorem wl_gcallv2 {gi gt : Nat} {f : FuncId} {args : Array Value} {v : Value} (c r : Bool) (hA : At n Γ a) (hg : o.guard = some (gi, b)) (hgd : (l[gi]?).bind (·.dst) = some gt) (hl : look Γ gt = some (gw c (.bool r))) (hd : o.dst = some t) (ht : t < n)
    (hrun : c = true → r = b → ∀ ev, EvIn Γ ev → (execOp ev o).run P w = .ok (.enter f args) w) (hc : c = true → r = b → Calls P f args w fun e w' => e = .returned v ∧ Below w.heap.size w w')
    (hk : ∀ a' w', Below w.heap.size w w' → At n ((t, gw (c && (r == b)) v) :: Γ) a' → wpList P l.toArray Q rest a' w') : wpList P l.toArray Q (o :: rest) a w := by
  have hev := hA.evin.get gt hl
  have hw : Region.wanted o (yielded l.toArray a.tmps) = (c && (r == b)) := by
    rw [wanted_eq]
    unfold wantedBy
    rw [hg]
    simp only [hgd, hev]
    unfold gw
    cases c <;> rfl
  refine wpList_step fun K' hK => ?_
  rw [hw]
  cases hqb : c && (r == b) with
  | true =>
    have e := hqb
    rw [Bool.and_eq_true, beq_iff_eq] at e
    rw [if_pos rfl]
    unfold Oper.wp
    rw [hrun e.1 e.2 _ hA.evin, Oper.upon_enter]
    refine Calls.mono (hc e.1 e.2) fun e' w' ⟨he, hb⟩ => ?_
    subst he
    rw [hd]
    have := hk _ w' hb (hA.put ht (gw (c && (r == b)) v))
    unfold gw at this
    rw [hqb] at this
    exact hK _ _ this
  | false =>
    rw [if_neg (by simp), hd]
    have := hk _ w (Below.refl _ _) (hA.put ht (gw (c && (r == b)) v))
    unfold gw at this
    rw [hqb] at this
    exact hK _ _ this
-- what is left behind a region whose order is open
def FinE (σ : Nat → Value) (K : Env → Prop) (w : World) : List (Oper × Fact) → Env → Prop
  | [], Γ => K Γ
  | (⟨some t, _, _, _, _, _⟩, .det v) :: r, Γ => FinE σ K w r ((t, v) :: Γ)
  | (⟨some t, _, _, _, _, _⟩, .held p) :: r, Γ => ∀ x, x = σ t → p x w → FinE σ K w r ((t, x) :: Γ)
  | (⟨some t, _, _, _, _, _⟩, .used _) :: r, Γ => ∀ x, x = σ t → FinE σ K w r ((t, x) :: Γ)
  | (⟨none, _, _, _, _, _⟩, _) :: r, Γ => FinE σ K w r Γ
theorem fin_env {σ : Nat → Value} {w : World} {ds : List Deferred} (hds : ds = []) : ∀ (m : List (Oper × Fact)) (arr : Array Value) (Γ : Env), (∀ p ∈ m, ∀ t, p.1.dst = some t → t < n) → At n Γ ⟨arr, ds⟩ → FinE σ (fun Γ => ∀ a', At n Γ a' → Q .normal a' w) w m Γ → FinK σ (fun arr => Q .normal ⟨arr, ds⟩ w) w m arr
  | [], arr, Γ, _, hA, h => h _ hA
  | (⟨d, _, _, _, _, _⟩, f) :: r, arr, Γ, hm, hA, h => by
    have hr := fun p hp => hm p (List.mem_cons_of_mem _ hp)
    cases d with
    | none => exact fin_env hds r arr Γ hr hA h
    | some t =>
      have ht : t < n := hm _ List.mem_cons_self t rfl
      cases f with
      | det v => exact fin_env hds r _ _ hr (hA.put ht v) h
      | held p => exact fun x he hx => fin_env hds r _ _ hr (hA.put ht x) (h x he hx)
      | used p => exact fun x he => fin_env hds r _ _ hr (hA.put ht x) (h x he)
def dstsB (l : List Oper) (n : Nat) : Bool := l.all fun o => match o.dst with | some t => decide (t < n) | none => true
theorem wp_any_at {id : Nat} {d : Bool} (hA : At n Γ a) (F : List Fact) (Ph : List Phase) (C : World → Prop) (T : Nat → World → World → Prop) (hm : P.follows .mixedOrders = true) (hdr : d = true) (hB : checkB l n = true) (hdB : dstsB l n = true) (hFl : F.length = l.length) (hC : C { w with drawn := w.drawn + 1 })
    (hstab : ∀ i j x w w', needB l F i j = true → i ≠ j → C w → (F.getD j (.det undef)).says x w → T i w w' → (F.getD j (.det undef)).says x w')
    (hph0 : ∀ ph ∈ Ph, ph.start = none → ph.p (sig a.eval) { w with drawn := w.drawn + 1 })
    (hph : ∀ i (ph : Phase) σ w w', ph ∈ Ph → ph.start ≠ some i → ph.upto ≠ some i → liveB l i ph.start ph.upto = true → C w → ph.p σ w → T i w w' → ph.p σ w')
    (hpl : ∀ ph ∈ Ph, ∀ a, ph.start = some a → a < l.length)
    (hob : ObAll P l F Ph C T a.tmps 0 l)
    (hlk : lkB l (Ph.map fun ph => (ph.start, ph.looks)) = true)
    (hfin : ∀ σ w', C w' → (∀ ph ∈ Ph, ph.upto = none → ph.p σ w') → FinE σ (fun Γ => ∀ a', At n Γ a' → Q .normal a' w') w' (l.zip F) Γ) : (Code.region id l.toArray d).wp P Q a w := by
  subst hdr
  refine wp_region_facts n F Ph C T hm hA.size hB hFl hC hstab hph0 hph hpl (ob_all hob) hlk fun σ w' hC' hp' => ?_
  refine fin_env hA.defers _ _ Γ (fun p hp t ht => ?_) hA (hfin σ w' hC' hp')
  have hpl := (List.of_mem_zip (a := p.1) (b := p.2) hp).1
  unfold dstsB at hdB
  have := List.all_eq_true.1 hdB p.1 hpl
  rw [ht] at this
  simpa using this
theorem see_env {F : List Fact} {o : Oper} {ev : Operand → Value} {w : World} {v : Value} (hA : At n Γ a) (hs : ∀ t ∈ o.looksAt l.toArray, slotSays l F a.tmps o t (ev (.tmp t)) w) (t : Nat) (h1 : (o.looksAt l.toArray).contains t = true) (h2 : srcOf l o t = none) (h3 : look Γ t = some v) : ev (.tmp t) = v :=
  see_out hs t h1 h2 (hA.env t v h3)
theorem ob_gv {F : List Fact} {Ph : List Phase} {C : World → Prop} {T : Nat → World → World → Prop} {i gi gt : Nat} {o : Oper} {ev : Operand → Value} {w : World} {v u : Value} {b : Bool} (q : Bool) (hg : o.guard = some (gi, b)) (hgd : (l[gi]?).bind (·.dst) = some gt) (hv : ev (.tmp gt) = .bool q) (hF : F.getD i (.det undef) = .det u) (hp : Ph.all (fun ph => ph.start != some i) = true) (hC : C w) (hT : T i w w) (h : q = b → (execOp ev o).run P w = .ok (.value v) w) (hu : u = gv q b v) :
    if wantedBy l o ev = true then Does P ev o w (fun v w' => C w' ∧ T i w w' ∧ (F.getD i (.det undef)).says v w' ∧ ∀ ph ∈ Ph, ph.start = some i → ph.p (sig ev) w') else T i w w ∧ (F.getD i (.det undef)).says undef w ∧ ∀ ph ∈ Ph, ph.start = some i → ph.p (sig ev) w := by
  subst hu
  have hw := wanted_bool (l := l) (r := (q == b)) hg hgd hv rfl
  cases hqb : q == b with
  | true =>
    rw [hqb] at hw
    refine ob_yes hw (does_value (h (by simpa using hqb)) ⟨hC, hT, ?_, no_start hp⟩)
    rw [hF]; unfold gv gw; rw [hqb]; rfl
  | false =>
    rw [hqb] at hw
    refine ob_no hw hT ?_ (no_start hp)
    rw [hF]; unfold gv gw; rw [hqb]; rfl
theorem ob_gw {F : List Fact} {Ph : List Phase} {C : World → Prop} {T : Nat → World → World → Prop} {i gi gt : Nat} {o : Oper} {ev : Operand → Value} {w : World} {v u : Value} {b : Bool} (c r : Bool) (hg : o.guard = some (gi, b)) (hgd : (l[gi]?).bind (·.dst) = some gt) (hv : ev (.tmp gt) = gw c (.bool r)) (hF : F.getD i (.det undef) = .det u) (hp : Ph.all (fun ph => ph.start != some i) = true) (hC : C w) (hT : T i w w) (h : c = true → r = b → (execOp ev o).run P w = .ok (.value v) w) (hu : u = gw (c && (r == b)) v) :
    if wantedBy l o ev = true then Does P ev o w (fun v w' => C w' ∧ T i w w' ∧ (F.getD i (.det undef)).says v w' ∧ ∀ ph ∈ Ph, ph.start = some i → ph.p (sig ev) w') else T i w w ∧ (F.getD i (.det undef)).says undef w ∧ ∀ ph ∈ Ph, ph.start = some i → ph.p (sig ev) w := by
  subst hu
  have hw : wantedBy l o ev = (c && (r == b)) := by
    unfold wantedBy
    rw [hg]
    simp only [hgd, hv]
    unfold gw
    cases c <;> rfl
  cases hqb : c && (r == b) with
  | true =>
    rw [hqb] at hw
    rw [Bool.and_eq_true, beq_iff_eq] at hqb
    refine ob_yes hw (does_value (h hqb.1 hqb.2) ⟨hC, hT, ?_, no_start hp⟩)
    rw [hF]; unfold gw; rw [hqb.1, hqb.2]; cases b <;> rfl
  | false =>
    rw [hqb] at hw
    refine ob_no hw hT ?_ (no_start hp)
    rw [hF]; unfold gw; rw [hqb]; rfl
/-- a guarded call, in a region whose order is open, that answers with a value and makes memory alone -/
theorem ob_gcall {F : List Fact} {Ph : List Phase} {C : World → Prop} {T : Nat → World → World → Prop} {i gi gt : Nat} {f : FuncId} {args : Array Value} {o : Oper} {ev : Operand → Value} {w : World} {v u : Value} {b : Bool} (q : Bool) (hg : o.guard = some (gi, b)) (hgd : (l[gi]?).bind (·.dst) = some gt) (hv : ev (.tmp gt) = .bool q) (hF : F.getD i (.det undef) = .det u) (hp : Ph.all (fun ph => ph.start != some i) = true) (hu : u = gv q b v)
    (h : q = b → (execOp ev o).run P w = .ok (.enter f args) w) (hc : q = b → Calls P f args w fun e w' => e = .returned v ∧ Below w.heap.size w w') (hk : ∀ w', Below w.heap.size w w' → C w' ∧ T i w w') :
    if wantedBy l o ev = true then Does P ev o w (fun v w' => C w' ∧ T i w w' ∧ (F.getD i (.det undef)).says v w' ∧ ∀ ph ∈ Ph, ph.start = some i → ph.p (sig ev) w') else T i w w ∧ (F.getD i (.det undef)).says undef w ∧ ∀ ph ∈ Ph, ph.start = some i → ph.p (sig ev) w := by
  subst hu
  have hw := wanted_bool (l := l) (r := (q == b)) hg hgd hv rfl
  cases hqb : q == b with
  | true =>
    rw [hqb] at hw
    have e : q = b := by simpa using hqb
    refine ob_yes hw (does_enter (h e) (Calls.mono (hc e) fun e' w' ⟨he, hb⟩ => ⟨_, he, (hk w' hb).1, (hk w' hb).2, ?_, no_start hp⟩))
    rw [hF]; unfold gv gw; rw [hqb]; rfl
  | false =>
    rw [hqb] at hw
    refine ob_no hw (hk w (Below.refl _ _)).2 ?_ (no_start hp)
    rw [hF]; unfold gv gw; rw [hqb]; rfl
/-- a call, in a region whose order is open, that answers with a value and makes memory alone -/
theorem ob_dcall {F : List Fact} {Ph : List Phase} {C : World → Prop} {T : Nat → World → World → Prop} {i : Nat} {f : FuncId} {args : Array Value} {o : Oper} {ev : Operand → Value} {w : World} {u v : Value} (hw : wantedBy l o ev = true) (hF : F.getD i (.det undef) = .det u) (hp : Ph.all (fun ph => ph.start != some i) = true)
    (hc : Calls P f args w fun e w' => e = .returned v ∧ Below w.heap.size w w') (h : (execOp ev o).run P w = .ok (.enter f args) w) (hu : u = v) (hk : ∀ w', Below w.heap.size w w' → C w' ∧ T i w w') :
    if wantedBy l o ev = true then Does P ev o w (fun v w' => C w' ∧ T i w w' ∧ (F.getD i (.det undef)).says v w' ∧ ∀ ph ∈ Ph, ph.start = some i → ph.p (sig ev) w') else T i w w ∧ (F.getD i (.det undef)).says undef w ∧ ∀ ph ∈ Ph, ph.start = some i → ph.p (sig ev) w :=
  ob_yes hw (does_enter h (Calls.mono hc fun _ w' ⟨he, hb⟩ => ⟨_, he, (hk w' hb).1, (hk w' hb).2, by rw [hF, hu]; rfl, no_start hp⟩))
theorem no_1 {i : Nat} (h : (none : Option Nat) = some i) : False := by cases h
theorem no_2 {i j : Nat} (hne : Nat.beq i j = false) (h : some i = some j) : False := by
  injection h with h
  subst h
  rw [Nat.beq_refl] at hne
  cases hne
theorem At.keepN (h : At n Γ a) (ks : List Nat) (e : keepE ks Γ = Γ' := by simp only [argsE, keepE, lookS, Nat.reduceBEq, cond_true, cond_false, Nat.reduceAdd, gv_tt, gv_ff, Bool.true_and, Bool.false_and, Bool.true_or, Bool.false_or] <;> rfl) : At n Γ' a := e ▸ h.keep ks
theorem At.norm (h : At n Γ a) (e : Γ = Γ' := by simp only [argsE, keepE, lookS, Nat.reduceBEq, cond_true, cond_false, Nat.reduceAdd, gv_tt, gv_ff, Bool.true_and, Bool.false_and, Bool.true_or, Bool.false_or] <;> rfl) : At n Γ' a := e ▸ h
theorem nT (h : next a w) : Exit.then next Q .normal a w := h
theorem nB (h : Q .normal a w) : Exit.inBlock id Q .normal a w := h
theorem xT {k : Nat} (h : Q (.exit k) a w) : Exit.then next Q (.exit k) a w := h
theorem xB (h : Q .normal a w) : Exit.inBlock id Q (.exit id) a w := x_block h
theorem rT (h : Q .ret a w) : Exit.then next Q .ret a w := h
theorem rB (h : Q .ret a w) : Exit.inBlock id Q .ret a w := h
theorem wN {ops : Array Oper} (h : Q .normal a w) : wpList P ops Q [] a w := h
theorem wS {x y : Code} (h : x.wp P (Exit.then (y.wp P Q) Q) a w) : (Code.seq x y).wp P Q a w := wp_seq h
theorem wB {c : Code} (h : c.wp P (Exit.inBlock id Q) a w) : (Code.block id c).wp P Q a w := wp_block h
theorem wR {ops : List Oper} (h : wpList P ops.toArray Q ops a w) : (Code.region id ops.toArray false).wp P Q a w := wp_region_lit h
/-- an operation, in a run of such -/
theorem wo {v : Value} (hg : o.guard = none) (hd : o.dst = some t) (ht : t < n) (hrun : ∀ ev e, EvT Γ e ev → (execOp ev o).run P w = .ok (.value v) w)
    (hk : ∀ a', At n ((t, v) :: Γ) a' → wpList P l.toArray Q rest a' w) : ∀ a, At n Γ a → wpList P l.toArray Q (o :: rest) a w :=
  fun _ hA => wl_op hA hg hd ht (fun ev h => hrun ev _ h.evt) hk
theorem wg {gi gt : Nat} {v : Value} (q : Bool) (hg : o.guard = some (gi, b)) (hgd : (l[gi]?).bind (·.dst) = some gt) (hl : look Γ gt = some (.bool q)) (hd : o.dst = some t) (ht : t < n)
    (hrun : q = b → ∀ ev e, EvT Γ e ev → (execOp ev o).run P w = .ok (.value v) w) (hk : ∀ a', At n ((t, gv q b v) :: Γ) a' → wpList P l.toArray Q rest a' w) : ∀ a, At n Γ a → wpList P l.toArray Q (o :: rest) a w :=
  fun _ hA => wl_guard q hA hg hgd hl hd ht (fun hq ev h => hrun hq ev _ h.evt) hk
theorem wg2 {gi gt : Nat} {v : Value} (c r : Bool) (hg : o.guard = some (gi, b)) (hgd : (l[gi]?).bind (·.dst) = some gt) (hl : look Γ gt = some (gw c (.bool r))) (hd : o.dst = some t) (ht : t < n)
    (hrun : c = true → r = b → ∀ ev e, EvT Γ e ev → (execOp ev o).run P w = .ok (.value v) w) (hk : ∀ a', At n ((t, gw (c && (r == b)) v) :: Γ) a' → wpList P l.toArray Q rest a' w) : ∀ a, At n Γ a → wpList P l.toArray Q (o :: rest) a w :=
  fun _ hA => wl_guard2 c r hA hg hgd hl hd ht (fun hc hq ev h => hrun hc hq ev _ h.evt) hk
theorem wka {tc tx : Nat} {r : Bool} (hg : o.guard = none) (hd : o.dst = some t) (ht : t < n) (ho : o.op = .pick (.tmp tc) (.tmp tx) (.const (.bool false))) (hc : look Γ tc = some (.bool q)) (hx : look Γ tx = some (gv q true (.bool r)))
    (hk : ∀ a', At n ((t, .bool (q && r)) :: Γ) a' → wpList P l.toArray Q rest a' w) : ∀ a, At n Γ a → wpList P l.toArray Q (o :: rest) a w :=
  fun _ hA => wl_op hA hg hd ht (fun _ h => pick_and ho (h.env _ _ hc) (h.env _ _ hx) (h.c _)) hk
theorem wko {tc tx : Nat} {r : Bool} (hg : o.guard = none) (hd : o.dst = some t) (ht : t < n) (ho : o.op = .pick (.tmp tc) (.const (.bool true)) (.tmp tx)) (hc : look Γ tc = some (.bool q)) (hx : look Γ tx = some (gv q false (.bool r)))
    (hk : ∀ a', At n ((t, .bool (q || r)) :: Γ) a' → wpList P l.toArray Q rest a' w) : ∀ a, At n Γ a → wpList P l.toArray Q (o :: rest) a w :=
  fun _ hA => wl_op hA hg hd ht (fun _ h => pick_or ho (h.env _ _ hc) (h.c _) (h.env _ _ hx)) hk
theorem mL : (∀ (f : Operand → Value) (l : List Operand), l.toArray.map f = (l.map f).toArray) ∧ (∀ (f : Operand → Value) (x : Operand) (l : List Operand), (x :: l).map f = f x :: l.map f) ∧ ∀ (f : Operand → Value), ([] : List Operand).map f = [] := ⟨fun f l => by simp, fun _ _ _ => rfl, fun _ => rfl⟩
-- operations of a region whose order is open
section
variable {F : List Fact} {Ph : List Phase} {C : World → Prop} {T : Nat → World → World → Prop} {i : Nat} {a0 : Array Value}
abbrev Slots (l : List Oper) (F : List Fact) (a0 : Array Value) (o : Oper) (ev : Operand → Value) (w : World) : Prop := ∀ t ∈ o.looksAt l.toArray, slotSays l F a0 o t (ev (.tmp t)) w
theorem sd (hs : Slots l F a0 o ev w) (t j : Nat) {v : Value} (h1 : (o.looksAt l.toArray).contains t = true := by kernel_rfl) (h2 : srcOf l o t = some j := by kernel_rfl) (h3 : F.getD j (.det undef) = .det v := by rfl) : ev (.tmp t) = v := see_det hs t j h1 h2 h3
theorem se (hA : At n Γ a) (hs : Slots l F a.tmps o ev w) (t : Nat) {v : Value} (h1 : (o.looksAt l.toArray).contains t = true := by kernel_rfl) (h2 : srcOf l o t = none := by kernel_rfl) (h3 : look Γ t = some v := by rfl) : ev (.tmp t) = v := see_out hs t h1 h2 (hA.env t v h3)
theorem sh {p : Value → World → Prop} (hs : Slots l F a0 o ev w) (t j : Nat) (h1 : (o.looksAt l.toArray).contains t = true := by kernel_rfl) (h2 : srcOf l o t = some j := by kernel_rfl) (h3 : F.getD j (.det undef) = .held p := by rfl) : p (ev (.tmp t)) w := see_held hs t j h1 h2 h3
theorem su {p : Value → World → Prop} (hs : Slots l F a0 o ev w) (t j : Nat) (h1 : (o.looksAt l.toArray).contains t = true := by kernel_rfl) (h2 : srcOf l o t = some j := by kernel_rfl) (h3 : F.getD j (.det undef) = .used p := by rfl) : p (ev (.tmp t)) w := see_used hs t j h1 h2 h3
theorem od {v : Value} (hg : o.guard = none) (hF : F.getD i (.det undef) = .det v) (hp : Ph.all (fun ph => ph.start != some i) = true) (hC : C w) (hT : T i w w) (h : (execOp ev o).run P w = .ok (.value v) w) :
    if wantedBy l o ev = true then Does P ev o w (fun v w' => C w' ∧ T i w w' ∧ (F.getD i (.det undef)).says v w' ∧ ∀ ph ∈ Ph, ph.start = some i → ph.p (sig ev) w') else T i w w ∧ (F.getD i (.det undef)).says undef w ∧ ∀ ph ∈ Ph, ph.start = some i → ph.p (sig ev) w :=
  ob_det (wanted_none hg) hF hp hC hT h
end
-- answers
theorem ret_1 {fn : Func} {R : Ending → World → Prop} (hA : At n Γ a) (t : Nat) {v : Value} (hr : fn.results = #[.tmp t]) (hl : look Γ t = some v) (hR : R (.returned v) w) : bodyPost P fn R .ret a w :=
  ⟨hA.defers, v, by rw [← hA.getD t hl]; simp [results, hr], hR⟩
theorem ret_2 {fn : Func} {R : Ending → World → Prop} (hA : At n Γ a) (t u : Nat) {x y : Value} (hr : fn.results = #[.tmp t, .tmp u]) (hl : look Γ t = some x) (hl2 : look Γ u = some y) (hR : R (.returned (.tuple #[x, y])) w) : bodyPost P fn R .ret a w :=
  ⟨hA.defers, _, by rw [← hA.getD t hl, ← hA.getD u hl2]; simp [results, hr], hR⟩
theorem ret_3 {fn : Func} {R : Ending → World → Prop} (hA : At n Γ a) (t u s : Nat) {x y z : Value} (hr : fn.results = #[.tmp t, .tmp u, .tmp s]) (hl : look Γ t = some x) (hl2 : look Γ u = some y) (hl3 : look Γ s = some z) (hR : R (.returned (.tuple #[x, y, z])) w) : bodyPost P fn R .ret a w :=
  ⟨hA.defers, _, by rw [← hA.getD t hl, ← hA.getD u hl2, ← hA.getD s hl3]; simp [results, hr], hR⟩
theorem ret_0 {fn : Func} {R : Ending → World → Prop} (hA : At n Γ a) (hr : fn.results = #[]) (hR : R (.returned (.tuple #[])) w) : bodyPost P fn R .ret a w :=
  ⟨hA.defers, _, by simp [results, hr], hR⟩
theorem end_0 {fn : Func} {R : Ending → World → Prop} (hA : At n Γ a) (hr : fn.results = #[]) (hR : R (.returned (.tuple #[])) w) : bodyPost P fn R .normal a w :=
  ⟨hA.defers, _, by simp [results, hr], hR⟩
end
end Go.Proofs.YtjhaccmcjlbllaaGreatDoor
/-
  A slice that reads as a list, nil let in.
-/
namespace Go.Proofs.YtjhaccmcjlbllaaGreatDoor
open Go.RowKit
theorem block_of_add (a : Addr) (n : Nat) : (a.add n).block = a.block := by unfold Addr.add; split <;> rfl
theorem add_of_add (a : Addr) (i j : Nat) : (a.add i).add j = a.add (i + j) := by
  unfold Addr.add
  by_cases hi : i = 0 <;> by_cases hj : j = 0 <;> simp [hi, hj, Nat.add_assoc]

def Reads (w : World) (B size : Nat) (A : Option Addr) (n : Nat) (xs : List Value) : Prop :=
  xs.length = n * size ∧ (0 < n → ∃ ad, A = some ad ∧ ad.block < B ∧ ∀ j u, xs[j]? = some u → w.cell? (ad.add j) = some u)

section
variable {w w' : World} {B B' size n : Nat} {A : Option Addr} {xs : List Value}
theorem Reads.none_ : Reads w B size A 0 [] := ⟨by simp, fun h => absurd h (by omega)⟩
theorem Reads.at_ {k : Nat} (h : Reads w B 1 A n xs) (hk : k < n) : ∃ ad u, A = some ad ∧ ad.block < B ∧ xs[k]? = some u ∧ w.cell? (ad.add k) = some u := by
  obtain ⟨ad, e, hb, hc⟩ := h.2 (by omega)
  have hl : k < xs.length := by have := h.1; omega
  exact ⟨ad, xs[k], e, hb, List.getElem?_eq_getElem hl, hc k _ (List.getElem?_eq_getElem hl)⟩
theorem Reads.keep (h : Reads w B size A n xs) (hk : ∀ p : Addr, p.block < B → w'.cell? p = w.cell? p) : Reads w' B size A n xs :=
  ⟨h.1, fun hn => by
    obtain ⟨ad, e, hb, hc⟩ := h.2 hn
    exact ⟨ad, e, hb, fun j u hu => (hk _ (by rw [block_of_add]; exact hb)).trans (hc j u hu)⟩⟩
theorem Reads.more (h : Reads w B size A n xs) (hB : B ≤ B') : Reads w B' size A n xs :=
  ⟨h.1, fun hn => by
    obtain ⟨ad, e, hb, hc⟩ := h.2 hn
    exact ⟨ad, e, by omega, hc⟩⟩
theorem Reads.below (h : Reads w B size A n xs) (hb : Below B w w') : Reads w' B size A n xs := h.keep fun _ hp => hb.cell hp
theorem Reads.drew (h : Reads w B size A n xs) : Reads w.drew B size A n xs := h
theorem Reads.drewN (h : Reads w B size A n xs) (k : Nat) : Reads (w.drewN k) B size A n xs := h
theorem Reads.alloc (h : Reads w B size A n xs) (hB : B ≤ w.heap.size) (o : Obj) : Reads (w.alloc o) B size A n xs := h.keep fun p hp => World.cell?_alloc_lt w o p (by omega)
theorem Reads.setCell (h : Reads w B size A n xs) {p : Addr} (hB : B ≤ p.block) (u : Value) : Reads (w.setCell p u) B size A n xs :=
  h.keep fun q hq => World.cell?_setCell_other w p q u (fun e => by subst e; omega)
theorem Reads.grown (h : Reads w B size A n xs) {row : Option Nat} (hg : w.grownBy w' row) (hB : B ≤ w.heap.size) (hr : ∀ g, row = some g → B ≤ g) : Reads w' B size A n xs :=
  h.keep fun p hp => World.cell?_of_block (hg.block p.block (by omega) (fun e => by have := hr _ e.symm; omega))
theorem Reads.cut (h : Reads w B size A n xs) {k cap : Nat} (hk : k ≤ n) (hc : n ≤ cap) :
    Reads w B size (if cap = k then A else A.map (·.add (k * size))) (n - k) (xs.drop (k * size)) := by
  refine ⟨by rw [List.length_drop, h.1, Nat.sub_mul], fun hn => ?_⟩
  obtain ⟨ad, rfl, hb, hcell⟩ := h.2 (by omega)
  rw [if_neg (by omega)]
  refine ⟨ad.add (k * size), rfl, by rw [block_of_add]; exact hb, fun j u hu => ?_⟩
  rw [add_of_add]
  exact hcell _ u (by rw [← hu, List.getElem?_drop])
theorem Reads.of_own {base : Nat} {e : TypeId} {c : Nat} (h : w.ownsRow base e size (.slice A n c) n xs) : Reads w w.heap.size size A n xs := by
  refine ⟨h.1, fun hn => ?_⟩
  obtain ⟨g, cap, hv, _, hlt⟩ := h.form hn
  have hA : A = some ⟨g, 0, none⟩ := by injection hv
  subst hA
  exact ⟨_, rfl, hlt, h.cells (g := g) rfl⟩
end
end Go.Proofs.YtjhaccmcjlbllaaGreatDoor
/-
  append(own, src...) at whatever slice is appended, nil let in: its run, and the law for the walk.
-/
namespace Go.Proofs.YtjhaccmcjlbllaaGreatDoor
open Go.RowKit
/-- what a slice that is appended yields -/
def Gives (w : World) (size : Nat) (A : Option Addr) (m : Nat) (news : List Value) : Prop :=
  news.length = m * size ∧ (0 < m → ∃ ad, A = some ad ∧ ∀ j u, news[j]? = some u → w.cell? (ad.add j) = some u) ∧ ∀ u ∈ news, u.oneCell' = true
theorem Gives.of_reads {w : World} {B size m : Nat} {A : Option Addr} {xs : List Value} (h : Reads w B size A m xs) (h1 : ∀ u ∈ xs, u.oneCell' = true) : Gives w size A m xs :=
  ⟨h.1, fun hm => by obtain ⟨ad, e, _, hc⟩ := h.2 hm; exact ⟨ad, e, hc⟩, h1⟩
theorem setCells_nil (w : World) (b off : Nat) : w.setCells b off [] = w := by simp [World.setCells]
theorem run_append_any {P : Program} (w : World) (base : Nat) (t ty e : TypeId) (i : TypeInfo) (z : Value) (size bytes : Nat) (ht : P.underlying t = some (.slice e)) (hi : P.info? e = some i) (hz : i.zero = some z)
    (hsize : i.size = size) (hby : i.bytes = bytes) (hzs : z.cells.size = size) (hsz : 0 < size) (v : Value) (n : Nat) (xs : List Value) (hown : w.ownsRow base e size v n xs)
    (A : Option Addr) (m c : Nat) (news : List Value) (hg : Gives w size A m news) (h63 : n + m ≤ maxLen) (hbytes : (n + m) * bytes ≤ 140737488355328) (hbase : base ≤ w.heap.size) :
    ∃ v' w', (Builtin.append_ #[t, t] ty #[v, .slice A m c]).run P w = .ok v' w' ∧ w'.ownsRow base e size v' (n + m) (xs ++ news) ∧ w.grownBy w' v.ownBlock := by
  obtain ⟨hl, hnews, h1⟩ := hg
  cases A with
  | some ad =>
    have hc : ∀ j u, news[j]? = some u → w.cell? (ad.add j) = some u := by
      rcases Nat.eq_zero_or_pos m with h | h
      · subst h
        intro j u hj
        have : news = [] := List.length_eq_zero_iff.1 (by simpa using hl)
        rw [this] at hj; cases hj
      · obtain ⟨ad', e, hc⟩ := hnews h
        injection e with e; subst e; exact hc
    obtain ⟨v', w', hr, h2, h3, _⟩ := run_append_own (P := P) w base t ty e i z size bytes ht hi hz hsize hby hzs hsz v n xs hown ad m c news hl hc h1 h63 hbytes hbase
    exact ⟨v', w', hr, h2, h3⟩
  | none =>
    have h0 : m = 0 := by
      rcases Nat.eq_zero_or_pos m with h | h
      · exact h
      · obtain ⟨ad, e, _⟩ := hnews h; cases e
    subst h0
    have hn : news = [] := List.length_eq_zero_iff.1 (by simpa using hl)
    subst hn
    have hrun : (Builtin.append_ #[t, t] ty #[v, .slice none 0 c]).run P w = .ok v w := by
      rcases hown.2 with ⟨rfl, rfl⟩ | ⟨g, cap, cur, rfl, _, _, hnc, _⟩
      · simp [Builtin.append_, run_underlying ht, sizeOf, typeInfo, hi, Builtin.lenOf, Builtin.firstCells, Result.andThen]
      · have := run_append_room_src (P := P) w t t ty e i ht hi g 0 n cap (.slice none 0 c) 0 [] (Src.ofNil w ht c) (by omega) (fun j hj => by simp at hj) (fun j hj => by simp at hj)
        rw [setCells_nil] at this
        exact this
    exact ⟨v, w, hrun, by simpa using hown, ⟨rfl, rfl, rfl, Nat.le_refl _, fun _ _ _ => rfl⟩⟩
theorem wpList_append_any {P : Program} (w : World) {ops : Array Oper} {rest : List Oper} {o : Oper} {a : Act} {Q : Exit → Act → World → Prop} (hgd : o.guard = none) (s x : Operand) (t : TypeId)
    (ho : o.op = .call { callee := .builtin .append, args := #[s, x], argTypes := #[t, t] })
    (base : Nat) (e : TypeId) (i : TypeInfo) (z : Value) (size bytes : Nat) (ht : P.underlying t = some (.slice e)) (hi : P.info? e = some i) (hz : i.zero = some z)
    (hsize : i.size = size) (hby : i.bytes = bytes) (hzs : z.cells.size = size) (hsz : 0 < size) (v : Value) (n : Nat) (xs : List Value) (hs : a.eval s = v) (hown : w.ownsRow base e size v n xs)
    (A : Option Addr) (m c : Nat) (news : List Value) (hx : a.eval x = .slice A m c) (hg : Gives w size A m news) (h63 : n + m ≤ maxLen) (hbytes : (n + m) * bytes ≤ 140737488355328) (hbase : base ≤ w.heap.size)
    (h : ∀ v' w', w'.ownsRow base e size v' (n + m) (xs ++ news) → w.grownBy w' v.ownBlock → wpList P ops Q rest (a.put o.dst v') w') : wpList P ops Q (o :: rest) a w := by
  refine wpList_plain hgd fun K hK => ?_
  obtain ⟨v', w', hr, h2, h3⟩ := run_append_any (P := P) w base t o.type e i z size bytes ht hi hz hsize hby hzs hsz v n xs hown A m c news hg h63 hbytes hbase
  unfold Oper.wp execOp
  simp only [ho, resolve, invoke, builtin, Sem.run_bind, Sem.run_pure, Result.andThen_ok, List.map_toArray, List.map_cons, List.map_nil, hs, hx, hr]
  exact hK _ _ (h v' w' h2 h3)
end Go.Proofs.YtjhaccmcjlbllaaGreatDoor
/-
  More plain words on memory: bytes turned into strings.
-/
namespace Go.Proofs.YtjhaccmcjlbllaaGreatDoor
open Go.RowKit
theorem push_all : ∀ (bs : List UInt8) (acc : ByteArray), (bs.map fun b => ((b.toNat : Nat) : Int)).foldl (fun r n => r.push (UInt8.ofNat n.toNat)) acc = ⟨acc.data ++ bs.toArray⟩
  | [], acc => by simp
  | b :: bs, acc => by
    rw [List.map_cons, List.foldl_cons, push_all bs]
    simp [ByteArray.push]
/-- string(b), b a slice whose cells are known -/
theorem run_string_bytes {P : Program} (w : World) (src dst e : TypeId) (a : Addr) (bs : List UInt8) (cap : Nat)
    (hs : P.underlying src = some (.slice e)) (he : P.underlying e = some (.int .u8)) (hd : P.underlying dst = some .string)
    (hc : ∀ j b, bs[j]? = some b → w.cell? (a.add j) = some (.int .u8 ((b.toNat : Nat) : Int))) :
    (convert src dst (.slice (some a) bs.length cap)).run P w = .ok (.string ⟨bs.toArray⟩) w := by
  rw [run_convert_bytes_string w src dst e (some a) bs.length cap hs he hd]
  have hl := run_loadCells_list (P := P) w a (bs.map fun b => Value.int .u8 ((b.toNat : Nat) : Int)) (fun j v hv => by
    rw [List.getElem?_map] at hv
    cases hb : bs[j]? with
    | none => rw [hb] at hv; cases hv
    | some b => rw [hb] at hv; simp at hv; subst hv; exact hc j b hb)
  rw [List.length_map] at hl
  have := run_bytesToString (P := P) w a bs.length cap (bs.map fun b => ((b.toNat : Nat) : Int)) (by rw [List.map_map]; exact hl)
  rw [this, push_all]
  rw [show (⟨ByteArray.empty.data ++ bs.toArray⟩ : ByteArray) = ⟨bs.toArray⟩ from by congr 1; show #[] ++ bs.toArray = _; simp]
theorem u8_nat (n : Nat) (h : n < 256) : (UInt8.ofNat n).toNat = n := by simp; omega
end Go.Proofs.YtjhaccmcjlbllaaGreatDoor
/-
  DERIVED: THE SHELF's CONTRACTS AT THIS DUMP, IN PLAIN WORDS (tools/lay-plain.mjs out of 'TryzShelf.lean', which tools/lay-shelf.mjs wrote): THE SAME DECLARATIONS UNDER THE SAME NAMES: 'import', 'namespace', 'open', 'def', 'theorem' AND NOTHING ELSE: no command of the shelf's: FOR A HAND-IN. Each laying: the table of numbers ('.._ren') and one theorem, a field a fact of the dump's own or the kernel's comparison; each contract: ONE APPLICATION.
-/
namespace Go.Proofs
open Go.Shelf
def Tryz.lays158_ren : Go.Shelf.Ren := ⟨fun | 158 => 147 | 165 => 63 | 166 => 64 | 167 => 195 | 169 => 65 | 230 => 196 | 203 => 197 | 240 => 91 | 241 => 92 | 197 => 116 | 118 => 218 | 168 => 219 | 270 => 220 | 262 => 221 | 276 => 123 | 277 => 124 | 260 => 166 | 242 => 230 | 313 => 231 | 278 => 236 | 274 => 237 | 275 => 238 | n => n, fun | 9 => 9 | 4 => 4 | 3 => 3 | 5 => 5 | 72 => 116 | 0 => 0 | 76 => 120 | 75 => 119 | 107 => 210 | 70 => 114 | 20 => 20 | 37 => 23 | 127 => 144 | 21 => 21 | 105 => 161 | 164 => 169 | 162 => 241 | 203 => 239 | 119 => 217 | 46 => 73 | 139 => 220 | 138 => 219 | 51 => 22 | 160 => 245 | 208 => 254 | 206 => 252 | 80 => 122 | n => n, fun | 13 => 6 | 3 => 2 | 4 => 3 | n => n⟩
theorem Tryz.lays158 : Go.Proofs.Lays.n158 Tryz.prog Tryz.lays158_ren := {
  mixed := by kernel_rfl
  f118 := Tryz.func218.trans (congrArg some (by kernel_rfl))
  f158 := Tryz.func147.trans (congrArg some (by kernel_rfl))
  f165 := Tryz.func63.trans (congrArg some (by kernel_rfl))
  f166 := Tryz.func64.trans (congrArg some (by kernel_rfl))
  f167 := Tryz.func195.trans (congrArg some (by kernel_rfl))
  f168 := Tryz.func219.trans (congrArg some (by kernel_rfl))
  f169 := Tryz.func65.trans (congrArg some (by kernel_rfl))
  f197 := Tryz.func116.trans (congrArg some (by kernel_rfl))
  f203 := Tryz.func197.trans (congrArg some (by kernel_rfl))
  f230 := Tryz.func196.trans (congrArg some (by kernel_rfl))
  f240 := Tryz.func91.trans (congrArg some (by kernel_rfl))
  f241 := Tryz.func92.trans (congrArg some (by kernel_rfl))
  f242 := Tryz.func230.trans (congrArg some (by kernel_rfl))
  f260 := Tryz.func166.trans (congrArg some (by kernel_rfl))
  f262 := Tryz.func221.trans (congrArg some (by kernel_rfl))
  f270 := Tryz.func220.trans (congrArg some (by kernel_rfl))
  f274 := Tryz.func237.trans (congrArg some (by kernel_rfl))
  f275 := Tryz.func238.trans (congrArg some (by kernel_rfl))
  f276 := Tryz.func123.trans (congrArg some (by kernel_rfl))
  f277 := Tryz.func124.trans (congrArg some (by kernel_rfl))
  f278 := Tryz.func236.trans (congrArg some (by kernel_rfl))
  f313 := Tryz.func231.trans (congrArg some (by kernel_rfl))
  t0 := Tryz.underlying0
  a0 := Tryz.isAgg0
  z0 := Tryz.sizeOf0
  v0 := Tryz.zeroValue0
  t3 := Tryz.underlying3
  a3 := Tryz.isAgg3
  z3 := Tryz.sizeOf3
  v3 := Tryz.zeroValue3
  t4 := Tryz.underlying4
  a4 := Tryz.isAgg4
  z4 := Tryz.sizeOf4
  v4 := Tryz.zeroValue4
  t5 := Tryz.underlying5
  a5 := Tryz.isAgg5
  z5 := Tryz.sizeOf5
  v5 := Tryz.zeroValue5
  t9 := Tryz.underlying9
  a9 := Tryz.isAgg9
  z9 := Tryz.sizeOf9
  v9 := Tryz.zeroValue9
  t20 := Tryz.underlying20
  a20 := Tryz.isAgg20
  z20 := Tryz.sizeOf20
  v20 := Tryz.zeroValue20
  t21 := Tryz.underlying21
  a21 := Tryz.isAgg21
  z21 := Tryz.sizeOf21
  v21 := Tryz.zeroValue21
  t37 := Tryz.underlying23
  a37 := Tryz.isAgg23
  z37 := Tryz.sizeOf23
  v37 := Tryz.zeroValue23
  t46 := Tryz.underlying73
  a46 := Tryz.isAgg73
  z46 := Tryz.sizeOf73
  v46 := Tryz.zeroValue73
  t51 := Tryz.underlying22
  a51 := Tryz.isAgg22
  z51 := Tryz.sizeOf22
  v51 := Tryz.zeroValue22
  t70 := Tryz.underlying114
  a70 := Tryz.isAgg114
  z70 := Tryz.sizeOf114
  v70 := Tryz.zeroValue114
  t72 := Tryz.underlying116
  a72 := Tryz.isAgg116
  z72 := Tryz.sizeOf116
  v72 := Tryz.zeroValue116
  t75 := Tryz.underlying119
  a75 := Tryz.isAgg119
  z75 := Tryz.sizeOf119
  v75 := Tryz.zeroValue119
  t76 := Tryz.underlying120
  a76 := Tryz.isAgg120
  z76 := Tryz.sizeOf120
  v76 := Tryz.zeroValue120
  t105 := Tryz.underlying161
  a105 := Tryz.isAgg161
  z105 := Tryz.sizeOf161
  v105 := Tryz.zeroValue161
  t107 := Tryz.underlying210
  a107 := Tryz.isAgg210
  z107 := Tryz.sizeOf210
  v107 := Tryz.zeroValue210
  t119 := Tryz.underlying217
  a119 := Tryz.isAgg217
  z119 := Tryz.sizeOf217
  t127 := Tryz.underlying144
  a127 := Tryz.isAgg144
  z127 := Tryz.sizeOf144
  v127 := Tryz.zeroValue144
  t138 := Tryz.underlying219
  a138 := Tryz.isAgg219
  z138 := Tryz.sizeOf219
  v138 := Tryz.zeroValue219
  t139 := Tryz.underlying220
  a139 := Tryz.isAgg220
  z139 := Tryz.sizeOf220
  v139 := Tryz.zeroValue220
  t160 := Tryz.underlying245
  a160 := Tryz.isAgg245
  z160 := Tryz.sizeOf245
  v160 := Tryz.zeroValue245
  t162 := Tryz.underlying241
  a162 := Tryz.isAgg241
  z162 := Tryz.sizeOf241
  v162 := Tryz.zeroValue241
  t164 := Tryz.underlying169
  a164 := Tryz.isAgg169
  z164 := Tryz.sizeOf169
  v164 := Tryz.zeroValue169
  t203 := Tryz.underlying239
  a203 := Tryz.isAgg239
  z203 := Tryz.sizeOf239
  v203 := Tryz.zeroValue239
  t206 := Tryz.underlying252
  a206 := Tryz.isAgg252
  z206 := Tryz.sizeOf252
  v206 := Tryz.zeroValue252
  t208 := Tryz.underlying254
  a208 := Tryz.isAgg254
  z208 := Tryz.sizeOf254
  v208 := Tryz.zeroValue254
  g3 := by kernel_rfl
  g4 := by kernel_rfl
  g13 := by kernel_rfl }
theorem Tryz.Builder_Extra_158 : Builder.Extra Tryz.prog Tryz.lays158_ren := {
  sizeBuilder := by kernel_rfl
  liesBuilder := by kernel_rfl
  t5 := Tryz.underlying5
  a5 := Tryz.isAgg5
  z5 := Tryz.sizeOf5
  v5 := Tryz.zeroValue5
  infoByte := by kernel_rfl
  cellsByte := by kernel_rfl
  sizeByte := by kernel_rfl
  neB5 := by decide }
open Go.RowKit in
/-- strings.ToUpper: "ToUpper returns s with all Unicode letters mapped to their upper case.": ON ASCII TEXT OF AT MOST 2^47 BYTES. Below the heap's end the world is as it was: where a letter turns, the call makes a builder and its buffer. (LAID: no walk: one application.) -/
theorem Tryz.strings_ToUpper_ascii (s : ByteArray) (w : World) (hs : s.size ≤ 140737488355328) (hascii : ∀ (j : Nat) (b : UInt8), s.data.toList[j]? = some b → b.toNat < 128) :
    Calls Tryz.prog 147 #[.string s] w fun e w' => e = .returned (.string ⟨(Lib.toUpperA s.data.toList).toArray⟩) ∧ Below w.heap.size w w' := Any.strings_ToUpper_ascii Tryz.lays158 Tryz.Builder_Extra_158 s w hs hascii
def Tryz.lays156_ren : Go.Shelf.Ren := ⟨fun | 156 => 40 | 165 => 63 | 166 => 64 | 169 => 65 | 240 => 91 | 241 => 92 | 276 => 123 | 277 => 124 | n => n, fun | 31 => 77 | 9 => 9 | 3 => 3 | 4 => 4 | 0 => 0 | 20 => 20 | 72 => 116 | 76 => 120 | 70 => 114 | 37 => 23 | 75 => 119 | 127 => 144 | 164 => 169 | 5 => 5 | 80 => 122 | n => n, fun | n => n⟩
theorem Tryz.lays156 : Go.Proofs.Lays.n156 Tryz.prog Tryz.lays156_ren := {
  mixed := by kernel_rfl
  f156 := Tryz.func40.trans (congrArg some (by kernel_rfl))
  f165 := Tryz.func63.trans (congrArg some (by kernel_rfl))
  f166 := Tryz.func64.trans (congrArg some (by kernel_rfl))
  f169 := Tryz.func65.trans (congrArg some (by kernel_rfl))
  f240 := Tryz.func91.trans (congrArg some (by kernel_rfl))
  f241 := Tryz.func92.trans (congrArg some (by kernel_rfl))
  f276 := Tryz.func123.trans (congrArg some (by kernel_rfl))
  f277 := Tryz.func124.trans (congrArg some (by kernel_rfl))
  t0 := Tryz.underlying0
  a0 := Tryz.isAgg0
  z0 := Tryz.sizeOf0
  v0 := Tryz.zeroValue0
  t3 := Tryz.underlying3
  a3 := Tryz.isAgg3
  z3 := Tryz.sizeOf3
  v3 := Tryz.zeroValue3
  t4 := Tryz.underlying4
  a4 := Tryz.isAgg4
  z4 := Tryz.sizeOf4
  v4 := Tryz.zeroValue4
  t9 := Tryz.underlying9
  a9 := Tryz.isAgg9
  z9 := Tryz.sizeOf9
  v9 := Tryz.zeroValue9
  t20 := Tryz.underlying20
  a20 := Tryz.isAgg20
  z20 := Tryz.sizeOf20
  v20 := Tryz.zeroValue20
  t31 := Tryz.underlying77
  a31 := Tryz.isAgg77
  z31 := Tryz.sizeOf77
  v31 := Tryz.zeroValue77
  t37 := Tryz.underlying23
  a37 := Tryz.isAgg23
  z37 := Tryz.sizeOf23
  v37 := Tryz.zeroValue23
  t70 := Tryz.underlying114
  a70 := Tryz.isAgg114
  z70 := Tryz.sizeOf114
  v70 := Tryz.zeroValue114
  t72 := Tryz.underlying116
  a72 := Tryz.isAgg116
  z72 := Tryz.sizeOf116
  v72 := Tryz.zeroValue116
  t75 := Tryz.underlying119
  a75 := Tryz.isAgg119
  z75 := Tryz.sizeOf119
  v75 := Tryz.zeroValue119
  t76 := Tryz.underlying120
  a76 := Tryz.isAgg120
  z76 := Tryz.sizeOf120
  v76 := Tryz.zeroValue120
  t127 := Tryz.underlying144
  a127 := Tryz.isAgg144
  z127 := Tryz.sizeOf144
  v127 := Tryz.zeroValue144
  t164 := Tryz.underlying169
  a164 := Tryz.isAgg169
  z164 := Tryz.sizeOf169
  v164 := Tryz.zeroValue169 }
theorem Tryz.Builder_Extra_156 : Builder.Extra Tryz.prog Tryz.lays156_ren := {
  sizeBuilder := by kernel_rfl
  liesBuilder := by kernel_rfl
  t5 := Tryz.underlying5
  a5 := Tryz.isAgg5
  z5 := Tryz.sizeOf5
  v5 := Tryz.zeroValue5
  infoByte := by kernel_rfl
  cellsByte := by kernel_rfl
  sizeByte := by kernel_rfl
  neB5 := by decide }
open Go.RowKit in
/-- strings.Join: "Join concatenates the elements of its first argument to create a single string. The separator string sep is placed between elements in the resulting string.": HOWEVER MANY ELEMENTS. Below the heap's end the world is as it was. (LAID: no walk: one application.) -/
theorem Tryz.strings_Join (bk o c : Nat) (xs : List ByteArray) (sep : ByteArray) (w : World) (hcells : ∀ (j : Nat) x, xs[j]? = some x → w.cell? ⟨bk, o + j, none⟩ = some (.string x)) (hbk : bk < w.heap.size) (hN : xs.length ≤ 140737488355328) (hcap : xs.length ≤ c) (hlen : (Lib.join (xs.map (·.data.toList)) sep.data.toList).length ≤ 140737488355328) :
    Calls Tryz.prog 40 #[.slice (some ⟨bk, o, none⟩) xs.length c, .string sep] w fun e w' => e = .returned (.string ⟨(Lib.join (xs.map (·.data.toList)) sep.data.toList).toArray⟩) ∧ Below w.heap.size w w' := Any.strings_Join Tryz.lays156 Tryz.Builder_Extra_156 bk o c xs sep w hcells hbk hN hcap hlen
def Tryz.lays137_ren : Go.Shelf.Ren := ⟨fun | 137 => 143 | 217 => 160 | 266 => 205 | n => n, fun | 9 => 9 | 5 => 5 | 3 => 3 | n => n, fun | n => n⟩
theorem Tryz.lays137 : Go.Proofs.Lays.n137 Tryz.prog Tryz.lays137_ren := {
  mixed := by kernel_rfl
  f137 := Tryz.func143.trans (congrArg some (by kernel_rfl))
  f217 := Tryz.func160.trans (congrArg some (by kernel_rfl))
  f266 := Tryz.func205.trans (congrArg some (by kernel_rfl))
  t3 := Tryz.underlying3
  a3 := Tryz.isAgg3
  z3 := Tryz.sizeOf3
  v3 := Tryz.zeroValue3
  t5 := Tryz.underlying5
  a5 := Tryz.isAgg5
  z5 := Tryz.sizeOf5
  v5 := Tryz.zeroValue5
  t9 := Tryz.underlying9
  a9 := Tryz.isAgg9
  z9 := Tryz.sizeOf9
  v9 := Tryz.zeroValue9 }
open Go.RowKit in
/-- strings.IndexByte: "IndexByte returns the index of the first instance of c in s, or -1 if c is not present in s.": IT RETURNS 'Lib.indexByte s c'; the world is as it was. (LAID: no walk: one application.) -/
theorem Tryz.strings_IndexByte (s : ByteArray) (c : Int) (w : World) :
    Calls Tryz.prog 143 #[.string s, .int .u8 c] w fun e w' => e = .returned (.int .i64 (Lib.indexByte s.data.toList c.toNat.toUInt8)) ∧ w' = w := Any.strings_IndexByte Tryz.lays137 s c w
def Tryz.lays103_ren : Go.Shelf.Ren := ⟨fun | 103 => 103 | 210 => 144 | 206 => 193 | n => n, fun | 9 => 9 | 4 => 4 | 24 => 81 | 3 => 3 | n => n, fun | n => n⟩
theorem Tryz.lays103 : Go.Proofs.Lays.n103 Tryz.prog Tryz.lays103_ren := {
  mixed := by kernel_rfl
  f103 := Tryz.func103.trans (congrArg some (by kernel_rfl))
  f206 := Tryz.func193.trans (congrArg some (by kernel_rfl))
  f210 := Tryz.func144.trans (congrArg some (by kernel_rfl))
  t3 := Tryz.underlying3
  a3 := Tryz.isAgg3
  z3 := Tryz.sizeOf3
  v3 := Tryz.zeroValue3
  t4 := Tryz.underlying4
  a4 := Tryz.isAgg4
  z4 := Tryz.sizeOf4
  v4 := Tryz.zeroValue4
  t9 := Tryz.underlying9
  a9 := Tryz.isAgg9
  z9 := Tryz.sizeOf9
  v9 := Tryz.zeroValue9
  t24 := Tryz.underlying81
  a24 := Tryz.isAgg81
  z24 := Tryz.sizeOf81
  v24 := Tryz.zeroValue81 }
open Go.RowKit in
/-- strings.CutPrefix: "CutPrefix returns s without the provided leading prefix string and reports whether it found the prefix. If s doesn't start with prefix, CutPrefix returns s, false. If prefix is the empty string, CutPrefix returns s, true.": IT RETURNS '(Lib.trimPrefix s p, Lib.hasPrefix s p)'; the world is as it was. (LAID: no walk: one application.) -/
theorem Tryz.strings_CutPrefix (s p : ByteArray) (w : World) :
    Calls Tryz.prog 103 #[.string s, .string p] w fun e w' => e = .returned (.tuple #[.string ⟨(Lib.trimPrefix s.data.toList p.data.toList).toArray⟩, .bool (Lib.hasPrefix s.data.toList p.data.toList)]) ∧ w' = w := Any.strings_CutPrefix Tryz.lays103 s p w
def Tryz.lays104_ren : Go.Shelf.Ren := ⟨fun | 104 => 158 | 211 => 204 | 207 => 209 | n => n, fun | 9 => 9 | 4 => 4 | 24 => 81 | 3 => 3 | n => n, fun | n => n⟩
theorem Tryz.lays104 : Go.Proofs.Lays.n104 Tryz.prog Tryz.lays104_ren := {
  mixed := by kernel_rfl
  f104 := Tryz.func158.trans (congrArg some (by kernel_rfl))
  f207 := Tryz.func209.trans (congrArg some (by kernel_rfl))
  f211 := Tryz.func204.trans (congrArg some (by kernel_rfl))
  t3 := Tryz.underlying3
  a3 := Tryz.isAgg3
  z3 := Tryz.sizeOf3
  v3 := Tryz.zeroValue3
  t4 := Tryz.underlying4
  a4 := Tryz.isAgg4
  z4 := Tryz.sizeOf4
  v4 := Tryz.zeroValue4
  t9 := Tryz.underlying9
  a9 := Tryz.isAgg9
  z9 := Tryz.sizeOf9
  v9 := Tryz.zeroValue9
  t24 := Tryz.underlying81
  a24 := Tryz.isAgg81
  z24 := Tryz.sizeOf81
  v24 := Tryz.zeroValue81 }
open Go.RowKit in
/-- strings.CutSuffix: "CutSuffix returns s without the provided ending suffix string and reports whether it found the suffix. If s doesn't end with suffix, CutSuffix returns s, false. If suffix is the empty string, CutSuffix returns s, true.": IT RETURNS '(Lib.trimSuffix s p, Lib.hasSuffix s p)'; the world is as it was. (LAID: no walk: one application.) -/
theorem Tryz.strings_CutSuffix (s p : ByteArray) (w : World) (hs : s.size ≤ 9223372036854775807) :
    Calls Tryz.prog 158 #[.string s, .string p] w fun e w' => e = .returned (.tuple #[.string ⟨(Lib.trimSuffix s.data.toList p.data.toList).toArray⟩, .bool (Lib.hasSuffix s.data.toList p.data.toList)]) ∧ w' = w := Any.strings_CutSuffix Tryz.lays104 s p w hs
def Tryz.lays172_ren : Go.Shelf.Ren := ⟨fun | 172 => 191 | 244 => 215 | 245 => 216 | 247 => 225 | 279 => 226 | 280 => 227 | 281 => 228 | 282 => 229 | 287 => 223 | 316 => 234 | 171 => 61 | 205 => 235 | 321 => 232 | 322 => 233 | 243 => 87 | 246 => 121 | 283 => 117 | 284 => 118 | 285 => 119 | 286 => 120 | 129 => 168 | 317 => 167 | 318 => 169 | 319 => 170 | 320 => 171 | 337 => 207 | 338 => 208 | n => n, fun | 9 => 9 | 3 => 3 | 75 => 119 | 76 => 120 | 4 => 4 | 5 => 5 | 167 => 232 | 37 => 23 | 0 => 0 | 85 => 233 | 2 => 2 | 168 => 235 | 53 => 35 | 175 => 212 | 46 => 73 | 210 => 243 | 127 => 144 | 145 => 250 | 143 => 248 | 21 => 21 | 171 => 163 | 173 => 166 | 212 => 200 | 51 => 22 | 20 => 20 | 213 => 201 | 232 => 229 | 233 => 230 | 80 => 122 | n => n, fun | 15 => 7 | 16 => 8 | 17 => 1 | 18 => 4 | 19 => 5 | n => n⟩
theorem Tryz.lays172 : Go.Proofs.Lays.n172 Tryz.prog Tryz.lays172_ren := {
  mixed := by kernel_rfl
  f129 := Tryz.func168.trans (congrArg some (by kernel_rfl))
  f171 := Tryz.func61.trans (congrArg some (by kernel_rfl))
  f172 := Tryz.func191.trans (congrArg some (by kernel_rfl))
  f205 := Tryz.func235.trans (congrArg some (by kernel_rfl))
  f243 := Tryz.func87.trans (congrArg some (by kernel_rfl))
  f244 := Tryz.func215.trans (congrArg some (by kernel_rfl))
  f245 := Tryz.func216.trans (congrArg some (by kernel_rfl))
  f246 := Tryz.func121.trans (congrArg some (by kernel_rfl))
  f247 := Tryz.func225.trans (congrArg some (by kernel_rfl))
  f279 := Tryz.func226.trans (congrArg some (by kernel_rfl))
  f280 := Tryz.func227.trans (congrArg some (by kernel_rfl))
  f281 := Tryz.func228.trans (congrArg some (by kernel_rfl))
  f282 := Tryz.func229.trans (congrArg some (by kernel_rfl))
  f283 := Tryz.func117.trans (congrArg some (by kernel_rfl))
  f284 := Tryz.func118.trans (congrArg some (by kernel_rfl))
  f285 := Tryz.func119.trans (congrArg some (by kernel_rfl))
  f286 := Tryz.func120.trans (congrArg some (by kernel_rfl))
  f287 := Tryz.func223.trans (congrArg some (by kernel_rfl))
  f316 := Tryz.func234.trans (congrArg some (by kernel_rfl))
  f317 := Tryz.func167.trans (congrArg some (by kernel_rfl))
  f318 := Tryz.func169.trans (congrArg some (by kernel_rfl))
  f319 := Tryz.func170.trans (congrArg some (by kernel_rfl))
  f320 := Tryz.func171.trans (congrArg some (by kernel_rfl))
  f321 := Tryz.func232.trans (congrArg some (by kernel_rfl))
  f322 := Tryz.func233.trans (congrArg some (by kernel_rfl))
  f337 := Tryz.func207.trans (congrArg some (by kernel_rfl))
  f338 := Tryz.func208.trans (congrArg some (by kernel_rfl))
  t0 := Tryz.underlying0
  a0 := Tryz.isAgg0
  z0 := Tryz.sizeOf0
  v0 := Tryz.zeroValue0
  t2 := Tryz.underlying2
  a2 := Tryz.isAgg2
  z2 := Tryz.sizeOf2
  v2 := Tryz.zeroValue2
  t3 := Tryz.underlying3
  a3 := Tryz.isAgg3
  z3 := Tryz.sizeOf3
  v3 := Tryz.zeroValue3
  t4 := Tryz.underlying4
  a4 := Tryz.isAgg4
  z4 := Tryz.sizeOf4
  v4 := Tryz.zeroValue4
  t5 := Tryz.underlying5
  a5 := Tryz.isAgg5
  z5 := Tryz.sizeOf5
  v5 := Tryz.zeroValue5
  t9 := Tryz.underlying9
  a9 := Tryz.isAgg9
  z9 := Tryz.sizeOf9
  v9 := Tryz.zeroValue9
  t20 := Tryz.underlying20
  a20 := Tryz.isAgg20
  z20 := Tryz.sizeOf20
  v20 := Tryz.zeroValue20
  t21 := Tryz.underlying21
  a21 := Tryz.isAgg21
  z21 := Tryz.sizeOf21
  v21 := Tryz.zeroValue21
  t37 := Tryz.underlying23
  a37 := Tryz.isAgg23
  z37 := Tryz.sizeOf23
  v37 := Tryz.zeroValue23
  t46 := Tryz.underlying73
  a46 := Tryz.isAgg73
  z46 := Tryz.sizeOf73
  v46 := Tryz.zeroValue73
  t51 := Tryz.underlying22
  a51 := Tryz.isAgg22
  z51 := Tryz.sizeOf22
  v51 := Tryz.zeroValue22
  t53 := Tryz.underlying35
  a53 := Tryz.isAgg35
  z53 := Tryz.sizeOf35
  v53 := Tryz.zeroValue35
  t75 := Tryz.underlying119
  a75 := Tryz.isAgg119
  z75 := Tryz.sizeOf119
  v75 := Tryz.zeroValue119
  t76 := Tryz.underlying120
  a76 := Tryz.isAgg120
  z76 := Tryz.sizeOf120
  v76 := Tryz.zeroValue120
  t85 := Tryz.underlying233
  a85 := Tryz.isAgg233
  z85 := Tryz.sizeOf233
  v85 := Tryz.zeroValue233
  t127 := Tryz.underlying144
  a127 := Tryz.isAgg144
  z127 := Tryz.sizeOf144
  v127 := Tryz.zeroValue144
  t143 := Tryz.underlying248
  a143 := Tryz.isAgg248
  z143 := Tryz.sizeOf248
  v143 := Tryz.zeroValue248
  t145 := Tryz.underlying250
  a145 := Tryz.isAgg250
  z145 := Tryz.sizeOf250
  v145 := Tryz.zeroValue250
  t167 := Tryz.underlying232
  a167 := Tryz.isAgg232
  z167 := Tryz.sizeOf232
  v167 := Tryz.zeroValue232
  t168 := Tryz.underlying235
  a168 := Tryz.isAgg235
  z168 := Tryz.sizeOf235
  v168 := Tryz.zeroValue235
  t171 := Tryz.underlying163
  a171 := Tryz.isAgg163
  z171 := Tryz.sizeOf163
  v171 := Tryz.zeroValue163
  t173 := Tryz.underlying166
  a173 := Tryz.isAgg166
  z173 := Tryz.sizeOf166
  v173 := Tryz.zeroValue166
  t175 := Tryz.underlying212
  a175 := Tryz.isAgg212
  z175 := Tryz.sizeOf212
  v175 := Tryz.zeroValue212
  t210 := Tryz.underlying243
  a210 := Tryz.isAgg243
  z210 := Tryz.sizeOf243
  v210 := Tryz.zeroValue243
  t212 := Tryz.underlying200
  a212 := Tryz.isAgg200
  z212 := Tryz.sizeOf200
  v212 := Tryz.zeroValue200
  t213 := Tryz.underlying201
  a213 := Tryz.isAgg201
  z213 := Tryz.sizeOf201
  t232 := Tryz.underlying229
  a232 := Tryz.isAgg229
  z232 := Tryz.sizeOf229
  v232 := Tryz.zeroValue229
  t233 := Tryz.underlying230
  a233 := Tryz.isAgg230
  z233 := Tryz.sizeOf230
  v233 := Tryz.zeroValue230
  g15 := by kernel_rfl
  g16 := by kernel_rfl
  g17 := by kernel_rfl
  g18 := by kernel_rfl
  g19 := by kernel_rfl }
open Go.RowKit in
/-- strconv.Atoi: "Atoi is equivalent to ParseInt(s, 10, 0), converted to type int.": AT A DECIMAL NUMERAL OF AT MOST 18 BYTES: its value, and a nil error. The world behind the call: the one new row that the library's '[]byte(s)' lays. (LAID: no walk: one application.) -/
theorem Tryz.strconv_Atoi (s : ByteArray) (n : Int) (hl : s.size ≤ 18) (h : Lib.atoi s.data.toList = some n) (w : World) :
    Calls Tryz.prog 191 #[.string s] w fun e w' => e = .returned (.tuple #[.int .i64 n, .nilIface]) ∧ ∃ t, w' = Lib.bytesWorld w 5 t := Any.strconv_Atoi Tryz.lays172 s n hl h w
def Tryz.lays283_ren : Go.Shelf.Ren := ⟨fun | 283 => 117 | n => n, fun | 3 => 3 | 9 => 9 | 4 => 4 | n => n, fun | n => n⟩
theorem Tryz.lays283 : Go.Proofs.Lays.n283 Tryz.prog Tryz.lays283_ren := {
  mixed := by kernel_rfl
  f283 := Tryz.func117.trans (congrArg some (by kernel_rfl))
  t3 := Tryz.underlying3
  a3 := Tryz.isAgg3
  z3 := Tryz.sizeOf3
  v3 := Tryz.zeroValue3
  t4 := Tryz.underlying4
  a4 := Tryz.isAgg4
  z4 := Tryz.sizeOf4
  v4 := Tryz.zeroValue4
  t9 := Tryz.underlying9
  a9 := Tryz.isAgg9
  z9 := Tryz.sizeOf9
  v9 := Tryz.zeroValue9 }
open Go.Lib in
/-- internal/strconv.small: "small returns the string for an i with 0 <= i < nSmalls.": i's decimal numeral. The world is as it was. (LAID: no walk: one application.) -/
theorem Tryz.internal_strconv_small (i : Nat) (h : i < 100) (w : World) :
    Calls Tryz.prog 117 #[.int .i64 i] w fun e w' => e = .returned (.string ⟨(Lib.decDigits i).toArray⟩) ∧ w' = w := Any.internal_strconv_small Tryz.lays283 i h w
def Tryz.laysM284_ren : Go.Shelf.Ren := ⟨fun | 284 => 118 | 129 => 168 | 317 => 167 | 318 => 169 | n => n, fun | 53 => 35 | 3 => 3 | 212 => 200 | 0 => 0 | 4 => 4 | 46 => 73 | 5 => 5 | 9 => 9 | n => n, fun | 17 => 1 | n => n⟩
theorem Tryz.laysM284 : Go.Proofs.LaysM.n284 Tryz.prog Tryz.laysM284_ren := {
  mixed := by kernel_rfl
  f129 := Tryz.func168.trans (congrArg some (by kernel_rfl))
  f284 := Tryz.func118.trans (congrArg some (by kernel_rfl))
  f317 := Tryz.func167.trans (congrArg some (by kernel_rfl))
  f318 := Tryz.func169.trans (congrArg some (by kernel_rfl))
  t0 := Tryz.underlying0
  a0 := Tryz.isAgg0
  z0 := Tryz.sizeOf0
  v0 := Tryz.zeroValue0
  t3 := Tryz.underlying3
  a3 := Tryz.isAgg3
  z3 := Tryz.sizeOf3
  v3 := Tryz.zeroValue3
  t4 := Tryz.underlying4
  a4 := Tryz.isAgg4
  z4 := Tryz.sizeOf4
  v4 := Tryz.zeroValue4
  t5 := Tryz.underlying5
  a5 := Tryz.isAgg5
  z5 := Tryz.sizeOf5
  v5 := Tryz.zeroValue5
  t9 := Tryz.underlying9
  a9 := Tryz.isAgg9
  z9 := Tryz.sizeOf9
  v9 := Tryz.zeroValue9
  t46 := Tryz.underlying73
  a46 := Tryz.isAgg73
  z46 := Tryz.sizeOf73
  v46 := Tryz.zeroValue73
  t53 := Tryz.underlying35
  a53 := Tryz.isAgg35
  z53 := Tryz.sizeOf35
  v53 := Tryz.zeroValue35
  t212 := Tryz.underlying200
  a212 := Tryz.isAgg200
  z212 := Tryz.sizeOf200
  v212 := Tryz.zeroValue200
  g17 := by kernel_rfl
  i0 := by kernel_rfl
  i3 := by kernel_rfl
  i4 := by kernel_rfl
  i5 := by kernel_rfl
  i9 := by kernel_rfl
  i46 := by kernel_rfl
  i53 := by kernel_rfl
  i212 := by kernel_rfl
  m17 := by kernel_rfl }
open Go.Lib in
/-- internal/strconv.numDigits, at a d that is not 0: THE NUMBER OF d's DECIMAL DIGITS. The world is as it was. (LAID: no walk: one application.) -/
theorem Tryz.internal_strconv_numDigits (u : Nat) (h1 : 1 ≤ u) (h2 : u < 18446744073709551616) (w : World) (htab : Lib.TabIs Tryz.prog w "internal/strconv.uint64pow10" .u64 Lib.pow10Tab) :
    Calls Tryz.prog 118 #[.int .u64 u] w fun e w' => e = .returned (.int .i64 (Lib.nDigits u)) ∧ w' = w := Any.internal_strconv_numDigits Tryz.laysM284 u h1 h2 w htab
def Tryz.lays285_ren : Go.Shelf.Ren := ⟨fun | 285 => 119 | n => n, fun | 37 => 23 | 53 => 35 | 3 => 3 | 4 => 4 | 51 => 22 | 9 => 9 | 5 => 5 | 0 => 0 | n => n, fun | n => n⟩
theorem Tryz.lays285 : Go.Proofs.Lays.n285 Tryz.prog Tryz.lays285_ren := {
  mixed := by kernel_rfl
  f285 := Tryz.func119.trans (congrArg some (by kernel_rfl))
  t0 := Tryz.underlying0
  a0 := Tryz.isAgg0
  z0 := Tryz.sizeOf0
  v0 := Tryz.zeroValue0
  t3 := Tryz.underlying3
  a3 := Tryz.isAgg3
  z3 := Tryz.sizeOf3
  v3 := Tryz.zeroValue3
  t4 := Tryz.underlying4
  a4 := Tryz.isAgg4
  z4 := Tryz.sizeOf4
  v4 := Tryz.zeroValue4
  t5 := Tryz.underlying5
  a5 := Tryz.isAgg5
  z5 := Tryz.sizeOf5
  v5 := Tryz.zeroValue5
  t9 := Tryz.underlying9
  a9 := Tryz.isAgg9
  z9 := Tryz.sizeOf9
  v9 := Tryz.zeroValue9
  t37 := Tryz.underlying23
  a37 := Tryz.isAgg23
  z37 := Tryz.sizeOf23
  v37 := Tryz.zeroValue23
  t51 := Tryz.underlying22
  a51 := Tryz.isAgg22
  z51 := Tryz.sizeOf22
  v51 := Tryz.zeroValue22
  t53 := Tryz.underlying35
  a53 := Tryz.isAgg35
  z53 := Tryz.sizeOf35
  v53 := Tryz.zeroValue35 }
open Go.RowKit Go.Sort Go.Lib in
/-- internal/strconv.formatBase10: "formatBase10 formats the decimal representation of u into a. The caller is responsible for ensuring that a is big enough to hold u. If a is too big, leading zeros will be filled in as needed.": THE ROW HOLDS u's DIGITS ('FmtInv .. 0 ..': every place t holds 'dg u (len - 1 - t)'); all else is as it was but for the count of draws. (LAID: no walk: one application.) -/
theorem Tryz.internal_strconv_formatBase10 (blk off cap : Nat) (u : Nat) (d : Array UInt8) (w : World) (hH : Holds (fun (b : UInt8) => Value.int .u8 (b.toNat : Int)) w blk off d) (hu : u < 10 ^ d.size) (hu64 : u < 18446744073709551616) (hsz : d.size < 4611686018427387904) :
    Calls Tryz.prog 119 #[.slice (some ⟨blk, off, none⟩) d.size cap, .int .u64 u] w fun e w' =>
      e = .returned (.tuple #[]) ∧ ∃ (n v' : Nat) (dk : Array UInt8), w' = (putRow (fun (b : UInt8) => Value.int .u8 (b.toNat : Int)) w blk off dk).drewN n ∧ FmtInv d.size u 0 v' dk := Any.internal_strconv_formatBase10 Tryz.lays285 blk off cap u d w hH hu hu64 hsz
def Tryz.laysM171_ren : Go.Shelf.Ren := ⟨fun | 171 => 61 | 243 => 87 | 246 => 121 | 283 => 117 | 284 => 118 | 285 => 119 | 286 => 120 | 129 => 168 | 317 => 167 | 318 => 169 | 319 => 170 | 320 => 171 | 337 => 207 | 338 => 208 | n => n, fun | 3 => 3 | 9 => 9 | 2 => 2 | 4 => 4 | 171 => 163 | 0 => 0 | 53 => 35 | 37 => 23 | 5 => 5 | 173 => 166 | 212 => 200 | 51 => 22 | 20 => 20 | 213 => 201 | 46 => 73 | 232 => 229 | 233 => 230 | n => n, fun | 17 => 1 | 18 => 4 | 19 => 5 | n => n⟩
theorem Tryz.laysM171 : Go.Proofs.LaysM.n171 Tryz.prog Tryz.laysM171_ren := {
  mixed := by kernel_rfl
  f129 := Tryz.func168.trans (congrArg some (by kernel_rfl))
  f171 := Tryz.func61.trans (congrArg some (by kernel_rfl))
  f243 := Tryz.func87.trans (congrArg some (by kernel_rfl))
  f246 := Tryz.func121.trans (congrArg some (by kernel_rfl))
  f283 := Tryz.func117.trans (congrArg some (by kernel_rfl))
  f284 := Tryz.func118.trans (congrArg some (by kernel_rfl))
  f285 := Tryz.func119.trans (congrArg some (by kernel_rfl))
  f286 := Tryz.func120.trans (congrArg some (by kernel_rfl))
  f317 := Tryz.func167.trans (congrArg some (by kernel_rfl))
  f318 := Tryz.func169.trans (congrArg some (by kernel_rfl))
  f319 := Tryz.func170.trans (congrArg some (by kernel_rfl))
  f320 := Tryz.func171.trans (congrArg some (by kernel_rfl))
  f337 := Tryz.func207.trans (congrArg some (by kernel_rfl))
  f338 := Tryz.func208.trans (congrArg some (by kernel_rfl))
  t0 := Tryz.underlying0
  a0 := Tryz.isAgg0
  z0 := Tryz.sizeOf0
  v0 := Tryz.zeroValue0
  t2 := Tryz.underlying2
  a2 := Tryz.isAgg2
  z2 := Tryz.sizeOf2
  v2 := Tryz.zeroValue2
  t3 := Tryz.underlying3
  a3 := Tryz.isAgg3
  z3 := Tryz.sizeOf3
  v3 := Tryz.zeroValue3
  t4 := Tryz.underlying4
  a4 := Tryz.isAgg4
  z4 := Tryz.sizeOf4
  v4 := Tryz.zeroValue4
  t5 := Tryz.underlying5
  a5 := Tryz.isAgg5
  z5 := Tryz.sizeOf5
  v5 := Tryz.zeroValue5
  t9 := Tryz.underlying9
  a9 := Tryz.isAgg9
  z9 := Tryz.sizeOf9
  v9 := Tryz.zeroValue9
  t20 := Tryz.underlying20
  a20 := Tryz.isAgg20
  z20 := Tryz.sizeOf20
  v20 := Tryz.zeroValue20
  t37 := Tryz.underlying23
  a37 := Tryz.isAgg23
  z37 := Tryz.sizeOf23
  v37 := Tryz.zeroValue23
  t46 := Tryz.underlying73
  a46 := Tryz.isAgg73
  z46 := Tryz.sizeOf73
  v46 := Tryz.zeroValue73
  t51 := Tryz.underlying22
  a51 := Tryz.isAgg22
  z51 := Tryz.sizeOf22
  v51 := Tryz.zeroValue22
  t53 := Tryz.underlying35
  a53 := Tryz.isAgg35
  z53 := Tryz.sizeOf35
  v53 := Tryz.zeroValue35
  t171 := Tryz.underlying163
  a171 := Tryz.isAgg163
  z171 := Tryz.sizeOf163
  v171 := Tryz.zeroValue163
  t173 := Tryz.underlying166
  a173 := Tryz.isAgg166
  z173 := Tryz.sizeOf166
  v173 := Tryz.zeroValue166
  t212 := Tryz.underlying200
  a212 := Tryz.isAgg200
  z212 := Tryz.sizeOf200
  v212 := Tryz.zeroValue200
  t213 := Tryz.underlying201
  a213 := Tryz.isAgg201
  z213 := Tryz.sizeOf201
  t232 := Tryz.underlying229
  a232 := Tryz.isAgg229
  z232 := Tryz.sizeOf229
  v232 := Tryz.zeroValue229
  t233 := Tryz.underlying230
  a233 := Tryz.isAgg230
  z233 := Tryz.sizeOf230
  v233 := Tryz.zeroValue230
  g17 := by kernel_rfl
  g18 := by kernel_rfl
  g19 := by kernel_rfl
  i0 := by kernel_rfl
  i2 := by kernel_rfl
  i3 := by kernel_rfl
  i4 := by kernel_rfl
  i5 := by kernel_rfl
  i9 := by kernel_rfl
  i20 := by kernel_rfl
  i37 := by kernel_rfl
  i46 := by kernel_rfl
  i51 := by kernel_rfl
  i53 := by kernel_rfl
  i171 := by kernel_rfl
  i173 := by kernel_rfl
  i212 := by kernel_rfl
  i232 := by kernel_rfl
  i233 := by kernel_rfl
  m17 := by kernel_rfl
  m18 := by kernel_rfl
  m19 := by kernel_rfl }
open Go.RowKit Go.Sort Go.Lib in
/-- strconv.Itoa: "Itoa is equivalent to FormatInt(int64(i), 10).": i's DECIMAL NUMERAL ('Lib.itoa': a '-' where i is negative, then the digits), FOR EVERY int. The world behind the call: the world before it, new blocks behind the heap (the library's 'var a [24]byte'), draws. (LAID: no walk: one application.) -/
theorem Tryz.strconv_Itoa (n : Int) (h0 : -9223372036854775808 ≤ n) (h1 : n ≤ 9223372036854775807) (w : World) (htab : Lib.TabIs Tryz.prog w "internal/strconv.uint64pow10" .u64 Lib.pow10Tab) :
    Calls Tryz.prog 61 #[.int .i64 n] w fun e w' => e = .returned (.string ⟨(Lib.itoa n).toArray⟩) ∧ ∃ k os, w' = grow (w.drewN k) os := Any.strconv_Itoa Tryz.laysM171 n h0 h1 w htab
def Tryz.laysM279_ren : Go.Shelf.Ren := ⟨fun | 279 => 226 | 316 => 234 | n => n, fun | 9 => 9 | 168 => 235 | 75 => 119 | 210 => 243 | 3 => 3 | 4 => 4 | 37 => 23 | 0 => 0 | 127 => 144 | 80 => 122 | 5 => 5 | n => n, fun | 15 => 7 | n => n⟩
theorem Tryz.laysM279 : Go.Proofs.LaysM.n279 Tryz.prog Tryz.laysM279_ren := {
  mixed := by kernel_rfl
  f279 := Tryz.func226.trans (congrArg some (by kernel_rfl))
  f316 := Tryz.func234.trans (congrArg some (by kernel_rfl))
  t0 := Tryz.underlying0
  a0 := Tryz.isAgg0
  z0 := Tryz.sizeOf0
  v0 := Tryz.zeroValue0
  t3 := Tryz.underlying3
  a3 := Tryz.isAgg3
  z3 := Tryz.sizeOf3
  v3 := Tryz.zeroValue3
  t4 := Tryz.underlying4
  a4 := Tryz.isAgg4
  z4 := Tryz.sizeOf4
  v4 := Tryz.zeroValue4
  t9 := Tryz.underlying9
  a9 := Tryz.isAgg9
  z9 := Tryz.sizeOf9
  v9 := Tryz.zeroValue9
  t37 := Tryz.underlying23
  a37 := Tryz.isAgg23
  z37 := Tryz.sizeOf23
  v37 := Tryz.zeroValue23
  t75 := Tryz.underlying119
  a75 := Tryz.isAgg119
  z75 := Tryz.sizeOf119
  v75 := Tryz.zeroValue119
  t127 := Tryz.underlying144
  a127 := Tryz.isAgg144
  z127 := Tryz.sizeOf144
  v127 := Tryz.zeroValue144
  t168 := Tryz.underlying235
  a168 := Tryz.isAgg235
  z168 := Tryz.sizeOf235
  v168 := Tryz.zeroValue235
  t210 := Tryz.underlying243
  a210 := Tryz.isAgg243
  z210 := Tryz.sizeOf243
  v210 := Tryz.zeroValue243
  g15 := by kernel_rfl
  t5 := Tryz.underlying5
  a5 := Tryz.isAgg5
  z5 := Tryz.sizeOf5
  v5 := Tryz.zeroValue5
  t80 := Tryz.underlying122
  a80 := Tryz.isAgg122
  z80 := Tryz.sizeOf122
  v80 := Tryz.zeroValue122
  i0 := by kernel_rfl
  i3 := by kernel_rfl
  i4 := by kernel_rfl
  i5 := by kernel_rfl
  i9 := by kernel_rfl
  i37 := by kernel_rfl
  i75 := by kernel_rfl
  i80 := by kernel_rfl
  i127 := by kernel_rfl
  i168 := by kernel_rfl
  i210 := by kernel_rfl
  m15 := by kernel_rfl }
open Go.RowKit in
/-- strconv.syntaxError: '&NumError{fn, stringslite.Clone(str), ErrSyntax}': A POINTER TO A NEW BLOCK that holds fn, str's bytes, and what the variable ErrSyntax holds. Of what was there nothing has turned. (LAID: no walk: one application.) -/
theorem Tryz.strconv_syntaxError (fn s : ByteArray) (ev : Value) (w : World) (hlim : s.size ≤ 281474976710656) (hv : w.cell? ⟨7, 0, none⟩ = some ev) (hev : ev = .nilIface ∨ ∃ te pe, ev = .iface te pe) :
    Calls Tryz.prog 226 #[.string fn, .string s] w fun e w' => ∃ N, e = .returned (.pointer (some ⟨N, 0, none⟩)) ∧ w.heap.size ≤ N ∧ w'.heap[N]? = some (.cells #[.string fn, .string s, ev] 243 (0, 0)) ∧ Below w.heap.size w w' := Any.strconv_syntaxError Tryz.laysM279 fn s ev w hlim hv hev
def Tryz.lays287_ren : Go.Shelf.Ren := ⟨fun | 287 => 223 | 321 => 232 | 322 => 233 | n => n, fun | 9 => 9 | 3 => 3 | 53 => 35 | 75 => 119 | 4 => 4 | 167 => 232 | 5 => 5 | 46 => 73 | 37 => 23 | 0 => 0 | 21 => 21 | 80 => 122 | n => n, fun | n => n⟩
theorem Tryz.lays287 : Go.Proofs.Lays.n287 Tryz.prog Tryz.lays287_ren := {
  mixed := by kernel_rfl
  f287 := Tryz.func223.trans (congrArg some (by kernel_rfl))
  f321 := Tryz.func232.trans (congrArg some (by kernel_rfl))
  f322 := Tryz.func233.trans (congrArg some (by kernel_rfl))
  t0 := Tryz.underlying0
  a0 := Tryz.isAgg0
  z0 := Tryz.sizeOf0
  v0 := Tryz.zeroValue0
  t3 := Tryz.underlying3
  a3 := Tryz.isAgg3
  z3 := Tryz.sizeOf3
  v3 := Tryz.zeroValue3
  t4 := Tryz.underlying4
  a4 := Tryz.isAgg4
  z4 := Tryz.sizeOf4
  v4 := Tryz.zeroValue4
  t5 := Tryz.underlying5
  a5 := Tryz.isAgg5
  z5 := Tryz.sizeOf5
  v5 := Tryz.zeroValue5
  t9 := Tryz.underlying9
  a9 := Tryz.isAgg9
  z9 := Tryz.sizeOf9
  v9 := Tryz.zeroValue9
  t21 := Tryz.underlying21
  a21 := Tryz.isAgg21
  z21 := Tryz.sizeOf21
  v21 := Tryz.zeroValue21
  t37 := Tryz.underlying23
  a37 := Tryz.isAgg23
  z37 := Tryz.sizeOf23
  v37 := Tryz.zeroValue23
  t46 := Tryz.underlying73
  a46 := Tryz.isAgg73
  z46 := Tryz.sizeOf73
  v46 := Tryz.zeroValue73
  t53 := Tryz.underlying35
  a53 := Tryz.isAgg35
  z53 := Tryz.sizeOf35
  v53 := Tryz.zeroValue35
  t75 := Tryz.underlying119
  a75 := Tryz.isAgg119
  z75 := Tryz.sizeOf119
  v75 := Tryz.zeroValue119
  t167 := Tryz.underlying232
  a167 := Tryz.isAgg232
  z167 := Tryz.sizeOf232
  v167 := Tryz.zeroValue232 }
open Go.RowKit in
/-- internal/strconv.ParseUint(s, 10, 0), s NOT EMPTY: 'Lib.parseUint10 0' OF ITS BYTES: the number; or (0, ErrSyntax); or (the greatest uint64, ErrRange). The world behind the call: the one new row that '[]byte(s)' lays. (LAID: no walk: one application.) -/
theorem Tryz.internal_strconv_ParseUint_10 (t : ByteArray) (hne : t.size ≠ 0) (hmax : t.size ≤ 9223372036854775806) (w : World) :
    Calls Tryz.prog 223 #[.string t, .int .i64 10, .int .i64 0] w fun e w' => e = .returned (Lib.uintTuple 232 (Lib.parseUint10 0 t.data.toList)) ∧ w' = Lib.bytesWorld w 5 t := Any.internal_strconv_ParseUint_10 Tryz.lays287 t hne hmax w
open Go.RowKit in
/-- internal/strconv.ParseUint(s, 10, 0): 'Lib.parseMag' OF ITS BYTES. The world: as it was (the empty string), or with the one new row that '[]byte(s)' lays. (LAID: no walk: one application.) -/
theorem Tryz.internal_strconv_ParseUint_10_any (t : ByteArray) (hmax : t.size ≤ 9223372036854775806) (w : World) :
    Calls Tryz.prog 223 #[.string t, .int .i64 10, .int .i64 0] w fun e w' => e = .returned (Lib.uintTuple 232 (Lib.parseMag t.data.toList)) ∧ (w' = w ∨ w' = Lib.bytesWorld w 5 t) := Any.internal_strconv_ParseUint_10_any Tryz.lays287 t hmax w
def Tryz.laysM280_ren : Go.Shelf.Ren := ⟨fun | 280 => 227 | 316 => 234 | n => n, fun | 9 => 9 | 168 => 235 | 75 => 119 | 210 => 243 | 3 => 3 | 4 => 4 | 37 => 23 | 0 => 0 | 127 => 144 | 80 => 122 | 5 => 5 | n => n, fun | 16 => 8 | n => n⟩
theorem Tryz.laysM280 : Go.Proofs.LaysM.n280 Tryz.prog Tryz.laysM280_ren := {
  mixed := by kernel_rfl
  f280 := Tryz.func227.trans (congrArg some (by kernel_rfl))
  f316 := Tryz.func234.trans (congrArg some (by kernel_rfl))
  t0 := Tryz.underlying0
  a0 := Tryz.isAgg0
  z0 := Tryz.sizeOf0
  v0 := Tryz.zeroValue0
  t3 := Tryz.underlying3
  a3 := Tryz.isAgg3
  z3 := Tryz.sizeOf3
  v3 := Tryz.zeroValue3
  t4 := Tryz.underlying4
  a4 := Tryz.isAgg4
  z4 := Tryz.sizeOf4
  v4 := Tryz.zeroValue4
  t9 := Tryz.underlying9
  a9 := Tryz.isAgg9
  z9 := Tryz.sizeOf9
  v9 := Tryz.zeroValue9
  t37 := Tryz.underlying23
  a37 := Tryz.isAgg23
  z37 := Tryz.sizeOf23
  v37 := Tryz.zeroValue23
  t75 := Tryz.underlying119
  a75 := Tryz.isAgg119
  z75 := Tryz.sizeOf119
  v75 := Tryz.zeroValue119
  t127 := Tryz.underlying144
  a127 := Tryz.isAgg144
  z127 := Tryz.sizeOf144
  v127 := Tryz.zeroValue144
  t168 := Tryz.underlying235
  a168 := Tryz.isAgg235
  z168 := Tryz.sizeOf235
  v168 := Tryz.zeroValue235
  t210 := Tryz.underlying243
  a210 := Tryz.isAgg243
  z210 := Tryz.sizeOf243
  v210 := Tryz.zeroValue243
  g16 := by kernel_rfl
  t5 := Tryz.underlying5
  a5 := Tryz.isAgg5
  z5 := Tryz.sizeOf5
  v5 := Tryz.zeroValue5
  t80 := Tryz.underlying122
  a80 := Tryz.isAgg122
  z80 := Tryz.sizeOf122
  v80 := Tryz.zeroValue122
  i0 := by kernel_rfl
  i3 := by kernel_rfl
  i4 := by kernel_rfl
  i5 := by kernel_rfl
  i9 := by kernel_rfl
  i37 := by kernel_rfl
  i75 := by kernel_rfl
  i80 := by kernel_rfl
  i127 := by kernel_rfl
  i168 := by kernel_rfl
  i210 := by kernel_rfl
  m16 := by kernel_rfl }
open Go.RowKit in
/-- strconv.rangeError: '&NumError{fn, stringslite.Clone(str), ErrRange}': A POINTER TO A NEW BLOCK that holds fn, str's bytes, and what the variable ErrRange holds. Of what was there nothing has turned. (LAID: no walk: one application.) -/
theorem Tryz.strconv_rangeError (fn s : ByteArray) (ev : Value) (w : World) (hlim : s.size ≤ 281474976710656) (hv : w.cell? ⟨8, 0, none⟩ = some ev) (hev : ev = .nilIface ∨ ∃ te pe, ev = .iface te pe) :
    Calls Tryz.prog 227 #[.string fn, .string s] w fun e w' => ∃ N, e = .returned (.pointer (some ⟨N, 0, none⟩)) ∧ w.heap.size ≤ N ∧ w'.heap[N]? = some (.cells #[.string fn, .string s, ev] 243 (0, 0)) ∧ Below w.heap.size w w' := Any.strconv_rangeError Tryz.laysM280 fn s ev w hlim hv hev
def Tryz.laysC172_ren : Go.Shelf.Ren := ⟨fun | 172 => 191 | 244 => 215 | 245 => 216 | 247 => 225 | 279 => 226 | 280 => 227 | 281 => 228 | 282 => 229 | 287 => 223 | 316 => 234 | 171 => 61 | 205 => 235 | 321 => 232 | 322 => 233 | 243 => 87 | 246 => 121 | 283 => 117 | 284 => 118 | 285 => 119 | 286 => 120 | 129 => 168 | 317 => 167 | 318 => 169 | 319 => 170 | 320 => 171 | 337 => 207 | 338 => 208 | n => n, fun | 9 => 9 | 3 => 3 | 75 => 119 | 76 => 120 | 4 => 4 | 5 => 5 | 167 => 232 | 37 => 23 | 0 => 0 | 85 => 233 | 2 => 2 | 168 => 235 | 53 => 35 | 175 => 212 | 46 => 73 | 210 => 243 | 127 => 144 | 145 => 250 | 143 => 248 | 21 => 21 | 171 => 163 | 173 => 166 | 212 => 200 | 51 => 22 | 20 => 20 | 213 => 201 | 232 => 229 | 233 => 230 | 80 => 122 | n => n, fun | 15 => 7 | 16 => 8 | 17 => 1 | 18 => 4 | 19 => 5 | n => n⟩
theorem Tryz.laysC172 : Go.Proofs.LaysC.n172 Tryz.prog Tryz.laysC172_ren := {
  mixed := by kernel_rfl
  f129 := Tryz.func168.trans (congrArg some (by kernel_rfl))
  f171 := Tryz.func61.trans (congrArg some (by kernel_rfl))
  f172 := Tryz.func191.trans (congrArg some (by kernel_rfl))
  f205 := Tryz.func235.trans (congrArg some (by kernel_rfl))
  f243 := Tryz.func87.trans (congrArg some (by kernel_rfl))
  f244 := Tryz.func215.trans (congrArg some (by kernel_rfl))
  f245 := Tryz.func216.trans (congrArg some (by kernel_rfl))
  f246 := Tryz.func121.trans (congrArg some (by kernel_rfl))
  f247 := Tryz.func225.trans (congrArg some (by kernel_rfl))
  f279 := Tryz.func226.trans (congrArg some (by kernel_rfl))
  f280 := Tryz.func227.trans (congrArg some (by kernel_rfl))
  f281 := Tryz.func228.trans (congrArg some (by kernel_rfl))
  f282 := Tryz.func229.trans (congrArg some (by kernel_rfl))
  f283 := Tryz.func117.trans (congrArg some (by kernel_rfl))
  f284 := Tryz.func118.trans (congrArg some (by kernel_rfl))
  f285 := Tryz.func119.trans (congrArg some (by kernel_rfl))
  f286 := Tryz.func120.trans (congrArg some (by kernel_rfl))
  f287 := Tryz.func223.trans (congrArg some (by kernel_rfl))
  f316 := Tryz.func234.trans (congrArg some (by kernel_rfl))
  f317 := Tryz.func167.trans (congrArg some (by kernel_rfl))
  f318 := Tryz.func169.trans (congrArg some (by kernel_rfl))
  f319 := Tryz.func170.trans (congrArg some (by kernel_rfl))
  f320 := Tryz.func171.trans (congrArg some (by kernel_rfl))
  f321 := Tryz.func232.trans (congrArg some (by kernel_rfl))
  f322 := Tryz.func233.trans (congrArg some (by kernel_rfl))
  f337 := Tryz.func207.trans (congrArg some (by kernel_rfl))
  f338 := Tryz.func208.trans (congrArg some (by kernel_rfl))
  t0 := Tryz.underlying0
  a0 := Tryz.isAgg0
  z0 := Tryz.sizeOf0
  v0 := Tryz.zeroValue0
  t2 := Tryz.underlying2
  a2 := Tryz.isAgg2
  z2 := Tryz.sizeOf2
  v2 := Tryz.zeroValue2
  t3 := Tryz.underlying3
  a3 := Tryz.isAgg3
  z3 := Tryz.sizeOf3
  v3 := Tryz.zeroValue3
  t4 := Tryz.underlying4
  a4 := Tryz.isAgg4
  z4 := Tryz.sizeOf4
  v4 := Tryz.zeroValue4
  t5 := Tryz.underlying5
  a5 := Tryz.isAgg5
  z5 := Tryz.sizeOf5
  v5 := Tryz.zeroValue5
  t9 := Tryz.underlying9
  a9 := Tryz.isAgg9
  z9 := Tryz.sizeOf9
  v9 := Tryz.zeroValue9
  t20 := Tryz.underlying20
  a20 := Tryz.isAgg20
  z20 := Tryz.sizeOf20
  v20 := Tryz.zeroValue20
  t21 := Tryz.underlying21
  a21 := Tryz.isAgg21
  z21 := Tryz.sizeOf21
  v21 := Tryz.zeroValue21
  t37 := Tryz.underlying23
  a37 := Tryz.isAgg23
  z37 := Tryz.sizeOf23
  v37 := Tryz.zeroValue23
  t46 := Tryz.underlying73
  a46 := Tryz.isAgg73
  z46 := Tryz.sizeOf73
  v46 := Tryz.zeroValue73
  t51 := Tryz.underlying22
  a51 := Tryz.isAgg22
  z51 := Tryz.sizeOf22
  v51 := Tryz.zeroValue22
  t53 := Tryz.underlying35
  a53 := Tryz.isAgg35
  z53 := Tryz.sizeOf35
  v53 := Tryz.zeroValue35
  t75 := Tryz.underlying119
  a75 := Tryz.isAgg119
  z75 := Tryz.sizeOf119
  v75 := Tryz.zeroValue119
  t76 := Tryz.underlying120
  a76 := Tryz.isAgg120
  z76 := Tryz.sizeOf120
  v76 := Tryz.zeroValue120
  t85 := Tryz.underlying233
  a85 := Tryz.isAgg233
  z85 := Tryz.sizeOf233
  v85 := Tryz.zeroValue233
  t127 := Tryz.underlying144
  a127 := Tryz.isAgg144
  z127 := Tryz.sizeOf144
  v127 := Tryz.zeroValue144
  t143 := Tryz.underlying248
  a143 := Tryz.isAgg248
  z143 := Tryz.sizeOf248
  v143 := Tryz.zeroValue248
  t145 := Tryz.underlying250
  a145 := Tryz.isAgg250
  z145 := Tryz.sizeOf250
  v145 := Tryz.zeroValue250
  t167 := Tryz.underlying232
  a167 := Tryz.isAgg232
  z167 := Tryz.sizeOf232
  v167 := Tryz.zeroValue232
  t168 := Tryz.underlying235
  a168 := Tryz.isAgg235
  z168 := Tryz.sizeOf235
  v168 := Tryz.zeroValue235
  t171 := Tryz.underlying163
  a171 := Tryz.isAgg163
  z171 := Tryz.sizeOf163
  v171 := Tryz.zeroValue163
  t173 := Tryz.underlying166
  a173 := Tryz.isAgg166
  z173 := Tryz.sizeOf166
  v173 := Tryz.zeroValue166
  t175 := Tryz.underlying212
  a175 := Tryz.isAgg212
  z175 := Tryz.sizeOf212
  v175 := Tryz.zeroValue212
  t210 := Tryz.underlying243
  a210 := Tryz.isAgg243
  z210 := Tryz.sizeOf243
  v210 := Tryz.zeroValue243
  t212 := Tryz.underlying200
  a212 := Tryz.isAgg200
  z212 := Tryz.sizeOf200
  v212 := Tryz.zeroValue200
  t213 := Tryz.underlying201
  a213 := Tryz.isAgg201
  z213 := Tryz.sizeOf201
  t232 := Tryz.underlying229
  a232 := Tryz.isAgg229
  z232 := Tryz.sizeOf229
  v232 := Tryz.zeroValue229
  t233 := Tryz.underlying230
  a233 := Tryz.isAgg230
  z233 := Tryz.sizeOf230
  v233 := Tryz.zeroValue230
  g15 := by kernel_rfl
  g16 := by kernel_rfl
  g17 := by kernel_rfl
  g18 := by kernel_rfl
  g19 := by kernel_rfl
  t80 := Tryz.underlying122
  a80 := Tryz.isAgg122
  z80 := Tryz.sizeOf122
  v80 := Tryz.zeroValue122
  i0 := by kernel_rfl
  i2 := by kernel_rfl
  i3 := by kernel_rfl
  i4 := by kernel_rfl
  i5 := by kernel_rfl
  i9 := by kernel_rfl
  i20 := by kernel_rfl
  i21 := by kernel_rfl
  i37 := by kernel_rfl
  i46 := by kernel_rfl
  i51 := by kernel_rfl
  i53 := by kernel_rfl
  i75 := by kernel_rfl
  i76 := by kernel_rfl
  i80 := by kernel_rfl
  i85 := by kernel_rfl
  i127 := by kernel_rfl
  i143 := by kernel_rfl
  i145 := by kernel_rfl
  i167 := by kernel_rfl
  i168 := by kernel_rfl
  i171 := by kernel_rfl
  i173 := by kernel_rfl
  i175 := by kernel_rfl
  i210 := by kernel_rfl
  i212 := by kernel_rfl
  i232 := by kernel_rfl
  i233 := by kernel_rfl
  m15 := by kernel_rfl
  m16 := by kernel_rfl
  m17 := by kernel_rfl
  m18 := by kernel_rfl
  m19 := by kernel_rfl
  c0 := by kernel_rfl
  c2 := by kernel_rfl
  c3 := by kernel_rfl
  c4 := by kernel_rfl
  c5 := by kernel_rfl
  c9 := by kernel_rfl
  c20 := by kernel_rfl
  c21 := by kernel_rfl
  c37 := by kernel_rfl
  c46 := by kernel_rfl
  c51 := by kernel_rfl
  c53 := by kernel_rfl
  c75 := by kernel_rfl
  c76 := by kernel_rfl
  c80 := by kernel_rfl
  c85 := by kernel_rfl
  c127 := by kernel_rfl
  c143 := by kernel_rfl
  c145 := by kernel_rfl
  c167 := by kernel_rfl
  c168 := by kernel_rfl
  c171 := by kernel_rfl
  c173 := by kernel_rfl
  c175 := by kernel_rfl
  c210 := by kernel_rfl
  c212 := by kernel_rfl
  c213 := by kernel_rfl
  c232 := by kernel_rfl
  c233 := by kernel_rfl }
open Go.RowKit in
/-- strconv.Atoi, AT EVERY STRING THAT SPELLS AN int ('Lib.atoiAll .. = .ok v'; of whatever length: leading zeros count): v, AND NO ERROR. The world: as it was, or with the one new row that '[]byte(..)' lays. (LAID: no walk: one application.) -/
theorem Tryz.strconv_Atoi_ok (s : ByteArray) (hmax : s.size ≤ 9223372036854775806) (v : Int) (h : Lib.atoiAll s.data.toList = .ok v) (w : World) :
    Calls Tryz.prog 191 #[.string s] w fun e w' => e = .returned (.tuple #[.int .i64 v, .nilIface]) ∧ (w' = w ∨ ∃ t, w' = Lib.bytesWorld w 5 t) := Any.strconv_Atoi_ok Tryz.laysC172 s hmax v h w
open Go.RowKit in
/-- strconv.Atoi, AT EVERY STRING THAT IS NO DECIMAL NUMERAL (a bad numeral): 0, AND AN ERROR THAT IS NOT nil: a *NumError in a new block N: {Func: "Atoi", Num: s's bytes, Err: what the variable ErrSyntax holds}. Of what was there nothing has turned. (LAID: no walk: one application.) -/
theorem Tryz.strconv_Atoi_syntax (s : ByteArray) (hlim : s.size ≤ 281474976710656) (h : Lib.atoiAll s.data.toList = Lib.atoiAll []) (ev : Value) (w : World) (hv : w.cell? ⟨7, 0, none⟩ = some ev) (hev : ev = .nilIface ∨ ∃ te pe, ev = .iface te pe) :
    Calls Tryz.prog 191 #[.string s] w fun e w' => ∃ N, e = .returned (.tuple #[.int .i64 (0), .iface 235 (.pointer (some ⟨N, 0, none⟩))]) ∧ w.heap.size ≤ N ∧ w'.heap[N]? = some (.cells #[.string ⟨#[65, 116, 111, 105]⟩, .string s, ev] 243 (0, 0)) ∧ Below w.heap.size w w' := Any.strconv_Atoi_syntax Tryz.laysC172 s hlim (h.trans (by kernel_rfl)) ev w hv hev
open Go.RowKit in
/-- strconv.Atoi, AT EVERY NUMERAL THAT NO int HOLDS ('.range'): THE GREATEST OR THE LEAST int, BY THE SIGN ('Lib.atoiSat'), AND AN ERROR THAT IS NOT nil: a *NumError in a new block N: {Func: "Atoi", Num: s's bytes, Err: what the variable ErrRange holds}. Of what was there nothing has turned. (LAID: no walk: one application.) -/
theorem Tryz.strconv_Atoi_range (s : ByteArray) (hlim : s.size ≤ 281474976710656) (h : Lib.atoiAll s.data.toList = .range) (ev : Value) (w : World) (hv : w.cell? ⟨8, 0, none⟩ = some ev) (hev : ev = .nilIface ∨ ∃ te pe, ev = .iface te pe) :
    Calls Tryz.prog 191 #[.string s] w fun e w' => ∃ N, e = .returned (.tuple #[.int .i64 (Lib.atoiSat s.data.toList), .iface 235 (.pointer (some ⟨N, 0, none⟩))]) ∧ w.heap.size ≤ N ∧ w'.heap[N]? = some (.cells #[.string ⟨#[65, 116, 111, 105]⟩, .string s, ev] 243 (0, 0)) ∧ Below w.heap.size w w' := Any.strconv_Atoi_range Tryz.laysC172 s hlim h ev w hv hev
open Go.RowKit in
/-- internal/strconv.ParseUint("", base, bitSize): (0, ErrSyntax): the first test of the text. The world is as it was. (LAID: no walk: one application.) -/
theorem Tryz.internal_strconv_ParseUint_empty (base bits : Int) (w : World) :
    Calls Tryz.prog 223 #[.string ⟨#[]⟩, .int .i64 base, .int .i64 bits] w fun e w' => e = .returned (.tuple #[.int .u64 0, .iface 232 (.int .i64 2)]) ∧ w' = w := Any.internal_strconv_ParseUint_empty Tryz.lays287 base bits w
open Go.RowKit in
/-- internal/strconv.ParseUint(s, 10, 32), s NOT EMPTY: 'Lib.parseUintM 4294967295 0' OF ITS BYTES: the number; or (0, ErrSyntax); or (the greatest uint32, ErrRange). The world behind the call: the one new row that '[]byte(s)' lays. (LAID: no walk: one application.) -/
theorem Tryz.internal_strconv_ParseUint_10_b32 (t : ByteArray) (hne : t.size ≠ 0) (hmax : t.size ≤ 9223372036854775806) (w : World) :
    Calls Tryz.prog 223 #[.string t, .int .i64 10, .int .i64 32] w fun e w' => e = .returned (Lib.uintTupleM 232 4294967295 (Lib.parseUintM 4294967295 0 t.data.toList)) ∧ w' = Lib.bytesWorld w 5 t := Any.internal_strconv_ParseUint_10_b32 Tryz.lays287 t hne hmax w
def Tryz.laysPu14_ren : Go.Shelf.Ren := ⟨fun | 14 => 202 | 16 => 223 | 17 => 216 | 19 => 232 | 20 => 233 | 21 => 226 | 22 => 227 | 23 => 228 | 24 => 229 | 25 => 234 | 27 => 61 | 26 => 235 | 28 => 87 | 29 => 121 | 30 => 117 | 31 => 118 | 32 => 119 | 33 => 120 | 35 => 168 | 34 => 167 | 36 => 169 | 37 => 170 | 38 => 171 | 39 => 207 | 40 => 208 | n => n, fun | 9 => 9 | 3 => 3 | 22 => 35 | 24 => 119 | 25 => 212 | 4 => 4 | 34 => 232 | 5 => 5 | 36 => 73 | 37 => 23 | 0 => 0 | 39 => 235 | 21 => 21 | 44 => 243 | 47 => 144 | 50 => 250 | 48 => 248 | 2 => 2 | 52 => 163 | 55 => 166 | 59 => 200 | 60 => 22 | 20 => 20 | 61 => 201 | 65 => 229 | 66 => 230 | 67 => 122 | n => n, fun | 0 => 7 | 1 => 8 | 2 => 1 | 3 => 4 | 4 => 5 | n => n⟩
theorem Tryz.laysPu14 : Go.Proofs.LaysPu.n14 Tryz.prog Tryz.laysPu14_ren := {
  mixed := by kernel_rfl
  f14 := Tryz.func202.trans (congrArg some (by kernel_rfl))
  f16 := Tryz.func223.trans (congrArg some (by kernel_rfl))
  f17 := Tryz.func216.trans (congrArg some (by kernel_rfl))
  f19 := Tryz.func232.trans (congrArg some (by kernel_rfl))
  f20 := Tryz.func233.trans (congrArg some (by kernel_rfl))
  f21 := Tryz.func226.trans (congrArg some (by kernel_rfl))
  f22 := Tryz.func227.trans (congrArg some (by kernel_rfl))
  f23 := Tryz.func228.trans (congrArg some (by kernel_rfl))
  f24 := Tryz.func229.trans (congrArg some (by kernel_rfl))
  f25 := Tryz.func234.trans (congrArg some (by kernel_rfl))
  f26 := Tryz.func235.trans (congrArg some (by kernel_rfl))
  f27 := Tryz.func61.trans (congrArg some (by kernel_rfl))
  f28 := Tryz.func87.trans (congrArg some (by kernel_rfl))
  f29 := Tryz.func121.trans (congrArg some (by kernel_rfl))
  f30 := Tryz.func117.trans (congrArg some (by kernel_rfl))
  f31 := Tryz.func118.trans (congrArg some (by kernel_rfl))
  f32 := Tryz.func119.trans (congrArg some (by kernel_rfl))
  f33 := Tryz.func120.trans (congrArg some (by kernel_rfl))
  f34 := Tryz.func167.trans (congrArg some (by kernel_rfl))
  f35 := Tryz.func168.trans (congrArg some (by kernel_rfl))
  f36 := Tryz.func169.trans (congrArg some (by kernel_rfl))
  f37 := Tryz.func170.trans (congrArg some (by kernel_rfl))
  f38 := Tryz.func171.trans (congrArg some (by kernel_rfl))
  f39 := Tryz.func207.trans (congrArg some (by kernel_rfl))
  f40 := Tryz.func208.trans (congrArg some (by kernel_rfl))
  t0 := Tryz.underlying0
  a0 := Tryz.isAgg0
  z0 := Tryz.sizeOf0
  v0 := Tryz.zeroValue0
  i0 := by kernel_rfl
  t2 := Tryz.underlying2
  a2 := Tryz.isAgg2
  z2 := Tryz.sizeOf2
  v2 := Tryz.zeroValue2
  i2 := by kernel_rfl
  t3 := Tryz.underlying3
  a3 := Tryz.isAgg3
  z3 := Tryz.sizeOf3
  v3 := Tryz.zeroValue3
  i3 := by kernel_rfl
  t4 := Tryz.underlying4
  a4 := Tryz.isAgg4
  z4 := Tryz.sizeOf4
  v4 := Tryz.zeroValue4
  i4 := by kernel_rfl
  t5 := Tryz.underlying5
  a5 := Tryz.isAgg5
  z5 := Tryz.sizeOf5
  v5 := Tryz.zeroValue5
  i5 := by kernel_rfl
  t9 := Tryz.underlying9
  a9 := Tryz.isAgg9
  z9 := Tryz.sizeOf9
  v9 := Tryz.zeroValue9
  i9 := by kernel_rfl
  t20 := Tryz.underlying20
  a20 := Tryz.isAgg20
  z20 := Tryz.sizeOf20
  v20 := Tryz.zeroValue20
  i20 := by kernel_rfl
  t21 := Tryz.underlying21
  a21 := Tryz.isAgg21
  z21 := Tryz.sizeOf21
  v21 := Tryz.zeroValue21
  i21 := by kernel_rfl
  t22 := Tryz.underlying35
  a22 := Tryz.isAgg35
  z22 := Tryz.sizeOf35
  v22 := Tryz.zeroValue35
  i22 := by kernel_rfl
  t24 := Tryz.underlying119
  a24 := Tryz.isAgg119
  z24 := Tryz.sizeOf119
  v24 := Tryz.zeroValue119
  i24 := by kernel_rfl
  t25 := Tryz.underlying212
  a25 := Tryz.isAgg212
  z25 := Tryz.sizeOf212
  v25 := Tryz.zeroValue212
  i25 := by kernel_rfl
  t34 := Tryz.underlying232
  a34 := Tryz.isAgg232
  z34 := Tryz.sizeOf232
  v34 := Tryz.zeroValue232
  i34 := by kernel_rfl
  c34 := by kernel_rfl
  t36 := Tryz.underlying73
  a36 := Tryz.isAgg73
  z36 := Tryz.sizeOf73
  v36 := Tryz.zeroValue73
  i36 := by kernel_rfl
  t37 := Tryz.underlying23
  a37 := Tryz.isAgg23
  z37 := Tryz.sizeOf23
  v37 := Tryz.zeroValue23
  i37 := by kernel_rfl
  t39 := Tryz.underlying235
  a39 := Tryz.isAgg235
  z39 := Tryz.sizeOf235
  v39 := Tryz.zeroValue235
  i39 := by kernel_rfl
  t44 := Tryz.underlying243
  a44 := Tryz.isAgg243
  z44 := Tryz.sizeOf243
  v44 := Tryz.zeroValue243
  i44 := by kernel_rfl
  t47 := Tryz.underlying144
  a47 := Tryz.isAgg144
  z47 := Tryz.sizeOf144
  v47 := Tryz.zeroValue144
  i47 := by kernel_rfl
  t48 := Tryz.underlying248
  a48 := Tryz.isAgg248
  z48 := Tryz.sizeOf248
  v48 := Tryz.zeroValue248
  i48 := by kernel_rfl
  t50 := Tryz.underlying250
  a50 := Tryz.isAgg250
  z50 := Tryz.sizeOf250
  v50 := Tryz.zeroValue250
  i50 := by kernel_rfl
  t52 := Tryz.underlying163
  a52 := Tryz.isAgg163
  z52 := Tryz.sizeOf163
  v52 := Tryz.zeroValue163
  i52 := by kernel_rfl
  t55 := Tryz.underlying166
  a55 := Tryz.isAgg166
  z55 := Tryz.sizeOf166
  v55 := Tryz.zeroValue166
  i55 := by kernel_rfl
  t59 := Tryz.underlying200
  a59 := Tryz.isAgg200
  z59 := Tryz.sizeOf200
  v59 := Tryz.zeroValue200
  i59 := by kernel_rfl
  t60 := Tryz.underlying22
  a60 := Tryz.isAgg22
  z60 := Tryz.sizeOf22
  v60 := Tryz.zeroValue22
  i60 := by kernel_rfl
  t61 := Tryz.underlying201
  a61 := Tryz.isAgg201
  z61 := Tryz.sizeOf201
  t65 := Tryz.underlying229
  a65 := Tryz.isAgg229
  z65 := Tryz.sizeOf229
  v65 := Tryz.zeroValue229
  i65 := by kernel_rfl
  t66 := Tryz.underlying230
  a66 := Tryz.isAgg230
  z66 := Tryz.sizeOf230
  v66 := Tryz.zeroValue230
  i66 := by kernel_rfl
  t67 := Tryz.underlying122
  a67 := Tryz.isAgg122
  z67 := Tryz.sizeOf122
  v67 := Tryz.zeroValue122
  i67 := by kernel_rfl
  g0 := by kernel_rfl
  m0 := by kernel_rfl
  g1 := by kernel_rfl
  m1 := by kernel_rfl
  g2 := by kernel_rfl
  m2 := by kernel_rfl
  g3 := by kernel_rfl
  m3 := by kernel_rfl
  g4 := by kernel_rfl
  m4 := by kernel_rfl }
open Go.RowKit in
/-- strconv.ParseUint(s, 10, 32), AT EVERY STRING THAT SPELLS A uint32 ('Lib.parseUintB 32 s.data.toList = .ok u'): u, AND NO ERROR. (LAID: no walk: one application.) -/
theorem Tryz.strconv_ParseUint_10_at32_ok (s : ByteArray) (hmax : s.size ≤ 9223372036854775806) (u : Nat) (h : Lib.parseUintB 32 s.data.toList = .ok u) (w : World) :
    Calls Tryz.prog 202 #[.string s, .int .i64 10, .int .i64 32] w fun e w' => e = .returned (.tuple #[.int .u64 u, .nilIface]) ∧ (w' = w ∨ w' = Lib.bytesWorld w 5 s) := Any.strconv_ParseUint_10_at32_ok Tryz.laysPu14 s hmax u h w
def Tryz.lays144_ren : Go.Shelf.Ren := ⟨fun | 144 => 212 | 143 => 115 | 219 => 113 | 217 => 160 | 225 => 161 | 224 => 162 | 267 => 163 | 266 => 205 | 314 => 206 | n => n, fun | 9 => 9 | 4 => 4 | 3 => 3 | 5 => 5 | 46 => 73 | 146 => 215 | 51 => 22 | n => n, fun | 1 => 0 | n => n⟩
theorem Tryz.lays144 : Go.Proofs.Lays.n144 Tryz.prog Tryz.lays144_ren := {
  mixed := by kernel_rfl
  f143 := Tryz.func115.trans (congrArg some (by kernel_rfl))
  f144 := Tryz.func212.trans (congrArg some (by kernel_rfl))
  f217 := Tryz.func160.trans (congrArg some (by kernel_rfl))
  f219 := Tryz.func113.trans (congrArg some (by kernel_rfl))
  f224 := Tryz.func162.trans (congrArg some (by kernel_rfl))
  f225 := Tryz.func161.trans (congrArg some (by kernel_rfl))
  f266 := Tryz.func205.trans (congrArg some (by kernel_rfl))
  f267 := Tryz.func163.trans (congrArg some (by kernel_rfl))
  f314 := Tryz.func206.trans (congrArg some (by kernel_rfl))
  t3 := Tryz.underlying3
  a3 := Tryz.isAgg3
  z3 := Tryz.sizeOf3
  v3 := Tryz.zeroValue3
  t4 := Tryz.underlying4
  a4 := Tryz.isAgg4
  z4 := Tryz.sizeOf4
  v4 := Tryz.zeroValue4
  t5 := Tryz.underlying5
  a5 := Tryz.isAgg5
  z5 := Tryz.sizeOf5
  v5 := Tryz.zeroValue5
  t9 := Tryz.underlying9
  a9 := Tryz.isAgg9
  z9 := Tryz.sizeOf9
  v9 := Tryz.zeroValue9
  t46 := Tryz.underlying73
  a46 := Tryz.isAgg73
  z46 := Tryz.sizeOf73
  v46 := Tryz.zeroValue73
  t51 := Tryz.underlying22
  a51 := Tryz.isAgg22
  z51 := Tryz.sizeOf22
  v51 := Tryz.zeroValue22
  t146 := Tryz.underlying215
  a146 := Tryz.isAgg215
  z146 := Tryz.sizeOf215
  v146 := Tryz.zeroValue215
  g1 := by kernel_rfl }
open Go.RowKit Go.Lib in
/-- strings.Contains: "Contains reports whether substr is within s.": IT RETURNS 'Lib.contains s substr'; the world is as it was. (LAID: no walk: one application.) -/
theorem Tryz.strings_Contains (s sub : ByteArray) (m : Int) (w : World) (hs : s.size < 4294967281) (hm : w.cell? ⟨0, 0, none⟩ = some (.int .i64 m)) :
    Calls Tryz.prog 212 #[.string s, .string sub] w fun e w' => e = .returned (.bool (Lib.contains s.data.toList sub.data.toList)) ∧ w' = w := Any.strings_Contains Tryz.lays144 s sub m w hs hm
def Tryz.lays145_ren : Go.Shelf.Ren := ⟨fun | 145 => 53 | 220 => 79 | 219 => 113 | 217 => 160 | 225 => 161 | 224 => 162 | 267 => 163 | 266 => 205 | 314 => 206 | n => n, fun | 9 => 9 | 4 => 4 | 59 => 103 | 3 => 3 | 5 => 5 | 46 => 73 | 146 => 215 | 51 => 22 | n => n, fun | 1 => 0 | n => n⟩
theorem Tryz.lays145 : Go.Proofs.Lays.n145 Tryz.prog Tryz.lays145_ren := {
  mixed := by kernel_rfl
  f145 := Tryz.func53.trans (congrArg some (by kernel_rfl))
  f217 := Tryz.func160.trans (congrArg some (by kernel_rfl))
  f219 := Tryz.func113.trans (congrArg some (by kernel_rfl))
  f220 := Tryz.func79.trans (congrArg some (by kernel_rfl))
  f224 := Tryz.func162.trans (congrArg some (by kernel_rfl))
  f225 := Tryz.func161.trans (congrArg some (by kernel_rfl))
  f266 := Tryz.func205.trans (congrArg some (by kernel_rfl))
  f267 := Tryz.func163.trans (congrArg some (by kernel_rfl))
  f314 := Tryz.func206.trans (congrArg some (by kernel_rfl))
  t3 := Tryz.underlying3
  a3 := Tryz.isAgg3
  z3 := Tryz.sizeOf3
  v3 := Tryz.zeroValue3
  t4 := Tryz.underlying4
  a4 := Tryz.isAgg4
  z4 := Tryz.sizeOf4
  v4 := Tryz.zeroValue4
  t5 := Tryz.underlying5
  a5 := Tryz.isAgg5
  z5 := Tryz.sizeOf5
  v5 := Tryz.zeroValue5
  t9 := Tryz.underlying9
  a9 := Tryz.isAgg9
  z9 := Tryz.sizeOf9
  v9 := Tryz.zeroValue9
  t46 := Tryz.underlying73
  a46 := Tryz.isAgg73
  z46 := Tryz.sizeOf73
  v46 := Tryz.zeroValue73
  t51 := Tryz.underlying22
  a51 := Tryz.isAgg22
  z51 := Tryz.sizeOf22
  v51 := Tryz.zeroValue22
  t59 := Tryz.underlying103
  a59 := Tryz.isAgg103
  z59 := Tryz.sizeOf103
  v59 := Tryz.zeroValue103
  t146 := Tryz.underlying215
  a146 := Tryz.isAgg215
  z146 := Tryz.sizeOf215
  v146 := Tryz.zeroValue215
  g1 := by kernel_rfl }
open Go.RowKit Go.Lib in
/-- strings.Cut: "Cut slices s around the first instance of sep, returning the text before and after sep. The found result reports whether sep appears in s. If sep does not appear in s, cut returns s, "", false.": IT RETURNS 'Lib.cut s sep'; the world is as it was but for the count of draws. (LAID: no walk: one application.) -/
theorem Tryz.strings_Cut (s sep : ByteArray) (m : Int) (w : World) (hs : s.size < 4294967281) (hm : w.cell? ⟨0, 0, none⟩ = some (.int .i64 m)) :
    Calls Tryz.prog 53 #[.string s, .string sep] w fun e w' => e = .returned (.tuple #[.string ⟨(Lib.cut s.data.toList sep.data.toList).1.toArray⟩, .string ⟨(Lib.cut s.data.toList sep.data.toList).2.1.toArray⟩, .bool (Lib.cut s.data.toList sep.data.toList).2.2]) ∧ ∃ n, w' = w.drewN n := Any.strings_Cut Tryz.lays145 s sep m w hs hm
def Tryz.laysM145_ren : Go.Shelf.Ren := ⟨fun | 145 => 53 | 220 => 79 | 219 => 113 | 217 => 160 | 225 => 161 | 224 => 162 | 267 => 163 | 266 => 205 | 314 => 206 | n => n, fun | 9 => 9 | 4 => 4 | 59 => 103 | 3 => 3 | 5 => 5 | 46 => 73 | 146 => 215 | 51 => 22 | n => n, fun | 1 => 0 | n => n⟩
theorem Tryz.laysM145 : Go.Proofs.LaysM.n145 Tryz.prog Tryz.laysM145_ren := {
  mixed := by kernel_rfl
  f145 := Tryz.func53.trans (congrArg some (by kernel_rfl))
  f217 := Tryz.func160.trans (congrArg some (by kernel_rfl))
  f219 := Tryz.func113.trans (congrArg some (by kernel_rfl))
  f220 := Tryz.func79.trans (congrArg some (by kernel_rfl))
  f224 := Tryz.func162.trans (congrArg some (by kernel_rfl))
  f225 := Tryz.func161.trans (congrArg some (by kernel_rfl))
  f266 := Tryz.func205.trans (congrArg some (by kernel_rfl))
  f267 := Tryz.func163.trans (congrArg some (by kernel_rfl))
  f314 := Tryz.func206.trans (congrArg some (by kernel_rfl))
  t3 := Tryz.underlying3
  a3 := Tryz.isAgg3
  z3 := Tryz.sizeOf3
  v3 := Tryz.zeroValue3
  t4 := Tryz.underlying4
  a4 := Tryz.isAgg4
  z4 := Tryz.sizeOf4
  v4 := Tryz.zeroValue4
  t5 := Tryz.underlying5
  a5 := Tryz.isAgg5
  z5 := Tryz.sizeOf5
  v5 := Tryz.zeroValue5
  t9 := Tryz.underlying9
  a9 := Tryz.isAgg9
  z9 := Tryz.sizeOf9
  v9 := Tryz.zeroValue9
  t46 := Tryz.underlying73
  a46 := Tryz.isAgg73
  z46 := Tryz.sizeOf73
  v46 := Tryz.zeroValue73
  t51 := Tryz.underlying22
  a51 := Tryz.isAgg22
  z51 := Tryz.sizeOf22
  v51 := Tryz.zeroValue22
  t59 := Tryz.underlying103
  a59 := Tryz.isAgg103
  z59 := Tryz.sizeOf103
  v59 := Tryz.zeroValue103
  t146 := Tryz.underlying215
  a146 := Tryz.isAgg215
  z146 := Tryz.sizeOf215
  v146 := Tryz.zeroValue215
  g1 := by kernel_rfl
  i3 := by kernel_rfl
  i4 := by kernel_rfl
  i5 := by kernel_rfl
  i9 := by kernel_rfl
  i46 := by kernel_rfl
  i51 := by kernel_rfl
  i59 := by kernel_rfl
  i146 := by kernel_rfl
  m1 := by kernel_rfl
  s1_3 := fun w h => Go.Proofs.cell_of_shapedOpen_int (zero := #[.int .i64 0]) (t := 3) h (of_decide_eq_true (by kernel_rfl)) (by kernel_rfl) rfl (by kernel_rfl) (by kernel_rfl) Tryz.underlying3 }
open Go.RowKit Go.Lib in
theorem Tryz.strings_Cut_shaped (s sep : ByteArray) (w : World) (h : w.ShapedOpen Tryz.prog) (hs : s.size < 4294967281) :
    Calls Tryz.prog 53 #[.string s, .string sep] w fun e w' => e = .returned (.tuple #[.string ⟨(Lib.cut s.data.toList sep.data.toList).1.toArray⟩, .string ⟨(Lib.cut s.data.toList sep.data.toList).2.1.toArray⟩, .bool (Lib.cut s.data.toList sep.data.toList).2.2]) ∧ ∃ n, w' = w.drewN n := Any.strings_Cut_shaped Tryz.laysM145 s sep w h hs
def Tryz.lays149_ren : Go.Shelf.Ren := ⟨fun | 149 => 142 | 222 => 192 | n => n, fun | 9 => 9 | 5 => 5 | 3 => 3 | 4 => 4 | n => n, fun | n => n⟩
theorem Tryz.lays149 : Go.Proofs.Lays.n149 Tryz.prog Tryz.lays149_ren := {
  mixed := by kernel_rfl
  f149 := Tryz.func142.trans (congrArg some (by kernel_rfl))
  f222 := Tryz.func192.trans (congrArg some (by kernel_rfl))
  t3 := Tryz.underlying3
  a3 := Tryz.isAgg3
  z3 := Tryz.sizeOf3
  v3 := Tryz.zeroValue3
  t4 := Tryz.underlying4
  a4 := Tryz.isAgg4
  z4 := Tryz.sizeOf4
  v4 := Tryz.zeroValue4
  t5 := Tryz.underlying5
  a5 := Tryz.isAgg5
  z5 := Tryz.sizeOf5
  v5 := Tryz.zeroValue5
  t9 := Tryz.underlying9
  a9 := Tryz.isAgg9
  z9 := Tryz.sizeOf9
  v9 := Tryz.zeroValue9 }
open Go.RowKit Go.Lib in
/-- strings.LastIndexByte: "LastIndexByte returns the index of the last instance of c in s, or -1 if c is not present in s." (LAID: no walk: one application.) -/
theorem Tryz.strings_LastIndexByte (s : ByteArray) (c : Int) (hs : s.size < 4611686018427387904) (w : World) :
    Calls Tryz.prog 142 #[.string s, .int .u8 c] w fun e w' => e = .returned (.int .i64 (Lib.lastIndexByte s c)) ∧ w' = w := Any.strings_LastIndexByte Tryz.lays149 s c hs w
def Tryz.lays102_ren : Go.Shelf.Ren := ⟨fun | 102 => 125 | 209 => 173 | 207 => 209 | n => n, fun | 9 => 9 | 4 => 4 | 3 => 3 | n => n, fun | n => n⟩
theorem Tryz.lays102 : Go.Proofs.Lays.n102 Tryz.prog Tryz.lays102_ren := {
  mixed := by kernel_rfl
  f102 := Tryz.func125.trans (congrArg some (by kernel_rfl))
  f207 := Tryz.func209.trans (congrArg some (by kernel_rfl))
  f209 := Tryz.func173.trans (congrArg some (by kernel_rfl))
  t3 := Tryz.underlying3
  a3 := Tryz.isAgg3
  z3 := Tryz.sizeOf3
  v3 := Tryz.zeroValue3
  t4 := Tryz.underlying4
  a4 := Tryz.isAgg4
  z4 := Tryz.sizeOf4
  v4 := Tryz.zeroValue4
  t9 := Tryz.underlying9
  a9 := Tryz.isAgg9
  z9 := Tryz.sizeOf9
  v9 := Tryz.zeroValue9 }
open Go.RowKit Go.Lib in
/-- strings.TrimSuffix: "TrimSuffix returns s without the provided trailing suffix string. If s doesn't end with suffix, s is returned unchanged.": IT RETURNS 'Lib.trimSuffix s suffix'; the world is as it was. (LAID: no walk: one application.) -/
theorem Tryz.strings_TrimSuffix (s p : ByteArray) (w : World) (hs : s.size ≤ 9223372036854775807) :
    Calls Tryz.prog 125 #[.string s, .string p] w fun e w' => e = .returned (.string ⟨(Lib.trimSuffix s.data.toList p.data.toList).toArray⟩) ∧ w' = w := Any.strings_TrimSuffix Tryz.lays102 s p w hs
def Tryz.lays146_ren : Go.Shelf.Ren := ⟨fun | 146 => 145 | 221 => 194 | 268 => 217 | 138 => 114 | 143 => 115 | 195 => 164 | 197 => 116 | 218 => 165 | 219 => 113 | 260 => 166 | 217 => 160 | 225 => 161 | 224 => 162 | 267 => 163 | 266 => 205 | 314 => 206 | n => n, fun | 9 => 9 | 31 => 77 | 3 => 3 | 4 => 4 | 0 => 0 | 105 => 161 | 21 => 21 | 5 => 5 | 46 => 73 | 119 => 217 | 139 => 220 | 138 => 219 | 146 => 215 | 51 => 22 | n => n, fun | 1 => 0 | 3 => 2 | 4 => 3 | n => n⟩
theorem Tryz.lays146 : Go.Proofs.Lays.n146 Tryz.prog Tryz.lays146_ren := {
  mixed := by kernel_rfl
  f138 := Tryz.func114.trans (congrArg some (by kernel_rfl))
  f143 := Tryz.func115.trans (congrArg some (by kernel_rfl))
  f146 := Tryz.func145.trans (congrArg some (by kernel_rfl))
  f195 := Tryz.func164.trans (congrArg some (by kernel_rfl))
  f197 := Tryz.func116.trans (congrArg some (by kernel_rfl))
  f217 := Tryz.func160.trans (congrArg some (by kernel_rfl))
  f218 := Tryz.func165.trans (congrArg some (by kernel_rfl))
  f219 := Tryz.func113.trans (congrArg some (by kernel_rfl))
  f221 := Tryz.func194.trans (congrArg some (by kernel_rfl))
  f224 := Tryz.func162.trans (congrArg some (by kernel_rfl))
  f225 := Tryz.func161.trans (congrArg some (by kernel_rfl))
  f260 := Tryz.func166.trans (congrArg some (by kernel_rfl))
  f266 := Tryz.func205.trans (congrArg some (by kernel_rfl))
  f267 := Tryz.func163.trans (congrArg some (by kernel_rfl))
  f268 := Tryz.func217.trans (congrArg some (by kernel_rfl))
  f314 := Tryz.func206.trans (congrArg some (by kernel_rfl))
  t0 := Tryz.underlying0
  a0 := Tryz.isAgg0
  z0 := Tryz.sizeOf0
  v0 := Tryz.zeroValue0
  t3 := Tryz.underlying3
  a3 := Tryz.isAgg3
  z3 := Tryz.sizeOf3
  v3 := Tryz.zeroValue3
  t4 := Tryz.underlying4
  a4 := Tryz.isAgg4
  z4 := Tryz.sizeOf4
  v4 := Tryz.zeroValue4
  t5 := Tryz.underlying5
  a5 := Tryz.isAgg5
  z5 := Tryz.sizeOf5
  v5 := Tryz.zeroValue5
  t9 := Tryz.underlying9
  a9 := Tryz.isAgg9
  z9 := Tryz.sizeOf9
  v9 := Tryz.zeroValue9
  t21 := Tryz.underlying21
  a21 := Tryz.isAgg21
  z21 := Tryz.sizeOf21
  v21 := Tryz.zeroValue21
  t31 := Tryz.underlying77
  a31 := Tryz.isAgg77
  z31 := Tryz.sizeOf77
  v31 := Tryz.zeroValue77
  t46 := Tryz.underlying73
  a46 := Tryz.isAgg73
  z46 := Tryz.sizeOf73
  v46 := Tryz.zeroValue73
  t51 := Tryz.underlying22
  a51 := Tryz.isAgg22
  z51 := Tryz.sizeOf22
  v51 := Tryz.zeroValue22
  t105 := Tryz.underlying161
  a105 := Tryz.isAgg161
  z105 := Tryz.sizeOf161
  v105 := Tryz.zeroValue161
  t119 := Tryz.underlying217
  a119 := Tryz.isAgg217
  z119 := Tryz.sizeOf217
  t138 := Tryz.underlying219
  a138 := Tryz.isAgg219
  z138 := Tryz.sizeOf219
  v138 := Tryz.zeroValue219
  t139 := Tryz.underlying220
  a139 := Tryz.isAgg220
  z139 := Tryz.sizeOf220
  v139 := Tryz.zeroValue220
  t146 := Tryz.underlying215
  a146 := Tryz.isAgg215
  z146 := Tryz.sizeOf215
  v146 := Tryz.zeroValue215
  g1 := by kernel_rfl
  g3 := by kernel_rfl
  g4 := by kernel_rfl }
open Go.RowKit Go.Lib in
/-- strings.Split. (LAID: no walk: one application.) -/
theorem Tryz.strings_Split (s sep : ByteArray) (m : Int) (w : World) (hs : s.size < 4294967281) (hm : w.cell? ⟨0, 0, none⟩ = some (.int .i64 m)) (h1 : 1 ≤ sep.size) :
    Calls Tryz.prog 145 #[.string s, .string sep] w fun e w' =>
      e = .returned (.slice (some ⟨w.heap.size, 0, none⟩) (Lib.countB s sep + 1) (Lib.countB s sep + 1)) ∧ w' = w.alloc (.cells ((Lib.splitB sep 0 (Lib.countB s sep) s).map Value.string).toArray 9) := Any.strings_Split Tryz.lays146 (by kernel_rfl) s sep m w hs hm h1
def Tryz.lays155_ren : Go.Shelf.Ren := ⟨fun | 155 => 55 | 154 => 80 | 138 => 114 | 165 => 63 | 143 => 115 | 166 => 64 | 197 => 116 | 169 => 65 | 195 => 164 | 218 => 165 | 240 => 91 | 241 => 92 | 219 => 113 | 260 => 166 | 276 => 123 | 277 => 124 | 217 => 160 | 225 => 161 | 224 => 162 | 267 => 163 | 266 => 205 | 314 => 206 | n => n, fun | 9 => 9 | 3 => 3 | 4 => 4 | 72 => 116 | 0 => 0 | 76 => 120 | 105 => 161 | 21 => 21 | 5 => 5 | 70 => 114 | 20 => 20 | 37 => 23 | 75 => 119 | 127 => 144 | 164 => 169 | 46 => 73 | 119 => 217 | 139 => 220 | 138 => 219 | 146 => 215 | 51 => 22 | 80 => 122 | n => n, fun | 1 => 0 | 3 => 2 | 4 => 3 | n => n⟩
theorem Tryz.lays155 : Go.Proofs.Lays.n155 Tryz.prog Tryz.lays155_ren := {
  mixed := by kernel_rfl
  f138 := Tryz.func114.trans (congrArg some (by kernel_rfl))
  f143 := Tryz.func115.trans (congrArg some (by kernel_rfl))
  f154 := Tryz.func80.trans (congrArg some (by kernel_rfl))
  f155 := Tryz.func55.trans (congrArg some (by kernel_rfl))
  f165 := Tryz.func63.trans (congrArg some (by kernel_rfl))
  f166 := Tryz.func64.trans (congrArg some (by kernel_rfl))
  f169 := Tryz.func65.trans (congrArg some (by kernel_rfl))
  f195 := Tryz.func164.trans (congrArg some (by kernel_rfl))
  f197 := Tryz.func116.trans (congrArg some (by kernel_rfl))
  f217 := Tryz.func160.trans (congrArg some (by kernel_rfl))
  f218 := Tryz.func165.trans (congrArg some (by kernel_rfl))
  f219 := Tryz.func113.trans (congrArg some (by kernel_rfl))
  f224 := Tryz.func162.trans (congrArg some (by kernel_rfl))
  f225 := Tryz.func161.trans (congrArg some (by kernel_rfl))
  f240 := Tryz.func91.trans (congrArg some (by kernel_rfl))
  f241 := Tryz.func92.trans (congrArg some (by kernel_rfl))
  f260 := Tryz.func166.trans (congrArg some (by kernel_rfl))
  f266 := Tryz.func205.trans (congrArg some (by kernel_rfl))
  f267 := Tryz.func163.trans (congrArg some (by kernel_rfl))
  f276 := Tryz.func123.trans (congrArg some (by kernel_rfl))
  f277 := Tryz.func124.trans (congrArg some (by kernel_rfl))
  f314 := Tryz.func206.trans (congrArg some (by kernel_rfl))
  t0 := Tryz.underlying0
  a0 := Tryz.isAgg0
  z0 := Tryz.sizeOf0
  v0 := Tryz.zeroValue0
  t3 := Tryz.underlying3
  a3 := Tryz.isAgg3
  z3 := Tryz.sizeOf3
  v3 := Tryz.zeroValue3
  t4 := Tryz.underlying4
  a4 := Tryz.isAgg4
  z4 := Tryz.sizeOf4
  v4 := Tryz.zeroValue4
  t5 := Tryz.underlying5
  a5 := Tryz.isAgg5
  z5 := Tryz.sizeOf5
  v5 := Tryz.zeroValue5
  t9 := Tryz.underlying9
  a9 := Tryz.isAgg9
  z9 := Tryz.sizeOf9
  v9 := Tryz.zeroValue9
  t20 := Tryz.underlying20
  a20 := Tryz.isAgg20
  z20 := Tryz.sizeOf20
  v20 := Tryz.zeroValue20
  t21 := Tryz.underlying21
  a21 := Tryz.isAgg21
  z21 := Tryz.sizeOf21
  v21 := Tryz.zeroValue21
  t37 := Tryz.underlying23
  a37 := Tryz.isAgg23
  z37 := Tryz.sizeOf23
  v37 := Tryz.zeroValue23
  t46 := Tryz.underlying73
  a46 := Tryz.isAgg73
  z46 := Tryz.sizeOf73
  v46 := Tryz.zeroValue73
  t51 := Tryz.underlying22
  a51 := Tryz.isAgg22
  z51 := Tryz.sizeOf22
  v51 := Tryz.zeroValue22
  t70 := Tryz.underlying114
  a70 := Tryz.isAgg114
  z70 := Tryz.sizeOf114
  v70 := Tryz.zeroValue114
  t72 := Tryz.underlying116
  a72 := Tryz.isAgg116
  z72 := Tryz.sizeOf116
  v72 := Tryz.zeroValue116
  t75 := Tryz.underlying119
  a75 := Tryz.isAgg119
  z75 := Tryz.sizeOf119
  v75 := Tryz.zeroValue119
  t76 := Tryz.underlying120
  a76 := Tryz.isAgg120
  z76 := Tryz.sizeOf120
  v76 := Tryz.zeroValue120
  t105 := Tryz.underlying161
  a105 := Tryz.isAgg161
  z105 := Tryz.sizeOf161
  v105 := Tryz.zeroValue161
  t119 := Tryz.underlying217
  a119 := Tryz.isAgg217
  z119 := Tryz.sizeOf217
  t127 := Tryz.underlying144
  a127 := Tryz.isAgg144
  z127 := Tryz.sizeOf144
  v127 := Tryz.zeroValue144
  t138 := Tryz.underlying219
  a138 := Tryz.isAgg219
  z138 := Tryz.sizeOf219
  v138 := Tryz.zeroValue219
  t139 := Tryz.underlying220
  a139 := Tryz.isAgg220
  z139 := Tryz.sizeOf220
  v139 := Tryz.zeroValue220
  t146 := Tryz.underlying215
  a146 := Tryz.isAgg215
  z146 := Tryz.sizeOf215
  v146 := Tryz.zeroValue215
  t164 := Tryz.underlying169
  a164 := Tryz.isAgg169
  z164 := Tryz.sizeOf169
  v164 := Tryz.zeroValue169
  g1 := by kernel_rfl
  g3 := by kernel_rfl
  g4 := by kernel_rfl }
theorem Tryz.Builder_Extra_155 : Builder.Extra Tryz.prog Tryz.lays155_ren := {
  sizeBuilder := by kernel_rfl
  liesBuilder := by kernel_rfl
  t5 := Tryz.underlying5
  a5 := Tryz.isAgg5
  z5 := Tryz.sizeOf5
  v5 := Tryz.zeroValue5
  infoByte := by kernel_rfl
  cellsByte := by kernel_rfl
  sizeByte := by kernel_rfl
  neB5 := by decide }
open Go.RowKit Go.Lib in
/-- strings.ReplaceAll: "ReplaceAll returns a copy of the string s with all non-overlapping instances of old replaced by new.": AT AN old THAT IS NOT EMPTY: 'Lib.replaceAll s old new'. (LAID: no walk: one application.) -/
theorem Tryz.strings_ReplaceAll (s old new : ByteArray) (m : Int) (w : World) (hs : s.size < 4294967281) (hm : w.cell? ⟨0, 0, none⟩ = some (.int .i64 m)) (h1 : 1 ≤ old.size) (hlen : s.size + Lib.countB s old * new.size ≤ 140737488355328) :
    Calls Tryz.prog 55 #[.string s, .string old, .string new] w fun e w' =>
      e = .returned (.string ⟨(Lib.replaceAll s.data.toList old.data.toList new.data.toList).toArray⟩) ∧ Below w.heap.size w w' := Any.strings_ReplaceAll Tryz.lays155 Tryz.Builder_Extra_155 s old new m w hs hm h1 hlen
def Tryz.laysM146_ren : Go.Shelf.Ren := ⟨fun | 146 => 145 | 221 => 194 | 268 => 217 | 138 => 114 | 143 => 115 | 195 => 164 | 197 => 116 | 218 => 165 | 219 => 113 | 260 => 166 | 217 => 160 | 225 => 161 | 224 => 162 | 267 => 163 | 266 => 205 | 314 => 206 | n => n, fun | 9 => 9 | 31 => 77 | 3 => 3 | 4 => 4 | 0 => 0 | 105 => 161 | 21 => 21 | 5 => 5 | 46 => 73 | 119 => 217 | 139 => 220 | 138 => 219 | 146 => 215 | 51 => 22 | n => n, fun | 1 => 0 | 3 => 2 | 4 => 3 | n => n⟩
theorem Tryz.laysM146 : Go.Proofs.LaysM.n146 Tryz.prog Tryz.laysM146_ren := {
  mixed := by kernel_rfl
  f138 := Tryz.func114.trans (congrArg some (by kernel_rfl))
  f143 := Tryz.func115.trans (congrArg some (by kernel_rfl))
  f146 := Tryz.func145.trans (congrArg some (by kernel_rfl))
  f195 := Tryz.func164.trans (congrArg some (by kernel_rfl))
  f197 := Tryz.func116.trans (congrArg some (by kernel_rfl))
  f217 := Tryz.func160.trans (congrArg some (by kernel_rfl))
  f218 := Tryz.func165.trans (congrArg some (by kernel_rfl))
  f219 := Tryz.func113.trans (congrArg some (by kernel_rfl))
  f221 := Tryz.func194.trans (congrArg some (by kernel_rfl))
  f224 := Tryz.func162.trans (congrArg some (by kernel_rfl))
  f225 := Tryz.func161.trans (congrArg some (by kernel_rfl))
  f260 := Tryz.func166.trans (congrArg some (by kernel_rfl))
  f266 := Tryz.func205.trans (congrArg some (by kernel_rfl))
  f267 := Tryz.func163.trans (congrArg some (by kernel_rfl))
  f268 := Tryz.func217.trans (congrArg some (by kernel_rfl))
  f314 := Tryz.func206.trans (congrArg some (by kernel_rfl))
  t0 := Tryz.underlying0
  a0 := Tryz.isAgg0
  z0 := Tryz.sizeOf0
  v0 := Tryz.zeroValue0
  t3 := Tryz.underlying3
  a3 := Tryz.isAgg3
  z3 := Tryz.sizeOf3
  v3 := Tryz.zeroValue3
  t4 := Tryz.underlying4
  a4 := Tryz.isAgg4
  z4 := Tryz.sizeOf4
  v4 := Tryz.zeroValue4
  t5 := Tryz.underlying5
  a5 := Tryz.isAgg5
  z5 := Tryz.sizeOf5
  v5 := Tryz.zeroValue5
  t9 := Tryz.underlying9
  a9 := Tryz.isAgg9
  z9 := Tryz.sizeOf9
  v9 := Tryz.zeroValue9
  t21 := Tryz.underlying21
  a21 := Tryz.isAgg21
  z21 := Tryz.sizeOf21
  v21 := Tryz.zeroValue21
  t31 := Tryz.underlying77
  a31 := Tryz.isAgg77
  z31 := Tryz.sizeOf77
  v31 := Tryz.zeroValue77
  t46 := Tryz.underlying73
  a46 := Tryz.isAgg73
  z46 := Tryz.sizeOf73
  v46 := Tryz.zeroValue73
  t51 := Tryz.underlying22
  a51 := Tryz.isAgg22
  z51 := Tryz.sizeOf22
  v51 := Tryz.zeroValue22
  t105 := Tryz.underlying161
  a105 := Tryz.isAgg161
  z105 := Tryz.sizeOf161
  v105 := Tryz.zeroValue161
  t119 := Tryz.underlying217
  a119 := Tryz.isAgg217
  z119 := Tryz.sizeOf217
  t138 := Tryz.underlying219
  a138 := Tryz.isAgg219
  z138 := Tryz.sizeOf219
  v138 := Tryz.zeroValue219
  t139 := Tryz.underlying220
  a139 := Tryz.isAgg220
  z139 := Tryz.sizeOf220
  v139 := Tryz.zeroValue220
  t146 := Tryz.underlying215
  a146 := Tryz.isAgg215
  z146 := Tryz.sizeOf215
  v146 := Tryz.zeroValue215
  g1 := by kernel_rfl
  g3 := by kernel_rfl
  g4 := by kernel_rfl
  i0 := by kernel_rfl
  i3 := by kernel_rfl
  i4 := by kernel_rfl
  i5 := by kernel_rfl
  i9 := by kernel_rfl
  i21 := by kernel_rfl
  i31 := by kernel_rfl
  i46 := by kernel_rfl
  i51 := by kernel_rfl
  i105 := by kernel_rfl
  i138 := by kernel_rfl
  i139 := by kernel_rfl
  i146 := by kernel_rfl
  m1 := by kernel_rfl
  s1_3 := fun w h => Go.Proofs.cell_of_shapedOpen_int (zero := #[.int .i64 0]) (t := 3) h (of_decide_eq_true (by kernel_rfl)) (by kernel_rfl) rfl (by kernel_rfl) (by kernel_rfl) Tryz.underlying3
  m3 := by kernel_rfl
  m4 := by kernel_rfl }
open Go.RowKit Go.Lib in
/-- strings.Split, sep not empty. (LAID: no walk: one application.) -/
theorem Tryz.strings_Split_shaped (s sep : ByteArray) (w : World) (h : w.ShapedOpen Tryz.prog) (hs : s.size < 4294967281) (h1 : 1 ≤ sep.size) :
    Calls Tryz.prog 145 #[.string s, .string sep] w fun e w' =>
      e = .returned (.slice (some ⟨w.heap.size, 0, none⟩) (Lib.countB s sep + 1) (Lib.countB s sep + 1)) ∧ w' = w.alloc (.cells ((Lib.splitB sep 0 (Lib.countB s sep) s).map Value.string).toArray 9) := Any.strings_Split_shaped Tryz.laysM146 s sep w h hs h1
def Tryz.lays227_ren : Go.Shelf.Ren := ⟨fun | 227 => 128 | n => n, fun | 9 => 9 | 116 => 174 | 4 => 4 | 0 => 0 | 3 => 3 | 5 => 5 | n => n, fun | n => n⟩
theorem Tryz.lays227 : Go.Proofs.Lays.n227 Tryz.prog Tryz.lays227_ren := {
  mixed := by kernel_rfl
  f227 := Tryz.func128.trans (congrArg some (by kernel_rfl))
  t0 := Tryz.underlying0
  a0 := Tryz.isAgg0
  z0 := Tryz.sizeOf0
  v0 := Tryz.zeroValue0
  t3 := Tryz.underlying3
  a3 := Tryz.isAgg3
  z3 := Tryz.sizeOf3
  v3 := Tryz.zeroValue3
  t4 := Tryz.underlying4
  a4 := Tryz.isAgg4
  z4 := Tryz.sizeOf4
  v4 := Tryz.zeroValue4
  t5 := Tryz.underlying5
  a5 := Tryz.isAgg5
  z5 := Tryz.sizeOf5
  v5 := Tryz.zeroValue5
  t9 := Tryz.underlying9
  a9 := Tryz.isAgg9
  z9 := Tryz.sizeOf9
  v9 := Tryz.zeroValue9
  t116 := Tryz.underlying174
  a116 := Tryz.isAgg174
  z116 := Tryz.sizeOf174 }
open Go.RowKit Go.Lib in
theorem Tryz.strings_makeASCIISet (hv116 : ∀ w, (zeroValue 174).run Tryz.prog w = .ok (.agg (Array.replicate 256 (.bool false))) w) (chars : ByteArray) (w : World) (hs : chars.size < 4294967281) (hascii : ∀ (j : Nat) b, chars.data.toList[j]? = some b → b.toNat < 128) :
    Calls Tryz.prog 128 #[.string chars] w fun e w' => e = .returned (.tuple #[.agg (Lib.setCells chars.data.toList), .bool true]) ∧ w' = w.alloc (.cells (Lib.setCells chars.data.toList) 174) := Any.strings_makeASCIISet Tryz.lays227 hv116 (by kernel_rfl) chars w hs hascii
def Tryz.lays228_ren : Go.Shelf.Ren := ⟨fun | 228 => 174 | n => n, fun | 124 => 178 | 5 => 5 | 4 => 4 | 0 => 0 | 116 => 174 | n => n, fun | n => n⟩
theorem Tryz.lays228 : Go.Proofs.Lays.n228 Tryz.prog Tryz.lays228_ren := {
  mixed := by kernel_rfl
  f228 := Tryz.func174.trans (congrArg some (by kernel_rfl))
  t0 := Tryz.underlying0
  a0 := Tryz.isAgg0
  z0 := Tryz.sizeOf0
  v0 := Tryz.zeroValue0
  t4 := Tryz.underlying4
  a4 := Tryz.isAgg4
  z4 := Tryz.sizeOf4
  v4 := Tryz.zeroValue4
  t5 := Tryz.underlying5
  a5 := Tryz.isAgg5
  z5 := Tryz.sizeOf5
  v5 := Tryz.zeroValue5
  t116 := Tryz.underlying174
  a116 := Tryz.isAgg174
  z116 := Tryz.sizeOf174
  t124 := Tryz.underlying178
  a124 := Tryz.isAgg178
  z124 := Tryz.sizeOf178
  v124 := Tryz.zeroValue178 }
open Go.RowKit Go.Lib in
/-- '(as *asciiSet) contains(c)': 'as[c]': the set lies at block b, whole. (LAID: no walk: one application.) -/
theorem Tryz.asciiSet_contains (b : Nat) (x : UInt8) (v : Bool) (w : World) (hc : w.cell? ⟨b, x.toNat, none⟩ = some (.bool v)) :
    Calls Tryz.prog 174 #[.pointer (some ⟨b, 0, none⟩), .int .u8 x.toNat] w fun e w' => e = .returned (.bool v) ∧ w' = w := Any.asciiSet_contains Tryz.lays228 b x v w hc
def Tryz.lays187_ren : Go.Shelf.Ren := ⟨fun | 187 => 122 | 255 => 172 | n => n, fun | 37 => 23 | 5 => 5 | 3 => 3 | n => n, fun | n => n⟩
theorem Tryz.lays187 : Go.Proofs.Lays.n187 Tryz.prog Tryz.lays187_ren := {
  mixed := by kernel_rfl
  f187 := Tryz.func122.trans (congrArg some (by kernel_rfl))
  f255 := Tryz.func172.trans (congrArg some (by kernel_rfl))
  t3 := Tryz.underlying3
  a3 := Tryz.isAgg3
  z3 := Tryz.sizeOf3
  v3 := Tryz.zeroValue3
  t5 := Tryz.underlying5
  a5 := Tryz.isAgg5
  z5 := Tryz.sizeOf5
  v5 := Tryz.zeroValue5
  t37 := Tryz.underlying23
  a37 := Tryz.isAgg23
  z37 := Tryz.sizeOf23
  v37 := Tryz.zeroValue23 }
open Go.RowKit Go.Lib in
/-- bytes.IndexByte, b at whatever address: "IndexByte returns the index of the first instance of c in b, or -1 if c is not present in b." (LAID: no walk: one application.) -/
theorem Tryz.bytes_IndexByte_at (a : Addr) (n c : Nat) (xs : List Int) (cv : Int) (w : World) (hx : xs.length = n) (hc : ∀ i, i < n → w.cell? (a.add i) = some (.int .u8 (xs.getD i 0))) :
    Calls Tryz.prog 122 #[.slice (some a) n c, .int .u8 cv] w fun e w' => e = .returned (.int .i64 (Lib.indexByte (Lib.bytesOf xs) cv.toNat.toUInt8)) ∧ w' = w := Any.bytes_IndexByte_at Tryz.lays187 a n c xs cv w hx hc
def Tryz.laysSlK4_ren : Go.Shelf.Ren := ⟨fun | 4 => 90 | n => n, fun | 22 => 23 | 4 => 4 | 5 => 5 | n => n, fun | n => n⟩
theorem Tryz.laysSlK4 : Go.Proofs.SlLaysK.n4 Tryz.prog Tryz.laysSlK4_ren := {
  mixed := by kernel_rfl
  f4 := Tryz.func90.trans (congrArg some (by kernel_rfl))
  t4 := Tryz.underlying4
  a4 := Tryz.isAgg4
  z4 := Tryz.sizeOf4
  v4 := Tryz.zeroValue4
  t22 := Tryz.underlying23
  a22 := Tryz.isAgg23
  z22 := Tryz.sizeOf23
  v22 := Tryz.zeroValue23
  t5 := Tryz.underlying5
  i5 := by kernel_rfl }
open Go.RowKit Go.Lib in
/-- bytes.Clone: "Clone returns a copy of b[:len(b)]. The result may have additional unused capacity.": OF A SLICE THAT IS NOT nil IT RETURNS A SLICE THAT IS NOT nil, OF THE SAME BYTES, IN MEMORY OF THE CALL's OWN: in the how-to's words (6f): 'w'.ownsRow B e 1 v' n cells' · 'Below B w w'', B the heap's size at the call. b AT WHATEVER ADDRESS, its cells as 'open_ints' hands them ('a.add i'; the numbers 'xs'). No byte: no cell is asked for. (LAID: no walk: one application.) -/
theorem Tryz.bytes_Clone_at (a : Addr) (n c : Nat) (xs : List Int) (w : World) (hx : xs.length = n) (hbig : n ≤ 140737488355328) (hc : ∀ i, i < n → w.cell? (a.add i) = some (.int .u8 (xs.getD i 0))) :
    Calls Tryz.prog 90 #[.slice (some a) n c] w fun e w' => ∃ v', e = .returned v' ∧ w'.ownsRow w.heap.size 5 1 v' n (xs.map (Value.int .u8)) ∧ v' ≠ .slice none 0 0 ∧ Below w.heap.size w w' := Any.bytes_Clone_at Tryz.laysSlK4 a n c xs w hx hbig hc
open Go.RowKit Go.Lib in
/-- "Clone(nil) returns nil.": the world is as it was. (LAID: no walk: one application.) -/
theorem Tryz.bytes_Clone_nil (n c : Nat) (w : World) :
    Calls Tryz.prog 90 #[.slice none n c] w fun e w' => e = .returned (.slice none 0 0) ∧ w' = w := Any.bytes_Clone_nil Tryz.laysSlK4 n c w
/-- bytes.IndexByte: "IndexByte returns the index of the first instance of c in b, or -1 if c is not present in b.": IT RETURNS 'Lib.indexByte (the bytes of b) c'; the world is as it was. 'xs': the numbers that the slice's cells hold. (LAID: no walk: one application.) -/
theorem Tryz.bytes_IndexByte (b o n c : Nat) (xs : List Int) (cv : Int) (w : World) (hx : xs.length = n) (hc : ∀ i, i < n → w.cell? ⟨b, o + i, none⟩ = some (.int .u8 (xs.getD i 0))) :
    Calls Tryz.prog 122 #[.slice (some ⟨b, o, none⟩) n c, .int .u8 cv] w fun e w' => e = .returned (.int .i64 (Lib.indexByte (Lib.bytesOf xs) cv.toNat.toUInt8)) ∧ w' = w := Any.bytes_IndexByte Tryz.lays187 b o n c xs cv w hx hc
/-- bytes.IndexByte AT nil: -1. (LAID: no walk: one application.) -/
theorem Tryz.bytes_IndexByte_nil (cv : Int) (w : World) :
    Calls Tryz.prog 122 #[.slice none 0 0, .int .u8 cv] w fun e w' => e = .returned (.int .i64 (-1)) ∧ w' = w := Any.bytes_IndexByte_nil Tryz.lays187 cv w
end Go.Proofs
/-
  Bytes in memory: rows that are owned, cloned, compared, and made texts.
-/
namespace Go.Proofs.YtjhaccmcjlbllaaGreatDoor
open Go.RowKit
def u8s (l : List UInt8) : List Value := l.map fun b => Value.int .u8 ((b.toNat : Nat) : Int)
theorem u8s_length (l : List UInt8) : (u8s l).length = l.length := by simp [u8s]
theorem u8s_get (l : List UInt8) (j : Nat) : (u8s l)[j]? = (l[j]?).map fun b => Value.int .u8 ((b.toNat : Nat) : Int) := by simp [u8s]
theorem u8s_append (l m : List UInt8) : u8s (l ++ m) = u8s l ++ u8s m := by simp [u8s]
theorem u8s_one (l : List UInt8) : ∀ u ∈ u8s l, u.oneCell' = true := by
  intro u hu
  simp only [u8s, List.mem_map] at hu
  obtain ⟨p, _, rfl⟩ := hu
  rfl
theorem u8_info : (Tryz.prog.info? 5).map (fun i => (i.zero, i.size, i.bytes)) = some (some (.int .u8 0), 1, 1) := by kernel_rfl
theorem info_parts {P : Program} {t : TypeId} {z : Value} {s b : Nat} (h : (P.info? t).map (fun i => (i.zero, i.size, i.bytes)) = some (some z, s, b)) : ∃ i, P.info? t = some i ∧ i.zero = some z ∧ i.size = s ∧ i.bytes = b := by
  cases hi : P.info? t with
  | none => rw [hi] at h; cases h
  | some i => rw [hi] at h; simp at h; exact ⟨i, rfl, h.1, h.2.1, h.2.2⟩
theorem own_reads {w : World} {base n size : Nat} {e : TypeId} {v : Value} {xs : List Value} (h : w.ownsRow base e size v n xs) : ∃ A c, v = .slice A n c ∧ Reads w w.heap.size size A n xs ∧ n ≤ c := by
  rcases h.2 with ⟨rfl, h0⟩ | ⟨g, cap, cur, rfl, h1, h2, h3, h4⟩
  · subst h0
    exact ⟨none, 0, rfl, ⟨h.1, fun hn => absurd hn (by omega)⟩, Nat.le_refl _⟩
  · exact ⟨_, cap, rfl, Reads.of_own h, by omega⟩
theorem own_mono {w : World} {base base' : Nat} {e : TypeId} {size : Nat} {v : Value} {n : Nat} {xs : List Value} (h : w.ownsRow base e size v n xs) (hb : base' ≤ base) : w.ownsRow base' e size v n xs := by
  refine ⟨h.1, ?_⟩
  rcases h.2 with h0 | ⟨g, cap, cur, e, hb', hr⟩
  · exact .inl h0
  · exact .inr ⟨g, cap, cur, e, Nat.le_trans hb hb', hr⟩
theorem own_keep {w w' : World} {base : Nat} {v : Value} {e : TypeId} {size n : Nat} {xs : List Value} (h : w.ownsRow base e size v n xs) (hk : ∀ g, v.ownBlock = some g → w'.heap[g]? = w.heap[g]?) : w'.ownsRow base e size v n xs := by
  refine ⟨h.1, ?_⟩
  rcases h.2 with h0 | ⟨g, cap, cur, rfl, hb, hg, hr⟩
  · exact .inl h0
  · exact .inr ⟨g, cap, cur, rfl, hb, (hk g rfl).trans hg, hr⟩
theorem own_below {w w' : World} {base : Nat} {v : Value} {e : TypeId} {size n : Nat} {xs : List Value} (h : w.ownsRow base e size v n xs) (hb : Below w.heap.size w w') : w'.ownsRow base e size v n xs :=
  own_keep h fun g hg => hb.block g (h.lt g hg).2
theorem bytes_empty (w : World) : (w.alloc (.cells #[] 5)).ownsRow w.heap.size 5 1 (.slice (some ⟨w.heap.size, 0, none⟩) 0 0) 0 [] := World.ownsRow_lit w #[] 0 (Nat.le_refl _) (by unfold maxLen; omega) rfl
/-- a row of bytes, of a list's length -/
theorem own8 {w : World} {base n : Nat} {v : Value} {l : List UInt8} (h : w.ownsRow base 5 1 v n (u8s l)) : w.ownsRow base 5 1 v l.length (u8s l) := by
  have : n = l.length := by have := h.1; rw [u8s_length] at this; omega
  rw [← this]; exact h
theorem Reads.take8 {w : World} {B n : Nat} {A : Option Addr} {l : List UInt8} (h : Reads w B 1 A n (u8s l)) {k : Nat} (hk : k ≤ n) : Reads w B 1 A k (u8s (l.take k)) := by
  have hl : l.length = n := by have := h.1; rw [u8s_length] at this; omega
  refine ⟨by rw [u8s_length, List.length_take]; omega, fun hp => ?_⟩
  obtain ⟨ad, e, hlt, hc⟩ := h.2 (by omega)
  refine ⟨ad, e, hlt, fun j u hu => hc j u ?_⟩
  rw [u8s_get] at hu ⊢
  rw [List.getElem?_take] at hu
  split at hu
  · exact hu
  · cases hu
theorem u8s_drop (l : List UInt8) (k : Nat) : u8s (l.drop k) = (u8s l).drop k := by simp [u8s]
theorem Reads.drop8 {w : World} {B n c : Nat} {A : Option Addr} {l : List UInt8} (h : Reads w B 1 A n (u8s l)) {k : Nat} (hk : k ≤ n) (hc : n ≤ c) : Reads w B 1 (if c = k then A else A.map (·.add k)) (n - k) (u8s (l.drop k)) := by
  have := h.cut (k := k) (cap := c) hk hc
  rw [Nat.mul_one] at this
  rw [u8s_drop]
  exact this
theorem Reads.none8 {w : World} {B : Nat} : Reads w B 1 none 0 (u8s []) := Reads.none_
theorem Reads.empty8 {w : World} {B n : Nat} {l : List UInt8} (h : Reads w B 1 none n (u8s l)) : n = 0 ∧ l = [] := by
  have hl : l.length = n := by have := h.1; rw [u8s_length] at this; omega
  rcases Nat.eq_zero_or_pos n with h0 | h0
  · exact ⟨h0, List.length_eq_zero_iff.1 (by omega)⟩
  · obtain ⟨ad, e, _⟩ := h.2 h0; cases e
def ints8 (l : List UInt8) : List Int := l.map fun b => ((b.toNat : Nat) : Int)
theorem ints8_at {w : World} {B n : Nat} {a : Addr} {l : List UInt8} (hl : l.length = n) (hr : Reads w B 1 (some a) n (u8s l)) : ∀ i, i < n → w.cell? (a.add i) = some (.int .u8 ((ints8 l).getD i 0)) := by
  intro i hi
  obtain ⟨ad, e, _, hc⟩ := hr.2 (by omega)
  injection e with e
  subst e
  have hil : i < l.length := by omega
  refine hc i _ ?_
  rw [u8s_get, List.getElem?_eq_getElem hil]
  simp [ints8, List.getD, hil]
theorem bytesOf_ints8 (l : List UInt8) : Lib.bytesOf (ints8 l) = l := by
  unfold Lib.bytesOf ints8
  rw [List.map_map]
  conv => rhs; rw [← List.map_id l]
  apply List.map_congr_left
  intro b _
  simp
theorem conv_nil (c : Nat) (w : World) : (convert 23 9 (.slice none 0 c)).run Tryz.prog w = .ok (.string ⟨#[]⟩) w := by kernel_rfl
/-- string(b), whatever slice b is -/
theorem conv_reads {w : World} {B n c : Nat} {A : Option Addr} {l : List UInt8} (hl : l.length = n) (hr : Reads w B 1 A n (u8s l)) : (convert 23 9 (.slice A n c)).run Tryz.prog w = .ok (.string ⟨l.toArray⟩) w := by
  subst hl
  cases A with
  | none =>
    obtain ⟨h0, rfl⟩ := hr.empty8
    exact conv_nil c w
  | some a =>
    refine run_string_bytes w 23 9 5 a l c Tryz.underlying23 Tryz.underlying5 Tryz.underlying9 fun j b hj => ?_
    have hp : 0 < l.length := by
      rcases Nat.lt_or_ge j l.length with h | h
      · omega
      · rw [List.getElem?_eq_none h] at hj; cases hj
    obtain ⟨ad, e, _, hc⟩ := hr.2 hp
    injection e with e
    subst e
    exact hc j _ (by rw [u8s_get, hj]; rfl)
end Go.Proofs.YtjhaccmcjlbllaaGreatDoor
/-
  Walks by facts on slots: a field of a variable is set; appends.
-/
namespace Go.Proofs.YtjhaccmcjlbllaaGreatDoor
open Go Go.RowKit
theorem own_kind {w : World} {base n size g : Nat} {v : Value} {e : TypeId} {xs : List Value} (h : w.ownsRow base e size v n xs) (hg : v.ownBlock = some g) : ∃ cs, w.heap[g]? = some (.cells cs e (0, 0)) := by
  rcases h.2 with ⟨rfl, _⟩ | ⟨g', cap, cur, rfl, _, hc, _⟩
  · cases hg
  · have : g' = g := by simpa [Value.ownBlock] using hg
    subst this
    exact ⟨cur, hc⟩
theorem own_ne {w : World} {base n size i : Nat} {v : Value} {e t : TypeId} {xs : List Value} {cs : Array Value} (h : w.ownsRow base e size v n xs) (hi : Blk w i t cs) (ht : t ≠ e) : ∀ g, v.ownBlock = some g → g ≠ i := fun g hg he => by
  obtain ⟨cs', hc⟩ := own_kind h hg
  unfold Blk at hi
  rw [he, hi] at hc
  injection hc with hc
  injection hc with _ hc
  exact ht hc
theorem add0 (g k : Nat) : (⟨g, 0, none⟩ : Addr).add k = ⟨g, k, none⟩ := by
  unfold Addr.add
  by_cases h : k = 0 <;> simp [h]
theorem Only.grown {g : Nat} {w w' : World} (h : Only g w w') : w.grownBy w' (some g) := ⟨h.os, h.tape, h.output, by rw [h.size]; exact Nat.le_refl _, fun k _ hk => h.block k (fun e => hk (by rw [e]))⟩
theorem ownsRow_empty {w : World} {B g size : Nat} {T : TypeId} (K : Blk w g T #[]) (hb : B ≤ g) : w.ownsRow B T size (.slice (some ⟨g, 0, none⟩) 0 0) 0 [] :=
  ⟨by simp, .inr ⟨g, 0, #[], rfl, hb, K, Nat.le_refl _, by unfold maxLen; omega, by simp, by simp⟩⟩
theorem nil_eq {P : Program} {t e : TypeId} (ht : P.underlying t = some (.slice e)) (a : Option Addr) (l c : Nat) (w : World) : (binOp .eql t (.slice a l c) (.slice none 0 0)).run P w = .ok (.bool a.isNone) w := Lib.run_eql_slice_nil w t e a l c 0 0 ht
section
variable {P : Program} {Q : Exit → Act → World → Prop} {a : Act} {w w' : World} {n : Nat} {Γ : Env} {l rest : List Oper} {o : Oper} {t : Nat} {v : Value}
/-- a field of a variable is set -/
theorem wl_setf {g j : Nat} {T : TypeId} {z : List Value} (zs : List Value) (c : Value) (hA : At n Γ a) (hg : o.guard = none) (hd : o.dst = none) (hK : Blk w g T z.toArray) (hz : z.set j c = zs) (hrun : ∀ ev, EvIn Γ ev → (execOp ev o).run P w = .ok .skip (w.setCell ⟨g, j, none⟩ c))
    (hk : ∀ w1, Blk w1 g T zs.toArray → Only g w w1 → wpList P l.toArray Q rest a w1) : wpList P l.toArray Q (o :: rest) a w := by
  refine wl_skip hA hg hd hrun (hk _ ?_ Only.set)
  have := hK.set_ j c
  rw [List.setIfInBounds_toArray, hz] at this
  exact this
/-- an operation whose answer goes nowhere -/
theorem wl_val0 {v : Value} (hA : At n Γ a) (hg : o.guard = none) (hd : o.dst = none) (hrun : ∀ ev, EvIn Γ ev → (execOp ev o).run P w = .ok (.value v) w')
    (hk : wpList P l.toArray Q rest a w') : wpList P l.toArray Q (o :: rest) a w := by
  refine wpList_plain hg fun K hK => ?_
  unfold Oper.wp
  rw [hrun _ hA.evin, Oper.upon_value, hd]
  exact hK _ _ hk
end
end Go.Proofs.YtjhaccmcjlbllaaGreatDoor
/-
  Walks by facts on slots: a whole array, or struct, is loaded, stored, answered, whatever its cells.
-/
namespace Go.Proofs.YtjhaccmcjlbllaaGreatDoor
open Go Go.RowKit
def isRowD (d : TypeDesc) : Bool := match d with | .struct _ | .array _ _ => true | _ => false
section
variable {P : Program} {Q : Exit → Act → World → Prop} {a : Act} {w w' : World} {n : Nat} {Γ : Env} {l rest : List Oper} {o : Oper} {t : Nat} {v : Value} {ev : Operand → Value} {g k : Nat} {T T' : TypeId} {cs : List Value} {d : TypeDesc}
theorem blk_load (K : Blk w g T cs.toArray) (hu : P.underlying T' = some d) (hd : isRowD d = true) (hi : (P.info? T').map (·.size) = some k) (hk : cs.length = k) : (loadVar T' ⟨g, 0, none⟩).run P w = .ok (.agg cs.toArray) w :=
  run_loadVar_row w g T T' cs.toArray (0, 0) d K hu (by cases d <;> first | rfl | (cases hd)) (by rw [hi, List.size_toArray, hk])
theorem exec_loadA {x : Operand} (K : Blk w g T cs.toArray) (hu : P.underlying T' = some d) (hd : isRowD d = true) (hi : (P.info? T').map (·.size) = some k) (hk : cs.length = k) (ho : o.op = .load T' x) (hx : ev x = .pointer (some ⟨g, 0, none⟩)) : (execOp ev o).run P w = .ok (.value (.agg cs.toArray)) w := by
  have h := blk_load K hu hd hi hk
  unfold execOp
  simp only [ho]
  simp [Instr.loadAt, Instr.sureAddr, hx, h, Result.andThen]
theorem Only.setRow {cs : Array Value} : Only g w (w.setRow g cs) := ⟨rfl, rfl, rfl, by unfold World.setRow; simp, fun i hi => by
  unfold World.setRow
  simp only [Array.getElem?_modify]
  rw [if_neg (fun e => hi e.symm)]⟩
/-- a whole variable is set -/
theorem wl_setw {x y : Operand} {z : List Value} (cs : List Value) (hA : At n Γ a) (hg : o.guard = none) (hd : o.dst = none) (K : Blk w g T z.toArray) (hz : z.length = k) (hk : cs.length = k) (hi : (P.info? T').map (·.size) = some k) (h1 : cs.all (·.oneCell') = true) (ho : o.op = .store T' x y)
    (hx : ∀ ev, EvIn Γ ev → ev x = .pointer (some ⟨g, 0, none⟩) ∧ ev y = .agg cs.toArray)
    (hk' : ∀ w1, Blk w1 g T cs.toArray → Only g w w1 → wpList P l.toArray Q rest a w1) : wpList P l.toArray Q (o :: rest) a w := by
  refine wl_skip hA hg hd (fun ev h => ?_) (hk' (w.setRow g cs.toArray) (setRow_heap w g _ _ T _ K) Only.setRow)
  obtain ⟨hx1, hx2⟩ := hx ev h
  have hs := run_storeVar_row (P := P) w g T T' z.toArray cs.toArray K (by rw [hi, List.size_toArray, hk]) (by simp; omega) (by simpa using h1)
  unfold execOp
  simp only [ho]
  simp [Instr.storeAt, Instr.sureAddr, hx1, hx2, hs, Result.andThen]
theorem results_cell {fn : Func} {t : Nat} {arr : Array Value} (hr : fn.results = #[.cell t T']) (ht : arr.getD t undef = .pointer (some ⟨g, 0, none⟩)) (K : Blk w g T cs.toArray) (hu : P.underlying T' = some d) (hd : isRowD d = true) (hi : (P.info? T').map (·.size) = some k) (hk : cs.length = k) : (results fn arr).run P w = .ok (.agg cs.toArray) w := by
  have h := blk_load K hu hd hi hk
  simp only [Array.getD_eq_getD_getElem?] at ht
  simp [results, hr, ht, asAddr, h]
theorem ret_cell {fn : Func} {R : Ending → World → Prop} (hA : At n Γ a) (t : Nat) (hr : fn.results = #[.cell t T']) (hl : look Γ t = some (.pointer (some ⟨g, 0, none⟩))) (K : Blk w g T cs.toArray) (hu : P.underlying T' = some d) (hd : isRowD d = true) (hi : (P.info? T').map (·.size) = some k) (hk : cs.length = k) (hR : R (.returned (.agg cs.toArray)) w) : bodyPost P fn R .ret a w :=
  ⟨hA.defers, _, results_cell hr (hA.getD t hl) K hu hd hi hk, hR⟩
def constOf : Operand → Value
  | .const v => v
  | _ => undef
def isConst : Operand → Bool
  | .const _ => true
  | _ => false
/-- an array of constants -/
theorem exec_buildC {Γ : Env} {parts : Array (Nat × Operand)} {v : Value} (hev : EvIn Γ ev) (ho : o.op = .build T parts) (hc : parts.all (fun p => isConst p.2) = true) (hr : (Instr.build T (parts.map fun p => (p.1, constOf p.2))).run P w = .ok v w) : (execOp ev o).run P w = .ok (.value v) w := by
  have e : (parts.map fun p => (p.1, ev p.2)) = parts.map fun p => (p.1, constOf p.2) := by
    apply Array.map_congr_left
    intro p hp
    have h1 := (Array.all_eq_true_iff_forall_mem.1 hc) p hp
    obtain ⟨i, x⟩ := p
    cases x with
    | const u => exact congrArg _ (hev.c u)
    | _ => cases h1
  unfold execOp
  simp only [ho]
  have e2 : (parts.map fun (x : Nat × Operand) => match x with | (i, p) => (i, ev p)) = parts.map fun p => (p.1, constOf p.2) := e
  simp [e2, hr]
end
end Go.Proofs.YtjhaccmcjlbllaaGreatDoor
/-
  Rows of bytes that are owned, and what is taken from them, for the walks by facts.
-/
namespace Go.Proofs.YtjhaccmcjlbllaaGreatDoor
open Go.RowKit
theorem lit_one (w : World) (c : UInt8) : Reads (w.alloc (.cells #[.int .u8 ((c.toNat : Nat) : Int)] 5)) (w.heap.size + 1) 1 (some ⟨w.heap.size, 0, none⟩) 1 (u8s [c]) := by
  refine ⟨rfl, fun _ => ⟨⟨w.heap.size, 0, none⟩, rfl, Nat.lt_succ_self _, fun j u hu => ?_⟩⟩
  have hb : Blk (w.alloc (.cells #[.int .u8 ((c.toNat : Nat) : Int)] 5)) w.heap.size 5 #[.int .u8 ((c.toNat : Nat) : Int)] := Blk.new w _ _
  rcases j with _ | j
  · have ha : (⟨w.heap.size, 0, none⟩ : Addr).add 0 = ⟨w.heap.size, 0, none⟩ := by unfold Addr.add; simp
    rw [ha, hb.cell]
    exact hu
  · cases hu
theorem own8_reads {w : World} {B n : Nat} {v : Value} {l : List UInt8} (h : w.ownsRow B 5 1 v n (u8s l)) : ∃ A c, v = .slice A l.length c ∧ Reads w w.heap.size 1 A l.length (u8s l) := by
  obtain ⟨A, c, rfl, hr, _⟩ := own_reads (own8 h)
  have hn : n = l.length := by have := h.1; rw [u8s_length] at this; omega
  subst hn
  obtain ⟨A, c, e, hr, _⟩ := own_reads h
  injection e with e1 e2 e3
  subst e1 e3
  exact ⟨_, _, rfl, hr⟩
/-- what is taken: a slice that reads as bytes -/
def Took (w : World) (r : Value) (l : List UInt8) : Prop := ∃ A c, r = .slice A l.length c ∧ Reads w w.heap.size 1 A l.length (u8s l)
theorem Took.nil (w : World) : Took w (.slice none 0 0) [] := ⟨none, 0, rfl, Reads.none8⟩
/-- a row of bytes of one's own -/
def Own8 (B : Nat) (w : World) (v : Value) (l : List UInt8) : Prop := w.ownsRow B 5 1 v l.length (u8s l)
section
variable {w w' : World} {B B' : Nat} {v : Value} {l m : List UInt8} {P : Program} {ev : Operand → Value} {o : Oper}
theorem Own8.below (h : Own8 B w v l) (hb : Below w.heap.size w w') : Own8 B w' v l := own_below h hb
theorem Own8.mono (h : Own8 B w v l) (hb : B' ≤ B) : Own8 B' w v l := own_mono h hb
theorem Own8.keep (h : Own8 B w v l) (hk : ∀ g, v.ownBlock = some g → w'.heap[g]? = w.heap[g]?) : Own8 B w' v l := own_keep h hk
theorem Own8.took (h : Own8 B w v l) : Took w v l := own8_reads h
theorem Own8.of {n : Nat} (h : w.ownsRow B 5 1 v n (u8s l)) : Own8 B w v l := own8 h
theorem Own8.nil (w : World) : Own8 B w (.slice none 0 0) [] := World.ownsRow_nil _ _ _ _
theorem Took.below (h : Took w v l) (hb : Below w.heap.size w w') : Took w' v l := by
  obtain ⟨A, c, e, hr⟩ := h
  exact ⟨A, c, e, (hr.below hb).more hb.size⟩
theorem exec_append {s x : Operand} {T T' : TypeId} {u r : Value} (ho : o.op = .call { callee := .builtin .append, args := #[s, x], argTypes := #[T, T'] }) (hs : ev s = v) (hx : ev x = u)
    (hr : (Builtin.append_ #[T, T'] o.type #[v, u]).run P w = .ok r w') : (execOp ev o).run P w = .ok (.value r) w' := by
  unfold execOp
  simp only [ho, resolve, invoke, builtin, Sem.run_bind, Sem.run_pure, Result.andThen_ok, List.map_toArray, List.map_cons, List.map_nil, hs, hx, hr]
theorem run_app8 {u : Value} (h : Own8 B w v l) (hu : Took w u m) (hlen : l.length + m.length ≤ 1000000000) (hB : B ≤ w.heap.size) :
    ∃ r w', (Builtin.append_ #[23, 23] 23 #[v, u]).run Tryz.prog w = .ok r w' ∧ Own8 B w' r (l ++ m) ∧ w.grownBy w' v.ownBlock := by
  obtain ⟨A, c, rfl, hr⟩ := hu
  obtain ⟨i0, hi0, hz0, hz1, hz2⟩ := info_parts u8_info
  obtain ⟨v', w', hrun, ho, hg⟩ := run_append_any (P := Tryz.prog) w B 23 23 5 i0 _ 1 1 Tryz.underlying23 hi0 hz0 hz1 hz2 rfl (by omega) v l.length (u8s l) h A m.length c (u8s m) (Gives.of_reads hr (u8s_one m)) (by unfold maxLen; omega) (by omega) hB
  rw [← u8s_append] at ho
  exact ⟨v', w', hrun, .of ho, hg⟩
/-- append of bytes -/
theorem exec_app8 {s x : Operand} {u : Value} (ho : o.op = .call { callee := .builtin .append, args := #[s, x], argTypes := #[23, 23] }) (hty : o.type = 23) (hs : ev s = v) (hx : ev x = u) (h : Own8 B w v l) (hu : Took w u m) (hlen : l.length + m.length ≤ 1000000000) (hB : B ≤ w.heap.size) :
    ∃ r w', (execOp ev o).run Tryz.prog w = .ok (.value r) w' ∧ Own8 B w' r (l ++ m) ∧ w.grownBy w' v.ownBlock := by
  obtain ⟨r, w', hr, h2, h3⟩ := run_app8 h hu hlen hB
  exact ⟨r, w', exec_append ho hs hx (by rw [hty]; exact hr), h2, h3⟩
theorem below_app8 {W : World} {B0 : Nat} (hb : Below B0 W w) (h : Own8 B w v l) (hg : w.grownBy w' v.ownBlock) (h0 : B0 ≤ B) (hB : B0 ≤ w.heap.size) : Below B0 W w' :=
  hb.grown hg hB fun k hk => Nat.le_trans h0 (World.ownsRow.lt h k hk).1
/-- a written slice of one byte -/
theorem took_one (w : World) (c : UInt8) : Took (w.alloc (.cells #[.int .u8 ((c.toNat : Nat) : Int)] 5)) (.slice (some ⟨w.heap.size, 0, none⟩) 1 1) [c] :=
  ⟨_, _, rfl, by simpa using lit_one w c⟩
theorem took_blk {g : Nat} {c : UInt8} (h : Blk w g 5 #[.int .u8 ((c.toNat : Nat) : Int)]) : Took w (.slice (some ⟨g, 0, none⟩) 1 1) [c] := by
  refine ⟨_, _, rfl, rfl, fun _ => ⟨⟨g, 0, none⟩, rfl, h.lt, fun j u hu => ?_⟩⟩
  rcases j with _ | j
  · have ha : (⟨g, 0, none⟩ : Addr).add 0 = ⟨g, 0, none⟩ := by unfold Addr.add; simp
    rw [ha, h.cell]
    exact hu
  · cases hu
end
end Go.Proofs.YtjhaccmcjlbllaaGreatDoor
/-
  Rows of bytes of one's own that may begin in the middle of their block.
-/
namespace Go.Proofs.YtjhaccmcjlbllaaGreatDoor
open Go Go.RowKit
set_option linter.unusedSimpArgs false
def OwnX (B : Nat) (w : World) (v : Value) (l : List UInt8) : Prop :=
  (v = .slice none 0 0 ∧ l = []) ∨ ∃ (g off cap : Nat) (cur : List Value), v = .slice (some ⟨g, off, none⟩) l.length cap ∧ B ≤ g ∧ Blk w g 5 cur.toArray ∧ l.length ≤ cap ∧ cap ≤ maxLen ∧ off + cap ≤ cur.length ∧ (cur.drop off).take l.length = u8s l
def spl : List Value → Nat → List Value → List Value
  | cs, _, [] => cs
  | cs, o, u :: r => spl (cs.set o u) (o + 1) r
theorem spl_eq : ∀ (vs cs : List Value) (o : Nat), o + vs.length ≤ cs.length → spl cs o vs = cs.take o ++ vs ++ cs.drop (o + vs.length)
  | [], cs, o, _ => by
    unfold spl
    simp
  | u :: r, cs, o, h => by
    rw [List.length_cons] at h
    unfold spl
    rw [spl_eq r (cs.set o u) (o + 1) (by rw [List.length_set]; omega)]
    have e1 : (cs.set o u).take (o + 1) = cs.take o ++ [u] := by
      rw [List.take_add_one, List.take_set_of_le (Nat.le_refl o), List.getElem?_set_self (by omega)]
      rfl
    have e2 : (cs.set o u).drop (o + 1 + r.length) = cs.drop (o + (u :: r).length) := by
      rw [List.drop_set_of_lt (by omega), List.length_cons]
      congr 1
      omega
    rw [e1, e2, List.append_assoc (cs.take o)]
    rfl
theorem blk_setCells {g : Nat} {T : TypeId} : ∀ (vs : List Value) (o : Nat) (w : World) (cs : List Value), Blk w g T cs.toArray → Blk (w.setCells g o vs) g T (spl cs o vs).toArray ∧ w.grownBy (w.setCells g o vs) (some g)
  | [], o, w, cs, K => ⟨K, ⟨rfl, rfl, rfl, Nat.le_refl _, fun _ _ _ => rfl⟩⟩
  | u :: r, o, w, cs, K => by
    have h2 := K.set_ o u
    rw [List.setIfInBounds_toArray] at h2
    obtain ⟨h3, h4⟩ := blk_setCells r (o + 1) _ _ h2
    have h5 : w.grownBy (w.setCell ⟨g, o, none⟩ u) (some g) := (Only.set (g := g) (i := o) (w := w) (u := u)).grown
    exact ⟨h3, ⟨h4.os.trans h5.os, h4.tape.trans h5.tape, h4.output.trans h5.output, Nat.le_trans h5.size h4.size, fun i hi hn => (h4.block i (Nat.lt_of_lt_of_le hi h5.size) hn).trans (h5.block i hi hn)⟩⟩
section
variable {B B' : Nat} {w w' : World} {v : Value} {l m : List UInt8}
theorem OwnX.nil (w : World) : OwnX B w (.slice none 0 0) [] := .inl ⟨rfl, rfl⟩
theorem OwnX.mono (h : OwnX B w v l) (hb : B' ≤ B) : OwnX B' w v l := by
  rcases h with h | ⟨g, off, cap, cur, h1, h2, h3⟩
  · exact .inl h
  · exact .inr ⟨g, off, cap, cur, h1, Nat.le_trans hb h2, h3⟩
theorem OwnX.keep (h : OwnX B w v l) (hk : ∀ g, v.ownBlock = some g → w'.heap[g]? = w.heap[g]?) : OwnX B w' v l := by
  rcases h with h | ⟨g, off, cap, cur, h1, h2, h3, h4⟩
  · exact .inl h
  · exact .inr ⟨g, off, cap, cur, h1, h2, (hk g (by rw [h1]; rfl)).trans h3, h4⟩
theorem OwnX.lt (h : OwnX B w v l) : ∀ g, v.ownBlock = some g → B ≤ g ∧ g < w.heap.size := fun g hg => by
  rcases h with ⟨h, _⟩ | ⟨g', off, cap, cur, h1, h2, h3, h4⟩
  · rw [h] at hg; cases hg
  · rw [h1] at hg
    have : g' = g := by simpa [Value.ownBlock] using hg
    subst this
    exact ⟨h2, h3.lt⟩
theorem OwnX.below (h : OwnX B w v l) (hb : Below w.heap.size w w') : OwnX B w' v l := h.keep fun g hg => hb.block g (h.lt g hg).2
theorem OwnX.kind (h : OwnX B w v l) {g : Nat} (hg : v.ownBlock = some g) : ∃ cs, Blk w g 5 cs := by
  rcases h with ⟨h, _⟩ | ⟨g', off, cap, cur, h1, h2, h3, h4⟩
  · rw [h] at hg; cases hg
  · rw [h1] at hg
    have : g' = g := by simpa [Value.ownBlock] using hg
    subst this
    exact ⟨_, h3⟩
theorem OwnX.ne (h : OwnX B w v l) {i : Nat} {t : TypeId} {cs : Array Value} (hi : Blk w i t cs) (ht : t ≠ 5) : ∀ g, v.ownBlock = some g → g ≠ i := fun g hg he => by
  obtain ⟨cs', hc⟩ := h.kind hg
  unfold Blk at hc hi
  rw [he, hi] at hc
  injection hc with hc
  injection hc with _ hc
  exact ht hc
theorem OwnX.only {k : Nat} (h : OwnX B w v l) (hs : Only k w w') (hne : ∀ g, v.ownBlock = some g → g ≠ k) : OwnX B w' v l := h.keep fun g hg => hs.block g (hne g hg)
theorem OwnX.cells {g off : Nat} {cur : List Value} (h3 : Blk w g 5 cur.toArray) (h5 : (cur.drop off).take l.length = u8s l) : ∀ j u, (u8s l)[j]? = some u → w.cell? ((⟨g, off, none⟩ : Addr).add j) = some u := fun j u hu => by
  have hj : j < l.length := by have := (List.getElem?_eq_some_iff.1 hu).1; rwa [u8s_length] at this
  have e : ((⟨g, off, none⟩ : Addr).add j) = ⟨g, off + j, none⟩ := by
    unfold Addr.add
    by_cases h : j = 0 <;> simp [h]
  rw [e, h3.cell]
  rw [← h5, List.getElem?_take_of_lt hj, List.getElem?_drop] at hu
  simpa using hu
theorem OwnX.took (h : OwnX B w v l) : Took w v l := by
  rcases h with ⟨h, h2⟩ | ⟨g, off, cap, cur, h1, h2, h3, h4, _, h6, h5⟩
  · subst h h2
    exact Took.nil w
  · exact ⟨_, _, h1, by rw [u8s_length]; omega, fun _ => ⟨_, rfl, h3.lt, OwnX.cells h3 h5⟩⟩
theorem OwnX.form (h : OwnX B w v l) : ∃ A c, v = .slice A l.length c ∧ l.length ≤ c := by
  rcases h with ⟨h, h2⟩ | ⟨g, off, cap, cur, h1, h2, h3, h4, _⟩
  · subst h h2; exact ⟨none, 0, rfl, Nat.le_refl _⟩
  · exact ⟨_, _, h1, h4⟩
/-- bytes ahead -/
theorem OwnX.cut {A : Option Addr} {n c k : Nat} (h : OwnX B w (.slice A n c) l) (hk : k ≤ n) : OwnX B w (.slice A k c) (l.take k) := by
  rcases h with ⟨h, h2⟩ | ⟨g, off, cap, cur, h1, h2, h3, h4, h7, h6, h5⟩
  · injection h with h8 h9 h10
    subst h8 h9 h10 h2
    have : k = 0 := by omega
    subst this
    exact .inl ⟨rfl, rfl⟩
  · injection h1 with h8 h9 h10
    subst h8 h9 h10
    have hl : (l.take k).length = k := by rw [List.length_take]; omega
    refine .inr ⟨g, off, c, cur, by rw [hl], h2, h3, by omega, h7, h6, ?_⟩
    rw [hl, show u8s (l.take k) = (u8s l).take k by simp [u8s], ← h5, List.take_take, Nat.min_eq_left hk]
/-- bytes behind -/
theorem OwnX.tail {ad : Addr} {n c k : Nat} (h : OwnX B w (.slice (some ad) n c) l) (hk : k < n) : OwnX B w (.slice (some ⟨ad.block, ad.off + k, none⟩) (n - k) (c - k)) (l.drop k) := by
  rcases h with ⟨h, _⟩ | ⟨g, off, cap, cur, h1, h2, h3, h4, h7, h6, h5⟩
  · cases h
  · injection h1 with h8 h9 h10
    injection h8 with h8
    subst h8 h9 h10
    have hl : (l.drop k).length = l.length - k := by rw [List.length_drop]
    refine .inr ⟨g, off + k, c - k, cur, by rw [hl], h2, h3, by omega, by omega, by omega, ?_⟩
    rw [hl, u8s_drop, ← h5, List.drop_take, List.drop_drop]
theorem Own8.x (h : Own8 B w v l) : OwnX B w v l := by
  rcases h.2 with ⟨e, h0⟩ | ⟨g, cap, cur, e, h1, h2, h3, h4, h5, h6⟩
  · exact .inl ⟨e, List.length_eq_zero_iff.1 h0⟩
  · refine .inr ⟨g, 0, cap, cur.toList, e, h1, ?_, h3, h4, by simp; omega, ?_⟩
    · unfold Blk; simpa using h2
    · rw [Nat.mul_one] at h6
      simpa using h6
set_option maxRecDepth 100000 in
/-- bytes are appended, out of a slice or a string -/
theorem run_appS {tx : TypeId} {x : Value} (h : OwnX B w v l) (hsrc : Src Tryz.prog 1 tx x m.length (u8s m) w) (hlen : l.length + m.length ≤ 1000000000) (hB : B ≤ w.heap.size) :
    ∃ r w', (Builtin.append_ #[23, tx] 23 #[v, x]).run Tryz.prog w = .ok r w' ∧ OwnX B w' r (l ++ m) ∧ w.grownBy w' v.ownBlock ∧ (r.ownBlock = v.ownBlock ∨ r.ownBlock = some w.heap.size) := by
  obtain ⟨i0, hi0, hz0, hz1, hz2⟩ := info_parts u8_info
  have hu := Tryz.underlying23
  rw [← hz1] at hsrc
  have hnew : ∀ (old : Option Addr) (oc : Nat), (Builtin.firstCells 1 l.length (.slice old l.length oc)).run Tryz.prog w.drew = .ok (u8s l).toArray w.drew → oc < l.length + m.length → v = .slice old l.length oc →
      ∃ r w', (Builtin.append_ #[23, tx] 23 #[v, x]).run Tryz.prog w = .ok r w' ∧ OwnX B w' r (l ++ m) ∧ w.grownBy w' v.ownBlock ∧ (r.ownBlock = v.ownBlock ∨ r.ownBlock = some w.heap.size) := by
    intro old oc hf hg hv
    have hb : Builtin.nextslicecap (l.length + m.length) oc * i0.bytes ≤ 281474976710656 := growslice_fits hg (by rw [hz2]; omega)
    have hrun := run_append_grow_src (P := Tryz.prog) w 23 tx 23 5 i0 _ hu hi0 hz0 old l.length oc (u8s l) (by rw [hz1]; exact hf) x m.length (u8s m) hsrc hg (by omega) hb
    have hge := grownCap_ge w (l.length + m.length) oc 5
    have hle := grownCap_le_maxLen w (l.length + m.length) oc 5 (by unfold maxLen; omega)
    obtain ⟨C, hC⟩ : ∃ C, grownCap w (l.length + m.length) oc 5 = C := ⟨_, rfl⟩
    rw [hC] at hrun hge hle
    rw [← hv] at hrun
    refine ⟨_, _, hrun, .inr ⟨w.heap.size, 0, C, (u8s l ++ u8s m) ++ (Builtin.zeroCells (Value.int .u8 0).cells (C - (l.length + m.length))).toList, by rw [List.length_append], hB, ?_, by rw [List.length_append]; exact hge, hle, ?_, ?_⟩, ⟨rfl, rfl, rfl, by simp, fun k hk _ => heap_alloc_old w.drew _ hk⟩, .inr rfl⟩
    · have := heap_alloc_new w.drew (.cells ((u8s l ++ u8s m).toArray ++ Builtin.zeroCells (Value.int .u8 0).cells (C - (l.length + m.length))) 5)
      unfold Blk
      refine this.trans ?_
      congr 2
      simp
    · have hz := size_zeroCells (Value.int .u8 0).cells (C - (l.length + m.length))
      have h1 : (Value.int .u8 0).cells.size = 1 := rfl
      rw [h1, Nat.mul_one] at hz
      rw [Nat.zero_add, List.length_append, List.length_append, u8s_length, u8s_length]
      have hz2 : (Builtin.zeroCells (Value.int .u8 0).cells (C - (l.length + m.length))).toList.length = C - (l.length + m.length) := by simpa using hz
      rw [hz2]
      omega
    · rw [List.drop_zero, List.take_left' (by rw [List.length_append, List.length_append, u8s_length, u8s_length]), u8s_append]
  rcases h with ⟨h, h2⟩ | ⟨g, off, cap, cur, h1, h2, h3, h4, h7, h6, h5⟩
  · subst h h2
    by_cases hm0 : m.length = 0
    · have hm : m = [] := List.length_eq_zero_iff.1 hm0
      subst hm
      refine ⟨.slice none 0 0, w, ?_, OwnX.nil w, ⟨rfl, rfl, rfl, Nat.le_refl _, fun _ _ _ => rfl⟩, .inl rfl⟩
      have e1 := hsrc.len w
      have e2 := hsrc.cells
      simp only [List.length_nil] at e1 e2
      rcases hsrc.kind with ⟨e', hk⟩ | hk <;> simp [Builtin.append_, run_underlying hu, run_underlying hk, sizeOf, typeInfo, hi0, e1, e2, Result.andThen]
    · exact hnew none 0 (by simp [Builtin.firstCells, loadCells, loadCellsFrom, u8s]) (by simp; omega) rfl
  · by_cases hroom : l.length + m.length ≤ cap
    · have hrun := run_append_room_src (P := Tryz.prog) w 23 tx 23 5 i0 hu hi0 g off l.length cap x m.length (u8s m) hsrc hroom
        (fun j hj => by rw [u8s_length] at hj; rw [hz1, h3.cell]; simp; omega) (fun j hj => h3.frozen _)
      rw [hz1, Nat.mul_one] at hrun
      rw [← h1] at hrun
      obtain ⟨hb1, hb2⟩ := blk_setCells (u8s m) (off + l.length) w cur h3
      rw [spl_eq _ _ _ (by rw [u8s_length]; omega)] at hb1
      refine ⟨_, _, hrun, .inr ⟨g, off, cap, _, by rw [List.length_append], h2, hb1, by rw [List.length_append]; exact hroom, h7, ?_, ?_⟩, by rw [h1]; exact hb2, .inl (by rw [h1]; rfl)⟩
      · rw [List.length_append, List.length_append, List.length_take, List.length_drop, u8s_length]
        omega
      · have e1 : (cur.take (off + l.length)).length = off + l.length := by rw [List.length_take]; omega
        rw [List.append_assoc, List.drop_append_of_le_length (by omega), List.length_append, List.take_append, List.length_drop, e1, show off + l.length - off = l.length by omega, List.take_of_length_le (by rw [List.length_drop, e1]; omega), show l.length + m.length - l.length = m.length by omega, List.take_left' (u8s_length m), u8s_append]
        congr 1
        rw [List.drop_take, show off + l.length - off = l.length by omega, h5]
    · have hc := OwnX.cells (l := l) h3 h5
      exact hnew (some ⟨g, off, none⟩) cap (run_firstCells_some w.drew 1 l.length _ l.length cap (u8s l) (by rw [u8s_length]; omega) (by simpa using hc)) (by omega) h1
set_option maxRecDepth 100000 in
theorem src_reads {A : Option Addr} {c : Nat} (hr : Reads w w.heap.size 1 A m.length (u8s m)) : Src Tryz.prog 1 23 (.slice A m.length c) m.length (u8s m) w := by
  have hu := Tryz.underlying23
  cases A with
  | some ad => exact Src.ofSlice w hu ad m.length c (u8s m) (by rw [u8s_length]; omega) (fun j u hj => by
      have hn : 0 < m.length := by have := (List.getElem?_eq_some_iff.1 hj).1; rw [u8s_length] at this; omega
      obtain ⟨ad', e, _, hc⟩ := hr.2 hn
      injection e with e
      subst e
      exact hc j u hj) (u8s_one m)
  | none =>
    have h0 : m.length = 0 := by
      rcases Nat.eq_zero_or_pos m.length with h0 | h0
      · exact h0
      · obtain ⟨ad, e, _⟩ := hr.2 h0; cases e
    have hm : m = [] := List.length_eq_zero_iff.1 h0
    subst hm
    exact Src.ofNil w hu c
set_option maxRecDepth 100000 in
theorem src_string (s : ByteArray) (hm : s.data.toList = m) : Src Tryz.prog 1 9 (.string s) m.length (u8s m) w := by
  have h := Src.ofString (P := Tryz.prog) w (tx := 9) Tryz.underlying9 s
  have e1 : s.size = m.length := by rw [← hm]; rfl
  have e2 : byteCells s = u8s m := by rw [← hm]; rfl
  rw [e1, e2] at h
  exact h
set_option maxRecDepth 100000 in
/-- bytes are appended -/
theorem run_appX {A : Option Addr} {c : Nat} (h : OwnX B w v l) (hr : Reads w w.heap.size 1 A m.length (u8s m)) (hlen : l.length + m.length ≤ 1000000000) (hB : B ≤ w.heap.size) :
    ∃ r w', (Builtin.append_ #[23, 23] 23 #[v, .slice A m.length c]).run Tryz.prog w = .ok r w' ∧ OwnX B w' r (l ++ m) ∧ w.grownBy w' v.ownBlock ∧ (r.ownBlock = v.ownBlock ∨ r.ownBlock = some w.heap.size) :=
  run_appS h (src_reads hr) hlen hB
set_option maxRecDepth 100000 in
theorem run_appXs {s : ByteArray} (h : OwnX B w v l) (hm : s.data.toList = m) (hlen : l.length + m.length ≤ 1000000000) (hB : B ≤ w.heap.size) :
    ∃ r w', (Builtin.append_ #[23, 9] 23 #[v, .string s]).run Tryz.prog w = .ok r w' ∧ OwnX B w' r (l ++ m) ∧ w.grownBy w' v.ownBlock ∧ (r.ownBlock = v.ownBlock ∨ r.ownBlock = some w.heap.size) :=
  run_appS h (src_string s hm) hlen hB
end
end Go.Proofs.YtjhaccmcjlbllaaGreatDoor
/-
  Texts as rows of bytes: parts of them, and the bytes that a conversion copies.
-/
namespace Go.Proofs.YtjhaccmcjlbllaaGreatDoor
open Go.RowKit
set_option linter.unusedSimpArgs false
set_option linter.unusedVariables false
/-- a text of bytes -/
abbrev St (l : List UInt8) : ByteArray := ⟨l.toArray⟩
theorem cell_add0 {w : World} {g k : Nat} {v : Value} (h : w.cell? ((⟨g, 0, none⟩ : Addr).add k) = v) : w.cell? ⟨g, k, none⟩ = v := by rwa [add0] at h
theorem extract_drop (l : List UInt8) (a b : Nat) (h : b = l.length) : (St l).extract a b = St (l.drop a) := by
  apply ByteArray.ext
  apply Array.ext'
  subst h
  rw [ByteArray.data_extract, Array.toList_extract, List.extract_eq_take_drop]
  exact List.take_of_length_le (by rw [List.length_drop]; exact Nat.le_refl _)
theorem extract_take (l : List UInt8) (b : Nat) : (St l).extract 0 b = St (l.take b) := by
  apply ByteArray.ext
  apply Array.ext'
  simp
theorem snoc_of {l : List UInt8} {k : Nat} (h : l.length = k + 1) : ∃ r x, l = r ++ [x] ∧ r.length = k := by
  refine ⟨l.dropLast, l.getLast (fun e => by rw [e] at h; cases h), (List.dropLast_concat_getLast _).symm, by rw [List.length_dropLast, h]; rfl⟩
theorem get_snoc (r : List UInt8) (x : UInt8) (k : Nat) (hk : r.length = k) (h : k < (St (r ++ [x])).size) : (St (r ++ [x]))[k] = x := by
  subst hk
  show (r ++ [x])[r.length]'_ = x
  simp
theorem OwnX.some {B : Nat} {w : World} {v : Value} {l : List UInt8} (h : OwnX B w v l) (hl : 0 < l.length) : ∃ g off c, v = .slice (some ⟨g, off, none⟩) l.length c ∧ l.length ≤ c := by
  rcases h with ⟨_, h2⟩ | ⟨g, off, cap, cur, h1, h2, h3, h4, _⟩
  · rw [h2] at hl; cases hl
  · exact ⟨_, _, _, h1, h4⟩
theorem blk_x {B g : Nat} {w : World} {l : List UInt8} {n : Nat} (K : Blk w g 5 (u8s l).toArray) (hB : B ≤ g) (hn : n = l.length) (hm : n ≤ 1000000) : OwnX B w (.slice (some ⟨g, 0, none⟩) n n) l := by
  subst hn
  exact .inr ⟨g, 0, l.length, u8s l, rfl, hB, K, Nat.le_refl _, Nat.le_trans hm (by decide), by rw [Nat.zero_add, u8s_length]; exact Nat.le_refl _, by rw [List.drop_zero, ← u8s_length l, List.take_length]⟩
theorem OwnX.reads {B n c : Nat} {w : World} {A : Option Addr} {l : List UInt8} (h : OwnX B w (.slice A n c) l) : Reads w w.heap.size 1 A l.length (u8s l) := by
  obtain ⟨A', c', e, hr⟩ := h.took
  injection e with e1
  subst e1
  exact hr
theorem conv_str (l : List UInt8) (w : World) : ∃ c w', (convert 9 23 (.string (St l))).run Tryz.prog w = .ok (.slice (some ⟨w.heap.size, 0, none⟩) l.length c) w' ∧ Reads w' w'.heap.size 1 (some ⟨w.heap.size, 0, none⟩) l.length (u8s l) ∧ Below w.heap.size w w' := by
  have hcv := Lib.run_convert_string_bytes (P := Tryz.prog) w 9 23 5 (St l) Tryz.underlying9 Tryz.underlying23 Tryz.underlying5
  refine ⟨_, _, hcv, ?_, ⟨rfl, rfl, rfl, by rw [Lib.bytesWorld_size]; omega, fun k hk => Lib.bytesWorld_at_old w 5 (St l) k hk⟩⟩
  refine ⟨by rw [u8s_length, Nat.mul_one], fun _ => ⟨_, rfl, by rw [Lib.bytesWorld_size]; exact Nat.lt_succ_self _, fun j u hu => ?_⟩⟩
  have hj : j < (St l).size := by
    rcases Nat.lt_or_ge j l.length with h | h
    · exact h
    · rw [u8s_get, List.getElem?_eq_none h] at hu; cases hu
  rw [add0, Lib.bytesWorld_cell w 5 (St l) j hj, ← hu, u8s_get]
  have hj2 : j < l.length := hj
  rw [List.getD_eq_getElem?_getD, List.getElem?_eq_getElem hj2]
  rfl
theorem st_app (a b : List UInt8) : St a ++ St b = St (a ++ b) := by
  refine ByteArray.ext ?_
  simp [ByteArray.data_append]
theorem u8_eq (c : UInt8) (k : Nat) (hk : k < 256) : (((c.toNat : Nat) : Int) == (k : Int)) = (c == UInt8.ofNat k) := by
  rw [Bool.eq_iff_iff, beq_iff_eq, beq_iff_eq]
  constructor
  · intro h
    refine UInt8.toNat_inj.1 ?_
    rw [UInt8.toNat_ofNat']
    omega
  · rintro rfl
    rw [UInt8.toNat_ofNat']
    omega
end Go.Proofs.YtjhaccmcjlbllaaGreatDoor
