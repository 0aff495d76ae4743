/-
  Plain words on memory, bytes and rows for the walks: no program in sight but its name in the namespace.
-/
import Derived.WalkKit
import Derived.WalkSpells
import Derived.WalkLawsBesides
import Derived.Handy
import Derived.ProofKit
import Derived.OpenShut
import Derived.Deep.Draws
import Derived.Deep.QuietTactic
import Derived.BigQuiet
import Derived.Lib.Hide
import Derived.ChangeSame
import Derived.Deep.DeepHandedRow
import Derived.Lay
import Derived.LaidMore
import Derived.LaidLaws
import Derived.Stop.Joined
import Derived.Orders
import Derived.OrdersHeld
import Derived.Below
import Derived.Deep.LoopGhost
import Derived.Laws.OwnMore
import Derived.Deep.AppendLies
import Derived.Deep.AppendSrc
import Derived.OwnWalk
import Derived.Deep.Cut
import Derived.Lib.QuietBelow
import Derived.Laws.BytesString
import Derived.Shelf.Strings.Builder1
import Derived.Shelf.Strings.Builder2
import Derived.Shelf.Strings.OnBuilder
import Derived.Shelf.Small.Utf8
import Derived.Shelf.Strings.BuilderF
import Derived.Shelf.Strings.BuilderK
import Derived.Shelf.Strings.BuilderRune
import Derived.Shelf.Utf8.RuneCount
import Derived.Shelf.Strconv.Itoa0
import Derived.Shelf.Strconv.Itoa1
import Derived.Shelf.LaysM
import Derived.Shelf.Strconv.Itoa2
import Derived.Shelf.Strconv.Itoa3
import Derived.Shelf.Strconv.Itoa4
import Derived.Shelf.Strings.Search1
import Derived.Shelf.Strings.Search2
import Derived.Shelf.Strings.Search3
import Derived.Shelf.Strings.Count
import Derived.Shelf.Strings.Shaped
import Derived.Shelf.Strings.Split
import Derived.Shelf.Strings.SplitShaped
import Derived.Shelf.Unicode.Latin
import Derived.Shelf.Unicode.Decode
import Derived.Shelf.Strings.RuneCount
import Derived.Shelf.Strings.Explode
import Derived.Shelf.Unicode.DecodeSlow
import Derived.Shelf.Unicode.DecodeAny
import Derived.Shelf.Unicode.CaseLookup
import Derived.Shelf.Unicode.CaseConvert
import Derived.Shelf.Unicode.CaseTo
import Derived.Shelf.Unicode.CaseLaid
import Derived.Shelf.Strings.MapAny
import Derived.Shelf.Strings.CaseAny
import Derived.Shelf.Bytes.SlIndexSmall
import Derived.Shelf.Bytes.SlIndexAt
import Derived.Shelf.Bytes.SlSearch0
import Derived.Shelf.Bytes.SlSearch1
import Derived.Shelf.Bytes.SlSearch2
import Derived.Shelf.Bytes.SlIndexWhole
import Derived.Ground.SlbCloneProg
import Derived.Shelf.Bytes.SlClone
import Derived.Shelf.Bytes.SlEqualAll
import Derived.Shelf.Bytes.Small
import Derived.Shelf.Bytes.IndexByte
import Derived.Test.YtmjikfeaopmejaaGreatDoorProg
import Derived.Test.YtmjikfeaopmejaaGreatDoorChecked
import Derived.IntWalk
import Derived.Laws.AppendOwn
import Derived.Maps.AppendAt
import Derived.Lib.SliceRun
import Derived.Lib.SplitLaws
namespace Go.Proofs.YtmjikfeaopmejaaGreatDoor
open Go.RowKit Go.WideShapes Go.ChangeShapes

/-- block g holds just these cells, none frozen -/
def Blk (w : World) (g : Nat) (t : TypeId) (cs : Array Value) : Prop := w.heap[g]? = some (.cells cs t (0, 0))
section
variable {w w' : World} {g : Nat} {t : TypeId} {cs : Array Value}
theorem Blk.lt (h : Blk w g t cs) : g < w.heap.size := by
  rcases Nat.lt_or_ge g w.heap.size with hlt | hge
  · exact hlt
  · unfold Blk at h; rw [Array.getElem?_eq_none hge] at h; cases h
theorem Blk.cell (h : Blk w g t cs) (i : Nat) : w.cell? ⟨g, i, none⟩ = cs[i]? := cell_of_row w g i cs t (0, 0) h
theorem Blk.frozen (h : Blk w g t cs) (i : Nat) : w.frozen? ⟨g, i, none⟩ = false := by
  unfold Blk at h
  simp [World.frozen?, h]
theorem Blk.new (w : World) (t : TypeId) (cs : Array Value) : Blk (w.alloc (.cells cs t)) w.heap.size t cs := heap_alloc_new w _
theorem Blk.drew (h : Blk w g t cs) : Blk w.drew g t cs := h
theorem Blk.drewN (h : Blk w g t cs) (n : Nat) : Blk (w.drewN n) g t cs := h
theorem Blk.alloc (h : Blk w g t cs) (o : Obj) : Blk (w.alloc o) g t cs := (Below.heap_alloc w o g h.lt).trans h
theorem Blk.set_ (h : Blk w g t cs) (i : Nat) (u : Value) : Blk (w.setCell ⟨g, i, none⟩ u) g t (cs.setIfInBounds i u) := by
  unfold Blk at h ⊢
  simp [World.setCell, Array.getElem?_modify, h]
theorem Blk.far (h : Blk w g t cs) {p : Addr} (hp : g ≠ p.block) (u : Value) : Blk (w.setCell p u) g t cs := (Below.heap_setCell w p u g hp).trans h
theorem Blk.below {B : Nat} (h : Blk w g t cs) (hb : Below B w w') (hg : g < B) : Blk w' g t cs := (hb.block g hg).trans h
theorem Blk.grown {row : Option Nat} (h : Blk w g t cs) (hb : w.grownBy w' row) (hg : some g ≠ row) : Blk w' g t cs := (hb.block g h.lt hg).trans h
end
theorem below_drewN {B : Nat} {a w : World} (h : Below B a w) (n : Nat) : Below B a (w.drewN n) := ⟨h.os, h.tape, h.output, h.size, h.block⟩

/-- the byte at a place -/
def bat (s : ByteArray) (i : Nat) : UInt8 := if h : i < s.size then s[i] else 0
theorem bat_eq (s : ByteArray) (i : Nat) (h : i < s.size) : bat s i = s[i] := by simp [bat, h]
theorem take_snoc (s : ByteArray) (k : Nat) (h : k < s.size) : s.data.toList.take (k + 1) = s.data.toList.take k ++ [s[k]] := by
  rw [List.take_succ_eq_append_getElem (by simpa using h)]; rfl
theorem ret_bool {a b : Bool} (h : a = b) : Ending.returned (.bool a) = .returned (.bool b) := by rw [h]
theorem ret_int {k : IntKind} {a b : Int} (h : a = b) : Ending.returned (.int k a) = .returned (.int k b) := by rw [h]
theorem ret_str {a b : ByteArray} (h : a = b) : Ending.returned (.string a) = .returned (.string b) := by rw [h]

theorem run_make_rowN {P : Program} (t e : TypeId) (i : TypeInfo) (z : Value) (ht : P.underlying t = some (.slice e)) (hi : P.info? e = some i) (hz : i.zero = some z)
    (kl kc : IntKind) (n c : Nat) (hnc : n ≤ c) (hbytes : i.bytes * c ≤ 281474976710656) (h63 : c ≤ 9223372036854775807) (w : World) :
    (Instr.makeSlice t (.int kl (n : Int)) (.int kc (c : Int))).run P w = .ok (.slice (some ⟨w.heap.size, 0, none⟩) n c) (w.alloc (.cells (madeCells z.cells (c * i.size)) e)) := by
  have hb : (i.bytes : Int) * (c : Int) ≤ 281474976710656 := by
    have h : ((i.bytes * c : Nat) : Int) ≤ 281474976710656 := by omega
    rwa [Int.natCast_mul] at h
  have hr := run_make (P := P) w t e i z ht hi hz kl kc n c (by omega) (by omega) hb (by omega)
  simp only [Int.toNat_natCast] at hr
  exact hr

/-- a row of booleans -/
def bcells (l : List Bool) : Array Value := (l.map Value.bool).toArray
/-- a row of booleans, told by a function -/
def bfn (f : Nat → Bool) (n : Nat) : Array Value := ((List.range n).map (fun j => Value.bool (f j))).toArray
def uptoB (f : Nat → Bool) (k : Nat) : Nat → Bool := fun j => decide (j < k) && f j
theorem bfn_get (f : Nat → Bool) (n i : Nat) (h : i < n) : (bfn f n)[i]? = some (.bool (f i)) := by simp [bfn, h]
theorem bfn_ext (f g : Nat → Bool) (n : Nat) (h : ∀ i, i < n → f i = g i) : bfn f n = bfn g n := by
  unfold bfn; congr 1; apply List.map_congr_left; intro a ha; simp at ha; rw [h a ha]
theorem bfn_setAt (f g : Nat → Bool) (n k : Nat) (b : Bool) (hb : b = g k) (h : ∀ i, i < n → i ≠ k → f i = g i) : (bfn f n).setIfInBounds k (.bool b) = bfn g n := by
  subst hb
  apply Array.ext
  · simp [bfn]
  · intro i h1 h2
    have hi : i < n := by simpa [bfn] using h2
    rw [Array.getElem_setIfInBounds (by simpa [bfn] using h2)]
    simp only [bfn, List.getElem_toArray, List.getElem_map, List.getElem_range]
    by_cases e : k = i
    · subst e; simp
    · simp only [e, if_false]
      rw [h i hi (fun x => e x.symm)]
theorem bfn_set (f : Nat → Bool) (n k : Nat) (b : Bool) (hb : b = f k) : (bfn (uptoB f k) n).setIfInBounds k (.bool b) = bfn (uptoB f (k+1)) n :=
  bfn_setAt _ _ _ _ _ (by simp [uptoB, hb]) (fun i _ hne => by
    have : (i < k) ↔ (i < k + 1) := by omega
    simp [uptoB, this])
theorem bfn_none (n : Nat) : bcells (List.replicate n false) = bfn (fun _ => false) n := by
  apply Array.ext
  · simp [bfn, bcells]
  · intro i h1 h2; simp [bfn, bcells]
theorem madeBools (n : Nat) : madeCells (Value.bool false).cells n = bcells (List.replicate n false) := by
  unfold madeCells bcells
  apply Array.ext
  · simp
  · intro i h1 h2; simp [Value.cells, Nat.mod_one]

/-- the row's last step where the call made memory of its own -/
theorem post_of_below {H : Type} {enc : TypeId × Value → H} {P : Program}
    {f : Func} {s : ChangeSpec} {apart fresh handsOn again : Bool} {W W' : World} {args : Array Value} {v : Value} {ds gs : List (DataW H)} {before pa pv : List MemPlace}
    (hW : DataW.Whole enc P f.params.toList s.vars apart W args.toList ds gs before)
    (hres : ∀ (b : Nat) (sp : Nat → Bool) (hd : Bool), DataW.TrodAll enc P W' b sp hd f.resultTypes.toList (v.resultList f.resultTypes.size) (s.fn H (ds ++ gs)).results [])
    (hargs : ∀ sp : Nat → Bool, (∀ p ∈ before, sp p.block = true) → DataW.TrodAll enc P W' 0 sp true f.params.toList args.toList (s.fn H (ds ++ gs)).args pa)
    (hvars : ∀ sp : Nat → Bool, (∀ p ∈ before, sp p.block = true) → DataW.TrodVars enc P W' sp s.vars (s.fn H (ds ++ gs)).vars pv)
    (hps : before = pa ++ pv) (hb : Below W.heap.size W W')
    (hok : ∀ (j : Nat) (t : TypeId) (r : Value), f.resultTypes[j]? = some t → (v.resultList f.resultTypes.size)[j]? = some r → Value.okWide P W' .any 0 t r) :
    s.post enc P f apart fresh handsOn again W args v W' := by
  have hlt : ∀ p ∈ before, p.block < W.heap.size := fun p hp => hW.lt p hp
  have hold : ∀ p ∈ before, (fun b => decide (b < W.heap.size)) p.block = true := fun p hp => by simpa using hlt p hp
  refine ⟨ds, gs, before, [], pa, pv, hW, hres _ _ _, hargs _ hold, hvars _ hold, World.keptBut_mono (fun p hp => ⟨hp, ?_⟩) (hb.frame (· ∈ before)), fun _ => ?_⟩
  · rw [hps, List.mem_append] at hp
    exact Or.inr hp
  · obtain ⟨_, _, _, _, _, hz, hn⟩ := hW
    refine ⟨hok, _, _, ([] ++ pa) ++ pv, ⟨[] ++ pa, pv, trodAll_append (hargs _ (fun _ _ => rfl)) (hres _ _ _), hvars _ (fun _ _ => rfl), rfl, ?_, ?_⟩, ?_⟩
    · intro b off hp
      have hin : MemPlace.cell b off ∈ before := by rw [hps]; simpa using hp
      rw [hb.frozen (hlt _ hin)]
      exact hz b off hin
    · intro ha
      have := hn ha
      rw [hps] at this
      simpa using this
    · intro p hp _
      rw [hps]
      simpa using hp
/-- there is an input that fits, at a world whose shape is given -/
theorem witness_row_shaped {H : Type} {enc : TypeId × Value → H} {C : Checked} {os : Os} {f : FuncId} {fn : Func} {s : OpenSpec} {conds : List PathCond} {apart : Bool} {laid : List (String × DataW Unit)} (modest : Bool) (w0 : World) (args : Array Value) (hos : w0.os = os)
    (hsh : (w0.forCall (fun _ _ => 0) ⟨#[], args, []⟩).Shaped C.prog)
    (hok : Input.okWideB C.prog (w0.forCall (fun _ _ => 0) ⟨#[], args, []⟩) f ⟨#[], args, []⟩ = true)
    (hrow : s.preRow enc C.prog fn conds apart laid (w0.forCall (fun _ _ => 0) ⟨#[], args, []⟩).memory args) :
    ∃ (w : World) (tape : Tape) (i : Input), w.os = os ∧ (w.forCall tape i).Shaped C.prog ∧ i.vars = [] ∧ Input.okWide C.prog (w.forCall tape i) .any w.heap.size f i ∧
      s.preRow enc C.prog fn conds apart laid (w.forCall tape i).memory i.args ∧ ({ modest := modest } : Assume).holds C.prog (lone (Frame.enter C.prog f i.args .normal) [] (w.forCall tape i)) :=
  ⟨w0, fun _ _ => 0, ⟨#[], args, []⟩, hos, hsh, (Input.okWide_of_okWideB (base := 0) hok).1, (Input.okWide_of_okWideB hok).2, hrow, by
    simp only [Assume.holds]
    exact ⟨by simp, by simp, fun _ => Modest.zero, by simp, by simp⟩⟩
end Go.Proofs.YtmjikfeaopmejaaGreatDoor
/-
  A region that draws its order, by facts: of each operation what its slot then holds is said once (a value, or a word on the value and the world); each operation is shown to do so from the words on what it looks at; in whatever order they come up, at the end all words hold.
-/
namespace Go.Proofs.YtmjikfeaopmejaaGreatDoor
open Go Go.RowKit
/-- what is said of an operation's slot: it is a value; a word holds of it, to the end; a word holds of it, till it is used -/
inductive Fact where
  | det (v : Value)
  | held (p : Value → World → Prop)
  | used (p : Value → World → Prop)
def Fact.says : Fact → Value → World → Prop
  | .det v, x, _ => x = v
  | .held p, x, w => p x w
  | .used p, x, w => p x w
def Fact.keeps : Fact → Bool
  | .used _ => false
  | _ => true
/-- what holds of the world from behind one operation up to another -/
structure Phase where
  start : Option Nat
  upto : Option Nat
  looks : List Nat
  p : (Nat → Value) → World → Prop
  ext : ∀ σ σ' w, (∀ t ∈ looks, σ t = σ' t) → p σ w → p σ' w
/-- what the slots hold -/
def sig (ev : Operand → Value) : Nat → Value := fun t => ev (.tmp t)
def onB (o : Oper) (j : Nat) : Bool := o.after.any fun e => Region.binds .any e && e.on == j
def dstIs (l : List Oper) (j t : Nat) : Bool := match l[j]? with | some o => o.dst == some t | none => false
/-- k waits for i -/
def blk (l : List Oper) (i : Nat) : Nat → Nat → Bool
  | 0, _ => false
  | f + 1, k => k == i || (match l[k]? with | some o => o.after.any fun e => Region.binds .any e && blk l i f e.on | none => false)
/-- an operation looks at what another one ahead has yielded -/
def usesB (l : List Oper) (o : Oper) (j : Nat) : Bool := onB o j && (match l[j]? with | some oj => (match oj.dst with | some t => (o.looksAt l.toArray).contains t | none => false) | none => false)
def needB (l : List Oper) (F : List Fact) (i j : Nat) : Bool :=
  !blk l i l.length j && ((F.getD j (.det undef)).keeps || (List.range l.length).any fun k => (k != i && !blk l k l.length i) && (match l[k]? with | some o => usesB l o j | none => false))
/-- which operation ahead has written a slot -/
def srcOf (l : List Oper) (o : Oper) (t : Nat) : Option Nat := (List.range l.length).find? fun j => onB o j && dstIs l j t
def slotSays (l : List Oper) (F : List Fact) (a0 : Array Value) (o : Oper) (t : Nat) (x : Value) (w : World) : Prop :=
  match srcOf l o t with
  | some j => (F.getD j (.det undef)).says x w
  | none => x = a0.getD t undef
/-- an operation finds a phase alive -/
def seesB (l : List Oper) (i : Nat) (s u : Option Nat) : Bool :=
  (match s with | some a => a != i && blk l a l.length i | none => true) && (match u with | some b => blk l i l.length b | none => true)
/-- an operation may come up while a phase is alive -/
def liveB (l : List Oper) (i : Nat) (s u : Option Nat) : Bool :=
  (match s with | some a => !blk l i l.length a | none => true) && (match u with | some b => !blk l b l.length i | none => true)
def lookB (l : List Oper) (i : Nat) (o : Oper) (t : Nat) : Bool :=
  (List.range l.length).all fun j => !dstIs l j t || onB o j || blk l i l.length j
def checkB (l : List Oper) (n : Nat) : Bool :=
  (List.range l.length).all fun i => match l[i]? with
    | none => true
    | some o => (match o.dst with | some t => decide (t < n) && (List.range l.length).all fun j => j == i || !dstIs l j t | none => true) && (o.after.all fun e => !Region.binds .any e || decide (e.on < i)) &&
        (o.looksAt l.toArray).all fun t => lookB l i o t
/-- slots that a phase looks at are written ahead of its start alone -/
def lkB (l : List Oper) (ps : List (Option Nat × List Nat)) : Bool :=
  (List.range l.length).all fun i => match l[i]? with
    | some o => (match o.dst with
      | some d => ps.all fun q => !q.2.contains d || (match q.1 with | some s => s != i && blk l i l.length s | none => false)
      | none => true)
    | none => true
structure EvOk (ev : Operand → Value) : Prop where
  const : ∀ v, ev (.const v) = v
  global : ∀ g, ev (.global g) = .pointer (some ⟨g, 0, none⟩)
  func : ∀ f, ev (.func f) = .func (.func f) #[] #[]
def Does (P : Program) (ev : Operand → Value) (o : Oper) (w : World) (K : Value → World → Prop) : Prop :=
  match (execOp ev o).run P w with
  | .ok (.value v) w' => K v w'
  | .ok .skip w' => K undef w'
  | .ok (.enter f args) w' => Calls P f args w' fun e w'' => ∃ v, e = .returned v ∧ K v w''
  | _ => False
def wantedBy (l : List Oper) (o : Oper) (ev : Operand → Value) : Bool :=
  match o.guard with
  | none => true
  | some (g, b) => match (l[g]?).bind (·.dst) with
    | some t => (match ev (.tmp t) with | .bool q => q == b | _ => false)
    | none => false
section
variable {P : Program} {l : List Oper} {F : List Fact} {Ph : List Phase} {C : World → Prop} {T : Nat → World → World → Prop} {a0 : Array Value}
/-- what is to be shown of an operation -/
def Ob (P : Program) (l : List Oper) (F : List Fact) (Ph : List Phase) (C : World → Prop) (T : Nat → World → World → Prop) (a0 : Array Value) (i : Nat) (o : Oper) : Prop :=
  ∀ (ev : Operand → Value) (w : World), EvOk ev → C w → (∀ t ∈ o.looksAt l.toArray, slotSays l F a0 o t (ev (.tmp t)) w) → (∀ ph ∈ Ph, seesB l i ph.start ph.upto = true → ph.p (sig ev) w) →
    if wantedBy l o ev = true then Does P ev o w (fun v w' => C w' ∧ T i w w' ∧ (F.getD i (.det undef)).says v w' ∧ ∀ ph ∈ Ph, ph.start = some i → ph.p (sig ev) w') else T i w w ∧ (F.getD i (.det undef)).says undef w ∧ ∀ ph ∈ Ph, ph.start = some i → ph.p (sig ev) w
theorem does_value {P : Program} {ev : Operand → Value} {o : Oper} {w w' : World} {v : Value} {K : Value → World → Prop} (h : (execOp ev o).run P w = .ok (.value v) w') (hK : K v w') : Does P ev o w K := by
  unfold Does; rw [h]; exact hK
theorem does_skip {P : Program} {ev : Operand → Value} {o : Oper} {w w' : World} {K : Value → World → Prop} (h : (execOp ev o).run P w = .ok .skip w') (hK : K undef w') : Does P ev o w K := by
  unfold Does; rw [h]; exact hK
theorem does_enter {P : Program} {ev : Operand → Value} {o : Oper} {w w' : World} {f : FuncId} {args : Array Value} {K : Value → World → Prop} (h : (execOp ev o).run P w = .ok (.enter f args) w') (hK : Calls P f args w' fun e w'' => ∃ v, e = .returned v ∧ K v w'') : Does P ev o w K := by
  unfold Does; rw [h]; exact hK
theorem ob_yes {i : Nat} {o : Oper} {ev : Operand → Value} {w : World} (hw : wantedBy l o ev = true) (h : Does P ev o w (fun v w' => C w' ∧ T i w w' ∧ (F.getD i (.det undef)).says v w' ∧ ∀ ph ∈ Ph, ph.start = some i → ph.p (sig ev) w')) :
    if wantedBy l o ev = true then Does P ev o w (fun v w' => C w' ∧ T i w w' ∧ (F.getD i (.det undef)).says v w' ∧ ∀ ph ∈ Ph, ph.start = some i → ph.p (sig ev) w') else T i w w ∧ (F.getD i (.det undef)).says undef w ∧ ∀ ph ∈ Ph, ph.start = some i → ph.p (sig ev) w := by
  rw [if_pos hw]; exact h
theorem ob_no {i : Nat} {o : Oper} {ev : Operand → Value} {w : World} (hw : wantedBy l o ev = false) (hT : T i w w) (h : (F.getD i (.det undef)).says undef w) (hs : ∀ ph ∈ Ph, ph.start = some i → ph.p (sig ev) w) :
    if wantedBy l o ev = true then Does P ev o w (fun v w' => C w' ∧ T i w w' ∧ (F.getD i (.det undef)).says v w' ∧ ∀ ph ∈ Ph, ph.start = some i → ph.p (sig ev) w') else T i w w ∧ (F.getD i (.det undef)).says undef w ∧ ∀ ph ∈ Ph, ph.start = some i → ph.p (sig ev) w := by
  rw [if_neg (by simp [hw])]; exact ⟨hT, h, hs⟩
/-- what is left behind the region: the slots are set to what is said of them -/
def FinK (σ : Nat → Value) (K : Array Value → Prop) (w : World) : List (Oper × Fact) → Array Value → Prop
  | [], arr => K arr
  | (⟨some t, _, _, _, _, _⟩, .det v) :: r, arr => FinK σ K w r (arr.setIfInBounds t v)
  | (⟨some t, _, _, _, _, _⟩, .held p) :: r, arr => ∀ x, x = σ t → p x w → FinK σ K w r (arr.setIfInBounds t x)
  | (⟨some t, _, _, _, _, _⟩, .used _) :: r, arr => ∀ x, x = σ t → FinK σ K w r (arr.setIfInBounds t x)
  | (⟨none, _, _, _, _, _⟩, _) :: r, arr => FinK σ K w r arr
structure Inv (l : List Oper) (F : List Fact) (Ph : List Phase) (C : World → Prop) (a0 : Array Value) (ds : List Deferred) (listed : Array Bool) (a : Act) (w : World) : Prop where
  world : C w
  lsize : listed.size = l.length
  size : a.tmps.size = a0.size
  defers : a.defers = ds
  closed : ∀ j oj, l[j]? = some oj → listed.getD j false = true → ∀ e ∈ oj.after, Region.binds .any e = true → listed.getD e.on false = true
  same : ∀ t, (∀ j o, l[j]? = some o → listed.getD j false = true → o.dst ≠ some t) → a.tmps[t]? = a0[t]?
  fact : ∀ j o t, l[j]? = some o → listed.getD j false = true → o.dst = some t →
    ((F.getD j (.det undef)).keeps = true ∨ ∃ (k : Nat) (ok : Oper), l[k]? = some ok ∧ listed.getD k false = false ∧ usesB l ok j = true) → (F.getD j (.det undef)).says (a.tmps.getD t undef) w
  phase : ∀ ph ∈ Ph, (∀ a, ph.start = some a → listed.getD a false = true) → (∀ b, ph.upto = some b → listed.getD b false = false) → ph.p (sig a.eval) w
theorem getD_two {listed : Array Bool} {i : Nat} (h : listed.getD i true = false) : listed.getD i false = false := by
  rcases Nat.lt_or_ge i listed.size with h' | h'
  · simp [h'] at h ⊢; exact h
  · simp [Array.getElem?_eq_none h'] at h
theorem getD_inn {listed : Array Bool} {i : Nat} (hi : i < listed.size) (h : listed.getD i false = false) : listed.getD i true = false := by
  simp [hi] at h ⊢; exact h
theorem onB_spec {o : Oper} {j : Nat} (h : onB o j = true) : ∃ e ∈ o.after, Region.binds .any e = true ∧ e.on = j := by
  unfold onB at h
  obtain ⟨e, he, hb⟩ := Array.any_eq_true'.1 h
  simp only [Bool.and_eq_true, beq_iff_eq] at hb
  exact ⟨e, he, hb.1, hb.2⟩
theorem blk_listed {listed : Array Bool} (hc : ∀ j oj, l[j]? = some oj → listed.getD j false = true → ∀ e ∈ oj.after, Region.binds .any e = true → listed.getD e.on false = true) (i : Nat) :
    ∀ (f k : Nat), blk l i f k = true → listed.getD k false = true → listed.getD i false = true
  | 0, _, h, _ => by simp [blk] at h
  | f + 1, k, h, hk => by
    unfold blk at h
    rw [Bool.or_eq_true, beq_iff_eq] at h
    rcases h with rfl | h
    · exact hk
    · cases ho : l[k]? with
      | none => rw [ho] at h; cases h
      | some o =>
        rw [ho] at h
        obtain ⟨e, he, hb⟩ := Array.any_eq_true'.1 h
        simp only [Bool.and_eq_true] at hb
        exact blk_listed hc i f e.on hb.2 (hc k o ho hk e he hb.1)
theorem srcOf_some {o : Oper} {t j : Nat} (h : srcOf l o t = some j) : onB o j = true ∧ ∃ oj, l[j]? = some oj ∧ oj.dst = some t := by
  have := List.find?_some h
  rw [Bool.and_eq_true] at this
  refine ⟨this.1, ?_⟩
  have h2 := this.2
  unfold dstIs at h2
  cases ho : l[j]? with
  | none => rw [ho] at h2; cases h2
  | some oj => rw [ho] at h2; exact ⟨oj, rfl, by simpa using h2⟩
theorem srcOf_none {o : Oper} {t : Nat} (h : srcOf l o t = none) {j : Nat} {oj : Oper} (hj : l[j]? = some oj) (hd : oj.dst = some t) : onB o j = false := by
  have h2 := (List.find?_eq_none.1 h) j (List.mem_range.2 (List.getElem?_eq_some_iff.1 hj).1)
  have h3 : dstIs l j t = true := by unfold dstIs; rw [hj]; simp [hd]
  rw [h3, Bool.and_true] at h2
  simpa using h2
theorem checkB_look {n i : Nat} {o : Oper} (h : checkB l n = true) (hi : l[i]? = some o) : ∀ t ∈ o.looksAt l.toArray, ∀ j oj, l[j]? = some oj → oj.dst = some t → onB o j = true ∨ blk l i l.length j = true := by
  intro t ht j oj hj hd
  have h1 := List.all_eq_true.1 h i (List.mem_range.2 (List.getElem?_eq_some_iff.1 hi).1)
  rw [hi] at h1
  simp only [Bool.and_eq_true] at h1
  have h2 := List.all_eq_true.1 h1.2 t ht
  have h3 := List.all_eq_true.1 h2 j (List.mem_range.2 (List.getElem?_eq_some_iff.1 hj).1)
  have h4 : dstIs l j t = true := by unfold dstIs; rw [hj]; simp [hd]
  rw [h4] at h3
  simpa using h3
theorem checkB_dst {n i : Nat} {o : Oper} {t : Nat} (h : checkB l n = true) (hi : l[i]? = some o) (hd : o.dst = some t) : t < n ∧ ∀ j oj, l[j]? = some oj → oj.dst = some t → j = i := by
  have h1 := List.all_eq_true.1 h i (List.mem_range.2 (List.getElem?_eq_some_iff.1 hi).1)
  rw [hi] at h1
  simp only [Bool.and_eq_true, hd, decide_eq_true_eq] at h1
  refine ⟨h1.1.1.1, fun j oj hj hdj => ?_⟩
  have h3 := List.all_eq_true.1 h1.1.1.2 j (List.mem_range.2 (List.getElem?_eq_some_iff.1 hj).1)
  have h4 : dstIs l j t = true := by unfold dstIs; rw [hj]; simp [hdj]
  rw [h4] at h3
  simpa using h3
theorem checkB_back {n i : Nat} {o : Oper} (h : checkB l n = true) (hi : l[i]? = some o) : ∀ e ∈ o.after, Region.binds .any e = true → e.on < i := by
  intro e he hb
  have h1 := List.all_eq_true.1 h i (List.mem_range.2 (List.getElem?_eq_some_iff.1 hi).1)
  rw [hi] at h1
  simp only [Bool.and_eq_true] at h1
  have h2 := Array.all_eq_true'.1 h1.1.2 e he
  rw [hb] at h2
  simpa using h2
theorem wanted_eq {o : Oper} {a : Act} : Region.wanted o (yielded l.toArray a.tmps) = wantedBy l o a.eval := by
  unfold Region.wanted wantedBy
  cases o.guard with
  | none => rfl
  | some g =>
    obtain ⟨g, b⟩ := g
    simp only [yielded, List.getElem?_toArray]
    cases hd : (l[g]?).bind (·.dst) with
    | none => simp
    | some t =>
      simp only [Option.bind_some, Act.eval]
      cases ht : a.tmps[t]? with
      | none => simp [ht, undef]
      | some v => cases v <;> simp [ht]
theorem evOk (a : Act) : EvOk a.eval := ⟨fun _ => rfl, fun _ => rfl, fun _ => rfl⟩
theorem does_wp {Q : Exit → Act → World → Prop} {a : Act} {o : Oper} {w : World} {K : Value → World → Prop} {next : Act → World → Prop} (h : Does P a.eval o w K) (hn : ∀ v w', K v w' → next (a.put o.dst v) w') : o.wp P a w next Q := by
  unfold Does at h
  unfold Oper.wp
  generalize (execOp a.eval o).run P w = r at *
  cases r with
  | ok nx w' =>
    cases nx <;> first
      | exact hn _ _ h
      | exact h.elim
      | exact Calls.mono h fun e w'' ⟨v, he, hk⟩ => by subst he; exact hn _ _ hk
  | halt x w' => exact h.elim
theorem put_get {a : Act} {t : Nat} {v : Value} (h : t < a.tmps.size) : (a.put (some t) v).tmps.getD t undef = v := by
  simp [Act.put, h]
theorem put_other {a : Act} {d : Option Tmp} {t : Nat} {v : Value} (h : d ≠ some t) : (a.put d v).tmps[t]? = a.tmps[t]? := by
  cases d with
  | none => rfl
  | some d =>
    have : d ≠ t := fun e => h (by rw [e])
    simp [Act.put, Array.getElem?_setIfInBounds_ne this]
theorem getD_of_get {x y : Array Value} {t : Nat} (h : x[t]? = y[t]?) : x.getD t undef = y.getD t undef := by
  rw [Array.getD_eq_getD_getElem?, Array.getD_eq_getD_getElem?, h]
theorem put_size (a : Act) (d : Option Tmp) (v : Value) : (a.put d v).tmps.size = a.tmps.size := by cases d <;> simp [Act.put]
theorem put_def (a : Act) (d : Option Tmp) (v : Value) : (a.put d v).defers = a.defers := by cases d <;> rfl
theorem listed_ne {listed : Array Bool} {i j : Nat} (hij : i ≠ j) : (listed.setIfInBounds i true).getD j false = listed.getD j false := getD_set_ne false hij
theorem sig_eval (a : Act) : sig a.eval = fun t => a.tmps.getD t undef := rfl
theorem sig_put {a : Act} {d : Option Tmp} {t : Nat} {v : Value} (h : d ≠ some t) : sig a.eval t = sig (a.put d v).eval t := by
  rw [sig_eval, sig_eval]
  exact (getD_of_get (put_other h)).symm
theorem Inv.step {n : Nat} {ds : List Deferred} {listed : Array Bool} {a : Act} {w w' : World} {i : Nat} {o : Oper} {v : Value} (h : Inv l F Ph C a0 ds listed a w) (hB : checkB l n = true) (hn : a0.size = n) (hi : l[i]? = some o) (hr : i ∈ Region.ready .any l.toArray listed)
    (hstab : ∀ i j x w w', needB l F i j = true → i ≠ j → C w → (F.getD j (.det undef)).says x w → T i w w' → (F.getD j (.det undef)).says x w')
    (hph : ∀ i (ph : Phase) σ w w', ph ∈ Ph → ph.start ≠ some i → ph.upto ≠ some i → liveB l i ph.start ph.upto = true → C w → ph.p σ w → T i w w' → ph.p σ w')
    (hC : C w') (hT : T i w w') (hF : (F.getD i (.det undef)).says v w') (hS : ∀ ph ∈ Ph, ph.start = some i → ph.p (sig a.eval) w') (hlk : lkB l (Ph.map fun ph => (ph.start, ph.looks)) = true) : Inv l F Ph C a0 ds (listed.setIfInBounds i true) (a.put o.dst v) w' := by
  obtain ⟨hun, o', ho', hall⟩ := mem_ready.1 hr
  have hoo : o' = o := by
    rw [List.getElem?_toArray, hi] at ho'
    exact (Option.some.inj ho').symm
  subst hoo
  have hil : i < listed.size := by rw [h.lsize]; exact (List.getElem?_eq_some_iff.1 hi).1
  have hun2 := getD_two hun
  refine ⟨hC, by simp [h.lsize], by rw [put_size, h.size], by rw [put_def, h.defers], ?_, ?_, ?_, ?_⟩
  · intro j oj hj hl e he hb
    by_cases hij : i = j
    · subst hij
      have : oj = o' := Option.some.inj (hj.symm.trans hi)
      subst this
      exact getD_set_true (hall e he hb)
    · rw [listed_ne hij] at hl
      exact getD_set_true (h.closed j oj hj hl e he hb)
  · intro t ht
    have hd : o'.dst ≠ some t := ht i o' hi (by simp [hil])
    rw [put_other hd]
    exact h.same t fun j oj hj hl => ht j oj hj (getD_set_true hl)
  · intro j oj t hj hl hd hne
    by_cases hij : i = j
    · subst hij
      have : oj = o' := Option.some.inj (hj.symm.trans hi)
      subst this
      have hlt := (checkB_dst hB hi hd).1
      rw [hd, put_get (by rw [h.size, hn]; exact hlt)]
      exact hF
    · rw [listed_ne hij] at hl
      have hd2 : o'.dst ≠ some t := fun e => hij ((checkB_dst hB hj hd).2 i o' hi e)
      rw [getD_of_get (put_other hd2)]
      have hne2 : (F.getD j (.det undef)).keeps = true ∨ ∃ (k : Nat) (ok : Oper), l[k]? = some ok ∧ listed.getD k false = false ∧ usesB l ok j = true := by
        rcases hne with hk | ⟨k, ok, hk, hkl, hon⟩
        · exact .inl hk
        · refine .inr ⟨k, ok, hk, ?_, hon⟩
          by_cases hik : i = k
          · subst hik; exact hun2
          · rw [listed_ne hik] at hkl; exact hkl
      refine hstab i j _ w w' ?_ hij h.world (h.fact j oj t hj hl hd hne2) hT
      unfold needB
      have hnb : blk l i l.length j = false := by
        cases hb : blk l i l.length j with
        | false => rfl
        | true =>
          have := blk_listed h.closed i l.length j hb hl
          rw [hun2] at this
          cases this
      rw [hnb, Bool.not_false, Bool.true_and, Bool.or_eq_true]
      rcases hne with hk | ⟨k, ok, hk, hkl, hon⟩
      · exact .inl hk
      · refine .inr (List.any_eq_true.2 ⟨k, List.mem_range.2 (List.getElem?_eq_some_iff.1 hk).1, ?_⟩)
        rw [hk]
        have hik : k ≠ i := fun e => by
          subst e
          simp [hil] at hkl
        rw [listed_ne (fun e => hik e.symm)] at hkl
        have hbk : blk l k l.length i = false := by
          cases hbb : blk l k l.length i with
          | false => rfl
          | true =>
            exfalso
            obtain ⟨f, hf⟩ : ∃ f, l.length = f + 1 := ⟨l.length - 1, by have := (List.getElem?_eq_some_iff.1 hi).1; omega⟩
            rw [hf] at hbb
            unfold blk at hbb
            rw [Bool.or_eq_true, beq_iff_eq] at hbb
            rcases hbb with e | hbb
            · exact hik e.symm
            · rw [hi] at hbb
              obtain ⟨e, he, hb2⟩ := Array.any_eq_true'.1 hbb
              simp only [Bool.and_eq_true] at hb2
              have := blk_listed h.closed k f e.on hb2.2 (hall e he hb2.1)
              rw [hkl] at this
              cases this
        simp [hik, hon, hbk]
  · intro ph hp hfrom hupto
    have hlook : ∀ d, o'.dst = some d → d ∈ ph.looks → ∃ s, ph.start = some s ∧ s ≠ i ∧ blk l i l.length s = true := fun d hd hdl => by
      have h1 := List.all_eq_true.1 hlk i (List.mem_range.2 (List.getElem?_eq_some_iff.1 hi).1)
      rw [hi] at h1
      simp only [hd] at h1
      have h2 := List.all_eq_true.1 h1 _ (List.mem_map.2 ⟨ph, hp, rfl⟩)
      simp only [Bool.or_eq_true, Bool.not_eq_true'] at h2
      rcases h2 with h2 | h2
      · simp [hdl] at h2
      · cases hst : ph.start with
        | none => rw [hst] at h2; cases h2
        | some s =>
          rw [hst] at h2
          simp only [Bool.and_eq_true, bne_iff_ne] at h2
          exact ⟨s, rfl, h2.1, h2.2⟩
    by_cases hs : ph.start = some i
    · refine ph.ext _ _ w' (fun t ht => sig_put fun hd => ?_) (hS ph hp hs)
      obtain ⟨s, h1, h2, _⟩ := hlook t hd ht
      rw [hs] at h1
      exact h2 (Option.some.inj h1).symm
    · have hu : ph.upto ≠ some i := fun e => by
        have := hupto i e
        simp [hil] at this
      have hf2 : ∀ a, ph.start = some a → listed.getD a false = true := fun a ha => by
        have h1 := hfrom a ha
        rwa [listed_ne (fun e => hs (by rw [e]; exact ha))] at h1
      have hu2 : ∀ b, ph.upto = some b → listed.getD b false = false := fun b hb => by
        have h1 := hupto b hb
        rwa [listed_ne (fun e => hu (by rw [e]; exact hb))] at h1
      refine ph.ext _ _ w' (fun t ht => sig_put fun hd => ?_) (hph i ph _ w w' hp hs hu ?_ h.world (h.phase ph hp hf2 hu2) hT)
      · obtain ⟨s, h1, _, h3⟩ := hlook t hd ht
        have := blk_listed h.closed i l.length s h3 (hf2 s h1)
        rw [hun2] at this
        cases this
      unfold liveB
      rw [Bool.and_eq_true]
      constructor
      · cases ha : ph.start with
        | none => rfl
        | some a =>
          cases hb : blk l i l.length a with
          | false => simp [hb]
          | true =>
            have := blk_listed h.closed i l.length a hb (hf2 a ha)
            rw [hun2] at this
            cases this
      · cases hb : ph.upto with
        | none => rfl
        | some b =>
          cases hc : blk l b l.length i with
          | false => simp [hc]
          | true =>
            exfalso
            have hbl := hu2 b hb
            have hpos : 0 < l.length := Nat.lt_of_le_of_lt (Nat.zero_le _) (List.getElem?_eq_some_iff.1 hi).1
            obtain ⟨f, hf⟩ : ∃ f, l.length = f + 1 := ⟨l.length - 1, by omega⟩
            rw [hf] at hc
            unfold blk at hc
            rw [Bool.or_eq_true, beq_iff_eq] at hc
            rcases hc with e | hc
            · exact hu (by rw [hb, e])
            · rw [hi] at hc
              obtain ⟨e, he, hbb⟩ := Array.any_eq_true'.1 hc
              simp only [Bool.and_eq_true] at hbb
              have := blk_listed h.closed b f e.on hbb.2 (hall e he hbb.1)
              rw [hbl] at this
              cases this
theorem fin_of (K : Array Value → Prop) (w : World) (g : Nat → Value) : ∀ (m : List (Oper × Fact)) (arr : Array Value), FinK g K w m arr → (∀ p ∈ m, ∀ t, p.1.dst = some t → p.2.keeps = true → p.2.says (g t) w) →
    K (m.foldl (fun arr p => match p.1.dst with | some t => arr.setIfInBounds t (g t) | none => arr) arr)
  | [], arr, h, _ => h
  | (⟨d, _, _, _, _, _⟩, f) :: r, arr, h, hs => by
    cases d with
    | none => exact fin_of K w g r arr h fun p hp => hs p (List.mem_cons_of_mem _ hp)
    | some t =>
      have h0 := hs _ (List.mem_cons_self) t rfl
      have hr := fun p hp => hs p (List.mem_cons_of_mem _ hp)
      cases f with
      | det v =>
        have hv : g t = v := h0 rfl
        subst hv
        exact fin_of K w g r _ h hr
      | held p => exact fin_of K w g r _ (h (g t) rfl (h0 rfl)) hr
      | used p => exact fin_of K w g r _ (h (g t) rfl) hr
theorem fold_get (g : Nat → Value) : ∀ (m : List (Oper × Fact)) (arr : Array Value) (t : Nat),
    (m.foldl (fun arr p => match p.1.dst with | some t => arr.setIfInBounds t (g t) | none => arr) arr)[t]? = if (∃ p ∈ m, p.1.dst = some t) ∧ t < arr.size then some (g t) else arr[t]?
  | [], arr, t => by simp
  | (o, f) :: r, arr, t => by
    rw [List.foldl_cons, fold_get g r]
    cases hd : o.dst with
    | none =>
      have e : (∃ p, p ∈ (o, f) :: r ∧ p.1.dst = some t) ↔ ∃ p, p ∈ r ∧ p.1.dst = some t := by simp [hd]
      simp only [e]
    | some d =>
      simp only [Array.size_setIfInBounds, List.mem_cons, exists_eq_or_imp]
      by_cases hr : ∃ p ∈ r, p.1.dst = some t
      · by_cases hlt : t < arr.size
        · rw [if_pos ⟨hr, hlt⟩, if_pos ⟨.inr hr, hlt⟩]
        · rw [if_neg (fun h => hlt h.2), if_neg (fun h => hlt h.2), Array.getElem?_eq_none (by simp; omega), Array.getElem?_eq_none (by omega)]
      · rw [if_neg (fun h => hr h.1)]
        by_cases hdt : d = t
        · subst hdt
          by_cases hlt : d < arr.size
          · rw [if_pos ⟨.inl hd, hlt⟩]
            simp [hlt]
          · have e : arr.setIfInBounds d (g d) = arr := by simp [Array.setIfInBounds, hlt]
            rw [if_neg (fun h => hlt h.2), e]
        · rw [Array.getElem?_setIfInBounds_ne hdt, if_neg]
          rintro ⟨h | h, _⟩
          · rw [hd] at h; exact hdt (Option.some.inj h)
          · exact hr h
theorem wpAny_facts {Q : Exit → Act → World → Prop} {a : Act} {w : World} (n : Nat) (F : List Fact) (Ph : List Phase) (C : World → Prop) (T : Nat → World → World → Prop) (hn : a.tmps.size = n) (hB : checkB l n = true) (hFl : F.length = l.length) (hC : C { w with drawn := w.drawn + 1 })
    (hstab : ∀ i j x w w', needB l F i j = true → i ≠ j → C w → (F.getD j (.det undef)).says x w → T i w w' → (F.getD j (.det undef)).says x w')
    (hph0 : ∀ ph ∈ Ph, ph.start = none → ph.p (sig a.eval) { w with drawn := w.drawn + 1 })
    (hph : ∀ i (ph : Phase) σ w w', ph ∈ Ph → ph.start ≠ some i → ph.upto ≠ some i → liveB l i ph.start ph.upto = true → C w → ph.p σ w → T i w w' → ph.p σ w')
    (hpl : ∀ ph ∈ Ph, ∀ a, ph.start = some a → a < l.length)
    (hob : ∀ i o, l[i]? = some o → Ob P l F Ph C T a.tmps i o)
    (hlk : lkB l (Ph.map fun ph => (ph.start, ph.looks)) = true)
    (hfin : ∀ σ w', C w' → (∀ ph ∈ Ph, ph.upto = none → ph.p σ w') → FinK σ (fun arr => Q .normal ⟨arr, a.defers⟩ w') w' (l.zip F) a.tmps) : wpAny P .any l.toArray Q l.toArray.size (Array.replicate l.toArray.size false) a { w with drawn := w.drawn + 1 } := by
  have main : ∀ (fuel : Nat) (listed : Array Bool) (a' : Act) (w' : World), Inv l F Ph C a.tmps a.defers listed a' w' → listed.toList.countP (fun b => !b) ≤ fuel → wpAny P .any l.toArray Q fuel listed a' w' := by
    have done : ∀ (listed : Array Bool) (a' : Act) (w' : World), Inv l F Ph C a.tmps a.defers listed a' w' → Region.ready .any l.toArray listed = [] → (∀ j, j < l.length → listed.getD j false = true) → Q .normal a' w' := by
      intro listed a' w' hI _ hall
      have h1 := fin_of (fun arr => Q .normal ⟨arr, a.defers⟩ w') w' (fun t => a'.tmps.getD t undef) (l.zip F) a.tmps (hfin (fun t => a'.tmps.getD t undef) w' hI.world fun ph hp hu => sig_eval a' ▸ hI.phase ph hp (fun a ha => hall a (hpl ph hp a ha)) (fun b hb => by rw [hu] at hb; cases hb)) (by
        intro p hp t hd hk
        obtain ⟨j, hj, e⟩ := List.getElem_of_mem hp
        have hjl : j < l.length := by rw [List.length_zip] at hj; omega
        have hjF : j < F.length := by omega
        rw [List.getElem_zip] at e
        have e1 : l[j]? = some p.1 := by rw [List.getElem?_eq_getElem hjl, ← e]
        have e2 : F.getD j (.det undef) = p.2 := by rw [List.getD_eq_getElem?_getD, List.getElem?_eq_getElem hjF, ← e]; rfl
        have := hI.fact j p.1 t e1 (hall j hjl) hd (.inl (by rw [e2]; exact hk))
        rw [e2] at this
        exact this)
      have h2 : ((l.zip F).foldl (fun arr p => match p.1.dst with | some t => arr.setIfInBounds t (a'.tmps.getD t undef) | none => arr) a.tmps) = a'.tmps := by
        apply Array.ext_getElem?
        intro t
        rw [fold_get]
        by_cases hex : ∃ p ∈ l.zip F, p.1.dst = some t
        · obtain ⟨p, hp, hd⟩ := hex
          obtain ⟨j, hj, e⟩ := List.getElem_of_mem hp
          have hjl : j < l.length := by rw [List.length_zip] at hj; omega
          rw [List.getElem_zip] at e
          have e1 : l[j]? = some p.1 := by rw [List.getElem?_eq_getElem hjl, ← e]
          have hlt := (checkB_dst hB e1 hd).1
          rw [if_pos ⟨⟨p, hp, hd⟩, by omega⟩, Array.getD_eq_getD_getElem?, Array.getElem?_eq_getElem (by rw [hI.size]; omega)]
          rfl
        · rw [if_neg (fun h => hex h.1)]
          refine (hI.same t fun j o hj _ hd => hex ?_).symm
          have hjl := (List.getElem?_eq_some_iff.1 hj).1
          have hjF : j < F.length := by omega
          refine ⟨(l[j], F[j]), ?_, ?_⟩
          · have hz : j < (l.zip F).length := by rw [List.length_zip]; omega
            have : (l.zip F)[j] = (l[j], F[j]) := List.getElem_zip
            rw [← this]
            exact List.getElem_mem hz
          · have : l[j] = o := (List.getElem?_eq_some_iff.1 hj).2
            rw [this]; exact hd
      rw [h2, ← hI.defers] at h1
      exact h1
    have allOf : ∀ (listed : Array Bool), listed.size = l.length → listed.toList.countP (fun b => !b) = 0 → ∀ j, j < l.length → listed.getD j false = true := by
      intro listed hs hc j hj
      rw [List.countP_eq_zero] at hc
      have h1 : j < listed.size := by omega
      have h2 := hc listed[j] (by simp)
      simpa [h1] using h2
    intro fuel
    induction fuel with
    | zero =>
      intro listed a' w' hI hf
      have hall := allOf listed hI.lsize (by omega)
      have hr : Region.ready .any l.toArray listed = [] := by
        rw [List.eq_nil_iff_forall_not_mem]
        intro i hi
        obtain ⟨hun, o, ho, _⟩ := mem_ready.1 hi
        have hlt : i < l.length := by
          rw [List.getElem?_toArray] at ho
          exact (List.getElem?_eq_some_iff.1 ho).1
        have := hall i hlt
        rw [getD_two hun] at this
        cases this
      exact ⟨hr, done listed a' w' hI hr hall⟩
    | succ fuel ih =>
      intro listed a' w' hI hf
      have stepd : ∀ i ∈ Region.ready .any l.toArray listed, wpOp P l.toArray Q i (wpAny P .any l.toArray Q fuel (listed.setIfInBounds i true)) a' w' := by
        intro i hi
        obtain ⟨hun, o, ho, hall⟩ := mem_ready.1 hi
        rw [List.getElem?_toArray] at ho
        have hlt := (List.getElem?_eq_some_iff.1 ho).1
        have hcount : (listed.setIfInBounds i true).toList.countP (fun b => !b) ≤ fuel := by
          have hls : i < listed.size := by rw [hI.lsize]; exact hlt
          have hget : listed[i] = false := by simpa [hls] using hun
          have := List.countP_set (p := fun b => !b) (l := listed.toList) (i := i) (a := true) (by simpa using hls)
          have hpos : 0 < listed.toList.countP (fun b => !b) := List.countP_pos_iff.2 ⟨listed[i], by simp, by simp [hget]⟩
          rw [Array.toList_setIfInBounds, this, if_pos (by simp [hget]), if_neg (by simp)]
          omega
        have hob1 := hob i o ho a'.eval w' (evOk a') hI.world (by
          intro t ht
          unfold slotSays
          cases hs : srcOf l o t with
          | some j =>
            obtain ⟨hon, oj, hj, hd⟩ := srcOf_some hs
            obtain ⟨e, he, hb, rfl⟩ := onB_spec hon
            exact hI.fact e.on oj t hj (hall e he hb) hd (.inr ⟨i, o, ho, getD_two hun, by unfold usesB; rw [hon, hj]; simp only [hd, Bool.true_and]; simpa using ht⟩)
          | none =>
            refine getD_of_get (hI.same t fun j oj hj hl hd => ?_)
            rcases checkB_look hB ho t ht j oj hj hd with h | h
            · rw [srcOf_none hs hj hd] at h; cases h
            · have := blk_listed hI.closed i l.length j h hl
              rw [getD_two hun] at this
              cases this) (by
          intro ph hp hs
          unfold seesB at hs
          rw [Bool.and_eq_true] at hs
          refine hI.phase ph hp (fun a ha => ?_) (fun b hb => ?_)
          · have h1 := hs.1
            rw [ha] at h1
            simp only [Bool.and_eq_true, bne_iff_ne] at h1
            obtain ⟨f, hf⟩ : ∃ f, l.length = f + 1 := ⟨l.length - 1, by omega⟩
            have h2 := h1.2
            rw [hf] at h2
            unfold blk at h2
            rw [Bool.or_eq_true, beq_iff_eq] at h2
            rcases h2 with e | h2
            · exact absurd e.symm h1.1
            · rw [ho] at h2
              obtain ⟨e, he, hbb⟩ := Array.any_eq_true'.1 h2
              simp only [Bool.and_eq_true] at hbb
              exact blk_listed hI.closed a f e.on hbb.2 (hall e he hbb.1)
          · have h1 := hs.2
            rw [hb] at h1
            cases hl : listed.getD b false with
            | false => rfl
            | true =>
              have := blk_listed hI.closed i l.length b h1 hl
              rw [getD_two hun] at this
              cases this)
        unfold wpOp
        simp only [List.getElem?_toArray, ho]
        rw [wanted_eq]
        by_cases hw : wantedBy l o a'.eval = true
        · rw [if_pos hw] at hob1 ⊢
          exact .inl (does_wp hob1 fun v w'' ⟨hC2, hT2, hF2, hS2⟩ => ih _ _ _ (hI.step hB hn ho hi hstab hph hC2 hT2 hF2 hS2 hlk) hcount)
        · rw [if_neg hw] at hob1 ⊢
          exact ih _ _ _ (hI.step hB hn ho hi hstab hph hI.world hob1.1 hob1.2.1 hob1.2.2 hlk) hcount
      refine ⟨fun hr => ?_, stepd⟩
      refine done listed a' w' hI hr ?_
      intro j
      induction j using Nat.strongRecOn with
      | _ j jh =>
        intro hj
        cases hl : listed.getD j false with
        | true => rfl
        | false =>
          exfalso
          have hnr : j ∉ Region.ready .any l.toArray listed := by rw [hr]; simp
          refine hnr (mem_ready.2 ⟨getD_inn (by rw [hI.lsize]; exact hj) hl, l[j], by rw [List.getElem?_toArray, List.getElem?_eq_getElem hj], fun e he hb => ?_⟩)
          have hlt := checkB_back hB (List.getElem?_eq_getElem hj) e he hb
          exact jh e.on hlt (by omega)
  have hrep : ∀ j, (Array.replicate l.toArray.size false).getD j false = false := fun j => by
    rw [Array.getD_eq_getD_getElem?]
    by_cases h : j < l.toArray.size
    · rw [Array.getElem?_replicate, if_pos h]; rfl
    · rw [Array.getElem?_replicate, if_neg h]; rfl
  refine main _ _ _ _ ⟨hC, by simp, rfl, rfl, ?_, fun _ _ => rfl, ?_, ?_⟩ ?_
  · intro j oj hj hl
    rw [hrep j] at hl
    cases hl
  · intro j o t hj hl
    rw [hrep j] at hl
    cases hl
  · intro ph hp hs _
    cases ha : ph.start with
    | none => exact hph0 ph hp ha
    | some a =>
      have := hs a ha
      rw [hrep a] at this
      cases this
  · rw [Array.toList_replicate]
    exact Nat.le_trans List.countP_le_length (by simp)
theorem wp_region_facts {id : Nat} {Q : Exit → Act → World → Prop} {a : Act} {w : World} (n : Nat) (F : List Fact) (Ph : List Phase) (C : World → Prop) (T : Nat → World → World → Prop) (hm : P.follows .mixedOrders = true) (hn : a.tmps.size = n) (hB : checkB l n = true) (hFl : F.length = l.length) (hC : C { w with drawn := w.drawn + 1 })
    (hstab : ∀ i j x w w', needB l F i j = true → i ≠ j → C w → (F.getD j (.det undef)).says x w → T i w w' → (F.getD j (.det undef)).says x w')
    (hph0 : ∀ ph ∈ Ph, ph.start = none → ph.p (sig a.eval) { w with drawn := w.drawn + 1 })
    (hph : ∀ i (ph : Phase) σ w w', ph ∈ Ph → ph.start ≠ some i → ph.upto ≠ some i → liveB l i ph.start ph.upto = true → C w → ph.p σ w → T i w w' → ph.p σ w')
    (hpl : ∀ ph ∈ Ph, ∀ a, ph.start = some a → a < l.length)
    (hob : ∀ i o, l[i]? = some o → Ob P l F Ph C T a.tmps i o)
    (hlk : lkB l (Ph.map fun ph => (ph.start, ph.looks)) = true)
    (hfin : ∀ σ w', C w' → (∀ ph ∈ Ph, ph.upto = none → ph.p σ w') → FinK σ (fun arr => Q .normal ⟨arr, a.defers⟩ w') w' (l.zip F) a.tmps) : (Code.region id l.toArray true).wp P Q a w :=
  wp_region_any hm (wpAny_facts n F Ph C T hn hB hFl hC hstab hph0 hph hpl hob hlk hfin)
def ObAll (P : Program) (l : List Oper) (F : List Fact) (Ph : List Phase) (C : World → Prop) (T : Nat → World → World → Prop) (a0 : Array Value) : Nat → List Oper → Prop
  | _, [] => True
  | i, o :: r => Ob P l F Ph C T a0 i o ∧ ObAll P l F Ph C T a0 (i + 1) r
theorem obAll_go : ∀ (r : List Oper) (k : Nat), ObAll P l F Ph C T a0 k r → ∀ i o, r[i]? = some o → Ob P l F Ph C T a0 (k + i) o
  | [], _, _, i, o, h => by simp at h
  | o :: r, k, h, 0, o', ho => by
    have : o = o' := by simpa using ho
    subst this
    exact h.1
  | o :: r, k, h, i + 1, o', ho => by
    have := obAll_go r (k + 1) h.2 i o' (by simpa using ho)
    rw [show k + (i + 1) = k + 1 + i by omega]
    exact this
theorem ob_all (h : ObAll P l F Ph C T a0 0 l) : ∀ i o, l[i]? = some o → Ob P l F Ph C T a0 i o := fun i o ho => by
  have := obAll_go l 0 h i o ho
  rwa [Nat.zero_add] at this
theorem see_out {o : Oper} {ev : Operand → Value} {w : World} {v : Value} (hs : ∀ t ∈ o.looksAt l.toArray, slotSays l F a0 o t (ev (.tmp t)) w) (t : Nat) (h1 : (o.looksAt l.toArray).contains t = true) (h2 : srcOf l o t = none) (h3 : a0[t]? = some v) : ev (.tmp t) = v := by
  have := hs t (by simpa using h1)
  unfold slotSays at this
  rw [h2] at this
  simp only at this
  rw [this, Array.getD_eq_getD_getElem?, h3]; rfl
theorem see_det {o : Oper} {ev : Operand → Value} {w : World} {v : Value} (hs : ∀ t ∈ o.looksAt l.toArray, slotSays l F a0 o t (ev (.tmp t)) w) (t j : Nat) (h1 : (o.looksAt l.toArray).contains t = true) (h2 : srcOf l o t = some j) (h3 : F.getD j (.det undef) = .det v) : ev (.tmp t) = v := by
  have := hs t (by simpa using h1)
  unfold slotSays at this
  rw [h2] at this
  simp only at this
  rw [h3] at this
  exact this
theorem see_held {o : Oper} {ev : Operand → Value} {w : World} {p : Value → World → Prop} (hs : ∀ t ∈ o.looksAt l.toArray, slotSays l F a0 o t (ev (.tmp t)) w) (t j : Nat) (h1 : (o.looksAt l.toArray).contains t = true) (h2 : srcOf l o t = some j) (h3 : F.getD j (.det undef) = .held p) : p (ev (.tmp t)) w := by
  have := hs t (by simpa using h1)
  unfold slotSays at this
  rw [h2] at this
  simp only at this
  rw [h3] at this
  exact this
theorem see_used {o : Oper} {ev : Operand → Value} {w : World} {p : Value → World → Prop} (hs : ∀ t ∈ o.looksAt l.toArray, slotSays l F a0 o t (ev (.tmp t)) w) (t j : Nat) (h1 : (o.looksAt l.toArray).contains t = true) (h2 : srcOf l o t = some j) (h3 : F.getD j (.det undef) = .used p) : p (ev (.tmp t)) w := by
  have := hs t (by simpa using h1)
  unfold slotSays at this
  rw [h2] at this
  simp only at this
  rw [h3] at this
  exact this
theorem wanted_none {o : Oper} {ev : Operand → Value} (h : o.guard = none) : wantedBy l o ev = true := by unfold wantedBy; rw [h]
theorem wanted_bool {o : Oper} {ev : Operand → Value} {g : Nat} {b q r : Bool} {t : Nat} (h : o.guard = some (g, b)) (hd : (l[g]?).bind (·.dst) = some t) (hv : ev (.tmp t) = .bool q) (hr : (q == b) = r) : wantedBy l o ev = r := by
  unfold wantedBy
  rw [h]
  simp only [hd, hv]
  exact hr
theorem no_start {i : Nat} (hp : Ph.all (fun ph => ph.start != some i) = true) {w : World} {σ : Nat → Value} : ∀ ph ∈ Ph, ph.start = some i → ph.p σ w := fun ph h1 h2 => by
  have := List.all_eq_true.1 hp ph h1
  rw [h2] at this
  simp at this
/-- an operation that yields a value and leaves the world -/
theorem ob_det {i : Nat} {o : Oper} {ev : Operand → Value} {w : World} {v : Value} (hw : wantedBy l o ev = true) (hF : F.getD i (.det undef) = .det v) (hp : Ph.all (fun ph => ph.start != some i) = true) (hC : C w) (hT : T i w w) (h : (execOp ev o).run P w = .ok (.value v) w) :
    if wantedBy l o ev = true then Does P ev o w (fun v w' => C w' ∧ T i w w' ∧ (F.getD i (.det undef)).says v w' ∧ ∀ ph ∈ Ph, ph.start = some i → ph.p (sig ev) w') else T i w w ∧ (F.getD i (.det undef)).says undef w ∧ ∀ ph ∈ Ph, ph.start = some i → ph.p (sig ev) w :=
  ob_yes hw (does_value h ⟨hC, hT, by rw [hF]; rfl, no_start hp⟩)
theorem ob_undef {i : Nat} {o : Oper} {ev : Operand → Value} {w : World} (hw : wantedBy l o ev = false) (hF : F.getD i (.det undef) = .det undef) (hp : Ph.all (fun ph => ph.start != some i) = true) (hT : T i w w) :
    if wantedBy l o ev = true then Does P ev o w (fun v w' => C w' ∧ T i w w' ∧ (F.getD i (.det undef)).says v w' ∧ ∀ ph ∈ Ph, ph.start = some i → ph.p (sig ev) w') else T i w w ∧ (F.getD i (.det undef)).says undef w ∧ ∀ ph ∈ Ph, ph.start = some i → ph.p (sig ev) w :=
  ob_no hw hT (by rw [hF]; rfl) (no_start hp)
def StabF (C : World → Prop) (R : World → World → Prop) : Fact → Prop
  | .det _ => True
  | .held p => ∀ x w w', C w → p x w → R w w' → p x w'
  | .used p => ∀ x w w', C w → p x w → R w w' → p x w'
def StabAll (C : World → Prop) (R : World → World → Prop) : List Fact → Prop
  | [] => True
  | f :: r => StabF C R f ∧ StabAll C R r
theorem StabF.use {R : World → World → Prop} {f : Fact} (h : StabF C R f) {x : Value} {w w' : World} (hC : C w) (hx : f.says x w) (hR : R w w') : f.says x w' := by
  cases f with
  | det v => exact hx
  | held p => exact h x w w' hC hx hR
  | used p => exact h x w w' hC hx hR
theorem stabAll_at {R : World → World → Prop} : ∀ {F : List Fact}, StabAll C R F → ∀ j, StabF C R (F.getD j (.det undef))
  | [], _, j => by simp [StabF]
  | f :: r, h, 0 => h.1
  | f :: r, h, j + 1 => by
    have := stabAll_at h.2 j
    simpa using this
theorem stab_uniform {R : World → World → Prop} (h : StabAll C R F) : ∀ i j x w w', needB l F i j = true → i ≠ j → C w → (F.getD j (.det undef)).says x w → (fun (_ : Nat) => R) i w w' → (F.getD j (.det undef)).says x w' :=
  fun _ j _ _ _ _ _ hC hx hR => (stabAll_at h j).use hC hx hR
def Fact.isDet : Fact → Bool
  | .det _ => true
  | _ => false
/-- what an operation does to the world: some do what is said of them, the others what all do -/
def TSp (sp : List (Nat × (World → World → Prop))) (R : World → World → Prop) (i : Nat) (w w' : World) : Prop := match sp.find? (fun p => p.1 == i) with | some p => p.2 w w' | none => R w w'
theorem TSp.of {sp : List (Nat × (World → World → Prop))} {R : World → World → Prop} {i : Nat} {w w' : World} (hn : sp.find? (fun p => p.1 == i) = none) (h : R w w') : TSp sp R i w w' := by unfold TSp; rw [hn]; exact h
theorem TSp.sp {sp : List (Nat × (World → World → Prop))} {R : World → World → Prop} {i : Nat} {p : Nat × (World → World → Prop)} {w w' : World} (hn : sp.find? (fun p => p.1 == i) = some p) (h : p.2 w w') : TSp sp R i w w' := by unfold TSp; rw [hn]; exact h
def stabChk (l : List Oper) (ds ks : List Bool) (js : List (Nat × Nat)) (apps : List Nat) : Bool :=
  apps.all fun i => (List.range l.length).all fun j => ds.getD j true || j == i || blk l i l.length j ||
    !(ks.getD j true || (List.range l.length).any fun k => (k != i && !blk l k l.length i) && (match l[k]? with | some o => usesB l o j | none => false)) || js.contains (i, j)
def phChk (l : List Oper) (ps : List (Option Nat × Option Nat)) (jp : List (Nat × Nat)) (apps : List Nat) : Bool :=
  apps.all fun i => (List.range ps.length).all fun k => match ps[k]? with
    | some q => q.1 == some i || q.2 == some i || !liveB l i q.1 q.2 || jp.contains (i, k)
    | none => true
theorem map_getD {B : Type} (f : Fact → B) (d : Fact) {db : B} (hd : f d = db) (j : Nat) : (F.map f).getD j db = f (F.getD j d) := by
  rw [List.getD_eq_getElem?_getD, List.getD_eq_getElem?_getD, List.getElem?_map]
  cases F[j]? with
  | none => exact hd.symm
  | some x => rfl
def JsAll (F : List Fact) (C : World → Prop) (sp : List (Nat × (World → World → Prop))) : List (Nat × Nat) → Prop
  | [] => True
  | p :: r => (match sp.find? (fun q => q.1 == p.1) with | some q => StabF C q.2 (F.getD p.2 (.det undef)) | none => False) ∧ JsAll F C sp r
theorem jsAll_at {sp : List (Nat × (World → World → Prop))} : ∀ {js : List (Nat × Nat)}, JsAll F C sp js → ∀ i j, (i, j) ∈ js → (match sp.find? (fun q => q.1 == i) with | some q => StabF C q.2 (F.getD j (.det undef)) | none => False)
  | [], _, _, _, h => by cases h
  | p :: r, h, i, j, hm => by
    rcases List.mem_cons.1 hm with e | e
    · subst e; exact h.1
    · exact jsAll_at h.2 i j e
theorem stab_sp {R : World → World → Prop} (sp : List (Nat × (World → World → Prop))) (ds ks : List Bool) (js : List (Nat × Nat)) (hds : F.map Fact.isDet = ds) (hks : F.map Fact.keeps = ks) (hFl : F.length = l.length) (hchk : stabChk l ds ks js (sp.map (·.1)) = true) (h : StabAll C R F) (hjs : JsAll F C sp js) :
    ∀ i j x w w', needB l F i j = true → i ≠ j → C w → (F.getD j (.det undef)).says x w → TSp sp R i w w' → (F.getD j (.det undef)).says x w' := by
  intro i j x w w' hn hij hC hx hT
  unfold TSp at hT
  cases ha : sp.find? (fun p => p.1 == i) with
  | none => rw [ha] at hT; exact (stabAll_at h j).use hC hx hT
  | some p =>
    rw [ha] at hT
    have hpm := List.mem_of_find?_eq_some ha
    have hpi : p.1 = i := by simpa using List.find?_some ha
    cases hd : (F.getD j (.det undef)).isDet with
    | true =>
      generalize F.getD j (.det undef) = f at *
      cases f with
      | det v => exact hx
      | held p => cases hd
      | used p => cases hd
    | false =>
      have hj : j < l.length := by
        rcases Nat.lt_or_ge j l.length with h | h
        · exact h
        · rw [List.getD_eq_getElem?_getD, List.getElem?_eq_none (by omega)] at hd; cases hd
      have h1 := List.all_eq_true.1 (List.all_eq_true.1 hchk i (List.mem_map.2 ⟨p, hpm, hpi⟩)) j (List.mem_range.2 hj)
      have e1 : ds.getD j true = (F.getD j (.det undef)).isDet := by rw [← hds]; exact map_getD Fact.isDet (.det undef) rfl j
      have e2 : ks.getD j true = (F.getD j (.det undef)).keeps := by rw [← hks]; exact map_getD Fact.keeps (.det undef) rfl j
      rw [e1, e2, hd] at h1
      unfold needB at hn
      rw [Bool.and_eq_true, Bool.not_eq_true'] at hn
      rw [hn.1, hn.2, show (j == i) = false from by simpa using fun e => hij e.symm] at h1
      have hm : (i, j) ∈ js := by simpa using h1
      have h2 := jsAll_at hjs i j hm
      rw [ha] at h2
      exact StabF.use h2 hC hx hT
def JpAll (Ph : List Phase) (C : World → Prop) (sp : List (Nat × (World → World → Prop))) : List (Nat × Nat) → Prop
  | [] => True
  | p :: r => (match sp.find? (fun q => q.1 == p.1), Ph[p.2]? with | some q, some ph => ∀ σ w w', C w → ph.p σ w → q.2 w w' → ph.p σ w' | _, _ => False) ∧ JpAll Ph C sp r
theorem jpAll_at {sp : List (Nat × (World → World → Prop))} : ∀ {jp : List (Nat × Nat)}, JpAll Ph C sp jp → ∀ i k, (i, k) ∈ jp → (match sp.find? (fun q => q.1 == i), Ph[k]? with | some q, some ph => ∀ σ w w', C w → ph.p σ w → q.2 w w' → ph.p σ w' | _, _ => False)
  | [], _, _, _, h => by cases h
  | p :: r, h, i, k, hm => by
    rcases List.mem_cons.1 hm with e | e
    · subst e; exact h.1
    · exact jpAll_at h.2 i k e
theorem phase_sp {R : World → World → Prop} (sp : List (Nat × (World → World → Prop))) (ps : List (Option Nat × Option Nat)) (jp : List (Nat × Nat)) (hps : Ph.map (fun ph => (ph.start, ph.upto)) = ps) (hchk : phChk l ps jp (sp.map (·.1)) = true) (h : ∀ ph ∈ Ph, ∀ σ w w', C w → ph.p σ w → R w w' → ph.p σ w') (hjp : JpAll Ph C sp jp) :
    ∀ i (ph : Phase) σ w w', ph ∈ Ph → ph.start ≠ some i → ph.upto ≠ some i → liveB l i ph.start ph.upto = true → C w → ph.p σ w → TSp sp R i w w' → ph.p σ w' := by
  intro i ph σ w w' hp hs hu hl hC hx hT
  unfold TSp at hT
  cases ha : sp.find? (fun p => p.1 == i) with
  | none => rw [ha] at hT; exact h ph hp σ w w' hC hx hT
  | some p =>
    rw [ha] at hT
    have hpm := List.mem_of_find?_eq_some ha
    have hpi : p.1 = i := by simpa using List.find?_some ha
    obtain ⟨k, hk, hke⟩ := List.getElem_of_mem hp
    have hkp : ps[k]? = some (ph.start, ph.upto) := by
      rw [← hps, List.getElem?_map, List.getElem?_eq_getElem hk, hke]; rfl
    have h1 := List.all_eq_true.1 (List.all_eq_true.1 hchk i (List.mem_map.2 ⟨p, hpm, hpi⟩)) k (List.mem_range.2 (List.getElem?_eq_some_iff.1 hkp).1)
    rw [hkp] at h1
    simp only [Bool.or_eq_true, beq_iff_eq, hl, Bool.not_true] at h1
    rcases h1 with ((h1 | h1) | h1) | h1
    · exact absurd h1 hs
    · exact absurd h1 hu
    · cases h1
    · have h2 := jpAll_at hjp i k (by simpa using h1)
      rw [ha, List.getElem?_eq_getElem hk, hke] at h2
      exact h2 σ w w' hC hx hT
/-- what only makes memory -/
def Grows (w w' : World) : Prop := Below w.heap.size w w'
theorem Grows.refl (w : World) : Grows w w := Below.refl _ _
end
end Go.Proofs.YtmjikfeaopmejaaGreatDoor
/-
  Walks by facts on slots: what each slot holds is a list; each operation is one step, shown from what it looks at alone.
-/
namespace Go.Proofs.YtmjikfeaopmejaaGreatDoor
open Go Go.RowKit
abbrev Env := List (Nat × Value)
def look : Env → Nat → Option Value
  | [], _ => none
  | (s, v) :: r, t => bif Nat.beq s t then some v else look r t
/-- the same, as it is reckoned out -/
def lookS : Env → Nat → Option Value
  | [], _ => none
  | (s, v) :: r, t => bif s == t then some v else lookS r t
theorem beq_two (s t : Nat) : (s == t) = Nat.beq s t := by
  rw [Bool.eq_iff_iff, beq_iff_eq]
  exact ⟨fun h => h ▸ Nat.beq_refl s, Nat.eq_of_beq_eq_true⟩
theorem lookS_eq (t : Nat) : ∀ Γ : Env, lookS Γ t = look Γ t
  | [] => rfl
  | (s, v) :: r => by
    unfold lookS look
    rw [lookS_eq t r, beq_two]
theorem look_cons (t : Nat) (v : Value) (s : Nat) (Γ : Env) : look ((t, v) :: Γ) s = bif t == s then some v else look Γ s := by rw [beq_two]; rfl
def keepE : List Nat → Env → Env
  | [], _ => []
  | t :: ks, Γ => match lookS Γ t with | some v => (t, v) :: keepE ks Γ | none => keepE ks Γ
theorem look_keep {t : Nat} {v : Value} {Γ : Env} : ∀ {ks : List Nat}, look (keepE ks Γ) t = some v → look Γ t = some v
  | [], h => by cases h
  | k :: ks, h => by
    unfold keepE at h
    cases hk : lookS Γ k with
    | none => rw [hk] at h; exact look_keep h
    | some u =>
      rw [hk] at h
      rw [look_cons] at h
      by_cases e : k = t
      · subst e
        simp only [beq_self_eq_true, cond_true] at h
        rw [← lookS_eq, hk, h]
      · have h2 : (k == t) = false := by simpa using e
        rw [h2, cond_false] at h
        exact look_keep h
def argsE : Nat → List Value → Env
  | _, [] => []
  | i, v :: r => (i, v) :: argsE (i + 1) r
theorem look_args {t : Nat} {v : Value} : ∀ {i : Nat} {l : List Value}, look (argsE i l) t = some v → i ≤ t ∧ l[t - i]? = some v
  | _, [], h => by cases h
  | i, x :: r, h => by
    unfold argsE at h
    rw [look_cons] at h
    by_cases e : i = t
    · subst e
      simp only [beq_self_eq_true, cond_true] at h
      simpa using h
    · have h2 : (i == t) = false := by simpa using e
      rw [h2, cond_false] at h
      obtain ⟨h3, h4⟩ := look_args h
      refine ⟨by omega, ?_⟩
      rw [show t - i = (t - (i + 1)) + 1 by omega]
      simpa using h4
/-- what a frame holds -/
structure At (n : Nat) (Γ : Env) (a : Act) : Prop where
  size : a.tmps.size = n
  defers : a.defers = []
  env : ∀ t v, look Γ t = some v → a.tmps[t]? = some v
structure EvIn (Γ : Env) (ev : Operand → Value) : Prop where
  ok : EvOk ev
  env : ∀ t v, look Γ t = some v → ev (.tmp t) = v
/-- what an operand is, out of a list -/
def lookD (e : Nat → Value) (t : Nat) : Env → Value
  | [] => e t
  | (s, v) :: r => bif Nat.beq s t then v else lookD e t r
@[go_sem ↓] theorem lookD_hit (e : Nat → Value) (t : Nat) (v : Value) (Γ : Env) : lookD e t ((t, v) :: Γ) = v := by unfold lookD; rw [Nat.beq_refl]; rfl
@[go_sem ↓] theorem lookD_miss (e : Nat → Value) {s t : Nat} (v : Value) (Γ : Env) (h : (s == t) = false) : lookD e t ((s, v) :: Γ) = lookD e t Γ := by
  rw [beq_two] at h
  show (bif Nat.beq s t then v else lookD e t Γ) = _
  rw [h]; rfl
theorem lookD_eq (e : Nat → Value) (t : Nat) : ∀ Γ : Env, (∀ v, look Γ t = some v → e t = v) → lookD e t Γ = e t
  | [], _ => rfl
  | (s, v) :: r, h => by
    unfold lookD
    unfold look at h
    cases hb : Nat.beq s t with
    | true => rw [hb] at h; rw [cond_true]; exact (h v rfl).symm
    | false => rw [hb] at h; rw [cond_false]; exact lookD_eq e t r h
abbrev EvT (Γ : Env) (e : Nat → Value) (ev : Operand → Value) : Prop := (∀ v, ev (.const v) = v) ∧ (∀ g, ev (.global g) = .pointer (some ⟨g, 0, none⟩)) ∧ (∀ f, ev (.func f) = .func (.func f) #[] #[]) ∧ ∀ t, ev (.tmp t) = lookD e t Γ
theorem EvIn.evt {Γ : Env} {ev : Operand → Value} (h : EvIn Γ ev) : EvT Γ (fun t => ev (.tmp t)) ev :=
  ⟨h.ok.const, h.ok.global, h.ok.func, fun t => (lookD_eq (fun t => ev (.tmp t)) t Γ fun v e => h.env t v e).symm⟩
def callOk (fn : Func) : Bool := !(fn.name == "runtime.NumGoroutine") && fn.body.isSome
/-- a call of a function that has a body -/
theorem exec_call {P : Program} {ev : Operand → Value} {o : Oper} {f : FuncId} {fn : Func} {ops : Array Operand} {tys : Array TypeId} {vals : Array Value} {w : World} (hf : P.funcs[f]? = some fn) (hc : callOk fn = true)
    (ho : o.op = .call { callee := .value (.func f), args := ops, argTypes := tys }) (hF : ev (.func f) = .func (.func f) #[] #[]) (hv : ops.map ev = vals) : (execOp ev o).run P w = .ok (.enter f vals) w := by
  unfold callOk at hc
  rw [Bool.and_eq_true, Bool.not_eq_true'] at hc
  have hn : ¬ fn.name = "runtime.NumGoroutine" := by simpa using hc.1
  have hb : ¬ fn.body = none := by
    have := hc.2
    cases h : fn.body with
    | none => rw [h] at this; cases this
    | some c => simp
  unfold execOp
  simp only [ho]
  simp [resolve, Deferred.ofValue, hF, hv, invoke, callFunc, hf, hn, hb]
section
variable {P : Program} {Q Q0 : Exit → Act → World → Prop} {a : Act} {w w' : World} {n : Nat} {Γ Γ' : Env} {l rest : List Oper} {o : Oper} {t : Nat} {v : Value} {ev : Operand → Value} {q b : Bool} {next : Act → World → Prop} {id : Nat}
theorem EvIn.get (h : EvIn Γ ev) (t : Nat) {v : Value} (e : look Γ t = some v) : ev (.tmp t) = v := h.env t v e
theorem EvIn.c (h : EvIn Γ ev) (v : Value) : ev (.const v) = v := h.ok.const v
theorem EvIn.g (h : EvIn Γ ev) (g : Nat) : ev (.global g) = .pointer (some ⟨g, 0, none⟩) := h.ok.global g
theorem EvIn.f (h : EvIn Γ ev) (f : FuncId) : ev (.func f) = .func (.func f) #[] #[] := h.ok.func f
theorem At.evin (h : At n Γ a) : EvIn Γ a.eval := ⟨evOk a, fun t v e => by
  have := h.env t v e
  simp [Act.eval, this]⟩
theorem At.getD (h : At n Γ a) (t : Nat) {v : Value} (e : look Γ t = some v) : a.tmps.getD t undef = v := by
  rw [Array.getD_eq_getD_getElem?, h.env t v e]; rfl
theorem At.put (h : At n Γ a) (ht : t < n) (v : Value) : At n ((t, v) :: Γ) (a.put (some t) v) := by
  refine ⟨by rw [put_size, h.size], by rw [put_def, h.defers], fun s u e => ?_⟩
  rw [look_cons] at e
  by_cases hts : t = s
  · subst hts
    simp only [beq_self_eq_true, cond_true, Option.some.injEq] at e
    subst e
    have : t < a.tmps.size := by rw [h.size]; exact ht
    simp [Act.put, this]
  · have h2 : (t == s) = false := by simpa using hts
    rw [h2, cond_false] at e
    rw [put_other (fun e => hts (Option.some.inj e))]
    exact h.env s u e
theorem At.keep (h : At n Γ a) (ks : List Nat) : At n (keepE ks Γ) a := ⟨h.size, h.defers, fun t v e => h.env t v (look_keep e)⟩
theorem At.to (h : At n Γ a) (e : Γ = Γ') : At n Γ' a := e ▸ h
/-- a call, entered -/
theorem calls_at {f : FuncId} {fn : Func} {c : Code} {args : Array Value} {R : Ending → World → Prop} (n : Nat) (hf : P.funcs[f]? = some fn) (hb : fn.body = some c) (hn : fn.ntmps = n) (ha : args.size ≤ n)
    (h : ∀ a, At n (argsE 0 args.toList) a → c.wp P (bodyPost P fn R) a w) : Calls P f args w R := by
  refine calls_of_wp hf hb (h _ ⟨?_, rfl, fun t v e => ?_⟩)
  · simp [hn]; omega
  · have h2 := (look_args e).2
    rw [Nat.sub_zero, Array.getElem?_toList] at h2
    show (args ++ Array.replicate (fn.ntmps - args.size) undef)[t]? = some v
    have hlt := (Array.getElem?_eq_some_iff.1 h2).1
    rw [Array.getElem?_append_left hlt]
    exact h2
-- the ways on
theorem n_then (h : next a w) : Exit.then next Q .normal a w := h
theorem n_block (h : Q .normal a w) : Exit.inBlock id Q .normal a w := h
theorem x_then {k : Nat} (h : Q (.exit k) a w) : Exit.then next Q (.exit k) a w := h
theorem x_block (h : Q .normal a w) : Exit.inBlock id Q (.exit id) a w := by
  show (if id = id then Q .normal a w else Q (.exit id) a w)
  rw [if_pos rfl]; exact h
theorem x_miss {k : Nat} (hk : k ≠ id) (h : Q (.exit k) a w) : Exit.inBlock id Q (.exit k) a w := by
  show (if k = id then Q .normal a w else Q (.exit k) a w)
  rw [if_neg hk]; exact h
theorem r_then (h : Q .ret a w) : Exit.then next Q .ret a w := h
theorem r_block (h : Q .ret a w) : Exit.inBlock id Q .ret a w := h
theorem wl_nil {ops : Array Oper} (h : Q .normal a w) : wpList P ops Q [] a w := h
/-- a test -/
theorem wp_if {x y : Code} (hA : At n Γ a) (t : Nat) (q : Bool) (hl : look Γ t = some (.bool q)) (ht : q = true → x.wp P Q a w) (hf : q = false → y.wp P Q a w) : (Code.cond (.tmp t) x y).wp P Q a w :=
  wp_cond_split (hA.evin.get t hl) ht hf
/-- what comes behind is shown once -/
theorem wp_seq_cut {x y : Code} (R : Act → World → Prop) (h : x.wp P (Exit.then R Q) a w) (hy : ∀ a w, R a w → y.wp P Q a w) : (Code.seq x y).wp P Q a w :=
  wp_seq (wp_mono h fun e a w q => by cases e <;> first | exact hy _ _ q | exact q)
/-- what comes behind a test is shown once -/
theorem wp_join {x y : Code} (R : Act → World → Prop) (h : x.wp P (Exit.then R Q) a w) (hy : ∀ a w, R a w → y.wp P Q a w) : x.wp P (Exit.then (y.wp P Q) Q) a w :=
  wp_mono h fun e a w q => by cases e <;> first | exact hy _ _ q | exact q
/-- a loop; the number goes down -/
theorem wp_loop_at {c : Code} (I : Nat → Act → World → Prop) (k : Nat) (h0 : I k a w) (round : ∀ k a w, I k a w → c.wp P (Exit.then (fun a' w' => ∃ k', k' < k ∧ I k' a' w') Q) a w) : (Code.loop c).wp P Q a w :=
  wp_loop_ghost I k h0 round
-- operations, in the text's order
theorem wl_op {v : Value} (hA : At n Γ a) (hg : o.guard = none) (hd : o.dst = some t) (ht : t < n) (hrun : ∀ ev, EvIn Γ ev → (execOp ev o).run P w = .ok (.value v) w')
    (hk : ∀ a', At n ((t, v) :: Γ) a' → wpList P l.toArray Q rest a' w') : wpList P l.toArray Q (o :: rest) a w := by
  refine wpList_plain hg fun K hK => ?_
  unfold Oper.wp
  rw [hrun _ hA.evin, Oper.upon_value, hd]
  exact hK _ _ (hk _ (hA.put ht v))
/-- new memory -/
theorem wl_new {v : Value} {x : Obj} (hA : At n Γ a) (hg : o.guard = none) (hd : o.dst = some t) (ht : t < n) (hrun : ∀ ev, EvIn Γ ev → (execOp ev o).run P w = .ok (.value v) (w.alloc x))
    (hk : ∀ w1 a', w1.heap[w.heap.size]? = some x → w1.heap.size = w.heap.size + 1 → Below w.heap.size w w1 → At n ((t, v) :: Γ) a' → wpList P l.toArray Q rest a' w1) : wpList P l.toArray Q (o :: rest) a w :=
  wl_op hA hg hd ht hrun fun a' hA' => hk _ a' (heap_alloc_new w x) (by simp) ((Below.refl _ _).alloc (Nat.le_refl _) x) hA'
/-- cells, one behind the other, are set -/
def setAll (w : World) (g : Nat) : Nat → List Value → World
  | _, [] => w
  | i, c :: r => setAll (w.setCell ⟨g, i, none⟩ c) g (i + 1) r
theorem blk_setAll {g : Nat} {T : TypeId} : ∀ (cs : List Value) (i : Nat) (w : World) (z : List Value), Blk w g T z.toArray → i + cs.length = z.length → Blk (setAll w g i cs) g T (z.take i ++ cs).toArray
  | [], i, w, z, h, hl => by
    have e : z.take i = z := List.take_of_length_le (by simp at hl; omega)
    rw [e, List.append_nil]
    exact h
  | c :: r, i, w, z, h, hl => by
    rw [List.length_cons] at hl
    have h2 := h.set_ i c
    rw [List.setIfInBounds_toArray] at h2
    have h3 := blk_setAll r (i + 1) _ _ h2 (by rw [List.length_set]; omega)
    have e : (z.set i c).take (i + 1) ++ r = z.take i ++ c :: r := by
      have hi : i < (z.set i c).length := by rw [List.length_set]; omega
      rw [List.take_succ_eq_append_getElem hi, List.getElem_set_self, List.take_set_of_le (Nat.le_refl i), List.append_assoc]
      rfl
    rw [e] at h3
    exact h3
theorem below_setAll {B g : Nat} {W : World} (hg : B ≤ g) : ∀ (cs : List Value) (i : Nat) (w : World), Below B W w → Below B W (setAll w g i cs)
  | [], _, _, h => h
  | c :: r, i, w, h => below_setAll hg r (i + 1) _ (Below.setCell h (by exact hg) c)
theorem size_setAll {g : Nat} : ∀ (cs : List Value) (i : Nat) (w : World), (setAll w g i cs).heap.size = w.heap.size
  | [], _, _ => rfl
  | c :: r, i, w => by
    show (setAll _ g (i + 1) r).heap.size = _
    rw [size_setAll r]
    simp
/-- a variable of its own, made and set -/
theorem wl_local {o2 : Oper} {T : TypeId} {z : List Value} (cs : List Value) (hA : At n Γ a) (hg : o.guard = none) (hd : o.dst = some t) (ht : t < n) (hrun : ∀ ev, EvIn Γ ev → (execOp ev o).run P w = .ok (.value (.pointer (some ⟨w.heap.size, 0, none⟩))) (w.alloc (.cells z.toArray T)))
    (hg2 : o2.guard = none) (hd2 : o2.dst = none) (hz : cs.length = z.length) (hrun2 : ∀ w1 g ev, Blk w1 g T z.toArray → EvIn ((t, .pointer (some ⟨g, 0, none⟩)) :: Γ) ev → (execOp ev o2).run P w1 = .ok .skip (setAll w1 g 0 cs))
    (hk : ∀ w1 a', Blk w1 w.heap.size T cs.toArray → w1.heap.size = w.heap.size + 1 → Below w.heap.size w w1 → At n ((t, .pointer (some ⟨w.heap.size, 0, none⟩)) :: Γ) a' → wpList P l.toArray Q rest a' w1) : wpList P l.toArray Q (o :: o2 :: rest) a w := by
  refine wl_op hA hg hd ht hrun fun a' hA' => ?_
  have hb : Blk (w.alloc (.cells z.toArray T)) w.heap.size T z.toArray := heap_alloc_new w _
  refine wpList_plain hg2 fun K hK => ?_
  unfold Oper.wp
  rw [hrun2 _ w.heap.size _ hb hA'.evin, Oper.upon_skip, hd2]
  refine hK _ _ (hk _ a' ?_ ?_ ?_ hA')
  · have := blk_setAll cs 0 _ _ hb (by omega)
    simpa using this
  · rw [size_setAll]; simp
  · exact below_setAll (Nat.le_refl _) cs 0 _ ((Below.refl _ _).alloc (Nat.le_refl _) _)
/-- only one block has turned -/
structure Only (g : Nat) (w w' : World) : Prop where
  os : w'.os = w.os
  tape : w'.tape = w.tape
  output : w'.output = w.output
  size : w'.heap.size = w.heap.size
  block : ∀ i, i ≠ g → w'.heap[i]? = w.heap[i]?
theorem Only.refl (g : Nat) (w : World) : Only g w w := ⟨rfl, rfl, rfl, rfl, fun _ _ => rfl⟩
theorem Only.trans {g : Nat} {w w' w'' : World} (h : Only g w w') (k : Only g w' w'') : Only g w w'' := ⟨k.os.trans h.os, k.tape.trans h.tape, k.output.trans h.output, k.size.trans h.size, fun i hi => (k.block i hi).trans (h.block i hi)⟩
theorem Only.set {g i : Nat} {w : World} {u : Value} : Only g w (w.setCell ⟨g, i, none⟩ u) := ⟨rfl, rfl, rfl, by simp, fun j hj => Below.heap_setCell _ _ _ _ hj⟩
theorem Only.setAll {g : Nat} : ∀ (cs : List Value) (i : Nat) (w : World), Only g w (setAll w g i cs)
  | [], _, w => Only.refl g w
  | _ :: r, i, _ => Only.set.trans (Only.setAll r (i + 1) _)
theorem Only.below {g B : Nat} {W w w' : World} (h : Only g w w') (hb : Below B W w) (hg : B ≤ g) : Below B W w' :=
  ⟨h.os.trans hb.os, h.tape.trans hb.tape, h.output.trans hb.output, by rw [h.size]; exact hb.size, fun i hi => (h.block i (by omega)).trans (hb.block i hi)⟩
theorem Only.blk {g k : Nat} {T : TypeId} {cs : Array Value} {w w' : World} (h : Only g w w') (hb : Blk w k T cs) (hk : k ≠ g) : Blk w' k T cs := (h.block k hk).trans hb
/-- a whole variable is set -/
theorem wl_set {g : Nat} {T : TypeId} {z : List Value} (cs : List Value) (hA : At n Γ a) (hg : o.guard = none) (hd : o.dst = none) (hK : Blk w g T z.toArray) (hz : cs.length = z.length) (hrun : ∀ ev, EvIn Γ ev → (execOp ev o).run P w = .ok .skip (setAll w g 0 cs))
    (hk : ∀ w1, Blk w1 g T cs.toArray → Only g w w1 → wpList P l.toArray Q rest a w1) : wpList P l.toArray Q (o :: rest) a w := by
  refine wpList_plain hg fun K hK' => ?_
  unfold Oper.wp
  rw [hrun _ hA.evin, Oper.upon_skip, hd]
  refine hK' _ _ (hk _ ?_ (Only.setAll cs 0 w))
  have := blk_setAll cs 0 _ _ hK (by omega)
  simpa using this
theorem wl_skip (hA : At n Γ a) (hg : o.guard = none) (hd : o.dst = none) (hrun : ∀ ev, EvIn Γ ev → (execOp ev o).run P w = .ok .skip w')
    (hk : wpList P l.toArray Q rest a w') : wpList P l.toArray Q (o :: rest) a w := by
  refine wpList_plain hg fun K hK => ?_
  unfold Oper.wp
  rw [hrun _ hA.evin, Oper.upon_skip, hd]
  exact hK _ _ hk
theorem wl_call {f : FuncId} {args : Array Value} {R : Ending → World → Prop} (hA : At n Γ a) (hg : o.guard = none) (hd : o.dst = some t) (ht : t < n) (hrun : ∀ ev, EvIn Γ ev → (execOp ev o).run P w = .ok (.enter f args) w)
    (hc : Calls P f args w R) (hk : ∀ e w', R e w' → ∃ v, e = .returned v ∧ ∀ a', At n ((t, v) :: Γ) a' → wpList P l.toArray Q rest a' w') : wpList P l.toArray Q (o :: rest) a w := by
  refine wpList_plain hg fun K hK => ?_
  unfold Oper.wp
  rw [hrun _ hA.evin, Oper.upon_enter]
  refine Calls.mono hc fun e w' hR => ?_
  obtain ⟨v, rfl, h⟩ := hk e w' hR
  rw [hd]
  exact hK _ _ (h _ (hA.put ht v))
/-- a call whose answer goes nowhere -/
theorem wl_call0 {f : FuncId} {args : Array Value} {R : Ending → World → Prop} (hA : At n Γ a) (hg : o.guard = none) (hd : o.dst = none) (hrun : ∀ ev, EvIn Γ ev → (execOp ev o).run P w = .ok (.enter f args) w)
    (hc : Calls P f args w R) (hk : ∀ e w', R e w' → ∃ v, e = .returned v ∧ wpList P l.toArray Q rest a w') : wpList P l.toArray Q (o :: rest) a w := by
  refine wpList_plain hg fun K hK => ?_
  unfold Oper.wp
  rw [hrun _ hA.evin, Oper.upon_enter]
  refine Calls.mono hc fun e w' hR => ?_
  obtain ⟨v, rfl, h⟩ := hk e w' hR
  rw [hd]
  exact hK _ _ h
/-- what a guarded operation leaves -/
def gw (c : Bool) (v : Value) : Value := bif c then v else undef
abbrev gv (q b : Bool) (v : Value) : Value := gw (q == b) v
theorem gw_t {c : Bool} {v : Value} (h : c = true) : gw c v = v := by rw [h]; rfl
theorem gw_a {c d : Bool} {v : Value} (h : c = true) : gw (c && d) v = gw d v := by rw [h]; rfl
theorem beq_t {q b : Bool} (h : q = b) : (q == b) = true := by rw [h]; cases b <;> rfl
theorem and_beq {c r b : Bool} (h : c = true) (k : r = b) : (c && (r == b)) = true := by rw [h, k]; cases b <;> rfl
theorem and_l {c d : Bool} (h : (c && d) = true) : c = true := (Bool.and_eq_true _ _ ▸ h : c = true ∧ d = true).1
theorem gv_same (b : Bool) (v : Value) : gv b b v = v := by cases b <;> rfl
theorem gv_tt (v : Value) : gw (true == true) v = v := rfl
theorem gv_ff (v : Value) : gw (false == false) v = v := rfl
theorem gv_or (q r : Bool) : (if q = true then Value.bool true else gw (q == false) (.bool r)) = .bool (q || r) := by cases q <;> rfl
theorem gv_and (q r : Bool) : (if q = true then gw (q == true) (.bool r) else Value.bool false) = .bool (q && r) := by cases q <;> rfl
theorem pick_and {c x y : Operand} {r : Bool} (ho : o.op = .pick c x y) (hc : ev c = .bool q) (hx : ev x = gv q true (.bool r)) (hy : ev y = .bool false) : (execOp ev o).run P w = .ok (.value (.bool (q && r))) w := by
  unfold execOp
  rw [ho]
  cases q <;> simp [go_sem, hc, hx, hy, gw]
theorem pick_or {c x y : Operand} {r : Bool} (ho : o.op = .pick c x y) (hc : ev c = .bool q) (hx : ev x = .bool true) (hy : ev y = gv q false (.bool r)) : (execOp ev o).run P w = .ok (.value (.bool (q || r))) w := by
  unfold execOp
  rw [ho]
  cases q <;> simp [go_sem, hc, hx, hy, gw]
theorem wl_guard {gi gt : Nat} {v : Value} (q : Bool) (hA : At n Γ a) (hg : o.guard = some (gi, b)) (hgd : (l[gi]?).bind (·.dst) = some gt) (hl : look Γ gt = some (.bool q)) (hd : o.dst = some t) (ht : t < n)
    (hrun : q = b → ∀ ev, EvIn Γ ev → (execOp ev o).run P w = .ok (.value v) w) (hk : ∀ a', At n ((t, gv q b v) :: Γ) a' → wpList P l.toArray Q rest a' w) : wpList P l.toArray Q (o :: rest) a w := by
  have hw : Region.wanted o (yielded l.toArray a.tmps) = (q == b) := by
    rw [wanted_eq]
    exact wanted_bool hg hgd (hA.evin.get gt hl) rfl
  refine wpList_step fun K hK => ?_
  rw [hw]
  cases hqb : q == b with
  | true =>
    rw [if_pos rfl]
    unfold Oper.wp
    rw [hrun (by simpa using hqb) _ hA.evin, Oper.upon_value, hd]
    have := hk _ (hA.put ht (gv q b v))
    unfold gv gw at this
    rw [hqb] at this
    exact hK _ _ this
  | false =>
    rw [if_neg (by simp), hd]
    have := hk _ (hA.put ht (gv q b v))
    unfold gv gw at this
    rw [hqb] at this
    exact hK _ _ this
/-- a guard that is guarded itself -/
theorem wl_guard2 {gi gt : Nat} {v : Value} (c r : Bool) (hA : At n Γ a) (hg : o.guard = some (gi, b)) (hgd : (l[gi]?).bind (·.dst) = some gt) (hl : look Γ gt = some (gw c (.bool r))) (hd : o.dst = some t) (ht : t < n)
    (hrun : c = true → r = b → ∀ ev, EvIn Γ ev → (execOp ev o).run P w = .ok (.value v) w) (hk : ∀ a', At n ((t, gw (c && (r == b)) v) :: Γ) a' → wpList P l.toArray Q rest a' w) : wpList P l.toArray Q (o :: rest) a w := by
  have hev := hA.evin.get gt hl
  have hw : Region.wanted o (yielded l.toArray a.tmps) = (c && (r == b)) := by
    rw [wanted_eq]
    unfold wantedBy
    rw [hg]
    simp only [hgd, hev]
    unfold gw
    cases c <;> rfl
  refine wpList_step fun K hK => ?_
  rw [hw]
  have h3 := hk _ (hA.put ht (gw (c && (r == b)) v))
  unfold gw at h3
  cases hcb : c && (r == b) with
  | true =>
    rw [hcb] at h3
    rw [if_pos rfl]
    rw [Bool.and_eq_true, beq_iff_eq] at hcb
    unfold Oper.wp
    rw [hrun hcb.1 hcb.2 _ hA.evin, Oper.upon_value, hd]
    exact hK _ _ h3
  | false =>
    rw [hcb] at h3
    rw [if_neg (by simp), hd]
    exact hK _ _ h3
/-- a guarded call -/
theorem wl_gcall {gi gt : Nat} {f : FuncId} {args : Array Value} {R : Ending → World → Prop} (q : Bool) (hA : At n Γ a) (hg : o.guard = some (gi, b)) (hgd : (l[gi]?).bind (·.dst) = some gt) (hl : look Γ gt = some (.bool q)) (hd : o.dst = some t) (ht : t < n)
    (hrun : q = b → ∀ ev, EvIn Γ ev → (execOp ev o).run P w = .ok (.enter f args) w) (hc : q = b → Calls P f args w R) (K : Value → World → Prop)
    (hR : q = b → ∀ e w', R e w' → ∃ v, e = .returned v ∧ K v w') (hn : q ≠ b → K undef w) (hk : ∀ v a' w', K v w' → At n ((t, gv q b v) :: Γ) a' → wpList P l.toArray Q rest a' w') : wpList P l.toArray Q (o :: rest) a w := by
  have hw : Region.wanted o (yielded l.toArray a.tmps) = (q == b) := by
    rw [wanted_eq]
    exact wanted_bool hg hgd (hA.evin.get gt hl) rfl
  refine wpList_step fun K' hK => ?_
  rw [hw]
  cases hqb : q == b with
  | true =>
    have e : q = b := by simpa using hqb
    rw [if_pos rfl]
    unfold Oper.wp
    rw [hrun e _ hA.evin, Oper.upon_enter]
    refine Calls.mono (hc e) fun e' w' hR' => ?_
    obtain ⟨v, rfl, h⟩ := hR e e' w' hR'
    rw [hd]
    have := hk v _ w' h (hA.put ht (gv q b v))
    unfold gv gw at this
    rw [hqb] at this
    exact hK _ _ this
  | false =>
    rw [if_neg (by simp), hd]
    have := hk undef _ w (hn (by simpa using hqb)) (hA.put ht (gv q b undef))
    unfold gv gw at this
    rw [hqb] at this
    exact hK _ _ this
/-- a guarded call that answers with a value and makes memory alone -/
theorem wl_gcallv {gi gt : Nat} {f : FuncId} {args : Array Value} {v : Value} (q : Bool) (hA : At n Γ a) (hg : o.guard = some (gi, b)) (hgd : (l[gi]?).bind (·.dst) = some gt) (hl : look Γ gt = some (.bool q)) (hd : o.dst = some t) (ht : t < n)
    (hrun : q = b → ∀ ev, EvIn Γ ev → (execOp ev o).run P w = .ok (.enter f args) w) (hc : q = b → Calls P f args w fun e w' => e = .returned v ∧ Below w.heap.size w w')
    (hk : ∀ a' w', Below w.heap.size w w' → At n ((t, gv q b v) :: Γ) a' → wpList P l.toArray Q rest a' w') : wpList P l.toArray Q (o :: rest) a w := by
  have hw : Region.wanted o (yielded l.toArray a.tmps) = (q == b) := by
    rw [wanted_eq]
    exact wanted_bool hg hgd (hA.evin.get gt hl) rfl
  refine wpList_step fun K' hK => ?_
  rw [hw]
  cases hqb : q == b with
  | true =>
    have e : q = b := by simpa using hqb
    rw [if_pos rfl]
    unfold Oper.wp
    rw [hrun e _ hA.evin, Oper.upon_enter]
    refine Calls.mono (hc e) fun e' w' ⟨he, hb⟩ => ?_
    subst he
    rw [hd]
    have := hk _ w' hb (hA.put ht (gv q b v))
    unfold gv gw at this
    rw [hqb] at this
    exact hK _ _ this
  | false =>
    rw [if_neg (by simp), hd]
    have := hk _ w (Below.refl _ _) (hA.put ht (gv q b v))
    unfold gv gw at this
    rw [hqb] at this
    exact hK _ _ this
theorem wl_gcallv2 {gi gt : Nat} {f : FuncId} {args : Array Value} {v : Value} (c r : Bool) (hA : At n Γ a) (hg : o.guard = some (gi, b)) (hgd : (l[gi]?).bind (·.dst) = some gt) (hl : look Γ gt = some (gw c (.bool r))) (hd : o.dst = some t) (ht : t < n)
    (hrun : c = true → r = b → ∀ ev, EvIn Γ ev → (execOp ev o).run P w = .ok (.enter f args) w) (hc : c = true → r = b → Calls P f args w fun e w' => e = .returned v ∧ Below w.heap.size w w')
    (hk : ∀ a' w', Below w.heap.size w w' → At n ((t, gw (c && (r == b)) v) :: Γ) a' → wpList P l.toArray Q rest a' w') : wpList P l.toArray Q (o :: rest) a w := by
  have hev := hA.evin.get gt hl
  have hw : Region.wanted o (yielded l.toArray a.tmps) = (c && (r == b)) := by
    rw [wanted_eq]
    unfold wantedBy
    rw [hg]
    simp only [hgd, hev]
    unfold gw
    cases c <;> rfl
  refine wpList_step fun K' hK => ?_
  rw [hw]
  cases hqb : c && (r == b) with
  | true =>
    have e := hqb
    rw [Bool.and_eq_true, beq_iff_eq] at e
    rw [if_pos rfl]
    unfold Oper.wp
    rw [hrun e.1 e.2 _ hA.evin, Oper.upon_enter]
    refine Calls.mono (hc e.1 e.2) fun e' w' ⟨he, hb⟩ => ?_
    subst he
    rw [hd]
    have := hk _ w' hb (hA.put ht (gw (c && (r == b)) v))
    unfold gw at this
    rw [hqb] at this
    exact hK _ _ this
  | false =>
    rw [if_neg (by simp), hd]
    have := hk _ w (Below.refl _ _) (hA.put ht (gw (c && (r == b)) v))
    unfold gw at this
    rw [hqb] at this
    exact hK _ _ this
-- what is left behind a region whose order is open
def FinE (σ : Nat → Value) (K : Env → Prop) (w : World) : List (Oper × Fact) → Env → Prop
  | [], Γ => K Γ
  | (⟨some t, _, _, _, _, _⟩, .det v) :: r, Γ => FinE σ K w r ((t, v) :: Γ)
  | (⟨some t, _, _, _, _, _⟩, .held p) :: r, Γ => ∀ x, x = σ t → p x w → FinE σ K w r ((t, x) :: Γ)
  | (⟨some t, _, _, _, _, _⟩, .used _) :: r, Γ => ∀ x, x = σ t → FinE σ K w r ((t, x) :: Γ)
  | (⟨none, _, _, _, _, _⟩, _) :: r, Γ => FinE σ K w r Γ
theorem fin_env {σ : Nat → Value} {w : World} {ds : List Deferred} (hds : ds = []) : ∀ (m : List (Oper × Fact)) (arr : Array Value) (Γ : Env), (∀ p ∈ m, ∀ t, p.1.dst = some t → t < n) → At n Γ ⟨arr, ds⟩ → FinE σ (fun Γ => ∀ a', At n Γ a' → Q .normal a' w) w m Γ → FinK σ (fun arr => Q .normal ⟨arr, ds⟩ w) w m arr
  | [], arr, Γ, _, hA, h => h _ hA
  | (⟨d, _, _, _, _, _⟩, f) :: r, arr, Γ, hm, hA, h => by
    have hr := fun p hp => hm p (List.mem_cons_of_mem _ hp)
    cases d with
    | none => exact fin_env hds r arr Γ hr hA h
    | some t =>
      have ht : t < n := hm _ List.mem_cons_self t rfl
      cases f with
      | det v => exact fin_env hds r _ _ hr (hA.put ht v) h
      | held p => exact fun x he hx => fin_env hds r _ _ hr (hA.put ht x) (h x he hx)
      | used p => exact fun x he => fin_env hds r _ _ hr (hA.put ht x) (h x he)
def dstsB (l : List Oper) (n : Nat) : Bool := l.all fun o => match o.dst with | some t => decide (t < n) | none => true
theorem wp_any_at {id : Nat} {d : Bool} (hA : At n Γ a) (F : List Fact) (Ph : List Phase) (C : World → Prop) (T : Nat → World → World → Prop) (hm : P.follows .mixedOrders = true) (hdr : d = true) (hB : checkB l n = true) (hdB : dstsB l n = true) (hFl : F.length = l.length) (hC : C { w with drawn := w.drawn + 1 })
    (hstab : ∀ i j x w w', needB l F i j = true → i ≠ j → C w → (F.getD j (.det undef)).says x w → T i w w' → (F.getD j (.det undef)).says x w')
    (hph0 : ∀ ph ∈ Ph, ph.start = none → ph.p (sig a.eval) { w with drawn := w.drawn + 1 })
    (hph : ∀ i (ph : Phase) σ w w', ph ∈ Ph → ph.start ≠ some i → ph.upto ≠ some i → liveB l i ph.start ph.upto = true → C w → ph.p σ w → T i w w' → ph.p σ w')
    (hpl : ∀ ph ∈ Ph, ∀ a, ph.start = some a → a < l.length)
    (hob : ObAll P l F Ph C T a.tmps 0 l)
    (hlk : lkB l (Ph.map fun ph => (ph.start, ph.looks)) = true)
    (hfin : ∀ σ w', C w' → (∀ ph ∈ Ph, ph.upto = none → ph.p σ w') → FinE σ (fun Γ => ∀ a', At n Γ a' → Q .normal a' w') w' (l.zip F) Γ) : (Code.region id l.toArray d).wp P Q a w := by
  subst hdr
  refine wp_region_facts n F Ph C T hm hA.size hB hFl hC hstab hph0 hph hpl (ob_all hob) hlk fun σ w' hC' hp' => ?_
  refine fin_env hA.defers _ _ Γ (fun p hp t ht => ?_) hA (hfin σ w' hC' hp')
  have hpl := (List.of_mem_zip (a := p.1) (b := p.2) hp).1
  unfold dstsB at hdB
  have := List.all_eq_true.1 hdB p.1 hpl
  rw [ht] at this
  simpa using this
theorem see_env {F : List Fact} {o : Oper} {ev : Operand → Value} {w : World} {v : Value} (hA : At n Γ a) (hs : ∀ t ∈ o.looksAt l.toArray, slotSays l F a.tmps o t (ev (.tmp t)) w) (t : Nat) (h1 : (o.looksAt l.toArray).contains t = true) (h2 : srcOf l o t = none) (h3 : look Γ t = some v) : ev (.tmp t) = v :=
  see_out hs t h1 h2 (hA.env t v h3)
theorem ob_gv {F : List Fact} {Ph : List Phase} {C : World → Prop} {T : Nat → World → World → Prop} {i gi gt : Nat} {o : Oper} {ev : Operand → Value} {w : World} {v u : Value} {b : Bool} (q : Bool) (hg : o.guard = some (gi, b)) (hgd : (l[gi]?).bind (·.dst) = some gt) (hv : ev (.tmp gt) = .bool q) (hF : F.getD i (.det undef) = .det u) (hp : Ph.all (fun ph => ph.start != some i) = true) (hC : C w) (hT : T i w w) (h : q = b → (execOp ev o).run P w = .ok (.value v) w) (hu : u = gv q b v) :
    if wantedBy l o ev = true then Does P ev o w (fun v w' => C w' ∧ T i w w' ∧ (F.getD i (.det undef)).says v w' ∧ ∀ ph ∈ Ph, ph.start = some i → ph.p (sig ev) w') else T i w w ∧ (F.getD i (.det undef)).says undef w ∧ ∀ ph ∈ Ph, ph.start = some i → ph.p (sig ev) w := by
  subst hu
  have hw := wanted_bool (l := l) (r := (q == b)) hg hgd hv rfl
  cases hqb : q == b with
  | true =>
    rw [hqb] at hw
    refine ob_yes hw (does_value (h (by simpa using hqb)) ⟨hC, hT, ?_, no_start hp⟩)
    rw [hF]; unfold gv gw; rw [hqb]; rfl
  | false =>
    rw [hqb] at hw
    refine ob_no hw hT ?_ (no_start hp)
    rw [hF]; unfold gv gw; rw [hqb]; rfl
theorem ob_gw {F : List Fact} {Ph : List Phase} {C : World → Prop} {T : Nat → World → World → Prop} {i gi gt : Nat} {o : Oper} {ev : Operand → Value} {w : World} {v u : Value} {b : Bool} (c r : Bool) (hg : o.guard = some (gi, b)) (hgd : (l[gi]?).bind (·.dst) = some gt) (hv : ev (.tmp gt) = gw c (.bool r)) (hF : F.getD i (.det undef) = .det u) (hp : Ph.all (fun ph => ph.start != some i) = true) (hC : C w) (hT : T i w w) (h : c = true → r = b → (execOp ev o).run P w = .ok (.value v) w) (hu : u = gw (c && (r == b)) v) :
    if wantedBy l o ev = true then Does P ev o w (fun v w' => C w' ∧ T i w w' ∧ (F.getD i (.det undef)).says v w' ∧ ∀ ph ∈ Ph, ph.start = some i → ph.p (sig ev) w') else T i w w ∧ (F.getD i (.det undef)).says undef w ∧ ∀ ph ∈ Ph, ph.start = some i → ph.p (sig ev) w := by
  subst hu
  have hw : wantedBy l o ev = (c && (r == b)) := by
    unfold wantedBy
    rw [hg]
    simp only [hgd, hv]
    unfold gw
    cases c <;> rfl
  cases hqb : c && (r == b) with
  | true =>
    rw [hqb] at hw
    rw [Bool.and_eq_true, beq_iff_eq] at hqb
    refine ob_yes hw (does_value (h hqb.1 hqb.2) ⟨hC, hT, ?_, no_start hp⟩)
    rw [hF]; unfold gw; rw [hqb.1, hqb.2]; cases b <;> rfl
  | false =>
    rw [hqb] at hw
    refine ob_no hw hT ?_ (no_start hp)
    rw [hF]; unfold gw; rw [hqb]; rfl
/-- a guarded call, in a region whose order is open, that answers with a value and makes memory alone -/
theorem ob_gcall {F : List Fact} {Ph : List Phase} {C : World → Prop} {T : Nat → World → World → Prop} {i gi gt : Nat} {f : FuncId} {args : Array Value} {o : Oper} {ev : Operand → Value} {w : World} {v u : Value} {b : Bool} (q : Bool) (hg : o.guard = some (gi, b)) (hgd : (l[gi]?).bind (·.dst) = some gt) (hv : ev (.tmp gt) = .bool q) (hF : F.getD i (.det undef) = .det u) (hp : Ph.all (fun ph => ph.start != some i) = true) (hu : u = gv q b v)
    (h : q = b → (execOp ev o).run P w = .ok (.enter f args) w) (hc : q = b → Calls P f args w fun e w' => e = .returned v ∧ Below w.heap.size w w') (hk : ∀ w', Below w.heap.size w w' → C w' ∧ T i w w') :
    if wantedBy l o ev = true then Does P ev o w (fun v w' => C w' ∧ T i w w' ∧ (F.getD i (.det undef)).says v w' ∧ ∀ ph ∈ Ph, ph.start = some i → ph.p (sig ev) w') else T i w w ∧ (F.getD i (.det undef)).says undef w ∧ ∀ ph ∈ Ph, ph.start = some i → ph.p (sig ev) w := by
  subst hu
  have hw := wanted_bool (l := l) (r := (q == b)) hg hgd hv rfl
  cases hqb : q == b with
  | true =>
    rw [hqb] at hw
    have e : q = b := by simpa using hqb
    refine ob_yes hw (does_enter (h e) (Calls.mono (hc e) fun e' w' ⟨he, hb⟩ => ⟨_, he, (hk w' hb).1, (hk w' hb).2, ?_, no_start hp⟩))
    rw [hF]; unfold gv gw; rw [hqb]; rfl
  | false =>
    rw [hqb] at hw
    refine ob_no hw (hk w (Below.refl _ _)).2 ?_ (no_start hp)
    rw [hF]; unfold gv gw; rw [hqb]; rfl
/-- a call, in a region whose order is open, that answers with a value and makes memory alone -/
theorem ob_dcall {F : List Fact} {Ph : List Phase} {C : World → Prop} {T : Nat → World → World → Prop} {i : Nat} {f : FuncId} {args : Array Value} {o : Oper} {ev : Operand → Value} {w : World} {u v : Value} (hw : wantedBy l o ev = true) (hF : F.getD i (.det undef) = .det u) (hp : Ph.all (fun ph => ph.start != some i) = true)
    (hc : Calls P f args w fun e w' => e = .returned v ∧ Below w.heap.size w w') (h : (execOp ev o).run P w = .ok (.enter f args) w) (hu : u = v) (hk : ∀ w', Below w.heap.size w w' → C w' ∧ T i w w') :
    if wantedBy l o ev = true then Does P ev o w (fun v w' => C w' ∧ T i w w' ∧ (F.getD i (.det undef)).says v w' ∧ ∀ ph ∈ Ph, ph.start = some i → ph.p (sig ev) w') else T i w w ∧ (F.getD i (.det undef)).says undef w ∧ ∀ ph ∈ Ph, ph.start = some i → ph.p (sig ev) w :=
  ob_yes hw (does_enter h (Calls.mono hc fun _ w' ⟨he, hb⟩ => ⟨_, he, (hk w' hb).1, (hk w' hb).2, by rw [hF, hu]; rfl, no_start hp⟩))
theorem no_1 {i : Nat} (h : (none : Option Nat) = some i) : False := by cases h
theorem no_2 {i j : Nat} (hne : Nat.beq i j = false) (h : some i = some j) : False := by
  injection h with h
  subst h
  rw [Nat.beq_refl] at hne
  cases hne
theorem At.keepN (h : At n Γ a) (ks : List Nat) (e : keepE ks Γ = Γ' := by simp only [argsE, keepE, lookS, Nat.reduceBEq, cond_true, cond_false, Nat.reduceAdd, gv_tt, gv_ff, Bool.true_and, Bool.false_and, Bool.true_or, Bool.false_or] <;> rfl) : At n Γ' a := e ▸ h.keep ks
theorem At.norm (h : At n Γ a) (e : Γ = Γ' := by simp only [argsE, keepE, lookS, Nat.reduceBEq, cond_true, cond_false, Nat.reduceAdd, gv_tt, gv_ff, Bool.true_and, Bool.false_and, Bool.true_or, Bool.false_or] <;> rfl) : At n Γ' a := e ▸ h
theorem nT (h : next a w) : Exit.then next Q .normal a w := h
theorem nB (h : Q .normal a w) : Exit.inBlock id Q .normal a w := h
theorem xT {k : Nat} (h : Q (.exit k) a w) : Exit.then next Q (.exit k) a w := h
theorem xB (h : Q .normal a w) : Exit.inBlock id Q (.exit id) a w := x_block h
theorem rT (h : Q .ret a w) : Exit.then next Q .ret a w := h
theorem rB (h : Q .ret a w) : Exit.inBlock id Q .ret a w := h
theorem wN {ops : Array Oper} (h : Q .normal a w) : wpList P ops Q [] a w := h
theorem wS {x y : Code} (h : x.wp P (Exit.then (y.wp P Q) Q) a w) : (Code.seq x y).wp P Q a w := wp_seq h
theorem wB {c : Code} (h : c.wp P (Exit.inBlock id Q) a w) : (Code.block id c).wp P Q a w := wp_block h
theorem wR {ops : List Oper} (h : wpList P ops.toArray Q ops a w) : (Code.region id ops.toArray false).wp P Q a w := wp_region_lit h
/-- an operation, in a run of such -/
theorem wo {v : Value} (hg : o.guard = none) (hd : o.dst = some t) (ht : t < n) (hrun : ∀ ev e, EvT Γ e ev → (execOp ev o).run P w = .ok (.value v) w)
    (hk : ∀ a', At n ((t, v) :: Γ) a' → wpList P l.toArray Q rest a' w) : ∀ a, At n Γ a → wpList P l.toArray Q (o :: rest) a w :=
  fun _ hA => wl_op hA hg hd ht (fun ev h => hrun ev _ h.evt) hk
theorem wg {gi gt : Nat} {v : Value} (q : Bool) (hg : o.guard = some (gi, b)) (hgd : (l[gi]?).bind (·.dst) = some gt) (hl : look Γ gt = some (.bool q)) (hd : o.dst = some t) (ht : t < n)
    (hrun : q = b → ∀ ev e, EvT Γ e ev → (execOp ev o).run P w = .ok (.value v) w) (hk : ∀ a', At n ((t, gv q b v) :: Γ) a' → wpList P l.toArray Q rest a' w) : ∀ a, At n Γ a → wpList P l.toArray Q (o :: rest) a w :=
  fun _ hA => wl_guard q hA hg hgd hl hd ht (fun hq ev h => hrun hq ev _ h.evt) hk
theorem wg2 {gi gt : Nat} {v : Value} (c r : Bool) (hg : o.guard = some (gi, b)) (hgd : (l[gi]?).bind (·.dst) = some gt) (hl : look Γ gt = some (gw c (.bool r))) (hd : o.dst = some t) (ht : t < n)
    (hrun : c = true → r = b → ∀ ev e, EvT Γ e ev → (execOp ev o).run P w = .ok (.value v) w) (hk : ∀ a', At n ((t, gw (c && (r == b)) v) :: Γ) a' → wpList P l.toArray Q rest a' w) : ∀ a, At n Γ a → wpList P l.toArray Q (o :: rest) a w :=
  fun _ hA => wl_guard2 c r hA hg hgd hl hd ht (fun hc hq ev h => hrun hc hq ev _ h.evt) hk
theorem wka {tc tx : Nat} {r : Bool} (hg : o.guard = none) (hd : o.dst = some t) (ht : t < n) (ho : o.op = .pick (.tmp tc) (.tmp tx) (.const (.bool false))) (hc : look Γ tc = some (.bool q)) (hx : look Γ tx = some (gv q true (.bool r)))
    (hk : ∀ a', At n ((t, .bool (q && r)) :: Γ) a' → wpList P l.toArray Q rest a' w) : ∀ a, At n Γ a → wpList P l.toArray Q (o :: rest) a w :=
  fun _ hA => wl_op hA hg hd ht (fun _ h => pick_and ho (h.env _ _ hc) (h.env _ _ hx) (h.c _)) hk
theorem wko {tc tx : Nat} {r : Bool} (hg : o.guard = none) (hd : o.dst = some t) (ht : t < n) (ho : o.op = .pick (.tmp tc) (.const (.bool true)) (.tmp tx)) (hc : look Γ tc = some (.bool q)) (hx : look Γ tx = some (gv q false (.bool r)))
    (hk : ∀ a', At n ((t, .bool (q || r)) :: Γ) a' → wpList P l.toArray Q rest a' w) : ∀ a, At n Γ a → wpList P l.toArray Q (o :: rest) a w :=
  fun _ hA => wl_op hA hg hd ht (fun _ h => pick_or ho (h.env _ _ hc) (h.c _) (h.env _ _ hx)) hk
theorem mL : (∀ (f : Operand → Value) (l : List Operand), l.toArray.map f = (l.map f).toArray) ∧ (∀ (f : Operand → Value) (x : Operand) (l : List Operand), (x :: l).map f = f x :: l.map f) ∧ ∀ (f : Operand → Value), ([] : List Operand).map f = [] := ⟨fun f l => by simp, fun _ _ _ => rfl, fun _ => rfl⟩
-- operations of a region whose order is open
section
variable {F : List Fact} {Ph : List Phase} {C : World → Prop} {T : Nat → World → World → Prop} {i : Nat} {a0 : Array Value}
abbrev Slots (l : List Oper) (F : List Fact) (a0 : Array Value) (o : Oper) (ev : Operand → Value) (w : World) : Prop := ∀ t ∈ o.looksAt l.toArray, slotSays l F a0 o t (ev (.tmp t)) w
theorem sd (hs : Slots l F a0 o ev w) (t j : Nat) {v : Value} (h1 : (o.looksAt l.toArray).contains t = true := by kernel_rfl) (h2 : srcOf l o t = some j := by kernel_rfl) (h3 : F.getD j (.det undef) = .det v := by rfl) : ev (.tmp t) = v := see_det hs t j h1 h2 h3
theorem se (hA : At n Γ a) (hs : Slots l F a.tmps o ev w) (t : Nat) {v : Value} (h1 : (o.looksAt l.toArray).contains t = true := by kernel_rfl) (h2 : srcOf l o t = none := by kernel_rfl) (h3 : look Γ t = some v := by rfl) : ev (.tmp t) = v := see_out hs t h1 h2 (hA.env t v h3)
theorem sh {p : Value → World → Prop} (hs : Slots l F a0 o ev w) (t j : Nat) (h1 : (o.looksAt l.toArray).contains t = true := by kernel_rfl) (h2 : srcOf l o t = some j := by kernel_rfl) (h3 : F.getD j (.det undef) = .held p := by rfl) : p (ev (.tmp t)) w := see_held hs t j h1 h2 h3
theorem su {p : Value → World → Prop} (hs : Slots l F a0 o ev w) (t j : Nat) (h1 : (o.looksAt l.toArray).contains t = true := by kernel_rfl) (h2 : srcOf l o t = some j := by kernel_rfl) (h3 : F.getD j (.det undef) = .used p := by rfl) : p (ev (.tmp t)) w := see_used hs t j h1 h2 h3
theorem od {v : Value} (hg : o.guard = none) (hF : F.getD i (.det undef) = .det v) (hp : Ph.all (fun ph => ph.start != some i) = true) (hC : C w) (hT : T i w w) (h : (execOp ev o).run P w = .ok (.value v) w) :
    if wantedBy l o ev = true then Does P ev o w (fun v w' => C w' ∧ T i w w' ∧ (F.getD i (.det undef)).says v w' ∧ ∀ ph ∈ Ph, ph.start = some i → ph.p (sig ev) w') else T i w w ∧ (F.getD i (.det undef)).says undef w ∧ ∀ ph ∈ Ph, ph.start = some i → ph.p (sig ev) w :=
  ob_det (wanted_none hg) hF hp hC hT h
end
-- answers
theorem ret_1 {fn : Func} {R : Ending → World → Prop} (hA : At n Γ a) (t : Nat) {v : Value} (hr : fn.results = #[.tmp t]) (hl : look Γ t = some v) (hR : R (.returned v) w) : bodyPost P fn R .ret a w :=
  ⟨hA.defers, v, by rw [← hA.getD t hl]; simp [results, hr], hR⟩
theorem ret_2 {fn : Func} {R : Ending → World → Prop} (hA : At n Γ a) (t u : Nat) {x y : Value} (hr : fn.results = #[.tmp t, .tmp u]) (hl : look Γ t = some x) (hl2 : look Γ u = some y) (hR : R (.returned (.tuple #[x, y])) w) : bodyPost P fn R .ret a w :=
  ⟨hA.defers, _, by rw [← hA.getD t hl, ← hA.getD u hl2]; simp [results, hr], hR⟩
theorem ret_3 {fn : Func} {R : Ending → World → Prop} (hA : At n Γ a) (t u s : Nat) {x y z : Value} (hr : fn.results = #[.tmp t, .tmp u, .tmp s]) (hl : look Γ t = some x) (hl2 : look Γ u = some y) (hl3 : look Γ s = some z) (hR : R (.returned (.tuple #[x, y, z])) w) : bodyPost P fn R .ret a w :=
  ⟨hA.defers, _, by rw [← hA.getD t hl, ← hA.getD u hl2, ← hA.getD s hl3]; simp [results, hr], hR⟩
theorem ret_0 {fn : Func} {R : Ending → World → Prop} (hA : At n Γ a) (hr : fn.results = #[]) (hR : R (.returned (.tuple #[])) w) : bodyPost P fn R .ret a w :=
  ⟨hA.defers, _, by simp [results, hr], hR⟩
theorem end_0 {fn : Func} {R : Ending → World → Prop} (hA : At n Γ a) (hr : fn.results = #[]) (hR : R (.returned (.tuple #[])) w) : bodyPost P fn R .normal a w :=
  ⟨hA.defers, _, by simp [results, hr], hR⟩
end
end Go.Proofs.YtmjikfeaopmejaaGreatDoor
/-
  A slice that reads as a list, nil let in.
-/
namespace Go.Proofs.YtmjikfeaopmejaaGreatDoor
open Go.RowKit
theorem block_of_add (a : Addr) (n : Nat) : (a.add n).block = a.block := by unfold Addr.add; split <;> rfl
theorem add_of_add (a : Addr) (i j : Nat) : (a.add i).add j = a.add (i + j) := by
  unfold Addr.add
  by_cases hi : i = 0 <;> by_cases hj : j = 0 <;> simp [hi, hj, Nat.add_assoc]

def Reads (w : World) (B size : Nat) (A : Option Addr) (n : Nat) (xs : List Value) : Prop :=
  xs.length = n * size ∧ (0 < n → ∃ ad, A = some ad ∧ ad.block < B ∧ ∀ j u, xs[j]? = some u → w.cell? (ad.add j) = some u)

section
variable {w w' : World} {B B' size n : Nat} {A : Option Addr} {xs : List Value}
theorem Reads.none_ : Reads w B size A 0 [] := ⟨by simp, fun h => absurd h (by omega)⟩
theorem Reads.at_ {k : Nat} (h : Reads w B 1 A n xs) (hk : k < n) : ∃ ad u, A = some ad ∧ ad.block < B ∧ xs[k]? = some u ∧ w.cell? (ad.add k) = some u := by
  obtain ⟨ad, e, hb, hc⟩ := h.2 (by omega)
  have hl : k < xs.length := by have := h.1; omega
  exact ⟨ad, xs[k], e, hb, List.getElem?_eq_getElem hl, hc k _ (List.getElem?_eq_getElem hl)⟩
theorem Reads.keep (h : Reads w B size A n xs) (hk : ∀ p : Addr, p.block < B → w'.cell? p = w.cell? p) : Reads w' B size A n xs :=
  ⟨h.1, fun hn => by
    obtain ⟨ad, e, hb, hc⟩ := h.2 hn
    exact ⟨ad, e, hb, fun j u hu => (hk _ (by rw [block_of_add]; exact hb)).trans (hc j u hu)⟩⟩
theorem Reads.more (h : Reads w B size A n xs) (hB : B ≤ B') : Reads w B' size A n xs :=
  ⟨h.1, fun hn => by
    obtain ⟨ad, e, hb, hc⟩ := h.2 hn
    exact ⟨ad, e, by omega, hc⟩⟩
theorem Reads.below (h : Reads w B size A n xs) (hb : Below B w w') : Reads w' B size A n xs := h.keep fun _ hp => hb.cell hp
theorem Reads.drew (h : Reads w B size A n xs) : Reads w.drew B size A n xs := h
theorem Reads.drewN (h : Reads w B size A n xs) (k : Nat) : Reads (w.drewN k) B size A n xs := h
theorem Reads.alloc (h : Reads w B size A n xs) (hB : B ≤ w.heap.size) (o : Obj) : Reads (w.alloc o) B size A n xs := h.keep fun p hp => World.cell?_alloc_lt w o p (by omega)
theorem Reads.setCell (h : Reads w B size A n xs) {p : Addr} (hB : B ≤ p.block) (u : Value) : Reads (w.setCell p u) B size A n xs :=
  h.keep fun q hq => World.cell?_setCell_other w p q u (fun e => by subst e; omega)
theorem Reads.grown (h : Reads w B size A n xs) {row : Option Nat} (hg : w.grownBy w' row) (hB : B ≤ w.heap.size) (hr : ∀ g, row = some g → B ≤ g) : Reads w' B size A n xs :=
  h.keep fun p hp => World.cell?_of_block (hg.block p.block (by omega) (fun e => by have := hr _ e.symm; omega))
theorem Reads.cut (h : Reads w B size A n xs) {k cap : Nat} (hk : k ≤ n) (hc : n ≤ cap) :
    Reads w B size (if cap = k then A else A.map (·.add (k * size))) (n - k) (xs.drop (k * size)) := by
  refine ⟨by rw [List.length_drop, h.1, Nat.sub_mul], fun hn => ?_⟩
  obtain ⟨ad, rfl, hb, hcell⟩ := h.2 (by omega)
  rw [if_neg (by omega)]
  refine ⟨ad.add (k * size), rfl, by rw [block_of_add]; exact hb, fun j u hu => ?_⟩
  rw [add_of_add]
  exact hcell _ u (by rw [← hu, List.getElem?_drop])
theorem Reads.of_own {base : Nat} {e : TypeId} {c : Nat} (h : w.ownsRow base e size (.slice A n c) n xs) : Reads w w.heap.size size A n xs := by
  refine ⟨h.1, fun hn => ?_⟩
  obtain ⟨g, cap, hv, _, hlt⟩ := h.form hn
  have hA : A = some ⟨g, 0, none⟩ := by injection hv
  subst hA
  exact ⟨_, rfl, hlt, h.cells (g := g) rfl⟩
end
end Go.Proofs.YtmjikfeaopmejaaGreatDoor
/-
  append(own, src...) at whatever slice is appended, nil let in: its run, and the law for the walk.
-/
namespace Go.Proofs.YtmjikfeaopmejaaGreatDoor
open Go.RowKit
/-- what a slice that is appended yields -/
def Gives (w : World) (size : Nat) (A : Option Addr) (m : Nat) (news : List Value) : Prop :=
  news.length = m * size ∧ (0 < m → ∃ ad, A = some ad ∧ ∀ j u, news[j]? = some u → w.cell? (ad.add j) = some u) ∧ ∀ u ∈ news, u.oneCell' = true
theorem Gives.of_reads {w : World} {B size m : Nat} {A : Option Addr} {xs : List Value} (h : Reads w B size A m xs) (h1 : ∀ u ∈ xs, u.oneCell' = true) : Gives w size A m xs :=
  ⟨h.1, fun hm => by obtain ⟨ad, e, _, hc⟩ := h.2 hm; exact ⟨ad, e, hc⟩, h1⟩
theorem setCells_nil (w : World) (b off : Nat) : w.setCells b off [] = w := by simp [World.setCells]
theorem run_append_any {P : Program} (w : World) (base : Nat) (t ty e : TypeId) (i : TypeInfo) (z : Value) (size bytes : Nat) (ht : P.underlying t = some (.slice e)) (hi : P.info? e = some i) (hz : i.zero = some z)
    (hsize : i.size = size) (hby : i.bytes = bytes) (hzs : z.cells.size = size) (hsz : 0 < size) (v : Value) (n : Nat) (xs : List Value) (hown : w.ownsRow base e size v n xs)
    (A : Option Addr) (m c : Nat) (news : List Value) (hg : Gives w size A m news) (h63 : n + m ≤ maxLen) (hbytes : (n + m) * bytes ≤ 140737488355328) (hbase : base ≤ w.heap.size) :
    ∃ v' w', (Builtin.append_ #[t, t] ty #[v, .slice A m c]).run P w = .ok v' w' ∧ w'.ownsRow base e size v' (n + m) (xs ++ news) ∧ w.grownBy w' v.ownBlock := by
  obtain ⟨hl, hnews, h1⟩ := hg
  cases A with
  | some ad =>
    have hc : ∀ j u, news[j]? = some u → w.cell? (ad.add j) = some u := by
      rcases Nat.eq_zero_or_pos m with h | h
      · subst h
        intro j u hj
        have : news = [] := List.length_eq_zero_iff.1 (by simpa using hl)
        rw [this] at hj; cases hj
      · obtain ⟨ad', e, hc⟩ := hnews h
        injection e with e; subst e; exact hc
    obtain ⟨v', w', hr, h2, h3, _⟩ := run_append_own (P := P) w base t ty e i z size bytes ht hi hz hsize hby hzs hsz v n xs hown ad m c news hl hc h1 h63 hbytes hbase
    exact ⟨v', w', hr, h2, h3⟩
  | none =>
    have h0 : m = 0 := by
      rcases Nat.eq_zero_or_pos m with h | h
      · exact h
      · obtain ⟨ad, e, _⟩ := hnews h; cases e
    subst h0
    have hn : news = [] := List.length_eq_zero_iff.1 (by simpa using hl)
    subst hn
    have hrun : (Builtin.append_ #[t, t] ty #[v, .slice none 0 c]).run P w = .ok v w := by
      rcases hown.2 with ⟨rfl, rfl⟩ | ⟨g, cap, cur, rfl, _, _, hnc, _⟩
      · simp [Builtin.append_, run_underlying ht, sizeOf, typeInfo, hi, Builtin.lenOf, Builtin.firstCells, Result.andThen]
      · have := run_append_room_src (P := P) w t t ty e i ht hi g 0 n cap (.slice none 0 c) 0 [] (Src.ofNil w ht c) (by omega) (fun j hj => by simp at hj) (fun j hj => by simp at hj)
        rw [setCells_nil] at this
        exact this
    exact ⟨v, w, hrun, by simpa using hown, ⟨rfl, rfl, rfl, Nat.le_refl _, fun _ _ _ => rfl⟩⟩
theorem wpList_append_any {P : Program} (w : World) {ops : Array Oper} {rest : List Oper} {o : Oper} {a : Act} {Q : Exit → Act → World → Prop} (hgd : o.guard = none) (s x : Operand) (t : TypeId)
    (ho : o.op = .call { callee := .builtin .append, args := #[s, x], argTypes := #[t, t] })
    (base : Nat) (e : TypeId) (i : TypeInfo) (z : Value) (size bytes : Nat) (ht : P.underlying t = some (.slice e)) (hi : P.info? e = some i) (hz : i.zero = some z)
    (hsize : i.size = size) (hby : i.bytes = bytes) (hzs : z.cells.size = size) (hsz : 0 < size) (v : Value) (n : Nat) (xs : List Value) (hs : a.eval s = v) (hown : w.ownsRow base e size v n xs)
    (A : Option Addr) (m c : Nat) (news : List Value) (hx : a.eval x = .slice A m c) (hg : Gives w size A m news) (h63 : n + m ≤ maxLen) (hbytes : (n + m) * bytes ≤ 140737488355328) (hbase : base ≤ w.heap.size)
    (h : ∀ v' w', w'.ownsRow base e size v' (n + m) (xs ++ news) → w.grownBy w' v.ownBlock → wpList P ops Q rest (a.put o.dst v') w') : wpList P ops Q (o :: rest) a w := by
  refine wpList_plain hgd fun K hK => ?_
  obtain ⟨v', w', hr, h2, h3⟩ := run_append_any (P := P) w base t o.type e i z size bytes ht hi hz hsize hby hzs hsz v n xs hown A m c news hg h63 hbytes hbase
  unfold Oper.wp execOp
  simp only [ho, resolve, invoke, builtin, Sem.run_bind, Sem.run_pure, Result.andThen_ok, List.map_toArray, List.map_cons, List.map_nil, hs, hx, hr]
  exact hK _ _ (h v' w' h2 h3)
end Go.Proofs.YtmjikfeaopmejaaGreatDoor
/-
  More plain words on memory: bytes turned into strings.
-/
namespace Go.Proofs.YtmjikfeaopmejaaGreatDoor
open Go.RowKit
theorem push_all : ∀ (bs : List UInt8) (acc : ByteArray), (bs.map fun b => ((b.toNat : Nat) : Int)).foldl (fun r n => r.push (UInt8.ofNat n.toNat)) acc = ⟨acc.data ++ bs.toArray⟩
  | [], acc => by simp
  | b :: bs, acc => by
    rw [List.map_cons, List.foldl_cons, push_all bs]
    simp [ByteArray.push]
/-- string(b), b a slice whose cells are known -/
theorem run_string_bytes {P : Program} (w : World) (src dst e : TypeId) (a : Addr) (bs : List UInt8) (cap : Nat)
    (hs : P.underlying src = some (.slice e)) (he : P.underlying e = some (.int .u8)) (hd : P.underlying dst = some .string)
    (hc : ∀ j b, bs[j]? = some b → w.cell? (a.add j) = some (.int .u8 ((b.toNat : Nat) : Int))) :
    (convert src dst (.slice (some a) bs.length cap)).run P w = .ok (.string ⟨bs.toArray⟩) w := by
  rw [run_convert_bytes_string w src dst e (some a) bs.length cap hs he hd]
  have hl := run_loadCells_list (P := P) w a (bs.map fun b => Value.int .u8 ((b.toNat : Nat) : Int)) (fun j v hv => by
    rw [List.getElem?_map] at hv
    cases hb : bs[j]? with
    | none => rw [hb] at hv; cases hv
    | some b => rw [hb] at hv; simp at hv; subst hv; exact hc j b hb)
  rw [List.length_map] at hl
  have := run_bytesToString (P := P) w a bs.length cap (bs.map fun b => ((b.toNat : Nat) : Int)) (by rw [List.map_map]; exact hl)
  rw [this, push_all]
  rw [show (⟨ByteArray.empty.data ++ bs.toArray⟩ : ByteArray) = ⟨bs.toArray⟩ from by congr 1; show #[] ++ bs.toArray = _; simp]
theorem u8_nat (n : Nat) (h : n < 256) : (UInt8.ofNat n).toNat = n := by simp; omega
end Go.Proofs.YtmjikfeaopmejaaGreatDoor
/-
  DERIVED: THE SHELF's CONTRACTS AT THIS DUMP, IN PLAIN WORDS (tools/lay-plain.mjs out of 'TryzShelf.lean', which tools/lay-shelf.mjs wrote): THE SAME DECLARATIONS UNDER THE SAME NAMES: 'import', 'namespace', 'open', 'def', 'theorem' AND NOTHING ELSE: no command of the shelf's: FOR A HAND-IN. Each laying: the table of numbers ('.._ren') and one theorem, a field a fact of the dump's own or the kernel's comparison; each contract: ONE APPLICATION.
-/
namespace Go.Proofs
open Go.Shelf
def Tryz.lays158_ren : Go.Shelf.Ren := ⟨fun | 158 => 83 | 165 => 98 | 166 => 99 | 167 => 100 | 169 => 101 | 230 => 102 | 203 => 103 | 240 => 113 | 241 => 114 | 197 => 115 | 118 => 116 | 168 => 117 | 270 => 118 | 262 => 119 | 276 => 129 | 277 => 130 | 260 => 131 | 242 => 132 | 313 => 133 | 278 => 142 | 274 => 143 | 275 => 144 | n => n, fun | 9 => 9 | 4 => 4 | 3 => 3 | 5 => 5 | 72 => 158 | 0 => 0 | 76 => 162 | 75 => 161 | 107 => 166 | 70 => 156 | 20 => 20 | 37 => 23 | 127 => 172 | 21 => 21 | 105 => 173 | 164 => 187 | 162 => 192 | 203 => 190 | 119 => 198 | 46 => 120 | 139 => 201 | 138 => 200 | 51 => 22 | 160 => 202 | 208 => 210 | 206 => 208 | 80 => 83 | n => n, fun | 13 => 1 | 3 => 3 | 4 => 4 | n => n⟩
theorem Tryz.lays158 : Go.Proofs.Lays.n158 Tryz.prog Tryz.lays158_ren := {
  mixed := by kernel_rfl
  f118 := Tryz.func116.trans (congrArg some (by kernel_rfl))
  f158 := Tryz.func83.trans (congrArg some (by kernel_rfl))
  f165 := Tryz.func98.trans (congrArg some (by kernel_rfl))
  f166 := Tryz.func99.trans (congrArg some (by kernel_rfl))
  f167 := Tryz.func100.trans (congrArg some (by kernel_rfl))
  f168 := Tryz.func117.trans (congrArg some (by kernel_rfl))
  f169 := Tryz.func101.trans (congrArg some (by kernel_rfl))
  f197 := Tryz.func115.trans (congrArg some (by kernel_rfl))
  f203 := Tryz.func103.trans (congrArg some (by kernel_rfl))
  f230 := Tryz.func102.trans (congrArg some (by kernel_rfl))
  f240 := Tryz.func113.trans (congrArg some (by kernel_rfl))
  f241 := Tryz.func114.trans (congrArg some (by kernel_rfl))
  f242 := Tryz.func132.trans (congrArg some (by kernel_rfl))
  f260 := Tryz.func131.trans (congrArg some (by kernel_rfl))
  f262 := Tryz.func119.trans (congrArg some (by kernel_rfl))
  f270 := Tryz.func118.trans (congrArg some (by kernel_rfl))
  f274 := Tryz.func143.trans (congrArg some (by kernel_rfl))
  f275 := Tryz.func144.trans (congrArg some (by kernel_rfl))
  f276 := Tryz.func129.trans (congrArg some (by kernel_rfl))
  f277 := Tryz.func130.trans (congrArg some (by kernel_rfl))
  f278 := Tryz.func142.trans (congrArg some (by kernel_rfl))
  f313 := Tryz.func133.trans (congrArg some (by kernel_rfl))
  t0 := Tryz.underlying0
  a0 := Tryz.isAgg0
  z0 := Tryz.sizeOf0
  v0 := Tryz.zeroValue0
  t3 := Tryz.underlying3
  a3 := Tryz.isAgg3
  z3 := Tryz.sizeOf3
  v3 := Tryz.zeroValue3
  t4 := Tryz.underlying4
  a4 := Tryz.isAgg4
  z4 := Tryz.sizeOf4
  v4 := Tryz.zeroValue4
  t5 := Tryz.underlying5
  a5 := Tryz.isAgg5
  z5 := Tryz.sizeOf5
  v5 := Tryz.zeroValue5
  t9 := Tryz.underlying9
  a9 := Tryz.isAgg9
  z9 := Tryz.sizeOf9
  v9 := Tryz.zeroValue9
  t20 := Tryz.underlying20
  a20 := Tryz.isAgg20
  z20 := Tryz.sizeOf20
  v20 := Tryz.zeroValue20
  t21 := Tryz.underlying21
  a21 := Tryz.isAgg21
  z21 := Tryz.sizeOf21
  v21 := Tryz.zeroValue21
  t37 := Tryz.underlying23
  a37 := Tryz.isAgg23
  z37 := Tryz.sizeOf23
  v37 := Tryz.zeroValue23
  t46 := Tryz.underlying120
  a46 := Tryz.isAgg120
  z46 := Tryz.sizeOf120
  v46 := Tryz.zeroValue120
  t51 := Tryz.underlying22
  a51 := Tryz.isAgg22
  z51 := Tryz.sizeOf22
  v51 := Tryz.zeroValue22
  t70 := Tryz.underlying156
  a70 := Tryz.isAgg156
  z70 := Tryz.sizeOf156
  v70 := Tryz.zeroValue156
  t72 := Tryz.underlying158
  a72 := Tryz.isAgg158
  z72 := Tryz.sizeOf158
  v72 := Tryz.zeroValue158
  t75 := Tryz.underlying161
  a75 := Tryz.isAgg161
  z75 := Tryz.sizeOf161
  v75 := Tryz.zeroValue161
  t76 := Tryz.underlying162
  a76 := Tryz.isAgg162
  z76 := Tryz.sizeOf162
  v76 := Tryz.zeroValue162
  t105 := Tryz.underlying173
  a105 := Tryz.isAgg173
  z105 := Tryz.sizeOf173
  v105 := Tryz.zeroValue173
  t107 := Tryz.underlying166
  a107 := Tryz.isAgg166
  z107 := Tryz.sizeOf166
  v107 := Tryz.zeroValue166
  t119 := Tryz.underlying198
  a119 := Tryz.isAgg198
  z119 := Tryz.sizeOf198
  t127 := Tryz.underlying172
  a127 := Tryz.isAgg172
  z127 := Tryz.sizeOf172
  v127 := Tryz.zeroValue172
  t138 := Tryz.underlying200
  a138 := Tryz.isAgg200
  z138 := Tryz.sizeOf200
  v138 := Tryz.zeroValue200
  t139 := Tryz.underlying201
  a139 := Tryz.isAgg201
  z139 := Tryz.sizeOf201
  v139 := Tryz.zeroValue201
  t160 := Tryz.underlying202
  a160 := Tryz.isAgg202
  z160 := Tryz.sizeOf202
  v160 := Tryz.zeroValue202
  t162 := Tryz.underlying192
  a162 := Tryz.isAgg192
  z162 := Tryz.sizeOf192
  v162 := Tryz.zeroValue192
  t164 := Tryz.underlying187
  a164 := Tryz.isAgg187
  z164 := Tryz.sizeOf187
  v164 := Tryz.zeroValue187
  t203 := Tryz.underlying190
  a203 := Tryz.isAgg190
  z203 := Tryz.sizeOf190
  v203 := Tryz.zeroValue190
  t206 := Tryz.underlying208
  a206 := Tryz.isAgg208
  z206 := Tryz.sizeOf208
  v206 := Tryz.zeroValue208
  t208 := Tryz.underlying210
  a208 := Tryz.isAgg210
  z208 := Tryz.sizeOf210
  v208 := Tryz.zeroValue210
  g3 := by kernel_rfl
  g4 := by kernel_rfl
  g13 := by kernel_rfl }
theorem Tryz.Builder_Extra_158 : Builder.Extra Tryz.prog Tryz.lays158_ren := {
  sizeBuilder := by kernel_rfl
  liesBuilder := by kernel_rfl
  t5 := Tryz.underlying5
  a5 := Tryz.isAgg5
  z5 := Tryz.sizeOf5
  v5 := Tryz.zeroValue5
  infoByte := by kernel_rfl
  cellsByte := by kernel_rfl
  sizeByte := by kernel_rfl
  neB5 := by decide }
open Go.RowKit in
/-- strings.ToUpper: "ToUpper returns s with all Unicode letters mapped to their upper case.": ON ASCII TEXT OF AT MOST 2^47 BYTES. Below the heap's end the world is as it was: where a letter turns, the call makes a builder and its buffer. (LAID: no walk: one application.) -/
theorem Tryz.strings_ToUpper_ascii (s : ByteArray) (w : World) (hs : s.size ≤ 140737488355328) (hascii : ∀ (j : Nat) (b : UInt8), s.data.toList[j]? = some b → b.toNat < 128) :
    Calls Tryz.prog 83 #[.string s] w fun e w' => e = .returned (.string ⟨(Lib.toUpperA s.data.toList).toArray⟩) ∧ Below w.heap.size w w' := Any.strings_ToUpper_ascii Tryz.lays158 Tryz.Builder_Extra_158 s w hs hascii
def Tryz.laysM173_ren : Go.Shelf.Ren := ⟨fun | 173 => 87 | 246 => 104 | 283 => 120 | 284 => 121 | 285 => 122 | 286 => 123 | 129 => 135 | 317 => 134 | 318 => 136 | 319 => 137 | 320 => 138 | 337 => 145 | 338 => 146 | n => n, fun | 2 => 2 | 3 => 3 | 9 => 9 | 4 => 4 | 171 => 178 | 0 => 0 | 53 => 88 | 37 => 23 | 5 => 5 | 173 => 181 | 212 => 194 | 51 => 22 | 20 => 20 | 213 => 195 | 46 => 120 | 232 => 91 | 233 => 211 | n => n, fun | 17 => 2 | 18 => 5 | 19 => 6 | n => n⟩
theorem Tryz.laysM173 : Go.Proofs.LaysM.n173 Tryz.prog Tryz.laysM173_ren := {
  mixed := by kernel_rfl
  f129 := Tryz.func135.trans (congrArg some (by kernel_rfl))
  f173 := Tryz.func87.trans (congrArg some (by kernel_rfl))
  f246 := Tryz.func104.trans (congrArg some (by kernel_rfl))
  f283 := Tryz.func120.trans (congrArg some (by kernel_rfl))
  f284 := Tryz.func121.trans (congrArg some (by kernel_rfl))
  f285 := Tryz.func122.trans (congrArg some (by kernel_rfl))
  f286 := Tryz.func123.trans (congrArg some (by kernel_rfl))
  f317 := Tryz.func134.trans (congrArg some (by kernel_rfl))
  f318 := Tryz.func136.trans (congrArg some (by kernel_rfl))
  f319 := Tryz.func137.trans (congrArg some (by kernel_rfl))
  f320 := Tryz.func138.trans (congrArg some (by kernel_rfl))
  f337 := Tryz.func145.trans (congrArg some (by kernel_rfl))
  f338 := Tryz.func146.trans (congrArg some (by kernel_rfl))
  t0 := Tryz.underlying0
  a0 := Tryz.isAgg0
  z0 := Tryz.sizeOf0
  v0 := Tryz.zeroValue0
  t2 := Tryz.underlying2
  a2 := Tryz.isAgg2
  z2 := Tryz.sizeOf2
  v2 := Tryz.zeroValue2
  t3 := Tryz.underlying3
  a3 := Tryz.isAgg3
  z3 := Tryz.sizeOf3
  v3 := Tryz.zeroValue3
  t4 := Tryz.underlying4
  a4 := Tryz.isAgg4
  z4 := Tryz.sizeOf4
  v4 := Tryz.zeroValue4
  t5 := Tryz.underlying5
  a5 := Tryz.isAgg5
  z5 := Tryz.sizeOf5
  v5 := Tryz.zeroValue5
  t9 := Tryz.underlying9
  a9 := Tryz.isAgg9
  z9 := Tryz.sizeOf9
  v9 := Tryz.zeroValue9
  t20 := Tryz.underlying20
  a20 := Tryz.isAgg20
  z20 := Tryz.sizeOf20
  v20 := Tryz.zeroValue20
  t37 := Tryz.underlying23
  a37 := Tryz.isAgg23
  z37 := Tryz.sizeOf23
  v37 := Tryz.zeroValue23
  t46 := Tryz.underlying120
  a46 := Tryz.isAgg120
  z46 := Tryz.sizeOf120
  v46 := Tryz.zeroValue120
  t51 := Tryz.underlying22
  a51 := Tryz.isAgg22
  z51 := Tryz.sizeOf22
  v51 := Tryz.zeroValue22
  t53 := Tryz.underlying88
  a53 := Tryz.isAgg88
  z53 := Tryz.sizeOf88
  v53 := Tryz.zeroValue88
  t171 := Tryz.underlying178
  a171 := Tryz.isAgg178
  z171 := Tryz.sizeOf178
  v171 := Tryz.zeroValue178
  t173 := Tryz.underlying181
  a173 := Tryz.isAgg181
  z173 := Tryz.sizeOf181
  v173 := Tryz.zeroValue181
  t212 := Tryz.underlying194
  a212 := Tryz.isAgg194
  z212 := Tryz.sizeOf194
  v212 := Tryz.zeroValue194
  t213 := Tryz.underlying195
  a213 := Tryz.isAgg195
  z213 := Tryz.sizeOf195
  t232 := Tryz.underlying91
  a232 := Tryz.isAgg91
  z232 := Tryz.sizeOf91
  v232 := Tryz.zeroValue91
  t233 := Tryz.underlying211
  a233 := Tryz.isAgg211
  z233 := Tryz.sizeOf211
  v233 := Tryz.zeroValue211
  g17 := by kernel_rfl
  g18 := by kernel_rfl
  g19 := by kernel_rfl
  i0 := by kernel_rfl
  i2 := by kernel_rfl
  i3 := by kernel_rfl
  i4 := by kernel_rfl
  i5 := by kernel_rfl
  i9 := by kernel_rfl
  i20 := by kernel_rfl
  i37 := by kernel_rfl
  i46 := by kernel_rfl
  i51 := by kernel_rfl
  i53 := by kernel_rfl
  i171 := by kernel_rfl
  i173 := by kernel_rfl
  i212 := by kernel_rfl
  i232 := by kernel_rfl
  i233 := by kernel_rfl
  m17 := by kernel_rfl
  m18 := by kernel_rfl
  m19 := by kernel_rfl }
open Go.RowKit Go.Sort Go.Lib in
/-- strconv.FormatInt: "FormatInt returns the string representation of i in the given base": AT BASE 10: i's decimal numeral, for every int64. (LAID: no walk: one application.) -/
theorem Tryz.strconv_FormatInt_10 (n : Int) (h0 : -9223372036854775808 ≤ n) (h1 : n ≤ 9223372036854775807) (w : World) (htab : Lib.TabIs Tryz.prog w "internal/strconv.uint64pow10" .u64 Lib.pow10Tab) :
    Calls Tryz.prog 87 #[.int .i64 n, .int .i64 10] w fun e w' => e = .returned (.string ⟨(Lib.itoa n).toArray⟩) ∧ ∃ k os, w' = grow (w.drewN k) os := Any.strconv_FormatInt_10 Tryz.laysM173 n h0 h1 w htab
def Tryz.lays146_ren : Go.Shelf.Ren := ⟨fun | 146 => 81 | 221 => 97 | 268 => 110 | 138 => 111 | 143 => 112 | 195 => 126 | 197 => 115 | 218 => 127 | 219 => 128 | 260 => 131 | 217 => 139 | 225 => 140 | 224 => 107 | 267 => 141 | 266 => 147 | 314 => 148 | n => n, fun | 9 => 9 | 31 => 139 | 3 => 3 | 4 => 4 | 0 => 0 | 105 => 173 | 21 => 21 | 5 => 5 | 46 => 120 | 119 => 198 | 139 => 201 | 138 => 200 | 146 => 183 | 51 => 22 | n => n, fun | 1 => 0 | 3 => 3 | 4 => 4 | n => n⟩
theorem Tryz.lays146 : Go.Proofs.Lays.n146 Tryz.prog Tryz.lays146_ren := {
  mixed := by kernel_rfl
  f138 := Tryz.func111.trans (congrArg some (by kernel_rfl))
  f143 := Tryz.func112.trans (congrArg some (by kernel_rfl))
  f146 := Tryz.func81.trans (congrArg some (by kernel_rfl))
  f195 := Tryz.func126.trans (congrArg some (by kernel_rfl))
  f197 := Tryz.func115.trans (congrArg some (by kernel_rfl))
  f217 := Tryz.func139.trans (congrArg some (by kernel_rfl))
  f218 := Tryz.func127.trans (congrArg some (by kernel_rfl))
  f219 := Tryz.func128.trans (congrArg some (by kernel_rfl))
  f221 := Tryz.func97.trans (congrArg some (by kernel_rfl))
  f224 := Tryz.func107.trans (congrArg some (by kernel_rfl))
  f225 := Tryz.func140.trans (congrArg some (by kernel_rfl))
  f260 := Tryz.func131.trans (congrArg some (by kernel_rfl))
  f266 := Tryz.func147.trans (congrArg some (by kernel_rfl))
  f267 := Tryz.func141.trans (congrArg some (by kernel_rfl))
  f268 := Tryz.func110.trans (congrArg some (by kernel_rfl))
  f314 := Tryz.func148.trans (congrArg some (by kernel_rfl))
  t0 := Tryz.underlying0
  a0 := Tryz.isAgg0
  z0 := Tryz.sizeOf0
  v0 := Tryz.zeroValue0
  t3 := Tryz.underlying3
  a3 := Tryz.isAgg3
  z3 := Tryz.sizeOf3
  v3 := Tryz.zeroValue3
  t4 := Tryz.underlying4
  a4 := Tryz.isAgg4
  z4 := Tryz.sizeOf4
  v4 := Tryz.zeroValue4
  t5 := Tryz.underlying5
  a5 := Tryz.isAgg5
  z5 := Tryz.sizeOf5
  v5 := Tryz.zeroValue5
  t9 := Tryz.underlying9
  a9 := Tryz.isAgg9
  z9 := Tryz.sizeOf9
  v9 := Tryz.zeroValue9
  t21 := Tryz.underlying21
  a21 := Tryz.isAgg21
  z21 := Tryz.sizeOf21
  v21 := Tryz.zeroValue21
  t31 := Tryz.underlying139
  a31 := Tryz.isAgg139
  z31 := Tryz.sizeOf139
  v31 := Tryz.zeroValue139
  t46 := Tryz.underlying120
  a46 := Tryz.isAgg120
  z46 := Tryz.sizeOf120
  v46 := Tryz.zeroValue120
  t51 := Tryz.underlying22
  a51 := Tryz.isAgg22
  z51 := Tryz.sizeOf22
  v51 := Tryz.zeroValue22
  t105 := Tryz.underlying173
  a105 := Tryz.isAgg173
  z105 := Tryz.sizeOf173
  v105 := Tryz.zeroValue173
  t119 := Tryz.underlying198
  a119 := Tryz.isAgg198
  z119 := Tryz.sizeOf198
  t138 := Tryz.underlying200
  a138 := Tryz.isAgg200
  z138 := Tryz.sizeOf200
  v138 := Tryz.zeroValue200
  t139 := Tryz.underlying201
  a139 := Tryz.isAgg201
  z139 := Tryz.sizeOf201
  v139 := Tryz.zeroValue201
  t146 := Tryz.underlying183
  a146 := Tryz.isAgg183
  z146 := Tryz.sizeOf183
  v146 := Tryz.zeroValue183
  g1 := by kernel_rfl
  g3 := by kernel_rfl
  g4 := by kernel_rfl }
open Go.RowKit Go.Lib in
/-- strings.Split. (LAID: no walk: one application.) -/
theorem Tryz.strings_Split (s sep : ByteArray) (m : Int) (w : World) (hs : s.size < 4294967281) (hm : w.cell? ⟨0, 0, none⟩ = some (.int .i64 m)) (h1 : 1 ≤ sep.size) :
    Calls Tryz.prog 81 #[.string s, .string sep] w fun e w' =>
      e = .returned (.slice (some ⟨w.heap.size, 0, none⟩) (Lib.countB s sep + 1) (Lib.countB s sep + 1)) ∧ w' = w.alloc (.cells ((Lib.splitB sep 0 (Lib.countB s sep) s).map Value.string).toArray 9) := Any.strings_Split Tryz.lays146 (by kernel_rfl) s sep m w hs hm h1
def Tryz.laysM146_ren : Go.Shelf.Ren := ⟨fun | 146 => 81 | 221 => 97 | 268 => 110 | 138 => 111 | 143 => 112 | 195 => 126 | 197 => 115 | 218 => 127 | 219 => 128 | 260 => 131 | 217 => 139 | 225 => 140 | 224 => 107 | 267 => 141 | 266 => 147 | 314 => 148 | n => n, fun | 9 => 9 | 31 => 139 | 3 => 3 | 4 => 4 | 0 => 0 | 105 => 173 | 21 => 21 | 5 => 5 | 46 => 120 | 119 => 198 | 139 => 201 | 138 => 200 | 146 => 183 | 51 => 22 | n => n, fun | 1 => 0 | 3 => 3 | 4 => 4 | n => n⟩
theorem Tryz.laysM146 : Go.Proofs.LaysM.n146 Tryz.prog Tryz.laysM146_ren := {
  mixed := by kernel_rfl
  f138 := Tryz.func111.trans (congrArg some (by kernel_rfl))
  f143 := Tryz.func112.trans (congrArg some (by kernel_rfl))
  f146 := Tryz.func81.trans (congrArg some (by kernel_rfl))
  f195 := Tryz.func126.trans (congrArg some (by kernel_rfl))
  f197 := Tryz.func115.trans (congrArg some (by kernel_rfl))
  f217 := Tryz.func139.trans (congrArg some (by kernel_rfl))
  f218 := Tryz.func127.trans (congrArg some (by kernel_rfl))
  f219 := Tryz.func128.trans (congrArg some (by kernel_rfl))
  f221 := Tryz.func97.trans (congrArg some (by kernel_rfl))
  f224 := Tryz.func107.trans (congrArg some (by kernel_rfl))
  f225 := Tryz.func140.trans (congrArg some (by kernel_rfl))
  f260 := Tryz.func131.trans (congrArg some (by kernel_rfl))
  f266 := Tryz.func147.trans (congrArg some (by kernel_rfl))
  f267 := Tryz.func141.trans (congrArg some (by kernel_rfl))
  f268 := Tryz.func110.trans (congrArg some (by kernel_rfl))
  f314 := Tryz.func148.trans (congrArg some (by kernel_rfl))
  t0 := Tryz.underlying0
  a0 := Tryz.isAgg0
  z0 := Tryz.sizeOf0
  v0 := Tryz.zeroValue0
  t3 := Tryz.underlying3
  a3 := Tryz.isAgg3
  z3 := Tryz.sizeOf3
  v3 := Tryz.zeroValue3
  t4 := Tryz.underlying4
  a4 := Tryz.isAgg4
  z4 := Tryz.sizeOf4
  v4 := Tryz.zeroValue4
  t5 := Tryz.underlying5
  a5 := Tryz.isAgg5
  z5 := Tryz.sizeOf5
  v5 := Tryz.zeroValue5
  t9 := Tryz.underlying9
  a9 := Tryz.isAgg9
  z9 := Tryz.sizeOf9
  v9 := Tryz.zeroValue9
  t21 := Tryz.underlying21
  a21 := Tryz.isAgg21
  z21 := Tryz.sizeOf21
  v21 := Tryz.zeroValue21
  t31 := Tryz.underlying139
  a31 := Tryz.isAgg139
  z31 := Tryz.sizeOf139
  v31 := Tryz.zeroValue139
  t46 := Tryz.underlying120
  a46 := Tryz.isAgg120
  z46 := Tryz.sizeOf120
  v46 := Tryz.zeroValue120
  t51 := Tryz.underlying22
  a51 := Tryz.isAgg22
  z51 := Tryz.sizeOf22
  v51 := Tryz.zeroValue22
  t105 := Tryz.underlying173
  a105 := Tryz.isAgg173
  z105 := Tryz.sizeOf173
  v105 := Tryz.zeroValue173
  t119 := Tryz.underlying198
  a119 := Tryz.isAgg198
  z119 := Tryz.sizeOf198
  t138 := Tryz.underlying200
  a138 := Tryz.isAgg200
  z138 := Tryz.sizeOf200
  v138 := Tryz.zeroValue200
  t139 := Tryz.underlying201
  a139 := Tryz.isAgg201
  z139 := Tryz.sizeOf201
  v139 := Tryz.zeroValue201
  t146 := Tryz.underlying183
  a146 := Tryz.isAgg183
  z146 := Tryz.sizeOf183
  v146 := Tryz.zeroValue183
  g1 := by kernel_rfl
  g3 := by kernel_rfl
  g4 := by kernel_rfl
  i0 := by kernel_rfl
  i3 := by kernel_rfl
  i4 := by kernel_rfl
  i5 := by kernel_rfl
  i9 := by kernel_rfl
  i21 := by kernel_rfl
  i31 := by kernel_rfl
  i46 := by kernel_rfl
  i51 := by kernel_rfl
  i105 := by kernel_rfl
  i138 := by kernel_rfl
  i139 := by kernel_rfl
  i146 := by kernel_rfl
  m1 := by kernel_rfl
  s1_3 := fun w h => Go.Proofs.cell_of_shapedOpen_int (zero := #[.int .i64 0]) (t := 3) h (of_decide_eq_true (by kernel_rfl)) (by kernel_rfl) rfl (by kernel_rfl) (by kernel_rfl) Tryz.underlying3
  m3 := by kernel_rfl
  m4 := by kernel_rfl }
open Go.RowKit Go.Lib in
/-- strings.Split, sep not empty. (LAID: no walk: one application.) -/
theorem Tryz.strings_Split_shaped (s sep : ByteArray) (w : World) (h : w.ShapedOpen Tryz.prog) (hs : s.size < 4294967281) (h1 : 1 ≤ sep.size) :
    Calls Tryz.prog 81 #[.string s, .string sep] w fun e w' =>
      e = .returned (.slice (some ⟨w.heap.size, 0, none⟩) (Lib.countB s sep + 1) (Lib.countB s sep + 1)) ∧ w' = w.alloc (.cells ((Lib.splitB sep 0 (Lib.countB s sep) s).map Value.string).toArray 9) := Any.strings_Split_shaped Tryz.laysM146 s sep w h hs h1
def Tryz.lays185_ren : Go.Shelf.Ren := ⟨fun | 185 => 88 | 187 => 105 | 115 => 45 | 253 => 106 | 224 => 107 | 254 => 108 | 255 => 124 | 291 => 125 | n => n, fun | 37 => 23 | 3 => 3 | 4 => 4 | 0 => 0 | 5 => 5 | 46 => 120 | 9 => 9 | 146 => 183 | 51 => 22 | n => n, fun | 1 => 0 | n => n⟩
theorem Tryz.lays185 : Go.Proofs.Lays.n185 Tryz.prog Tryz.lays185_ren := {
  mixed := by kernel_rfl
  f115 := Tryz.func45.trans (congrArg some (by kernel_rfl))
  f185 := Tryz.func88.trans (congrArg some (by kernel_rfl))
  f187 := Tryz.func105.trans (congrArg some (by kernel_rfl))
  f224 := Tryz.func107.trans (congrArg some (by kernel_rfl))
  f253 := Tryz.func106.trans (congrArg some (by kernel_rfl))
  f254 := Tryz.func108.trans (congrArg some (by kernel_rfl))
  f255 := Tryz.func124.trans (congrArg some (by kernel_rfl))
  f291 := Tryz.func125.trans (congrArg some (by kernel_rfl))
  t0 := Tryz.underlying0
  a0 := Tryz.isAgg0
  z0 := Tryz.sizeOf0
  v0 := Tryz.zeroValue0
  t3 := Tryz.underlying3
  a3 := Tryz.isAgg3
  z3 := Tryz.sizeOf3
  v3 := Tryz.zeroValue3
  t4 := Tryz.underlying4
  a4 := Tryz.isAgg4
  z4 := Tryz.sizeOf4
  v4 := Tryz.zeroValue4
  t5 := Tryz.underlying5
  a5 := Tryz.isAgg5
  z5 := Tryz.sizeOf5
  v5 := Tryz.zeroValue5
  t9 := Tryz.underlying9
  a9 := Tryz.isAgg9
  z9 := Tryz.sizeOf9
  v9 := Tryz.zeroValue9
  t37 := Tryz.underlying23
  a37 := Tryz.isAgg23
  z37 := Tryz.sizeOf23
  v37 := Tryz.zeroValue23
  t46 := Tryz.underlying120
  a46 := Tryz.isAgg120
  z46 := Tryz.sizeOf120
  v46 := Tryz.zeroValue120
  t51 := Tryz.underlying22
  a51 := Tryz.isAgg22
  z51 := Tryz.sizeOf22
  v51 := Tryz.zeroValue22
  t146 := Tryz.underlying183
  a146 := Tryz.isAgg183
  z146 := Tryz.sizeOf183
  v146 := Tryz.zeroValue183
  g1 := by kernel_rfl }
open Go.Proofs Go.RowKit Go.Lib in
/-- bytes.Index, WHOLE: "Index returns the index of the first instance of sep in s, or -1 if sep is not present in s.": 'Lib.index' of the two lists of bytes. (LAID: no walk: one application.) -/
theorem Tryz.bytes_Index_at (a1 a2 : Addr) (n c1 k c2 : Nat) (xs ys : List Int) (m : Int) (w : World) (hx : xs.length = n) (hy : ys.length = k) (hr1 : ∀ x ∈ xs, 0 ≤ x ∧ x < 256) (hr2 : ∀ y ∈ ys, 0 ≤ y ∧ y < 256) (hc1 : ∀ i, i < n → w.cell? (a1.add i) = some (.int .u8 (xs.getD i 0))) (hc2 : ∀ i, i < k → w.cell? (a2.add i) = some (.int .u8 (ys.getD i 0))) (hcap : n ≤ c1) (hs : n < 4294967281) (hk : k ≤ 9223372036854775807) (hm : w.cell? ⟨0, 0, none⟩ = some (.int .i64 m)) :
    Calls Tryz.prog 88 #[.slice (some a1) n c1, .slice (some a2) k c2] w fun e w' => e = .returned (.int .i64 (Lib.index (Lib.bytesOf xs) (Lib.bytesOf ys))) ∧ ∃ q, w' = w.drewN q := Any.bytes_Index_at Tryz.lays185 a1 a2 n c1 k c2 xs ys m w hx hy hr1 hr2 hc1 hc2 hcap hs hk hm
def Tryz.laysSlK4_ren : Go.Shelf.Ren := ⟨fun | 4 => 64 | n => n, fun | 22 => 23 | 4 => 4 | 5 => 5 | n => n, fun | n => n⟩
theorem Tryz.laysSlK4 : Go.Proofs.SlLaysK.n4 Tryz.prog Tryz.laysSlK4_ren := {
  mixed := by kernel_rfl
  f4 := Tryz.func64.trans (congrArg some (by kernel_rfl))
  t4 := Tryz.underlying4
  a4 := Tryz.isAgg4
  z4 := Tryz.sizeOf4
  v4 := Tryz.zeroValue4
  t22 := Tryz.underlying23
  a22 := Tryz.isAgg23
  z22 := Tryz.sizeOf23
  v22 := Tryz.zeroValue23
  t5 := Tryz.underlying5
  i5 := by kernel_rfl }
open Go.RowKit Go.Lib in
/-- bytes.Clone: "Clone returns a copy of b[:len(b)]. The result may have additional unused capacity.": OF A SLICE THAT IS NOT nil IT RETURNS A SLICE THAT IS NOT nil, OF THE SAME BYTES, IN MEMORY OF THE CALL's OWN: in the how-to's words (6f): 'w'.ownsRow B e 1 v' n cells' · 'Below B w w'', B the heap's size at the call. b AT WHATEVER ADDRESS, its cells as 'open_ints' hands them ('a.add i'; the numbers 'xs'). No byte: no cell is asked for. (LAID: no walk: one application.) -/
theorem Tryz.bytes_Clone_at (a : Addr) (n c : Nat) (xs : List Int) (w : World) (hx : xs.length = n) (hbig : n ≤ 140737488355328) (hc : ∀ i, i < n → w.cell? (a.add i) = some (.int .u8 (xs.getD i 0))) :
    Calls Tryz.prog 64 #[.slice (some a) n c] w fun e w' => ∃ v', e = .returned v' ∧ w'.ownsRow w.heap.size 5 1 v' n (xs.map (Value.int .u8)) ∧ v' ≠ .slice none 0 0 ∧ Below w.heap.size w w' := Any.bytes_Clone_at Tryz.laysSlK4 a n c xs w hx hbig hc
open Go.RowKit Go.Lib in
/-- "Clone(nil) returns nil.": the world is as it was. (LAID: no walk: one application.) -/
theorem Tryz.bytes_Clone_nil (n c : Nat) (w : World) :
    Calls Tryz.prog 64 #[.slice none n c] w fun e w' => e = .returned (.slice none 0 0) ∧ w' = w := Any.bytes_Clone_nil Tryz.laysSlK4 n c w
def Tryz.laysnb115_ren : Go.Shelf.Ren := ⟨fun | 115 => 45 | n => n, fun | 37 => 23 | 4 => 4 | 9 => 9 | 5 => 5 | n => n, fun | n => n⟩
theorem Tryz.laysnb115 : Go.Proofs.Lays.nb115 Tryz.prog Tryz.laysnb115_ren := {
  mixed := by kernel_rfl
  f115 := Tryz.func45.trans (congrArg some (by kernel_rfl))
  t4 := Tryz.underlying4
  a4 := Tryz.isAgg4
  z4 := Tryz.sizeOf4
  v4 := Tryz.zeroValue4
  t9 := Tryz.underlying9
  a9 := Tryz.isAgg9
  z9 := Tryz.sizeOf9
  v9 := Tryz.zeroValue9
  t37 := Tryz.underlying23
  a37 := Tryz.isAgg23
  z37 := Tryz.sizeOf23
  v37 := Tryz.zeroValue23
  t5 := Tryz.underlying5
  a5 := Tryz.isAgg5
  z5 := Tryz.sizeOf5
  v5 := Tryz.zeroValue5 }
/-- bytes.Equal: WHOLE. (LAID: no walk: one application.) -/
theorem Tryz.bytes_Equal_all (p1 p2 : Option Addr) (n c m d : Nat) (xs ys : List Int) (w : World) (hx : xs.length = n) (hy : ys.length = m) (h1 : Lib.BytesIn w p1 n xs) (h2 : Lib.BytesIn w p2 m ys) :
    Calls Tryz.prog 45 #[.slice p1 n c, .slice p2 m d] w fun e w' => e = .returned (.bool (Lib.bytesOf xs == Lib.bytesOf ys)) ∧ w' = w := Any.bytes_Equal_all Tryz.laysnb115 p1 p2 n c m d xs ys w hx hy h1 h2
end Go.Proofs
/-
  Bytes in memory: rows that are owned, cloned, compared, and made texts.
-/
namespace Go.Proofs.YtmjikfeaopmejaaGreatDoor
open Go.RowKit
def u8s (l : List UInt8) : List Value := l.map fun b => Value.int .u8 ((b.toNat : Nat) : Int)
theorem u8s_length (l : List UInt8) : (u8s l).length = l.length := by simp [u8s]
theorem u8s_get (l : List UInt8) (j : Nat) : (u8s l)[j]? = (l[j]?).map fun b => Value.int .u8 ((b.toNat : Nat) : Int) := by simp [u8s]
theorem u8s_append (l m : List UInt8) : u8s (l ++ m) = u8s l ++ u8s m := by simp [u8s]
theorem u8s_one (l : List UInt8) : ∀ u ∈ u8s l, u.oneCell' = true := by
  intro u hu
  simp only [u8s, List.mem_map] at hu
  obtain ⟨p, _, rfl⟩ := hu
  rfl
theorem u8_info : (Tryz.prog.info? 5).map (fun i => (i.zero, i.size, i.bytes)) = some (some (.int .u8 0), 1, 1) := by kernel_rfl
theorem info_parts {P : Program} {t : TypeId} {z : Value} {s b : Nat} (h : (P.info? t).map (fun i => (i.zero, i.size, i.bytes)) = some (some z, s, b)) : ∃ i, P.info? t = some i ∧ i.zero = some z ∧ i.size = s ∧ i.bytes = b := by
  cases hi : P.info? t with
  | none => rw [hi] at h; cases h
  | some i => rw [hi] at h; simp at h; exact ⟨i, rfl, h.1, h.2.1, h.2.2⟩
theorem own_reads {w : World} {base n size : Nat} {e : TypeId} {v : Value} {xs : List Value} (h : w.ownsRow base e size v n xs) : ∃ A c, v = .slice A n c ∧ Reads w w.heap.size size A n xs ∧ n ≤ c := by
  rcases h.2 with ⟨rfl, h0⟩ | ⟨g, cap, cur, rfl, h1, h2, h3, h4⟩
  · subst h0
    exact ⟨none, 0, rfl, ⟨h.1, fun hn => absurd hn (by omega)⟩, Nat.le_refl _⟩
  · exact ⟨_, cap, rfl, Reads.of_own h, by omega⟩
theorem own_mono {w : World} {base base' : Nat} {e : TypeId} {size : Nat} {v : Value} {n : Nat} {xs : List Value} (h : w.ownsRow base e size v n xs) (hb : base' ≤ base) : w.ownsRow base' e size v n xs := by
  refine ⟨h.1, ?_⟩
  rcases h.2 with h0 | ⟨g, cap, cur, e, hb', hr⟩
  · exact .inl h0
  · exact .inr ⟨g, cap, cur, e, Nat.le_trans hb hb', hr⟩
theorem own_keep {w w' : World} {base : Nat} {v : Value} {e : TypeId} {size n : Nat} {xs : List Value} (h : w.ownsRow base e size v n xs) (hk : ∀ g, v.ownBlock = some g → w'.heap[g]? = w.heap[g]?) : w'.ownsRow base e size v n xs := by
  refine ⟨h.1, ?_⟩
  rcases h.2 with h0 | ⟨g, cap, cur, rfl, hb, hg, hr⟩
  · exact .inl h0
  · exact .inr ⟨g, cap, cur, rfl, hb, (hk g rfl).trans hg, hr⟩
theorem own_below {w w' : World} {base : Nat} {v : Value} {e : TypeId} {size n : Nat} {xs : List Value} (h : w.ownsRow base e size v n xs) (hb : Below w.heap.size w w') : w'.ownsRow base e size v n xs :=
  own_keep h fun g hg => hb.block g (h.lt g hg).2
theorem bytes_empty (w : World) : (w.alloc (.cells #[] 5)).ownsRow w.heap.size 5 1 (.slice (some ⟨w.heap.size, 0, none⟩) 0 0) 0 [] := World.ownsRow_lit w #[] 0 (Nat.le_refl _) (by unfold maxLen; omega) rfl
/-- a row of bytes, of a list's length -/
theorem own8 {w : World} {base n : Nat} {v : Value} {l : List UInt8} (h : w.ownsRow base 5 1 v n (u8s l)) : w.ownsRow base 5 1 v l.length (u8s l) := by
  have : n = l.length := by have := h.1; rw [u8s_length] at this; omega
  rw [← this]; exact h
theorem Reads.take8 {w : World} {B n : Nat} {A : Option Addr} {l : List UInt8} (h : Reads w B 1 A n (u8s l)) {k : Nat} (hk : k ≤ n) : Reads w B 1 A k (u8s (l.take k)) := by
  have hl : l.length = n := by have := h.1; rw [u8s_length] at this; omega
  refine ⟨by rw [u8s_length, List.length_take]; omega, fun hp => ?_⟩
  obtain ⟨ad, e, hlt, hc⟩ := h.2 (by omega)
  refine ⟨ad, e, hlt, fun j u hu => hc j u ?_⟩
  rw [u8s_get] at hu ⊢
  rw [List.getElem?_take] at hu
  split at hu
  · exact hu
  · cases hu
theorem u8s_drop (l : List UInt8) (k : Nat) : u8s (l.drop k) = (u8s l).drop k := by simp [u8s]
theorem Reads.drop8 {w : World} {B n c : Nat} {A : Option Addr} {l : List UInt8} (h : Reads w B 1 A n (u8s l)) {k : Nat} (hk : k ≤ n) (hc : n ≤ c) : Reads w B 1 (if c = k then A else A.map (·.add k)) (n - k) (u8s (l.drop k)) := by
  have := h.cut (k := k) (cap := c) hk hc
  rw [Nat.mul_one] at this
  rw [u8s_drop]
  exact this
theorem Reads.none8 {w : World} {B : Nat} : Reads w B 1 none 0 (u8s []) := Reads.none_
theorem Reads.empty8 {w : World} {B n : Nat} {l : List UInt8} (h : Reads w B 1 none n (u8s l)) : n = 0 ∧ l = [] := by
  have hl : l.length = n := by have := h.1; rw [u8s_length] at this; omega
  rcases Nat.eq_zero_or_pos n with h0 | h0
  · exact ⟨h0, List.length_eq_zero_iff.1 (by omega)⟩
  · obtain ⟨ad, e, _⟩ := h.2 h0; cases e
def ints8 (l : List UInt8) : List Int := l.map fun b => ((b.toNat : Nat) : Int)
theorem ints8_at {w : World} {B n : Nat} {a : Addr} {l : List UInt8} (hl : l.length = n) (hr : Reads w B 1 (some a) n (u8s l)) : ∀ i, i < n → w.cell? (a.add i) = some (.int .u8 ((ints8 l).getD i 0)) := by
  intro i hi
  obtain ⟨ad, e, _, hc⟩ := hr.2 (by omega)
  injection e with e
  subst e
  have hil : i < l.length := by omega
  refine hc i _ ?_
  rw [u8s_get, List.getElem?_eq_getElem hil]
  simp [ints8, List.getD, hil]
theorem bytesOf_ints8 (l : List UInt8) : Lib.bytesOf (ints8 l) = l := by
  unfold Lib.bytesOf ints8
  rw [List.map_map]
  conv => rhs; rw [← List.map_id l]
  apply List.map_congr_left
  intro b _
  simp
theorem bytesIn8 {w : World} {B n : Nat} {A : Option Addr} {l : List UInt8} (hl : l.length = n) (hr : Reads w B 1 A n (u8s l)) : Lib.BytesIn w A n (ints8 l) := by
  cases A with
  | none =>
    obtain ⟨rfl, rfl⟩ := hr.empty8
    exact Lib.BytesIn.nil _ _ _
  | some a => exact Lib.BytesIn.of_cells (ints8_at hl hr)
theorem equal_any (A1 A2 : Option Addr) (n c m d : Nat) (l1 l2 : List UInt8) (w : World) (h1 : l1.length = n) (h2 : l2.length = m) (r1 : Reads w w.heap.size 1 A1 n (u8s l1)) (r2 : Reads w w.heap.size 1 A2 m (u8s l2)) :
    Calls Tryz.prog 45 #[.slice A1 n c, .slice A2 m d] w fun e w' => e = .returned (.bool (l1 == l2)) ∧ w' = w := by
  have h := Tryz.bytes_Equal_all A1 A2 n c m d (ints8 l1) (ints8 l2) w (by simpa [ints8] using h1) (by simpa [ints8] using h2) (bytesIn8 h1 r1) (bytesIn8 h2 r2)
  rw [bytesOf_ints8, bytesOf_ints8] at h
  exact h
theorem clone_any (A : Option Addr) (n c : Nat) (l : List UInt8) (w : World) (hl : l.length = n) (hn : n ≤ 1000000000) (hr : Reads w w.heap.size 1 A n (u8s l)) :
    Calls Tryz.prog 64 #[.slice A n c] w fun e w' => ∃ v, e = .returned v ∧ w'.ownsRow w.heap.size 5 1 v n (u8s l) ∧ Below w.heap.size w w' := by
  cases A with
  | none =>
    obtain ⟨rfl, rfl⟩ := hr.empty8
    refine (Tryz.bytes_Clone_nil 0 c w).mono ?_
    rintro e w' ⟨rfl, rfl⟩
    exact ⟨_, rfl, World.ownsRow_nil _ _ _ _, Below.refl _ _⟩
  | some a =>
    refine (Tryz.bytes_Clone_at a n c (ints8 l) w (by simpa [ints8] using hl) (by omega) (ints8_at hl hr)).mono ?_
    rintro e w' ⟨v', rfl, ho, _, hb⟩
    refine ⟨v', rfl, ?_, hb⟩
    unfold ints8 at ho
    rw [List.map_map] at ho
    exact ho
theorem conv_nil (c : Nat) (w : World) : (convert 23 9 (.slice none 0 c)).run Tryz.prog w = .ok (.string ⟨#[]⟩) w := by kernel_rfl
/-- string(b), whatever slice b is -/
theorem conv_reads {w : World} {B n c : Nat} {A : Option Addr} {l : List UInt8} (hl : l.length = n) (hr : Reads w B 1 A n (u8s l)) : (convert 23 9 (.slice A n c)).run Tryz.prog w = .ok (.string ⟨l.toArray⟩) w := by
  subst hl
  cases A with
  | none =>
    obtain ⟨h0, rfl⟩ := hr.empty8
    exact conv_nil c w
  | some a =>
    refine run_string_bytes w 23 9 5 a l c Tryz.underlying23 Tryz.underlying5 Tryz.underlying9 fun j b hj => ?_
    have hp : 0 < l.length := by
      rcases Nat.lt_or_ge j l.length with h | h
      · omega
      · rw [List.getElem?_eq_none h] at hj; cases hj
    obtain ⟨ad, e, _, hc⟩ := hr.2 hp
    injection e with e
    subst e
    exact hc j _ (by rw [u8s_get, hj]; rfl)
end Go.Proofs.YtmjikfeaopmejaaGreatDoor
/-
  Rows of bytes that are owned, and what is taken from them, for the walks by facts.
-/
namespace Go.Proofs.YtmjikfeaopmejaaGreatDoor
open Go.RowKit
theorem lit_one (w : World) (c : UInt8) : Reads (w.alloc (.cells #[.int .u8 ((c.toNat : Nat) : Int)] 5)) (w.heap.size + 1) 1 (some ⟨w.heap.size, 0, none⟩) 1 (u8s [c]) := by
  refine ⟨rfl, fun _ => ⟨⟨w.heap.size, 0, none⟩, rfl, Nat.lt_succ_self _, fun j u hu => ?_⟩⟩
  have hb : Blk (w.alloc (.cells #[.int .u8 ((c.toNat : Nat) : Int)] 5)) w.heap.size 5 #[.int .u8 ((c.toNat : Nat) : Int)] := Blk.new w _ _
  rcases j with _ | j
  · have ha : (⟨w.heap.size, 0, none⟩ : Addr).add 0 = ⟨w.heap.size, 0, none⟩ := by unfold Addr.add; simp
    rw [ha, hb.cell]
    exact hu
  · cases hu
theorem own8_reads {w : World} {B n : Nat} {v : Value} {l : List UInt8} (h : w.ownsRow B 5 1 v n (u8s l)) : ∃ A c, v = .slice A l.length c ∧ Reads w w.heap.size 1 A l.length (u8s l) := by
  obtain ⟨A, c, rfl, hr, _⟩ := own_reads (own8 h)
  have hn : n = l.length := by have := h.1; rw [u8s_length] at this; omega
  subst hn
  obtain ⟨A, c, e, hr, _⟩ := own_reads h
  injection e with e1 e2 e3
  subst e1 e3
  exact ⟨_, _, rfl, hr⟩
/-- what is taken: a slice that reads as bytes -/
def Took (w : World) (r : Value) (l : List UInt8) : Prop := ∃ A c, r = .slice A l.length c ∧ Reads w w.heap.size 1 A l.length (u8s l)
theorem Took.nil (w : World) : Took w (.slice none 0 0) [] := ⟨none, 0, rfl, Reads.none8⟩
/-- a row of bytes of one's own -/
def Own8 (B : Nat) (w : World) (v : Value) (l : List UInt8) : Prop := w.ownsRow B 5 1 v l.length (u8s l)
section
variable {w w' : World} {B B' : Nat} {v : Value} {l m : List UInt8} {P : Program} {ev : Operand → Value} {o : Oper}
theorem Own8.below (h : Own8 B w v l) (hb : Below w.heap.size w w') : Own8 B w' v l := own_below h hb
theorem Own8.mono (h : Own8 B w v l) (hb : B' ≤ B) : Own8 B' w v l := own_mono h hb
theorem Own8.keep (h : Own8 B w v l) (hk : ∀ g, v.ownBlock = some g → w'.heap[g]? = w.heap[g]?) : Own8 B w' v l := own_keep h hk
theorem Own8.took (h : Own8 B w v l) : Took w v l := own8_reads h
theorem Own8.of {n : Nat} (h : w.ownsRow B 5 1 v n (u8s l)) : Own8 B w v l := own8 h
theorem Own8.nil (w : World) : Own8 B w (.slice none 0 0) [] := World.ownsRow_nil _ _ _ _
theorem Took.below (h : Took w v l) (hb : Below w.heap.size w w') : Took w' v l := by
  obtain ⟨A, c, e, hr⟩ := h
  exact ⟨A, c, e, (hr.below hb).more hb.size⟩
theorem exec_append {s x : Operand} {T T' : TypeId} {u r : Value} (ho : o.op = .call { callee := .builtin .append, args := #[s, x], argTypes := #[T, T'] }) (hs : ev s = v) (hx : ev x = u)
    (hr : (Builtin.append_ #[T, T'] o.type #[v, u]).run P w = .ok r w') : (execOp ev o).run P w = .ok (.value r) w' := by
  unfold execOp
  simp only [ho, resolve, invoke, builtin, Sem.run_bind, Sem.run_pure, Result.andThen_ok, List.map_toArray, List.map_cons, List.map_nil, hs, hx, hr]
theorem run_app8 {u : Value} (h : Own8 B w v l) (hu : Took w u m) (hlen : l.length + m.length ≤ 1000000000) (hB : B ≤ w.heap.size) :
    ∃ r w', (Builtin.append_ #[23, 23] 23 #[v, u]).run Tryz.prog w = .ok r w' ∧ Own8 B w' r (l ++ m) ∧ w.grownBy w' v.ownBlock := by
  obtain ⟨A, c, rfl, hr⟩ := hu
  obtain ⟨i0, hi0, hz0, hz1, hz2⟩ := info_parts u8_info
  obtain ⟨v', w', hrun, ho, hg⟩ := run_append_any (P := Tryz.prog) w B 23 23 5 i0 _ 1 1 Tryz.underlying23 hi0 hz0 hz1 hz2 rfl (by omega) v l.length (u8s l) h A m.length c (u8s m) (Gives.of_reads hr (u8s_one m)) (by unfold maxLen; omega) (by omega) hB
  rw [← u8s_append] at ho
  exact ⟨v', w', hrun, .of ho, hg⟩
/-- append of bytes -/
theorem exec_app8 {s x : Operand} {u : Value} (ho : o.op = .call { callee := .builtin .append, args := #[s, x], argTypes := #[23, 23] }) (hty : o.type = 23) (hs : ev s = v) (hx : ev x = u) (h : Own8 B w v l) (hu : Took w u m) (hlen : l.length + m.length ≤ 1000000000) (hB : B ≤ w.heap.size) :
    ∃ r w', (execOp ev o).run Tryz.prog w = .ok (.value r) w' ∧ Own8 B w' r (l ++ m) ∧ w.grownBy w' v.ownBlock := by
  obtain ⟨r, w', hr, h2, h3⟩ := run_app8 h hu hlen hB
  exact ⟨r, w', exec_append ho hs hx (by rw [hty]; exact hr), h2, h3⟩
theorem below_app8 {W : World} {B0 : Nat} (hb : Below B0 W w) (h : Own8 B w v l) (hg : w.grownBy w' v.ownBlock) (h0 : B0 ≤ B) (hB : B0 ≤ w.heap.size) : Below B0 W w' :=
  hb.grown hg hB fun k hk => Nat.le_trans h0 (World.ownsRow.lt h k hk).1
/-- a written slice of one byte -/
theorem took_one (w : World) (c : UInt8) : Took (w.alloc (.cells #[.int .u8 ((c.toNat : Nat) : Int)] 5)) (.slice (some ⟨w.heap.size, 0, none⟩) 1 1) [c] :=
  ⟨_, _, rfl, by simpa using lit_one w c⟩
theorem took_blk {g : Nat} {c : UInt8} (h : Blk w g 5 #[.int .u8 ((c.toNat : Nat) : Int)]) : Took w (.slice (some ⟨g, 0, none⟩) 1 1) [c] := by
  refine ⟨_, _, rfl, rfl, fun _ => ⟨⟨g, 0, none⟩, rfl, h.lt, fun j u hu => ?_⟩⟩
  rcases j with _ | j
  · have ha : (⟨g, 0, none⟩ : Addr).add 0 = ⟨g, 0, none⟩ := by unfold Addr.add; simp
    rw [ha, h.cell]
    exact hu
  · cases hu
end
end Go.Proofs.YtmjikfeaopmejaaGreatDoor
/-
  Rows of what takes k cells each.
-/
namespace Go.Proofs.YtmjikfeaopmejaaGreatDoor
open Go.RowKit
section
variable {M : Type} {f : M → List Value} {k : Nat}
theorem flatK_len (hf : ∀ x, (f x).length = k) : ∀ l : List M, (l.flatMap f).length = l.length * k
  | [] => by simp
  | x :: r => by rw [List.flatMap_cons, List.length_append, hf, flatK_len hf r, List.length_cons, Nat.succ_mul]; omega
theorem flatK_at (hf : ∀ x, (f x).length = k) : ∀ (l : List M) (i j : Nat) (x : M), l[i]? = some x → j < k → (l.flatMap f)[i * k + j]? = (f x)[j]?
  | y :: r, 0, j, x, h, hj => by
    have e : y = x := by simpa using h
    subst e
    rw [List.flatMap_cons, Nat.zero_mul, Nat.zero_add, List.getElem?_append_left (by rw [hf]; exact hj)]
  | y :: r, i + 1, j, x, h, hj => by
    have ih := flatK_at hf r i j x (by simpa using h) hj
    rw [List.flatMap_cons, List.getElem?_append_right (by rw [hf, Nat.succ_mul]; omega)]
    have e : (i + 1) * k + j - (f y).length = i * k + j := by rw [hf, Nat.succ_mul]; omega
    rw [e]; exact ih
theorem flatK_take (hf : ∀ x, (f x).length = k) (l : List M) (i : Nat) : (l.take i).flatMap f = (l.flatMap f).take (i * k) := by
  induction l generalizing i with
  | nil => simp
  | cons y r ih =>
    cases i with
    | zero => simp
    | succ i =>
      have h1 : (f y).take ((i + 1) * k) = f y := List.take_of_length_le (by rw [hf, Nat.succ_mul]; omega)
      have h2 : (i + 1) * k - (f y).length = i * k := by rw [hf, Nat.succ_mul]; omega
      rw [List.take_succ_cons, List.flatMap_cons, List.flatMap_cons, List.take_append, h1, h2, ih i]
theorem add_kj (ad : Addr) (i j : Nat) (hj : 0 < j) : ad.add (i + j) = ⟨(ad.add i).block, (ad.add i).off + j, none⟩ := by
  unfold Addr.add; by_cases h : i = 0 <;> simp [h] <;> omega
/-- an element's cells -/
theorem rowK_at {w : World} {B n i : Nat} {A : Option Addr} {l : List M} {x : M} (hf : ∀ x, (f x).length = k) (h : Reads w B k A n (l.flatMap f)) (hn : 0 < n) (hx : l[i]? = some x) :
    ∃ ad, A = some ad ∧ ad.block < B ∧ (∀ u, (f x)[0]? = some u → w.cell? (ad.add (i * k)) = some u) ∧ ∀ j u, 0 < j → (f x)[j]? = some u → w.cell? ⟨(ad.add (i * k)).block, (ad.add (i * k)).off + j, none⟩ = some u := by
  obtain ⟨ad, rfl, hb, hc⟩ := h.2 hn
  have hk : ∀ j u, (f x)[j]? = some u → j < k := fun j u hu => by
    have := (List.getElem?_eq_some_iff.1 hu).1
    rw [hf] at this; exact this
  refine ⟨ad, rfl, hb, fun u hu => ?_, fun j u hj hu => ?_⟩
  · have := hc (i * k + 0) u (by rw [flatK_at hf l i 0 x hx (hk 0 u hu)]; exact hu)
    simpa using this
  · have := hc (i * k + j) u (by rw [flatK_at hf l i j x hx (hk j u hu)]; exact hu)
    rwa [add_kj _ _ _ hj] at this
theorem Reads.takeK {w : World} {B n : Nat} {A : Option Addr} {l : List M} (hf : ∀ x, (f x).length = k) (h : Reads w B k A n (l.flatMap f)) (hl : l.length = n) {i : Nat} (hi : i ≤ n) : Reads w B k A i ((l.take i).flatMap f) := by
  refine ⟨by rw [flatK_len hf, List.length_take]; congr 1; omega, fun hp => ?_⟩
  obtain ⟨ad, e, hb, hc⟩ := h.2 (by omega)
  refine ⟨ad, e, hb, fun j u hu => hc j u ?_⟩
  rw [flatK_take hf, List.getElem?_take] at hu
  split at hu
  · exact hu
  · cases hu
end
end Go.Proofs.YtmjikfeaopmejaaGreatDoor
/-
  Walks by facts on slots: a field of a variable is set; appends.
-/
namespace Go.Proofs.YtmjikfeaopmejaaGreatDoor
open Go Go.RowKit
theorem own_kind {w : World} {base n size g : Nat} {v : Value} {e : TypeId} {xs : List Value} (h : w.ownsRow base e size v n xs) (hg : v.ownBlock = some g) : ∃ cs, w.heap[g]? = some (.cells cs e (0, 0)) := by
  rcases h.2 with ⟨rfl, _⟩ | ⟨g', cap, cur, rfl, _, hc, _⟩
  · cases hg
  · have : g' = g := by simpa [Value.ownBlock] using hg
    subst this
    exact ⟨cur, hc⟩
theorem own_ne {w : World} {base n size i : Nat} {v : Value} {e t : TypeId} {xs : List Value} {cs : Array Value} (h : w.ownsRow base e size v n xs) (hi : Blk w i t cs) (ht : t ≠ e) : ∀ g, v.ownBlock = some g → g ≠ i := fun g hg he => by
  obtain ⟨cs', hc⟩ := own_kind h hg
  unfold Blk at hi
  rw [he, hi] at hc
  injection hc with hc
  injection hc with _ hc
  exact ht hc
theorem add0 (g k : Nat) : (⟨g, 0, none⟩ : Addr).add k = ⟨g, k, none⟩ := by
  unfold Addr.add
  by_cases h : k = 0 <;> simp [h]
theorem Only.grown {g : Nat} {w w' : World} (h : Only g w w') : w.grownBy w' (some g) := ⟨h.os, h.tape, h.output, by rw [h.size]; exact Nat.le_refl _, fun k _ hk => h.block k (fun e => hk (by rw [e]))⟩
theorem ownsRow_empty {w : World} {B g size : Nat} {T : TypeId} (K : Blk w g T #[]) (hb : B ≤ g) : w.ownsRow B T size (.slice (some ⟨g, 0, none⟩) 0 0) 0 [] :=
  ⟨by simp, .inr ⟨g, 0, #[], rfl, hb, K, Nat.le_refl _, by unfold maxLen; omega, by simp, by simp⟩⟩
theorem nil_eq {P : Program} {t e : TypeId} (ht : P.underlying t = some (.slice e)) (a : Option Addr) (l c : Nat) (w : World) : (binOp .eql t (.slice a l c) (.slice none 0 0)).run P w = .ok (.bool a.isNone) w := Lib.run_eql_slice_nil w t e a l c 0 0 ht
section
variable {P : Program} {Q : Exit → Act → World → Prop} {a : Act} {w w' : World} {n : Nat} {Γ : Env} {l rest : List Oper} {o : Oper} {t : Nat} {v : Value}
/-- a field of a variable is set -/
theorem wl_setf {g j : Nat} {T : TypeId} {z : List Value} (zs : List Value) (c : Value) (hA : At n Γ a) (hg : o.guard = none) (hd : o.dst = none) (hK : Blk w g T z.toArray) (hz : z.set j c = zs) (hrun : ∀ ev, EvIn Γ ev → (execOp ev o).run P w = .ok .skip (w.setCell ⟨g, j, none⟩ c))
    (hk : ∀ w1, Blk w1 g T zs.toArray → Only g w w1 → wpList P l.toArray Q rest a w1) : wpList P l.toArray Q (o :: rest) a w := by
  refine wl_skip hA hg hd hrun (hk _ ?_ Only.set)
  have := hK.set_ j c
  rw [List.setIfInBounds_toArray, hz] at this
  exact this
/-- an operation whose answer goes nowhere -/
theorem wl_val0 {v : Value} (hA : At n Γ a) (hg : o.guard = none) (hd : o.dst = none) (hrun : ∀ ev, EvIn Γ ev → (execOp ev o).run P w = .ok (.value v) w')
    (hk : wpList P l.toArray Q rest a w') : wpList P l.toArray Q (o :: rest) a w := by
  refine wpList_plain hg fun K hK => ?_
  unfold Oper.wp
  rw [hrun _ hA.evin, Oper.upon_value, hd]
  exact hK _ _ hk
end
end Go.Proofs.YtmjikfeaopmejaaGreatDoor
/-
  Rows of structs of one's own: a row that is one's own, the bytes of its parts elsewhere.
-/
namespace Go.Proofs.YtmjikfeaopmejaaGreatDoor
open Go.RowKit
/-- a kind of struct: its type, the type of its rows, its cells, its parts -/
structure Sh (M : Type) where
  T : TypeId
  S : TypeId
  k : Nat
  by_ : Nat
  z : Value
  f : M → List Value
  parts : M → List (Option Addr × List UInt8)
  len : ∀ x, (f x).length = k
  one : ∀ x, ∀ u ∈ f x, u.oneCell' = true
  und : Tryz.prog.underlying S = some (.slice T)
  info : (Tryz.prog.info? T).map (fun i => (i.zero, i.size, i.bytes)) = some (some z, k, by_)
  zk : z.cells.size = k
  pos : 0 < k
  small : by_ ≤ 1000
/-- bytes lie apart from a block -/
def OffP (g : Nat) (p : Option Addr × List UInt8) : Prop := 0 < p.2.length → ∀ ad, p.1 = some ad → ad.block ≠ g
abbrev ReadsP (w : World) (p : Option Addr × List UInt8) : Prop := Reads w w.heap.size 1 p.1 p.2.length (u8s p.2)
structure RowR {M : Type} (s : Sh M) (w : World) (A : Option Addr) (l : List M) : Prop where
  row : Reads w w.heap.size s.k A l.length (l.flatMap s.f)
  octs : ∀ m ∈ l, ∀ p ∈ s.parts m, ReadsP w p
structure OwnR {M : Type} (s : Sh M) (B : Nat) (w : World) (v : Value) (l : List M) : Prop where
  row : w.ownsRow B s.T s.k v l.length (l.flatMap s.f)
  octs : ∀ m ∈ l, ∀ p ∈ s.parts m, ReadsP w p
  off : ∀ g, v.ownBlock = some g → ∀ m ∈ l, ∀ p ∈ s.parts m, OffP g p
theorem ReadsP.below {w w' : World} {p : Option Addr × List UInt8} (h : ReadsP w p) (hb : Below w.heap.size w w') : ReadsP w' p := (Reads.below h hb).more hb.size
theorem readsP_apart {w w' : World} {g : Nat} {p : Option Addr × List UInt8} (h : ReadsP w p) (hg : OffP g p) (hb : ∀ k, k < w.heap.size → k ≠ g → w'.heap[k]? = w.heap[k]?) (hs : w.heap.size ≤ w'.heap.size) : ReadsP w' p := by
  refine ⟨h.1, fun hn => ?_⟩
  obtain ⟨ad, e, hlt, hc⟩ := h.2 hn
  refine ⟨ad, e, by omega, fun j u hu => ?_⟩
  have := hc j u hu
  rwa [← World.cell?_of_block (w' := w') (hb _ (by rw [block_of_add]; exact hlt) (by rw [block_of_add]; exact hg hn ad e))] at this
theorem readsP_off {w : World} {p : Option Addr × List UInt8} (h : ReadsP w p) {g : Nat} (hg : w.heap.size ≤ g) : OffP g p := fun hn ad ha => by
  obtain ⟨ad', e, hlt, _⟩ := h.2 hn
  rw [ha] at e
  injection e with e
  subst e
  omega
/-- no cell of bytes -/
def noB8 : Value → Bool
  | .int .u8 _ => false
  | _ => true
theorem readsP_blk {w : World} {p : Option Addr × List UInt8} {g : Nat} {T : TypeId} {cs : Array Value} (h : ReadsP w p) (K : Blk w g T cs) (hno : cs.toList.all noB8 = true) : OffP g p := fun hn ad ha he => by
  obtain ⟨ad', e, _, hc⟩ := h.2 hn
  rw [ha] at e
  injection e with e
  subst e
  have h0 : (u8s p.2)[0]? = some (.int .u8 (((p.2[0]'hn).toNat : Nat) : Int)) := by rw [u8s_get, List.getElem?_eq_getElem hn]; rfl
  have h1 := hc 0 _ h0
  have h2 : ad.add 0 = ad := by unfold Addr.add; simp
  rw [h2] at h1
  unfold World.cell? at h1
  unfold Blk at K
  rw [he, K] at h1
  simp only at h1
  split at h1
  · cases h1
  · have hm : Value.int .u8 (((p.2[0]'hn).toNat : Nat) : Int) ∈ cs.toList := by
      have := Array.mem_of_getElem? h1
      simpa using this
    have := List.all_eq_true.1 hno _ hm
    cases this
/-- bytes stay, as a block without bytes turns -/
theorem reads_only {w w' : World} {A : Option Addr} {n g : Nat} {l : List UInt8} {T : TypeId} {cs : Array Value} (h : Reads w w.heap.size 1 A n (u8s l)) (hs : Only g w w') (K : Blk w g T cs) (hno : cs.toList.all noB8 = true) : Reads w' w'.heap.size 1 A n (u8s l) := by
  have hl : l.length = n := by have := h.1; rw [u8s_length] at this; omega
  subst hl
  exact readsP_apart (p := (A, l)) h (readsP_blk (p := (A, l)) h K hno) (fun j _ hj => hs.block j hj) (by rw [hs.size]; exact Nat.le_refl _)
section
variable {M : Type} {s : Sh M} {B : Nat} {w w' : World} {v : Value} {l : List M}
theorem RowR.below {A : Option Addr} (h : RowR s w A l) (hb : Below w.heap.size w w') : RowR s w' A l := ⟨(h.row.below hb).more hb.size, fun m hm p hp => (h.octs m hm p hp).below hb⟩
theorem RowR.nil (A : Option Addr) : RowR s w A [] := ⟨⟨by simp, fun h => absurd h (by simp)⟩, fun _ h => (by cases h)⟩
theorem OwnR.below (h : OwnR s B w v l) (hb : Below w.heap.size w w') : OwnR s B w' v l := ⟨own_below h.row hb, fun m hm p hp => (h.octs m hm p hp).below hb, h.off⟩
theorem OwnR.mono {B' : Nat} (h : OwnR s B w v l) (hb : B' ≤ B) : OwnR s B' w v l := ⟨own_mono h.row hb, h.octs, h.off⟩
theorem OwnR.reads (h : OwnR s B w v l) : ∃ A c, v = .slice A l.length c ∧ RowR s w A l ∧ l.length ≤ c := by
  obtain ⟨A, c, e, hr, hc⟩ := own_reads h.row
  exact ⟨A, c, e, ⟨hr, h.octs⟩, hc⟩
theorem OwnR.nil (B : Nat) (w : World) : OwnR s B w (.slice none 0 0) [] := ⟨World.ownsRow_nil _ _ _ _, fun _ h => (by cases h), fun _ _ _ h => (by cases h)⟩
theorem OwnR.empty {g : Nat} (K : Blk w g s.T #[]) (hb : B ≤ g) : OwnR s B w (.slice (some ⟨g, 0, none⟩) 0 0) [] := ⟨ownsRow_empty K hb, fun _ h => (by cases h), fun _ _ _ h => (by cases h)⟩
theorem RowR.parts_off {A : Option Addr} {g : Nat} (h : RowR s w A l) (hg : w.heap.size ≤ g) : ∀ m ∈ l, ∀ p ∈ s.parts m, OffP g p := fun m hm p hp => readsP_off (h.octs m hm p hp) hg
/-- an element's cells -/
theorem RowR.cell {A : Option Addr} {i : Nat} {x : M} (h : RowR s w A l) (hx : l[i]? = some x) : ∃ ad, A = some ad ∧ ad.block < w.heap.size ∧ (∀ u, (s.f x)[0]? = some u → w.cell? (ad.add (i * s.k)) = some u) ∧ ∀ j u, 0 < j → (s.f x)[j]? = some u → w.cell? ⟨(ad.add (i * s.k)).block, (ad.add (i * s.k)).off + j, none⟩ = some u :=
  rowK_at s.len h.row (by have := (List.getElem?_eq_some_iff.1 hx).1; omega) hx
theorem OwnR.at_ (h : OwnR s B w v l) (hl : 0 < l.length) : ∃ g c, v = .slice (some ⟨g, 0, none⟩) l.length c ∧ B ≤ g ∧ g < w.heap.size := by
  obtain ⟨g, cap, hv, hg, hlt⟩ := h.row.form hl
  exact ⟨g, cap, hv, hg, hlt⟩
theorem OwnR.only {k : Nat} (h : OwnR s B w v l) (hs : Only k w w') (hne : ∀ g, v.ownBlock = some g → g ≠ k) (hoff : ∀ m ∈ l, ∀ p ∈ s.parts m, OffP k p) : OwnR s B w' v l :=
  ⟨own_keep h.row fun g hg => hs.block g (hne g hg), fun m hm p hp => readsP_apart (h.octs m hm p hp) (hoff m hm p hp) (fun j _ hj => hs.block j hj) (by rw [hs.size]; exact Nat.le_refl _), h.off⟩
theorem OwnR.onlyK {k : Nat} {T : TypeId} {cs : Array Value} (h : OwnR s B w v l) (hs : Only k w w') (K : Blk w k T cs) (hT : T ≠ s.T) (hno : cs.toList.all noB8 = true) : OwnR s B w' v l :=
  h.only hs (own_ne h.row K hT) fun m hm p hp => readsP_blk (h.octs m hm p hp) K hno
theorem run_app0 {P : Program} {t ty e : TypeId} {i : TypeInfo} {base size n : Nat} {xs : List Value} (ht : P.underlying t = some (.slice e)) (hi : P.info? e = some i) (hown : w.ownsRow base e size v n xs) (c : Nat) :
    (Builtin.append_ #[t, t] ty #[v, .slice none 0 c]).run P w = .ok v w := by
  rcases hown.2 with ⟨rfl, rfl⟩ | ⟨g, cap, cur, rfl, _, _, hnc, _⟩
  · simp [Builtin.append_, run_underlying ht, sizeOf, typeInfo, hi, Builtin.lenOf, Builtin.firstCells, Result.andThen]
  · have := run_append_room_src (P := P) w t t ty e i ht hi g 0 n cap (.slice none 0 c) 0 [] (Src.ofNil w ht c) (by omega) (fun j hj => by simp at hj) (fun j hj => by simp at hj)
    rw [setCells_nil] at this
    exact this
theorem flat_one' (l : List M) : ∀ u ∈ l.flatMap s.f, u.oneCell' = true := by
  intro u hu
  obtain ⟨m, _, hm⟩ := List.mem_flatMap.1 hu
  exact s.one m u hm
/-- structs are appended -/
theorem run_appR {k : List M} {A : Option Addr} {c : Nat} (h : OwnR s B w v l) (hk : RowR s w A k) (hoff : ∀ g, v.ownBlock = some g → ∀ m ∈ k, ∀ p ∈ s.parts m, OffP g p) (hlen : l.length + k.length ≤ 100000000) (hB : B ≤ w.heap.size) :
    ∃ r w', (Builtin.append_ #[s.S, s.S] s.S #[v, .slice A k.length c]).run Tryz.prog w = .ok r w' ∧ OwnR s B w' r (l ++ k) ∧ w.grownBy w' v.ownBlock ∧ (r.ownBlock = v.ownBlock ∨ r.ownBlock = some w.heap.size) := by
  obtain ⟨i0, hi0, hz0, hz1, hz2⟩ := info_parts s.info
  have hmul : (l.length + k.length) * s.by_ ≤ 140737488355328 := Nat.le_trans (Nat.mul_le_mul hlen s.small) (by omega)
  have key : ∃ r w', (Builtin.append_ #[s.S, s.S] s.S #[v, .slice A k.length c]).run Tryz.prog w = .ok r w' ∧ w'.ownsRow B s.T s.k r (l.length + k.length) (l.flatMap s.f ++ k.flatMap s.f) ∧ w.grownBy w' v.ownBlock ∧ (r.ownBlock = v.ownBlock ∨ r.ownBlock = some w.heap.size) := by
    cases A with
    | some ad =>
      have hc : ∀ j u, (k.flatMap s.f)[j]? = some u → w.cell? (ad.add j) = some u := by
        rcases Nat.eq_zero_or_pos k.length with h0 | h0
        · intro j u hj
          rw [List.length_eq_zero_iff.1 h0] at hj
          cases hj
        · obtain ⟨ad', e, _, hc⟩ := hk.row.2 h0
          injection e with e; subst e; exact hc
      obtain ⟨v', w', hr, h2, h3, _, h5⟩ := run_append_own_at (P := Tryz.prog) w B s.S s.S s.T i0 s.z s.k s.by_ s.und hi0 hz0 hz1 hz2 s.zk s.pos v l.length _ h.row ad k.length c _ hk.row.1 hc (flat_one' k) (by unfold maxLen; omega) hmul hB
      exact ⟨v', w', hr, h2, h3, h5⟩
    | none =>
      have h0 : k.length = 0 := by
        rcases Nat.eq_zero_or_pos k.length with h0 | h0
        · exact h0
        · obtain ⟨ad, e, _⟩ := hk.row.2 h0; cases e
      have hk0 : k = [] := List.length_eq_zero_iff.1 h0
      subst hk0
      exact ⟨v, w, run_app0 s.und hi0 h.row c, by simpa using h.row, ⟨rfl, rfl, rfl, Nat.le_refl _, fun _ _ _ => rfl⟩, .inl rfl⟩
  obtain ⟨r, w', hr, h2, h3, h4⟩ := key
  have hoffB : ∀ {p : Option Addr × List UInt8}, ReadsP w p → (∀ g, v.ownBlock = some g → OffP g p) → ∀ g, r.ownBlock = some g → OffP g p := fun {p} hm ho g hg => by
    rcases h4 with e | e
    · exact ho g (e ▸ hg)
    · rw [e] at hg
      injection hg with hg
      subst hg
      exact readsP_off hm (Nat.le_refl _)
  have hkeep : ∀ {p : Option Addr × List UInt8}, ReadsP w p → (∀ g, v.ownBlock = some g → OffP g p) → ReadsP w' p := fun {p} hm ho => by
    cases hb : v.ownBlock with
    | none => exact (Reads.grown hm h3 (Nat.le_refl _) fun g hg => by rw [hb] at hg; cases hg).more h3.size
    | some g => exact readsP_apart hm (ho g hb) (fun j hj hne => h3.block j hj (fun e => by rw [hb] at e; exact hne (Option.some.inj e))) h3.size
  refine ⟨r, w', hr, ⟨?_, fun m hm p hp => ?_, fun g hg m hm p hp => ?_⟩, h3, h4⟩
  · rw [List.length_append, List.flatMap_append]; exact h2
  · rcases List.mem_append.1 hm with hm | hm
    · exact hkeep (h.octs m hm p hp) fun g hg => h.off g hg m hm p hp
    · exact hkeep (hk.octs m hm p hp) fun g hg => hoff g hg m hm p hp
  · rcases List.mem_append.1 hm with hm | hm
    · exact hoffB (h.octs m hm p hp) (fun g hg => h.off g hg m hm p hp) g hg
    · exact hoffB (hk.octs m hm p hp) (fun g hg => hoff g hg m hm p hp) g hg
/-- one struct, in a block of its own, as a row -/
theorem rowR_blk {g : Nat} {x : M} (K : Blk w g s.T (s.f x).toArray) (hp : ∀ p ∈ s.parts x, ReadsP w p) : RowR s w (some ⟨g, 0, none⟩) [x] := by
  refine ⟨⟨by simp [s.len], fun _ => ⟨⟨g, 0, none⟩, rfl, K.lt, fun j u hu => ?_⟩⟩, fun m hm => ?_⟩
  · rw [List.flatMap_cons, List.flatMap_nil, List.append_nil] at hu
    rw [add0]
    unfold World.cell?
    unfold Blk at K
    rw [K]
    simpa using hu
  · rw [List.mem_singleton.1 hm]; exact hp
theorem below_appR {W : World} {B0 : Nat} (hb : Below B0 W w) (h : OwnR s B w v l) (hg : w.grownBy w' v.ownBlock) (h0 : B0 ≤ B) (hB : B0 ≤ w.heap.size) : Below B0 W w' :=
  hb.grown hg hB fun k hk => Nat.le_trans h0 (World.ownsRow.lt h.row k hk).1
/-- what is known of a part stays, as one's row grows -/
theorem grown_part {p : Option Addr × List UInt8} (hg : w.grownBy w' v.ownBlock) (hm : ReadsP w p) (ho : ∀ g, v.ownBlock = some g → OffP g p) : ReadsP w' p := by
  cases hb : v.ownBlock with
  | none => exact (Reads.grown hm hg (Nat.le_refl _) fun g hg' => by rw [hb] at hg'; cases hg').more hg.size
  | some g => exact readsP_apart hm (ho g hb) (fun j hj hne => hg.block j hj (fun e => by rw [hb] at e; exact hne (Option.some.inj e))) hg.size
end
end Go.Proofs.YtmjikfeaopmejaaGreatDoor
/-
  Worlds that differ in some blocks alone; rows of structs of one's own: an element set, cut, cleared.
-/
namespace Go.Proofs.YtmjikfeaopmejaaGreatDoor
open Go.RowKit
section
variable {w w' w'' : World} {B B' : Nat}
/-- two worlds differ in some blocks alone -/
structure Apart (S : Nat → Prop) (w w' : World) : Prop where
  os : w'.os = w.os
  tape : w'.tape = w.tape
  output : w'.output = w.output
  size : w.heap.size ≤ w'.heap.size
  block : ∀ i, i < w.heap.size → ¬ S i → w'.heap[i]? = w.heap[i]?
variable {S S' : Nat → Prop}
theorem Apart.refl (S : Nat → Prop) (w : World) : Apart S w w := ⟨rfl, rfl, rfl, Nat.le_refl _, fun _ _ _ => rfl⟩
theorem Apart.mono' (h : Apart S w w') (hs : ∀ i, S i → S' i) : Apart S' w w' := ⟨h.os, h.tape, h.output, h.size, fun i hi hn => h.block i hi fun h' => hn (hs i h')⟩
theorem Apart.trans (h : Apart S w w') (k : Apart S' w' w'') (hs : ∀ i, i < w.heap.size → S' i → S i) : Apart S w w'' :=
  ⟨k.os.trans h.os, k.tape.trans h.tape, k.output.trans h.output, Nat.le_trans h.size k.size, fun i hi hn => (k.block i (Nat.lt_of_lt_of_le hi h.size) fun h' => hn (hs i hi h')).trans (h.block i hi hn)⟩
theorem Apart.below (h : Apart S w w') (k : Below w'.heap.size w' w'') : Apart S w w'' :=
  ⟨k.os.trans h.os, k.tape.trans h.tape, k.output.trans h.output, Nat.le_trans h.size k.size, fun i hi hn => (k.block i (Nat.lt_of_lt_of_le hi h.size)).trans (h.block i hi hn)⟩
theorem Apart.grown {row : Option Nat} (h : Apart S w w') (k : w'.grownBy w'' row) (hs : ∀ g, row = some g → w.heap.size ≤ g ∨ S g) : Apart S w w'' :=
  ⟨k.os.trans h.os, k.tape.trans h.tape, k.output.trans h.output, Nat.le_trans h.size k.size, fun i hi hn => (k.block i (Nat.lt_of_lt_of_le hi h.size) fun e => by
    rcases hs i e.symm with h1 | h1
    · omega
    · exact hn h1).trans (h.block i hi hn)⟩
theorem Apart.only {g : Nat} (h : Apart S w w') (k : Only g w' w'') (hs : w.heap.size ≤ g ∨ S g) : Apart S w w'' :=
  h.grown k.grown fun g' e => by rw [← Option.some.inj e]; exact hs
theorem Apart.toBelow (h : Apart S w w') (hs : ∀ i, S i → B ≤ i) (hB : B ≤ w.heap.size) : Below B w w' :=
  ⟨h.os, h.tape, h.output, h.size, fun i hi => h.block i (by omega) fun hS => by have := hs i hS; omega⟩
theorem Apart.blk {g : Nat} {T : TypeId} {cs : Array Value} (h : Apart S w w') (K : Blk w g T cs) (hg : ¬ S g) : Blk w' g T cs := (h.block g K.lt hg).trans K
theorem Apart.reads {n : Nat} {A : Option Addr} {xs : List Value} (h : Apart S w w') (hr : Reads w w.heap.size 1 A n xs) (hn : 0 < n → ∀ ad, A = some ad → ¬ S ad.block) : Reads w' w'.heap.size 1 A n xs := by
  refine ⟨hr.1, fun h0 => ?_⟩
  obtain ⟨ad, e, hlt, hc⟩ := hr.2 h0
  refine ⟨ad, e, Nat.lt_of_lt_of_le hlt h.size, fun j u hu => ?_⟩
  have := hc j u hu
  rwa [← World.cell?_of_block (w' := w') (h.block _ (by rw [block_of_add]; exact hlt) (by rw [block_of_add]; exact hn h0 ad e))] at this
theorem grown_tr {row : Option Nat} (h : w.grownBy w' row) (k : w'.grownBy w'' row) : w.grownBy w'' row :=
  ⟨k.os.trans h.os, k.tape.trans h.tape, k.output.trans h.output, Nat.le_trans h.size k.size, fun i hi hn => (k.block i (Nat.lt_of_lt_of_le hi h.size) hn).trans (h.block i hi hn)⟩
theorem own_setCells {g n c size : Nat} {e : TypeId} {xs : List Value} : ∀ (vs : List Value) (o : Nat) (w : World), w.ownsRow B e size (.slice (some ⟨g, 0, none⟩) n c) n xs → n * size ≤ o → (w.setCells g o vs).ownsRow B e size (.slice (some ⟨g, 0, none⟩) n c) n xs ∧ w.grownBy (w.setCells g o vs) (some g)
  | [], _, w, h, _ => ⟨h, ⟨rfl, rfl, rfl, Nat.le_refl _, fun _ _ _ => rfl⟩⟩
  | u :: r, o, w, h, ho => by
    obtain ⟨h1, h2⟩ := h.stored o u
    rw [List.set_eq_of_length_le (by rw [h.1]; exact ho)] at h1
    obtain ⟨h3, h4⟩ := own_setCells r (o + 1) _ h1 (by omega)
    exact ⟨h3, grown_tr h2 h4⟩
theorem own_putCells {g n c N size : Nat} {e : TypeId} : ∀ (vs : List Value) (o : Nat) (w : World) (xs : List Value), w.ownsRow B e size (.slice (some ⟨g, 0, none⟩) n c) n xs → o + vs.length ≤ xs.length → (w.setCells g o vs).ownsRow B e size (.slice (some ⟨g, 0, none⟩) n c) n (xs.take o ++ vs ++ xs.drop (o + vs.length)) ∧ w.grownBy (w.setCells g o vs) (some g)
  | [], o, w, xs, h, _ => ⟨(show xs.take o ++ [] ++ xs.drop (o + ([] : List Value).length) = xs by simp).symm ▸ h, ⟨rfl, rfl, rfl, Nat.le_refl _, fun _ _ _ => rfl⟩⟩
  | u :: r, o, w, xs, h, ho => by
    rw [List.length_cons] at ho
    obtain ⟨h1, h2⟩ := h.stored o u
    obtain ⟨h3, h4⟩ := own_putCells (N := N) r (o + 1) _ _ h1 (by rw [List.length_set]; omega)
    refine ⟨?_, grown_tr h2 h4⟩
    have e1 : (xs.set o u).take (o + 1) = xs.take o ++ [u] := by
      rw [List.take_add_one, List.take_set_of_le (Nat.le_refl o), List.getElem?_set_self (by omega)]
      rfl
    have e2 : (xs.set o u).drop (o + 1 + r.length) = xs.drop (o + (u :: r).length) := by
      rw [List.drop_set_of_lt (by omega), List.length_cons]
      congr 1
      omega
    rw [e1, e2, List.append_assoc (xs.take o)] at h3
    exact h3
end
section
variable {M : Type} {s : Sh M} {B : Nat} {w w' : World} {l : List M} {g n c i : Nat}
theorem flatR_set {x y : M} (hy : l[i]? = some y) : (l.set i x).flatMap s.f = (l.flatMap s.f).take (i * s.k) ++ s.f x ++ (l.flatMap s.f).drop (i * s.k + s.k) := by
  have hi := (List.getElem?_eq_some_iff.1 hy).1
  have e0 : l = l.take i ++ y :: l.drop (i + 1) := by
    have h1 : l[i] = y := (List.getElem?_eq_some_iff.1 hy).2
    rw [← h1, ← List.drop_eq_getElem_cons hi, List.take_append_drop]
  have hlt : (l.take i).length = i := by rw [List.length_take]; omega
  have hf : ((l.take i).flatMap s.f).length = i * s.k := by rw [flatK_len s.len, hlt]
  rw [List.set_eq_take_append_cons_drop, if_pos hi, List.flatMap_append, List.flatMap_cons, flatK_take s.len, List.append_assoc]
  congr 1
  congr 1
  conv => rhs; rw [e0, List.flatMap_append, List.flatMap_cons]
  rw [← List.append_assoc, List.drop_left' (by rw [List.length_append, hf, s.len])]
theorem OwnR.len (h : OwnR s B w (.slice (some ⟨g, 0, none⟩) n c) l) : l.length = n := by
  obtain ⟨A, c', e, _⟩ := h.reads
  injection e with _ e _
  exact e.symm
/-- an element is set -/
theorem OwnR.put {x y : M} (h : OwnR s B w (.slice (some ⟨g, 0, none⟩) n c) l) (hy : l[i]? = some y) (ho : ∀ p ∈ s.parts x, ReadsP w p) (hoff : ∀ p ∈ s.parts x, OffP g p) :
    OwnR s B (w.setCells g (i * s.k) (s.f x)) (.slice (some ⟨g, 0, none⟩) n c) (l.set i x) ∧ w.grownBy (w.setCells g (i * s.k) (s.f x)) (some g) := by
  have hi := (List.getElem?_eq_some_iff.1 hy).1
  have hn := h.len
  have hr := h.row
  rw [hn] at hr
  have hle : i * s.k + s.k ≤ (l.flatMap s.f).length := by
    rw [flatK_len s.len, ← Nat.succ_mul]
    exact Nat.mul_le_mul_right _ hi
  obtain ⟨h1, h2⟩ := own_putCells (N := 0) (s.f x) (i * s.k) w _ hr (by rw [s.len]; exact hle)
  rw [s.len, ← flatR_set hy] at h1
  have keep : ∀ {p}, ReadsP w p → OffP g p → ReadsP (w.setCells g (i * s.k) (s.f x)) p := fun {p} hp hg => readsP_apart hp hg (fun j hj hne => h2.block j hj (fun e => hne (Option.some.inj e))) h2.size
  refine ⟨⟨by rw [List.length_set, hn]; exact h1, fun m hm p hp => ?_, fun g' hg' m hm p hp => ?_⟩, h2⟩
  · rcases List.mem_or_eq_of_mem_set hm with hm | hm
    · exact keep (h.octs m hm p hp) (h.off g rfl m hm p hp)
    · subst hm; exact keep (ho p hp) (hoff p hp)
  · rcases List.mem_or_eq_of_mem_set hm with hm | hm
    · exact h.off g' hg' m hm p hp
    · subst hm; rw [← Option.some.inj hg']; exact hoff p hp
/-- the elements ahead alone -/
theorem OwnR.cut (h : OwnR s B w (.slice (some ⟨g, 0, none⟩) n c) l) (hi : i ≤ n) : OwnR s B w (.slice (some ⟨g, 0, none⟩) i c) (l.take i) := by
  have hn := h.len
  have hm : ∀ {m}, m ∈ l.take i → m ∈ l := fun {m} hm => List.mem_of_mem_take hm
  have hl : (l.take i).length = i := by rw [List.length_take]; omega
  refine ⟨?_, fun m h' => h.octs m (hm h'), fun g' hg' m h' => h.off g' hg' m (hm h')⟩
  rw [hl]
  rcases h.row.2 with ⟨e, _⟩ | ⟨g', cap, cur, e, h1, h2, h3, h4, h5, h6⟩
  · cases e
  · injection e with e1 e2 e3
    injection e1 with e1
    injection e1 with e1 _
    subst e1 e3
    refine ⟨by rw [flatK_len s.len, hl], .inr ⟨g, c, cur, rfl, h1, h2, by omega, h4, h5, ?_⟩⟩
    rw [flatK_take s.len, ← h6, List.take_take, Nat.min_eq_left (Nat.mul_le_mul_right s.k (by omega))]
/-- the rest of a row is cleared -/
theorem run_clearR {d : Nat} (h : OwnR s B w (.slice (some ⟨g, 0, none⟩) n c) l) (hi : i < n) (hz1 : s.z.cells.toList.all (·.oneCell') = true) :
    ∃ w', (∀ ty, (Builtin.clear_ #[s.S] ty #[.slice (some ⟨g, i * s.k, none⟩) (n - i) d]).run Tryz.prog w = .ok (.tuple #[]) w') ∧ OwnR s B w' (.slice (some ⟨g, 0, none⟩) i c) (l.take i) ∧ w.grownBy w' (some g) := by
  obtain ⟨i0, hi0, hz0, _, _⟩ := info_parts s.info
  have hn := h.len
  have hr := h.row
  rw [hn] at hr
  have hz : ∀ k, ((Builtin.zeroCells s.z.cells k).toList).length = k * s.k := fun k => by simp [Builtin.zeroCells, s.zk]
  have h1z : ∀ k, ∀ u ∈ (Builtin.zeroCells s.z.cells k).toList, u.oneCell' = true := fun k u hu => by
    simp only [Builtin.zeroCells, Array.toList_map, List.mem_map] at hu
    obtain ⟨j, _, rfl⟩ := hu
    have hlt : j % s.z.cells.size < s.z.cells.size := Nat.mod_lt _ (by rw [s.zk]; exact s.pos)
    rw [getElem!_pos s.z.cells _ hlt]
    exact List.all_eq_true.1 hz1 _ (by simp)
  have hst := run_storeCells_cells (P := Tryz.prog) g (i * s.k) (Builtin.zeroCells s.z.cells (n - i)).toList 0 w (fun j hj => by
    rw [hz] at hj
    have hb : i * s.k + (n - i) * s.k = n * s.k := by rw [← Nat.add_mul, Nat.add_sub_cancel' (Nat.le_of_lt hi)]
    rw [Nat.add_zero, hr.cellAt _ (by omega), List.getElem?_eq_getElem (by rw [hr.1]; omega)]
    rfl) (fun j _ => hr.frozenAt _) (h1z _)
  rw [Nat.add_zero] at hst
  have hcut := h.cut (Nat.le_of_lt hi)
  have hl : (l.take i).length = i := by rw [List.length_take]; omega
  have hcr := hcut.row
  rw [hl] at hcr
  obtain ⟨q1, q2⟩ := own_setCells (Builtin.zeroCells s.z.cells (n - i)).toList (i * s.k) w hcr (Nat.le_refl _)
  refine ⟨_, ?_, ⟨by rw [hl]; exact q1, fun m hm p hp => ?_, hcut.off⟩, q2⟩
  · intro ty
    obtain ⟨m, hm⟩ : ∃ m, n - i = m + 1 := ⟨n - i - 1, by omega⟩
    rw [hm] at hst ⊢
    simp [Builtin.clear_, run_underlying s.und, zeroValue, typeInfo, hi0, hz0, hst]
  · exact readsP_apart (hcut.octs m hm p hp) (hcut.off g rfl m hm p hp) (fun k hk hne => q2.block k hk (fun e => hne (Option.some.inj e))) q2.size
end
end Go.Proofs.YtmjikfeaopmejaaGreatDoor
/-
  Plain laws on lists of bytes: what stands between signs.
-/
namespace Go.Proofs.YtmjikfeaopmejaaGreatDoor
/-- what stands between the signs c -/
def splitC (c : UInt8) : List UInt8 → List (List UInt8)
  | [] => [[]]
  | b :: l => if b = c then [] :: splitC c l else match splitC c l with
    | [] => [[b]]
    | p :: ps => (b :: p) :: ps
theorem splitC_ne (c : UInt8) (l : List UInt8) : splitC c l ≠ [] := by
  cases l with
  | nil => simp [splitC]
  | cons b l => unfold splitC; split; · simp
                split <;> simp
theorem count_nil (c : UInt8) : Lib.count [] [c] = 0 := by rw [Lib.count_one]; rfl
theorem index_none_of_count (c : UInt8) (l : List UInt8) (h : Lib.index l [c] = -1) : Lib.count l [c] = 0 := Lib.count_miss h
theorem splitK_one (c : UInt8) : ∀ l : List UInt8, Lib.splitK [c] 0 (Lib.count l [c]) l = splitC c l
  | [] => by rw [count_nil]; rfl
  | b :: l => by
    have ih := splitK_one c l
    unfold splitC
    by_cases hb : b = c
    · subst hb
      rw [if_pos rfl, Lib.count_cons_eq, Nat.add_comm]
      have hi : Lib.index (b :: l) [b] = 0 := by unfold Lib.index; simp
      unfold Lib.splitK
      rw [hi]
      simp [ih]
    · rw [if_neg hb, Lib.count_cons_ne _ _ _ hb]
      cases hk : Lib.count l [c] with
      | zero =>
        rw [hk] at ih
        rw [← ih]; rfl
      | succ k =>
        rw [hk] at ih
        have hne : ¬ Lib.index l [c] = -1 := fun h => by rw [Lib.count_miss h] at hk; cases hk
        have hge := Lib.index_ge l [c]
        obtain ⟨i, hi⟩ : ∃ i : Nat, Lib.index l [c] = i := ⟨(Lib.index l [c]).toNat, by omega⟩
        have hib : Lib.index (b :: l) [c] = ((i + 1 : Nat) : Int) := by
          unfold Lib.index
          rw [if_neg (by simp [Ne.symm hb]), hi, if_neg (by simp)]; rfl
        have hn1 : ¬ (((i : Nat) : Int) == -1) = true := by simp
        have hn2 : ¬ (((i + 1 : Nat) : Int) == -1) = true := by simp; omega
        rw [← ih]
        unfold Lib.splitK
        rw [hi, hib, if_neg hn1, if_neg hn2]
        simp only [Int.toNat_natCast, List.length_cons, List.length_nil, Nat.add_zero, Nat.zero_add]
        rfl
def splitsB (c : UInt8) (s : ByteArray) : List ByteArray := Lib.splitB ⟨#[c]⟩ 0 (Lib.countB s ⟨#[c]⟩) s
theorem splitsB_data (c : UInt8) (s : ByteArray) : (splitsB c s).map (·.data.toList) = splitC c s.data.toList := by
  unfold splitsB
  rw [Lib.splitB_data]
  exact splitK_one c _
theorem splitsB_length (c : UInt8) (s : ByteArray) : (splitsB c s).length = Lib.countB s ⟨#[c]⟩ + 1 := Lib.splitB_all ⟨#[c]⟩ (by simp [ByteArray.size]) 0 _ s rfl
theorem splitB_size (sep : ByteArray) (save : Nat) : ∀ (k : Nat) (s q : ByteArray), q ∈ Lib.splitB sep save k s → q.size ≤ s.size
  | 0, s, q, h => by simp [Lib.splitB] at h; subst h; exact Nat.le_refl _
  | k + 1, s, q, h => by
    unfold Lib.splitB at h
    split at h
    · simp at h; subst h; exact Nat.le_refl _
    · rcases List.mem_cons.1 h with rfl | h
      · simp; omega
      · have := splitB_size sep save k _ q h
        simp at this; omega
theorem splitsB_size (c : UInt8) (s q : ByteArray) (h : q ∈ splitsB c s) : q.size ≤ s.size := splitB_size _ _ _ s q h
theorem mem_splitC (c b : UInt8) : ∀ l : List UInt8, b ∈ l → b = c ∨ ∃ p ∈ splitC c l, b ∈ p
  | [], h => by simp at h
  | a :: l, h => by
    unfold splitC
    by_cases ha : a = c
    · rw [if_pos ha]
      rcases List.mem_cons.1 h with rfl | h
      · exact .inl ha
      · rcases mem_splitC c b l h with h | ⟨p, hp, hb⟩
        · exact .inl h
        · exact .inr ⟨p, List.mem_cons_of_mem _ hp, hb⟩
    · rw [if_neg ha]
      rcases List.mem_cons.1 h with rfl | h
      · right
        cases splitC c l with
        | nil => exact ⟨[b], by simp, by simp⟩
        | cons p ps => exact ⟨b :: p, by simp, by simp⟩
      · rcases mem_splitC c b l h with h | ⟨p, hp, hb⟩
        · exact .inl h
        · right
          cases hs : splitC c l with
          | nil => rw [hs] at hp; cases hp
          | cons q qs =>
            rw [hs] at hp
            rcases List.mem_cons.1 hp with rfl | hp
            · exact ⟨a :: p, by simp, by simp [hb]⟩
            · exact ⟨p, by simp [hp], hb⟩
theorem toList_take (s : ByteArray) (k : Nat) (h : k = s.size) : s.data.toList.take k = s.data.toList := List.take_of_length_le (by simp [h])
theorem all_snoc_get {α : Type} (l : List α) (p : α → Bool) (k : Nat) (q : α) (h : l[k]? = some q) (ha : (l.take k).all p = true) (hq : p q = true) : (l.take (k + 1)).all p = true := by
  rw [List.take_add_one, h]; simp [ha, hq]
end Go.Proofs.YtmjikfeaopmejaaGreatDoor
/-
  name.plain, name.Norm, walked.
-/
namespace Go.Proofs.YtmjikfeaopmejaaGreatDoor
open Go.RowKit
def plainI (c : Int) : Bool := decide (97 ≤ c ∧ c ≤ 122 ∨ 65 ≤ c ∧ c ≤ 90 ∨ 48 ≤ c ∧ c ≤ 57 ∨ c = 46 ∨ c = 95 ∨ c = 45)
set_option maxHeartbeats 400000 in
theorem plain_any (c : Int) (h0 : 0 ≤ c) (h1 : c ≤ 255) (w : World) :
    Calls Tryz.prog 82 #[.int .u8 c] w fun e w' => e = .returned (.bool (plainI c)) ∧ w = w' := by
  go_enter Tryz.func82, Tryz.ntmps82
  go_wp2
  all_goals go_ret
  all_goals exact ⟨ret_bool (by unfold plainI; rw [Bool.eq_iff_iff]; simp <;> omega), rfl⟩
def plainB (c : UInt8) : Bool := plainI (c.toNat : Int)
def okPartL (p : List UInt8) : Bool := !(p == []) && p.all plainB
/-- parts with a slash between -/
def nameOK (l : List UInt8) : Bool := (splitC 47 l).all okPartL
def okPart (p : ByteArray) : Bool := okPartL p.data.toList
def slash : ByteArray := ⟨#[47]⟩
def inboxS : ByteArray := ⟨#[73, 78, 66, 79, 88]⟩
/-- the name that a text is -/
def normV (s : ByteArray) : ByteArray × Bool :=
  if 60 < s.size then (⟨#[]⟩, false) else if nameOK s.data.toList then (if (Lib.toUpperA s.data.toList == [73, 78, 66, 79, 88]) = true then (inboxS, true) else (s, true)) else (⟨#[]⟩, false)
theorem parts_ok (s : ByteArray) : (splitsB 47 s).all okPart = nameOK s.data.toList := by
  unfold nameOK; rw [← splitsB_data, List.all_map]; rfl
theorem normV_bad (s q : ByteArray) (hs : s.size ≤ 60) (k : Nat) (h : (splitsB 47 s)[k]? = some q) (hq : okPart q = false) : normV s = (⟨#[]⟩, false) := by
  have hm : q ∈ splitsB 47 s := List.mem_of_getElem? h
  have : nameOK s.data.toList = false := by
    rw [← parts_ok, List.all_eq_false]; exact ⟨q, hm, by simp [hq]⟩
  unfold normV
  rw [if_neg (by omega), this]; rfl
theorem normV_good (s : ByteArray) (hs : s.size ≤ 60) (h : nameOK s.data.toList = true) : normV s = (if (Lib.toUpperA s.data.toList == [73, 78, 66, 79, 88]) = true then (inboxS, true) else (s, true)) := by
  unfold normV
  rw [if_neg (by omega), if_pos h]
theorem okPart_bad (q : ByteArray) (j : Nat) (h : j < q.size) (hp : plainI (q[j].toNat : Int) = false) : okPart q = false := by
  unfold okPart okPartL
  have : q.data.toList.all plainB = false := by
    rw [List.all_eq_false]
    exact ⟨q[j], by rw [show q[j] = q.data.toList[j]'(by simpa using h) from rfl]; exact List.getElem_mem _, by unfold plainB; simp [hp]⟩
  rw [this]; simp
theorem plain_low (c : UInt8) (h : plainB c = true) : c.toNat < 128 := by
  unfold plainB plainI at h; simp at h; omega
theorem nameOK_ascii (l : List UInt8) (h : nameOK l = true) : ∀ (j : Nat) (b : UInt8), l[j]? = some b → b.toNat < 128 := by
  intro j b hb
  rcases mem_splitC 47 b l (List.mem_of_getElem? hb) with rfl | ⟨p, hp, hbp⟩
  · decide
  · have h1 := List.all_eq_true.1 h p hp
    unfold okPartL at h1
    simp only [Bool.and_eq_true] at h1
    exact plain_low b (List.all_eq_true.1 h1.2 b hbp)
set_option maxHeartbeats 1000000 in
theorem norm_any (s : ByteArray) (m : Int) (w : World) (hs : s.size ≤ 60) (hm : w.cell? ⟨0, 0, none⟩ = some (.int .i64 m)) :
    Calls Tryz.prog 62 #[.string s] w fun e w' => e = .returned (.tuple #[.string (normV s).1, .bool (normV s).2]) ∧ Below w.heap.size w w' := by
  have hcl := Lib.countB_le slash (by decide) s.size s (Nat.le_refl _)
  go_enter Tryz.func62, Tryz.ntmps62
  go_wp2_with fail
  refine (Tryz.strings_Split s slash m w (by omega) hm (by decide)).mono ?_
  rintro e w1 ⟨rfl, hw1⟩
  have hb1 : Below w.heap.size w w1 := by rw [hw1]; exact (Below.refl _ _).alloc (Nat.le_refl _) _
  have hk1 : Hid (Blk w1 w.heap.size 9 ((splitsB 47 s).map Value.string).toArray) := by rw [hw1]; exact Blk.new _ _ _
  clear hw1 hm
  have hpl : (splitsB 47 s).length = Lib.countB s slash + 1 := splitsB_length 47 s
  have Hpl := Lib.hid hpl; clear hpl
  go_wp2_with fail
  generalize hn : Lib.countB s slash = n at *
  clear hn
  go_loop [13] (fun i => ∃ k : Nat, i = .int .i64 k ∧ k ≤ n + 1 ∧ Hid (((splitsB 47 s).take k).all okPart = true)) (fun i => n + 1 - (intOf i).toNat)
  case atStart => exact ⟨0, rfl, by omega, rfl⟩
  case round =>
    obtain ⟨k, rfl, hk, hall⟩ := hrel
    by_cases hlt : k < n + 1
    · obtain ⟨q, hq⟩ : ∃ q, (splitsB 47 s)[k]? = some q := ⟨(splitsB 47 s)[k]'(by rw [Hpl.out]; exact hlt), List.getElem?_eq_getElem (by rw [Hpl.out]; exact hlt)⟩
      have hc := hk1.out.cell k
      rw [show (((splitsB 47 s).map Value.string).toArray)[k]? = some (.string q) from by simp [hq]] at hc
      have Hq := Lib.hid hq; clear hq
      have hqs : q.size ≤ 60 := by have := splitsB_size 47 s q (List.mem_of_getElem? Hq.out); omega
      rcases Bool.eq_false_or_eq_true q.toList.isEmpty with he | he
      · have hv := normV_bad s q hs k Hq.out (by unfold okPart okPartL; rw [← ByteArray.toList_eq]; simp [List.isEmpty_iff.1 he])
        have Hv := Lib.hid hv; clear hv
        go_wp2
        go_ret2
        exact ⟨by rw [Hv.out]; rfl, hb1⟩
      · go_wp2
        go_loop [21] (fun i => ∃ j : Nat, i = .int .i64 j ∧ j ≤ q.size ∧ Hid ((q.data.toList.take j).all plainB = true)) (fun i => q.size - (intOf i).toNat)
        case atStart => exact ⟨0, rfl, by omega, rfl⟩
        case round =>
          obtain ⟨j, rfl, hj, hpl⟩ := hrel
          by_cases hjl : j < q.size
          · rcases Bool.eq_false_or_eq_true (plainI (q[j].toNat : Int)) with hp | hp
            · go_wp2_with (go_at_call 82; refine (plain_any _ (by omega) (by have := q[j].toNat_lt; omega) _).mono ?_; rintro e w' ⟨rfl, rfl⟩; rw [hp])
              go_round
              case rel =>
                refine ⟨j + 1, by go_num, by omega, ?_⟩
                have h1 := hpl.out
                show (q.data.toList.take (j + 1)).all plainB = true
                rw [take_snoc q j hjl]; simp only [List.all_append, h1, Bool.true_and, List.all_cons, List.all_nil, Bool.and_true]; exact hp
              case measure => simp [intOf] <;> omega
            · have hv := normV_bad s q hs k Hq.out (okPart_bad q j hjl hp)
              have Hv := Lib.hid hv; clear hv
              go_wp2_with (go_at_call 82; refine (plain_any _ (by omega) (by have := q[j].toNat_lt; omega) _).mono ?_; rintro e w' ⟨rfl, rfl⟩; rw [hp])
              go_ret2
              exact ⟨by rw [Hv.out]; rfl, hb1⟩
          · obtain rfl : j = q.size := by omega
            go_wp2
            go_round
            case rel =>
              refine ⟨k + 1, by go_num, by omega, all_snoc_get _ _ _ _ Hq.out hall.out ?_⟩
              have h1 := hpl.out
              rw [toList_take q _ rfl] at h1
              unfold okPart okPartL
              rw [h1, ← ByteArray.toList_eq]
              cases hq : q.toList with
              | nil => rw [hq] at he; cases he
              | cons a b => rfl
            case measure => simp [intOf] <;> omega
    · have hall' : nameOK s.data.toList = true := by
        have := hall.out
        rw [List.take_of_length_le (by rw [Hpl.out]; omega), parts_ok] at this
        exact this
      have hasc := nameOK_ascii _ hall'
      have hv := normV_good s hs hall'
      have Hv := Lib.hid hv; clear hv hall'
      have Ha := Lib.hid hasc; clear hasc
      rcases Bool.eq_false_or_eq_true (Lib.toUpperA s.data.toList == [73, 78, 66, 79, 88]) with he | he
      · have Hw : Hid (normV s = (inboxS, true)) := by rw [Hv.out, if_pos he]; rfl
        clear Hv
        go_wp2_with fail
        refine (Tryz.strings_ToUpper_ascii s w1 (by omega) Ha.out).mono ?_
        rintro e w2 ⟨rfl, hb2⟩
        go_wp2
        go_ret2
        exact ⟨by rw [Hw.out]; rfl, hb1.trans (hb2.mono hb1.size)⟩
      · have Hw : Hid (normV s = (s, true)) := by rw [Hv.out, if_neg (by rw [he]; decide)]; rfl
        clear Hv
        go_wp2_with fail
        refine (Tryz.strings_ToUpper_ascii s w1 (by omega) Ha.out).mono ?_
        rintro e w2 ⟨rfl, hb2⟩
        go_wp2
        go_ret2
        exact ⟨by rw [Hw.out]; rfl, hb1.trans (hb2.mono hb1.size)⟩
theorem norm_long (s : ByteArray) (w : World) (hs : 60 < s.size) (hl : s.size ≤ 9223372036854775807) :
    Calls Tryz.prog 62 #[.string s] w fun e w' => e = .returned (.tuple #[.string (normV s).1, .bool (normV s).2]) ∧ Below w.heap.size w w' := by
  have Hv : Hid (normV s = (⟨#[]⟩, false)) := by show normV s = _; unfold normV; rw [if_pos hs]
  go_enter Tryz.func62, Tryz.ntmps62
  go_wp2
  go_ret2
  exact ⟨by rw [Hv.out]; rfl, Below.refl _ _⟩
/-- name.Norm at every text -/
theorem norm_all (s : ByteArray) (m : Int) (w : World) (hl : s.size ≤ 9223372036854775807) (hm : w.cell? ⟨0, 0, none⟩ = some (.int .i64 m)) :
    Calls Tryz.prog 62 #[.string s] w fun e w' => e = .returned (.tuple #[.string (normV s).1, .bool (normV s).2]) ∧ Below w.heap.size w w' := by
  by_cases hs : s.size ≤ 60
  · exact norm_any s m w hs hm
  · exact norm_long s w (by omega) hl
end Go.Proofs.YtmjikfeaopmejaaGreatDoor
/-
  cubbyref06.small, Alike, Norm, walked.
-/
namespace Go.Proofs.YtmjikfeaopmejaaGreatDoor
open Go.RowKit
def smallI (c : Int) : Int := if 65 ≤ c ∧ c ≤ 90 then c + 32 else c
theorem smallI_lo (c : Int) (h : 0 ≤ c) : 0 ≤ smallI c := by unfold smallI; split <;> omega
theorem smallI_hi (c : Int) (h : c ≤ 255) : smallI c ≤ 255 := by unfold smallI; split <;> omega
set_option maxHeartbeats 400000 in
theorem small_any (c : Int) (h0 : 0 ≤ c) (h1 : c ≤ 255) (w : World) :
    Calls Tryz.prog 73 #[.int .u8 c] w fun e w' => e = .returned (.int .u8 (smallI c)) ∧ w' = w := by
  go_enter Tryz.func73, Tryz.ntmps73
  go_wp2
  all_goals go_ret
  all_goals exact ⟨ret_int (by unfold smallI; split <;> omega), rfl⟩
def smallB (c : UInt8) : Int := smallI (c.toNat : Int)
def alikeL (a b : List UInt8) : Bool := a.map smallB == b.map smallB
theorem map_take_snoc (s : ByteArray) (k : Nat) (h : k < s.size) (f : UInt8 → Int) : (s.data.toList.take (k + 1)).map f = (s.data.toList.take k).map f ++ [f s[k]] := by
  rw [take_snoc s k h]; simp
theorem alike_diff (a b : ByteArray) (k : Nat) (h : k < a.size) (h' : k < b.size) (hne : smallB a[k] ≠ smallB b[k]) : alikeL a.data.toList b.data.toList = false := by
  unfold alikeL
  rw [beq_eq_false_iff_ne]
  intro e
  have := congrArg (fun l => l[k]?) e
  simp only [List.getElem?_map, List.getElem?_eq_getElem (l := a.data.toList) (i := k) (by simpa using h), List.getElem?_eq_getElem (l := b.data.toList) (i := k) (by simpa using h')] at this
  simp at this; exact hne this
set_option maxHeartbeats 400000 in
theorem alike_any (a b : ByteArray) (ha : a.size ≤ 9223372036854775807) (_hb : b.size ≤ 9223372036854775807) (w : World) :
    Calls Tryz.prog 74 #[.string a, .string b] w fun e w' => e = .returned (.bool (alikeL a.data.toList b.data.toList)) ∧ ∃ n, w' = w.drewN n := by
  by_cases hl : a.size = b.size
  · go_enter Tryz.func74, Tryz.ntmps74
    have hl' : ((a.size : Int) != (b.size : Int)) = false := by simp [hl]
    have HL := Lib.hid hl; clear hl
    go_wp2
    go_loopw [13] (fun i wr => ∃ (k n : Nat), i = .int .i64 k ∧ k ≤ a.size ∧ Hid ((a.data.toList.take k).map smallB = (b.data.toList.take k).map smallB) ∧ Hid (wr = w.drewN n)) (fun i _ => a.size - (intOf i).toNat)
    case atStart => exact ⟨0, 0, rfl, by omega, rfl, rfl⟩
    case round =>
      obtain ⟨k, n, rfl, hk, hm, hw⟩ := hrel
      by_cases hlt : k < a.size
      · have hlb : k < b.size := by have := HL.out; omega
        have a0 := smallI_lo (a[k].toNat : Int) (by omega)
        rcases Bool.eq_false_or_eq_true (smallI (a[k].toNat : Int) != smallI (b[k].toNat : Int)) with he | he
        · have Hf := Lib.hid (alike_diff a b k hlt hlb (by simpa [smallB] using he))
          go_wp2
          go_quiet ((go_at_call 73; exact Calls.quiet_of_same (small_any _ (by omega) (by first | (have := a[k].toNat_lt; omega) | (have := b[k].toNat_lt; omega)) _)))
          go_wp2
          go_ret
          exact ⟨ret_bool Hf.out.symm, _, by rw [hw.out, World.drewN_drewN]⟩
        · go_wp2
          go_quiet ((go_at_call 73; exact Calls.quiet_of_same (small_any _ (by omega) (by first | (have := a[k].toNat_lt; omega) | (have := b[k].toNat_lt; omega)) _)))
          go_wp2
          go_roundw
          case rel =>
            refine ⟨k + 1, _, by go_num, by omega, ?_, by show _ = _; rw [hw.out, World.drewN_drewN]⟩
            show List.map smallB _ = List.map smallB _
            rw [map_take_snoc a k hlt, map_take_snoc b k hlb, hm.out]
            congr 2
            simpa [smallB] using he
          case measure => simp [intOf] <;> omega
      · obtain rfl : k = a.size := by omega
        go_wp2
        go_ret
        refine ⟨ret_bool ?_, _, hw.out⟩
        have h1 := hm.out
        rw [toList_take a _ rfl, toList_take b _ HL.out] at h1
        unfold alikeL
        simp [h1]
  · have hl' : ((a.size : Int) != (b.size : Int)) = true := by simp; omega
    have Hf : Hid (alikeL a.data.toList b.data.toList = false) := by
      show alikeL _ _ = false
      unfold alikeL
      rw [beq_eq_false_iff_ne]
      intro e
      have := congrArg List.length e
      simp at this
      exact hl this
    clear hl
    go_enter Tryz.func74, Tryz.ntmps74
    go_wp2
    go_ret
    exact ⟨ret_bool Hf.out.symm, 0, rfl⟩
/-- the reference's scan: at a part's beginning, or inside one -/
def nameScan : Bool → List UInt8 → Bool
  | st, [] => !st
  | st, c :: l => if c = 47 then !st && nameScan true l else plainB c && nameScan false l
def refNormV (s : ByteArray) : ByteArray × Bool :=
  if nameScan true s.data.toList && decide (s.size ≤ 60) then (if alikeL s.data.toList [105, 110, 98, 111, 120] = true then (inboxS, true) else (s, true)) else (⟨#[]⟩, false)
theorem scan_slash (st : Bool) (c : UInt8) (l : List UInt8) (h : c = 47) : nameScan st (c :: l) = (!st && nameScan true l) := by rw [nameScan, if_pos h]
theorem scan_other (st : Bool) (c : UInt8) (l : List UInt8) (h : c ≠ 47) : nameScan st (c :: l) = (plainB c && nameScan false l) := by rw [nameScan, if_neg h]
theorem drop_cons (p : ByteArray) (i : Nat) (h : i < p.size) : p.data.toList.drop i = p[i] :: p.data.toList.drop (i + 1) := by
  rw [List.drop_eq_getElem_cons (by simpa using h)]; rfl
theorem u8_of_int (c : UInt8) (n : Nat) (hn : n < 256) (h : (c.toNat : Int) = n) : c = UInt8.ofNat n := by
  apply UInt8.toNat_inj.1; simp; omega
set_option maxHeartbeats 1000000 in
theorem refNorm_any (s : ByteArray) (hs : s.size ≤ 9223372036854775807) (w : World) :
    Calls Tryz.prog 57 #[.string s] w fun e w' => e = .returned (.tuple #[.string (refNormV s).1, .bool (refNormV s).2]) ∧ ∃ n, w' = w.drewN n := by
  go_enter Tryz.func57, Tryz.ntmps57
  go_wp2
  go_loop [4, 9] (fun last i => ∃ (k : Nat) (c : Int), last = .int .u8 c ∧ 0 ≤ c ∧ c ≤ 255 ∧ i = .int .i64 k ∧ k ≤ s.size ∧ Hid (nameScan true s.data.toList = nameScan (c == 47) (s.data.toList.drop k))) (fun _ i => s.size - (intOf i).toNat)
  case atStart => exact ⟨0, 47, rfl, by omega, by omega, rfl, by omega, rfl⟩
  case round =>
    obtain ⟨k, c, rfl, hc0, hc1, rfl, hk, hsc⟩ := hrel
    by_cases hlt : k < s.size
    · have hb := s[k].toNat_lt
      have hd := drop_cons s k hlt
      have Hd := Lib.hid hd; clear hd
      rcases Bool.eq_false_or_eq_true ((s[k].toNat : Int) == 47) with h47 | h47
      · rcases Bool.eq_false_or_eq_true (c == 47) with hl | hl
        · have hv : refNormV s = (⟨#[]⟩, false) := by
            unfold refNormV
            rw [hsc.out, Hd.out, scan_slash _ _ _ (u8_of_int _ 47 (by omega) (by simpa using h47)), hl]; rfl
          have Hv := Lib.hid hv; clear hv
          go_wp2
          go_ret2
          exact ⟨by rw [Hv.out]; rfl, 0, rfl⟩
        · have hv : nameScan true s.data.toList = nameScan true (s.data.toList.drop (k + 1)) := by
            rw [hsc.out, Hd.out, scan_slash _ _ _ (u8_of_int _ 47 (by omega) (by simpa using h47)), hl]; rfl
          have Hv := Lib.hid hv; clear hv
          have h47' : ((s[k].toNat : Int) != 47) = false := by rw [bne, h47]; rfl
          go_wp2
          go_round
          case rel => exact ⟨k + 1, _, rfl, by omega, by omega, by go_num, by omega, Hv.out.trans (by congr 1; first | rfl | (exact h47.symm))⟩
          case measure => simp [intOf] <;> omega
      · have hs47 : s[k] ≠ 47 := fun e => by rw [e] at h47; exact absurd h47 (by decide)
        have h47' : ((s[k].toNat : Int) != 47) = true := by rw [bne, h47]; rfl
        have Kg : Hid (plainB s[k] = true → nameScan true s.data.toList = nameScan false (s.data.toList.drop (k + 1))) := fun hp => by
          rw [hsc.out, Hd.out, scan_other _ _ _ hs47, hp]; rfl
        have Kb : Hid (plainB s[k] = false → refNormV s = (⟨#[]⟩, false)) := fun hp => by
          unfold refNormV
          rw [hsc.out, Hd.out, scan_other _ _ _ hs47, hp]; rfl
        unfold plainB at Kg Kb
        clear hs47 Hd
        have key : (plainI (s[k].toNat : Int) = true ∧ (
             (((s[k].toNat : Int) != 46) = false) ∨ (((s[k].toNat : Int) != 46) = true ∧ ((s[k].toNat : Int) != 95) = false) ∨ (((s[k].toNat : Int) != 46) = true ∧ ((s[k].toNat : Int) != 95) = true ∧ ((s[k].toNat : Int) != 45) = false) ∨
             (((s[k].toNat : Int) != 46) = true ∧ ((s[k].toNat : Int) != 95) = true ∧ ((s[k].toNat : Int) != 45) = true ∧ 48 ≤ (s[k].toNat : Int) ∧ (s[k].toNat : Int) ≤ 57) ∨
             (((s[k].toNat : Int) != 46) = true ∧ ((s[k].toNat : Int) != 95) = true ∧ ((s[k].toNat : Int) != 45) = true ∧ (s[k].toNat : Int) < 48 ∧ 97 ≤ smallI (s[k].toNat : Int) ∧ smallI (s[k].toNat : Int) ≤ 122) ∨
             (((s[k].toNat : Int) != 46) = true ∧ ((s[k].toNat : Int) != 95) = true ∧ ((s[k].toNat : Int) != 45) = true ∧ 57 < (s[k].toNat : Int) ∧ 97 ≤ smallI (s[k].toNat : Int) ∧ smallI (s[k].toNat : Int) ≤ 122))) ∨
            (plainI (s[k].toNat : Int) = false ∧ ((s[k].toNat : Int) != 46) = true ∧ ((s[k].toNat : Int) != 95) = true ∧ ((s[k].toNat : Int) != 45) = true ∧ ((s[k].toNat : Int) < 48 ∨ 57 < (s[k].toNat : Int)) ∧ (smallI (s[k].toNat : Int) < 97 ∨ 122 < smallI (s[k].toNat : Int))) := by
          unfold plainI smallI; simp only [bne_iff_ne, bne_eq_false_iff_eq, decide_eq_true_eq, decide_eq_false_iff_not]
          split <;> omega
        rcases key with ⟨hp, hk⟩ | ⟨hp, k1, k2, k3, hk, hk2⟩
        · have hv := Kg.out hp
          have Hv := Lib.hid hv; clear hv Kg Kb
          have Hp := Lib.hid hp; clear hp
          rcases hk with k1 | ⟨k1, k2⟩ | ⟨k1, k2, k3⟩ | ⟨k1, k2, k3, k4, k5⟩ | ⟨k1, k2, k3, k4, k5, k6⟩ | ⟨k1, k2, k3, k4, k5, k6⟩
          all_goals
            go_wp2_with (go_at_call 73; refine (small_any _ (by omega) (by omega) _).mono ?_; rintro e w' ⟨rfl, rfl⟩)
          all_goals
            go_round
            case rel => exact ⟨k + 1, _, rfl, by omega, by omega, by go_num, by omega, Hv.out.trans (by congr 1; first | rfl | (exact h47.symm))⟩
            case measure => simp [intOf] <;> omega
        · have hv := Kb.out hp
          have Hv := Lib.hid hv; clear hv Kg Kb
          have Hp := Lib.hid hp; clear hp
          have hk4 : ((s[k].toNat : Int) < 48 ∧ decide (48 ≤ (s[k].toNat : Int)) = false) ∨ (57 < (s[k].toNat : Int) ∧ decide ((s[k].toNat : Int) ≤ 57) = false) := by simp only [decide_eq_false_iff_not]; omega
          have hk5 : (smallI (s[k].toNat : Int) < 97 ∧ decide (97 ≤ smallI (s[k].toNat : Int)) = false) ∨ (122 < smallI (s[k].toNat : Int) ∧ decide (smallI (s[k].toNat : Int) ≤ 122) = false) := by simp only [decide_eq_false_iff_not]; omega
          clear hk hk2
          rcases hk4 with ⟨k4, k6⟩ | ⟨k4, k6⟩ <;> rcases hk5 with ⟨k5, k7⟩ | ⟨k5, k7⟩
          all_goals
            go_wp2_with (go_at_call 73; refine (small_any _ (by omega) (by omega) _).mono ?_; rintro e w' ⟨rfl, rfl⟩)
          all_goals
            go_ret2
            exact ⟨by rw [Hv.out]; rfl, 0, rfl⟩
    · obtain rfl : k = s.size := by omega
      have hnil : s.data.toList.drop s.size = [] := List.drop_eq_nil_of_le (by simp)
      have hsc' := hsc.out
      rw [hnil] at hsc'
      clear hsc hnil
      rcases Bool.eq_false_or_eq_true (c == 47) with hl | hl
      · have hv : refNormV s = (⟨#[]⟩, false) := by
          unfold refNormV
          rw [hsc', hl]; rfl
        have Hv := Lib.hid hv; clear hv hsc'
        go_wp2
        go_ret2
        exact ⟨by rw [Hv.out]; rfl, 0, rfl⟩
      · by_cases h60 : 60 < s.size
        · have hv : refNormV s = (⟨#[]⟩, false) := by
            unfold refNormV
            rw [hsc', hl, show decide (s.size ≤ 60) = false from by simp; omega]; rfl
          have Hv := Lib.hid hv; clear hv hsc'
          go_wp2
          go_ret2
          exact ⟨by rw [Hv.out]; rfl, 0, rfl⟩
        · have hok : (nameScan true s.data.toList && decide (s.size ≤ 60)) = true := by
            rw [hsc', hl, show decide (s.size ≤ 60) = true from by simp; omega]; rfl
          have Hok := Lib.hid hok; clear hok hsc'
          rcases Bool.eq_false_or_eq_true (alikeL s.data.toList [105, 110, 98, 111, 120]) with ha | ha
          · have Hv : Hid (refNormV s = (inboxS, true)) := by show refNormV s = _; unfold refNormV; rw [Hok.out, if_pos rfl, if_pos ha]
            go_wp2_with fail
            refine (alike_any s ⟨#[105, 110, 98, 111, 120]⟩ (by omega) (by decide) _).mono ?_
            rintro e w1 ⟨rfl, n, hw1⟩
            have Hw := Lib.hid hw1; clear hw1
            rw [ha]
            have Ha := Lib.hid ha; clear ha
            go_wp2
            go_ret2
            exact ⟨by rw [Hv.out]; rfl, n, Hw.out⟩
          · have Hv : Hid (refNormV s = (s, true)) := by show refNormV s = _; unfold refNormV; rw [Hok.out, if_pos rfl, if_neg (by rw [ha]; decide)]
            go_wp2_with fail
            refine (alike_any s ⟨#[105, 110, 98, 111, 120]⟩ (by omega) (by decide) _).mono ?_
            rintro e w1 ⟨rfl, n, hw1⟩
            have Hw := Lib.hid hw1; clear hw1
            rw [ha]
            have Ha := Lib.hid ha; clear ha
            go_wp2
            go_ret2
            exact ⟨by rw [Hv.out]; rfl, n, Hw.out⟩
end Go.Proofs.YtmjikfeaopmejaaGreatDoor
/-
  The program's names are the document's (plain values; lines of NameNorms).
-/
namespace Go.Proofs.YtmjikfeaopmejaaGreatDoor
theorem scan_ok : ∀ l : List UInt8, nameScan true l = nameOK l ∧ nameScan false l = (match splitC 47 l with | [] => true | p :: ps => p.all plainB && ps.all okPartL)
  | [] => by constructor <;> rfl
  | c :: l => by
    obtain ⟨ih1, ih2⟩ := scan_ok l
    unfold nameOK at ih1 ⊢
    by_cases h : c = 47
    · subst h
      rw [scan_slash _ _ _ rfl, scan_slash _ _ _ rfl]
      have e : splitC 47 (47 :: l) = [] :: splitC 47 l := by rw [splitC]; simp
      rw [e]
      exact ⟨rfl, by simp [ih1]⟩
    · rw [scan_other _ _ _ h, scan_other _ _ _ h, ih2]
      have e : splitC 47 (c :: l) = (match splitC 47 l with | [] => [[c]] | p :: ps => (c :: p) :: ps) := by rw [splitC, if_neg h]; try (cases splitC 47 l <;> rfl)
      rw [e]
      cases splitC 47 l with
      | nil => simp [okPartL]
      | cons p ps => simp [okPartL, Bool.and_assoc]
theorem byte_all (P : UInt8 → Bool) (h : (List.range 256).all (fun n => P (UInt8.ofNat n)) = true) (c : UInt8) : P c = true := by
  have := List.all_eq_true.1 h c.toNat (by simp; exact c.toNat_lt)
  simpa using this
theorem upper_small (c : UInt8) : (((Lib.upperB c == 73) == (smallB c == 105)) && ((Lib.upperB c == 78) == (smallB c == 110)) && ((Lib.upperB c == 66) == (smallB c == 98)) && ((Lib.upperB c == 79) == (smallB c == 111)) && ((Lib.upperB c == 88) == (smallB c == 120))) = true :=
  byte_all (fun c => ((Lib.upperB c == 73) == (smallB c == 105)) && ((Lib.upperB c == 78) == (smallB c == 110)) && ((Lib.upperB c == 66) == (smallB c == 98)) && ((Lib.upperB c == 79) == (smallB c == 111)) && ((Lib.upperB c == 88) == (smallB c == 120))) (by decide +kernel) c
theorem inbox_same (l : List UInt8) : (Lib.toUpperA l == [73, 78, 66, 79, 88]) = alikeL l [105, 110, 98, 111, 120] := by
  unfold Lib.toUpperA alikeL
  match l with
  | [] => rfl
  | [a] => simp
  | [a, b] => simp
  | [a, b, c] => simp
  | [a, b, c, d] => simp
  | a :: b :: c :: d :: e :: f :: l => simp
  | [a, b, c, d, e] =>
    have ha := upper_small a
    have hb := upper_small b
    have hc := upper_small c
    have hd := upper_small d
    have he := upper_small e
    simp only [Bool.and_eq_true, beq_iff_eq] at ha hb hc hd he
    have k1 : smallB 105 = 105 := by decide
    have k2 : smallB 110 = 110 := by decide
    have k3 : smallB 98 = 98 := by decide
    have k4 : smallB 111 = 111 := by decide
    have k5 : smallB 120 = 120 := by decide
    simp only [List.map_cons, List.map_nil, k1, k2, k3, k4, k5, List.cons_beq_cons]
    rw [ha.1.1.1.1, hb.1.1.1.2, hc.1.1.2, hd.1.2, he.2]
    rfl
theorem norm_same (s : ByteArray) : normV s = refNormV s := by
  unfold normV refNormV
  rw [(scan_ok _).1, inbox_same]
  by_cases h : 60 < s.size
  · rw [if_pos h, show decide (s.size ≤ 60) = false from by simp; omega]; simp
  · rw [if_neg h, show decide (s.size ≤ 60) = true from by simp; omega]; simp
theorem norm_again (s : ByteArray) (h : (normV s).2 = true) : normV (normV s).1 = ((normV s).1, true) := by
  unfold normV at h ⊢
  by_cases h1 : 60 < s.size
  · rw [if_pos h1] at h; cases h
  · rw [if_neg h1] at h ⊢
    by_cases h2 : nameOK s.data.toList = true
    · rw [if_pos h2] at h ⊢
      by_cases h3 : (Lib.toUpperA s.data.toList == [73, 78, 66, 79, 88]) = true
      · rw [if_pos h3]
        decide +kernel
      · rw [if_neg h3]
        show (if 60 < s.size then _ else _) = _
        rw [if_neg h1, if_pos h2, if_neg h3]
    · rw [if_neg h2] at h; cases h
theorem normV_size (s : ByteArray) : (normV s).1.size ≤ 60 := by
  unfold normV
  split
  · decide
  · split
    · split
      · decide
      · simp; omega
    · decide
end Go.Proofs.YtmjikfeaopmejaaGreatDoor
/-
  Walk: is a text a name, as it should be (the document's)?
-/
namespace Go.Proofs.YtmjikfeaopmejaaGreatDoor
open Go.RowKit
def nameIs (s : ByteArray) : Bool := (normV s).2 && ((normV s).1.toList == s.toList)
theorem nameIs_size {s : ByteArray} (h : nameIs s = true) : s.size ≤ 60 := by
  unfold nameIs at h
  simp only [Bool.and_eq_true, beq_iff_eq] at h
  have h2 := h.2
  rw [ByteArray.toList_eq, ByteArray.toList_eq] at h2
  have h3 := normV_size s
  have : (normV s).1.size = s.size := by
    have := congrArg List.length h2
    simpa using this
  omega
/-- the table's cell that the search reads -/
def MaxCell (w : World) : Prop := ∃ m, w.cell? ⟨0, 0, none⟩ = some (.int .i64 m)
theorem MaxCell.below {w w' : World} {B : Nat} (h : MaxCell w) (hg : 0 < B) (hb : Below B w w') : MaxCell w' := by
  obtain ⟨m, hm⟩ := h
  exact ⟨m, (hb.cell hg).trans hm⟩
set_option maxRecDepth 100000 in
theorem refNamed_any (s : ByteArray) (hs : s.size ≤ 9223372036854775807) (w : World) :
    Calls Tryz.prog 27 #[.string s] w fun e w' => e = .returned (.bool (nameIs s)) ∧ Below w.heap.size w w' := by
  have R := Lib.hid (refNorm_any s hs w)
  rw [← norm_same] at R
  unfold nameIs
  generalize (normV s).1 = t at *
  generalize (normV s).2 = ok at *
  go_enter Tryz.func27, Tryz.ntmps27
  go_wp2_with fail
  refine R.out.mono ?_
  rintro e w1 ⟨rfl, n, rfl⟩
  have hb := below_drewN (Below.refl w.heap.size w) n
  generalize w.drewN n = w1 at *
  cases ok with
  | true =>
    go_wp2
    go_ret
    exact ⟨rfl, hb⟩
  | false =>
    go_wp2
    go_ret
    exact ⟨rfl, hb⟩
end Go.Proofs.YtmjikfeaopmejaaGreatDoor
/-
  Plain laws of days: the day that so many days since 1970 is, and back.
-/
namespace Go.Proofs.YtmjikfeaopmejaaGreatDoor
/-- days ahead of a year of an era that begins in March -/
def cS (y : Nat) : Nat := 365 * y + y / 4 - y / 100
def cF (o : Nat) : Nat := o - o / 1460 + o / 36524 - o / 146096
theorem cF_mono (a b : Nat) (h : a ≤ b) (hb : b ≤ 146095) : cF a ≤ cF b := by
  unfold cF
  have e1 : a / 146096 = 0 := Nat.div_eq_of_lt (by omega)
  have e2 : b / 146096 = 0 := Nat.div_eq_of_lt (by omega)
  have h2 : a / 36524 ≤ b / 36524 := Nat.div_le_div_right h
  have h3 : a - a / 1460 ≤ b - b / 1460 := by omega
  omega
theorem cS_table : ((List.range 400).all fun y => cF (cS y) / 365 == y && cF (cS (y + 1) - 1) / 365 == y && decide (cS y < cS (y + 1))) = true := by decide +kernel
theorem cS_find (o : Nat) : ∀ n, o < cS n → ∃ y, y < n ∧ cS y ≤ o ∧ o < cS (y + 1)
  | 0, h => by simp [cS] at h
  | n + 1, h => by
    by_cases hn : o < cS n
    · obtain ⟨y, h1, h2, h3⟩ := cS_find o n hn
      exact ⟨y, by omega, h2, h3⟩
    · exact ⟨n, by omega, by omega, h⟩
theorem cS_step (a : Nat) : cS a ≤ cS (a + 1) := by unfold cS; omega
theorem cS_mono (a b : Nat) (h : a ≤ b) : cS a ≤ cS b := by
  obtain ⟨k, rfl⟩ : ∃ k, b = a + k := ⟨b - a, by omega⟩
  clear h
  induction k with
  | zero => exact Nat.le_refl _
  | succ k ih => exact Nat.le_trans ih (cS_step _)
theorem yoe_of (o y : Nat) (hy : y < 400) (h1 : cS y ≤ o) (h2 : o < cS (y + 1)) : cF o / 365 = y := by
  have ht := List.all_eq_true.1 cS_table y (by simpa using hy)
  simp only [Bool.and_eq_true, beq_iff_eq, decide_eq_true_eq] at ht
  have hm : cS (y + 1) ≤ cS 400 := cS_mono _ _ (by omega)
  have h400 : cS 400 = 146096 := by decide
  have a1 := cF_mono (cS y) o h1 (by omega)
  have a2 := cF_mono o (cS (y + 1) - 1) (by omega) (by omega)
  omega
theorem yoe_spec (o : Nat) (h : o < 146097) : cF o / 365 ≤ 399 ∧ cS (cF o / 365) ≤ o ∧ (o < cS (cF o / 365 + 1) ∨ (cF o / 365 = 399 ∧ o = 146096)) := by
  by_cases h1 : o = 146096
  · subst h1; decide
  · have h400 : cS 400 = 146096 := by decide
    obtain ⟨y, hy, a1, a2⟩ := cS_find o 400 (by omega)
    rw [yoe_of o y hy a1 a2]
    exact ⟨by omega, a1, .inl a2⟩
def leapN (y : Int) : Bool := (y % 4 == 0) && ((y % 100 != 0) || (y % 400 == 0))
/-- the days of a month -/
def dimN (y m : Int) : Int := if m = 2 then (if leapN y then 29 else 28) else if m = 4 ∨ m = 6 ∨ m = 9 ∨ m = 11 then 30 else 31
theorem leap_table : ((List.range 400).all fun y => decide (cS (y + 1) ≤ cS y + 365) || leapN ((y : Int) + 1)) = true := by decide +kernel
theorem leap_back : ((List.range 400).all fun y => !leapN ((y : Int) + 1) || decide (cS y + 365 < cS (y + 1)) || y == 399) = true := by decide +kernel
theorem cS_year (a : Nat) : cS a + 365 ≤ cS (a + 1) := by unfold cS; omega
/-- month and day of a day of such a year -/
theorem mp_table : ((List.range 366).all fun d => decide ((5 * d + 2) / 153 ≤ 11) && decide ((153 * ((5 * d + 2) / 153) + 2) / 5 ≤ d) &&
    decide (d + 1 - (153 * ((5 * d + 2) / 153) + 2) / 5 ≤ (if (5 * d + 2) / 153 = 11 then 29 else if (5 * d + 2) / 153 = 1 ∨ (5 * d + 2) / 153 = 3 ∨ (5 * d + 2) / 153 = 6 ∨ (5 * d + 2) / 153 = 8 then 30 else 31)) &&
    decide ((5 * d + 2) / 153 = 11 → d + 1 - (153 * ((5 * d + 2) / 153) + 2) / 5 = 29 → d = 365)) = true := by decide +kernel
theorem mp_back : ((List.range 12).all fun m => (List.range 31).all fun d => !(decide (d < (if m = 11 then 29 else if m = 1 ∨ m = 3 ∨ m = 6 ∨ m = 8 then 30 else 31))) || ((5 * ((153 * m + 2) / 5 + d) + 2) / 153 == m && decide ((153 * m + 2) / 5 + d ≤ 365) && decide ((153 * m + 2) / 5 + d = 365 → m = 11 ∧ d = 28))) = true := by decide +kernel
/-- days since 1970 of a day -/
def sinceN (y m d : Int) : Int :=
  let y' := if m ≤ 2 then y - 1 else y
  let m' := if m ≤ 2 then m + 12 else m
  365 * y' + y' / 4 - y' / 100 + y' / 400 + (153 * (m' - 3) + 2) / 5 + d - 1 - 719468
def Valid (y m d : Int) : Prop := 1 ≤ m ∧ m ≤ 12 ∧ 1 ≤ d ∧ d ≤ dimN y m
theorem era_split (e q : Int) (h0 : 0 ≤ q) (h1 : q ≤ 399) : 365 * (q + e * 400) + (q + e * 400) / 4 - (q + e * 400) / 100 + (q + e * 400) / 400 = 146097 * e + (365 * q + q / 4 - q / 100) := by omega
/-- the steps of date.civil -/
def cEra (n : Int) : Int := (n + 719468) / 146097
def cOf (n : Int) : Int := n + 719468 - cEra n * 146097
def cYoe (n : Int) : Int := (cOf n - cOf n / 1460 + cOf n / 36524 - cOf n / 146096) / 365
def cDay (n : Int) : Int := cOf n - (365 * cYoe n + cYoe n / 4 - cYoe n / 100)
def cMp (n : Int) : Int := (5 * cDay n + 2) / 153
def civY (n : Int) : Int := if cMp n < 10 then cYoe n + cEra n * 400 else cYoe n + cEra n * 400 + 1
def civM (n : Int) : Int := if cMp n < 10 then cMp n + 3 else cMp n - 9
def civD (n : Int) : Int := cDay n - (153 * cMp n + 2) / 5 + 1
theorem cOf_nat (n : Int) : ∃ o : Nat, cOf n = o ∧ o < 146097 := by
  refine ⟨(cOf n).toNat, ?_, ?_⟩ <;> unfold cOf cEra <;> omega
theorem cYoe_nat (n : Int) (o : Nat) (ho : cOf n = o) (h : o < 146097) : cYoe n = ((cF o / 365 : Nat) : Int) := by
  unfold cYoe cF
  rw [ho]
  have h1 : o / 1460 ≤ o := Nat.div_le_self _ _
  have h2 : o / 146096 ≤ o - o / 1460 + o / 36524 := by omega
  omega
/-- what the steps come to: the year of the era and the day of that year -/
theorem day_spec (n : Int) : ∃ y d : Nat, cYoe n = y ∧ cDay n = d ∧ y ≤ 399 ∧ d ≤ 365 ∧ (d = 365 → leapN ((y : Int) + 1) = true) ∧ cOf n = (cS y : Int) + d := by
  obtain ⟨o, ho, hlt⟩ := cOf_nat n
  have hy := cYoe_nat n o ho hlt
  obtain ⟨h1, h2, h3⟩ := yoe_spec o hlt
  generalize cF o / 365 = y at *
  have hd : cDay n = ((o - cS y : Nat) : Int) := by
    unfold cDay
    rw [ho, hy]
    unfold cS at h2 ⊢
    omega
  refine ⟨y, o - cS y, hy, hd, h1, ?_, ?_, by rw [ho]; omega⟩
  · rcases h3 with h3 | ⟨rfl, rfl⟩
    · unfold cS at *; omega
    · decide
  · intro h365
    rcases h3 with h3 | ⟨rfl, rfl⟩
    · have ht := List.all_eq_true.1 leap_table y (by simp; omega)
      rw [Bool.or_eq_true, decide_eq_true_eq] at ht
      rcases ht with ht | ht
      · omega
      · exact ht
    · decide
theorem cDay_bd (n : Int) : 0 ≤ cDay n ∧ cDay n ≤ 365 := by
  obtain ⟨y, d, _, hd, _, h, _⟩ := day_spec n
  omega
theorem cMp_bd (n : Int) : 0 ≤ cMp n ∧ cMp n ≤ 11 := by
  have := cDay_bd n
  unfold cMp; omega
theorem leap_era (y e : Int) : leapN (y + e * 400) = leapN y := by
  unfold leapN
  have h1 : (y + e * 400) % 4 = y % 4 := by omega
  have h2 : (y + e * 400) % 100 = y % 100 := by omega
  have h3 : (y + e * 400) % 400 = y % 400 := by omega
  rw [h1, h2, h3]
theorem civ_valid (n : Int) : Valid (civY n) (civM n) (civD n) := by
  obtain ⟨y, d, hy, hd, hy1, hd1, hl, _⟩ := day_spec n
  have ht := List.all_eq_true.1 mp_table d (by simp; omega)
  simp only [Bool.and_eq_true, decide_eq_true_eq] at ht
  obtain ⟨⟨⟨t1, t2⟩, t3⟩, t4⟩ := ht
  have hm : cMp n = (((5 * d + 2) / 153 : Nat) : Int) := by unfold cMp; rw [hd]; omega
  have hD : civD n = ((d + 1 - (153 * ((5 * d + 2) / 153) + 2) / 5 : Nat) : Int) := by unfold civD; rw [hd, hm]; omega
  have hle := leap_era ((y : Int) + 1) (cEra n)
  generalize (5 * d + 2) / 153 = m at *
  generalize hq : d + 1 - (153 * m + 2) / 5 = q at *
  unfold Valid civY civM
  rw [hm, hD, hy]
  have hq1 : 1 ≤ q := by omega
  unfold dimN
  by_cases c1 : (m : Int) < 10
  · rw [if_pos c1, if_pos c1, if_neg (by omega)]
    refine ⟨by omega, by omega, by omega, ?_⟩
    rw [if_neg (by omega)] at t3
    split at t3 <;> split <;> omega
  · rw [if_neg c1, if_neg c1]
    refine ⟨by omega, by omega, by omega, ?_⟩
    by_cases c2 : m = 11
    · subst c2
      rw [if_pos rfl] at t3
      rw [if_pos (by omega)]
      by_cases c3 : q = 29
      · have := hl (t4 rfl c3)
        rw [show (y : Int) + cEra n * 400 + 1 = (y : Int) + 1 + cEra n * 400 from by omega, hle, this]
        simp; omega
      · split <;> omega
    · rw [if_neg c2] at t3
      rw [if_neg (by omega)]
      split at t3 <;> split <;> omega
theorem since_civ (n : Int) : sinceN (civY n) (civM n) (civD n) = n := by
  obtain ⟨y, d, hy, hd, hy1, hd1, _, ho⟩ := day_spec n
  have hb := cMp_bd n
  have he := era_split (cEra n) (y : Int) (by omega) (by omega)
  have hS : (cS y : Int) = 365 * (y : Int) + (y : Int) / 4 - (y : Int) / 100 := by unfold cS; omega
  unfold cOf at ho
  unfold sinceN civY civM civD
  rw [hd, hy]
  generalize cMp n = m at *
  generalize cEra n = e at *
  by_cases c1 : m < 10
  · simp only [c1, if_true]
    rw [if_neg (by omega), if_neg (by omega), show m + 3 - 3 = m from by omega]
    omega
  · simp only [c1, if_false]
    rw [if_pos (by omega), if_pos (by omega), show m - 9 + 12 - 3 = m from by omega, show (y : Int) + e * 400 + 1 - 1 = (y : Int) + e * 400 from by omega]
    omega
theorem civ_since (y m d : Int) (h : Valid y m d) : civY (sinceN y m d) = y ∧ civM (sinceN y m d) = m ∧ civD (sinceN y m d) = d := by
  obtain ⟨h1, h2, h3, h4⟩ := h
  -- the year and the month that begin in March
  obtain ⟨y', mp, hy', hmp, hmp11, hdef⟩ : ∃ (y' : Int) (mp : Nat), y' = (if m ≤ 2 then y - 1 else y) ∧ (mp : Int) = (if m ≤ 2 then m + 9 else m - 3) ∧ mp ≤ 11 ∧
      sinceN y m d = 365 * y' + y' / 4 - y' / 100 + y' / 400 + (153 * (mp : Int) + 2) / 5 + d - 1 - 719468 := by
    refine ⟨if m ≤ 2 then y - 1 else y, (if m ≤ 2 then m + 9 else m - 3).toNat, rfl, ?_, ?_, ?_⟩
    · split <;> omega
    · split <;> omega
    · unfold sinceN
      split
      · rw [show (((m + 9).toNat : Nat) : Int) = m + 12 - 3 from by omega]
      · rw [show (((m - 3).toNat : Nat) : Int) = m - 3 from by omega]
  obtain ⟨e, q, hq0, hq1, hye⟩ : ∃ e q : Int, 0 ≤ q ∧ q ≤ 399 ∧ y' = q + e * 400 := ⟨y' / 400, y' % 400, by omega, by omega, by omega⟩
  have hes := era_split e q hq0 hq1
  rw [← hye] at hes
  obtain ⟨dn, hdn⟩ : ∃ dn : Nat, d = (dn : Int) + 1 := ⟨(d - 1).toNat, by omega⟩
  obtain ⟨qn, rfl⟩ : ∃ qn : Nat, q = qn := ⟨q.toNat, by omega⟩
  have hlim : dn < (if mp = 11 then 29 else if mp = 1 ∨ mp = 3 ∨ mp = 6 ∨ mp = 8 then 30 else 31) := by
    unfold dimN at h4
    by_cases c : m ≤ 2
    · rw [if_pos c] at hmp
      by_cases c2 : m = 2
      · rw [if_pos c2] at h4
        rw [if_pos (by omega)]
        split at h4 <;> omega
      · rw [if_neg c2, if_neg (by omega)] at h4
        rw [if_neg (by omega), if_neg (by omega)]; omega
    · rw [if_neg c] at hmp
      rw [if_neg (by omega)] at h4
      rw [if_neg (by omega)]
      split at h4 <;> split <;> omega
  have hlt : dn < 31 := by
    split at hlim
    · omega
    · split at hlim <;> omega
  have hb := List.all_eq_true.1 (List.all_eq_true.1 mp_back mp (by simp; omega)) dn (by simp; omega)
  rw [decide_eq_true hlim] at hb
  simp only [Bool.not_true, Bool.false_or, Bool.and_eq_true, beq_iff_eq, decide_eq_true_eq] at hb
  obtain ⟨⟨b1, b2⟩, b3⟩ := hb
  generalize hdoy : (153 * mp + 2) / 5 + dn = doy at *
  have hn : sinceN y m d + 719468 = 146097 * e + ((cS qn : Nat) : Int) + (doy : Int) := by
    rw [hdef]; unfold cS; omega
  have hSb : cS qn + doy < 146097 ∧ (cS qn + doy < cS (qn + 1) ∨ (qn = 399 ∧ cS qn + doy = 146096)) := by
    by_cases c : doy = 365
    · obtain ⟨rfl, rfl⟩ := b3 c
      have hl : leapN ((qn : Int) + 1) = true := by
        have hm2 : m = 2 := by split at hmp <;> omega
        rw [if_pos (by omega)] at hy'
        unfold dimN at h4
        rw [if_pos hm2] at h4
        have hyq : y = (qn : Int) + 1 + e * 400 := by omega
        rw [← leap_era ((qn : Int) + 1) e, ← hyq]
        split at h4
        · assumption
        · omega
      have ht := List.all_eq_true.1 leap_back qn (by simp; omega)
      rw [hl] at ht
      simp only [Bool.not_true, Bool.false_or, Bool.or_eq_true, decide_eq_true_eq, beq_iff_eq] at ht
      have hm := cS_mono (qn + 1) 400 (by omega)
      have h400 : cS 400 = 146096 := by decide
      rcases ht with ht | rfl
      · omega
      · have h399 : cS 399 = 145731 := by decide
        omega
    · have h1 := cS_year qn
      have hm := cS_mono (qn + 1) 400 (by omega)
      have h400 : cS 400 = 146096 := by decide
      omega
  have hE : cEra (sinceN y m d) = e := by unfold cEra; omega
  have hO : cOf (sinceN y m d) = ((cS qn + doy : Nat) : Int) := by unfold cOf; rw [hE]; omega
  have hY : cYoe (sinceN y m d) = (qn : Int) := by
    rw [cYoe_nat _ _ hO hSb.1]
    rcases hSb.2 with h | ⟨rfl, h⟩
    · rw [yoe_of _ qn (by omega) (by omega) h]
    · rw [h]; decide
  have hD : cDay (sinceN y m d) = (doy : Int) := by unfold cDay; rw [hO, hY]; unfold cS; omega
  have hM : cMp (sinceN y m d) = (mp : Int) := by unfold cMp; rw [hD]; omega
  unfold civY civM civD
  rw [hE, hY, hD, hM]
  refine ⟨?_, ?_, by omega⟩
  · split at hy' <;> split at hmp <;> split <;> omega
  · split at hmp <;> split <;> omega
end Go.Proofs.YtmjikfeaopmejaaGreatDoor
