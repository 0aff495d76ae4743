/-
  Plain words on memory, bytes and rows for the walks: no program in sight but its name in the namespace.
-/
import Derived.WalkKit
import Derived.WalkSpells
import Derived.WalkLawsBesides
import Derived.Handy
import Derived.ProofKit
import Derived.OpenShut
import Derived.Deep.Draws
import Derived.Deep.QuietTactic
import Derived.BigQuiet
import Derived.Lib.Hide
import Derived.ChangeSame
import Derived.Deep.DeepHandedRow
import Derived.Lay
import Derived.LaidMore
import Derived.LaidLaws
import Derived.Stop.Joined
import Derived.Below
import Derived.Laws.OwnMore
import Derived.Deep.AppendLies
import Derived.Deep.Slices
import Derived.Deep.Fields
import Derived.ChangeSlices
import Derived.Carry
import Derived.SizedLaws
import Derived.Lib.SmallJoins
import Derived.Deep.AppendSrc
import Derived.OwnWalk
import Derived.Shelf.SlIter.Nil
import Derived.Shelf.SortM.Plain
import Derived.Shelf.SortM.SortNone
import Derived.Ground.GgzProg
import Derived.Ground.SlgmProg
import Derived.Shelf.Spec.SlicesGrow
import Derived.Ground.Names8Prog
import Derived.Shelf.SlGeneric
import Derived.Shelf.Strings.Builder1
import Derived.Shelf.Strings.Builder2
import Derived.Shelf.Strings.OnBuilder
import Derived.Shelf.Small.Utf8
import Derived.Shelf.Small.Bits
import Derived.Shelf.Strings.BuilderF
import Derived.Shelf.Strings.BuilderK
import Derived.Shelf.Strings.BuilderRune
import Derived.Shelf.Utf8.RuneCount
import Derived.Shelf.Strings.Builder2Cap
import Derived.Shelf.Strconv.Itoa0
import Derived.Shelf.Strconv.Itoa1
import Derived.Shelf.LaysM
import Derived.Shelf.Strconv.Itoa2
import Derived.Shelf.Strconv.Itoa3
import Derived.Shelf.Strconv.Itoa4
import Derived.Shelf.Strings.Search1
import Derived.Shelf.Strings.Search2
import Derived.Shelf.Strings.Search3
import Derived.Shelf.Strings.Count
import Derived.Shelf.Strings.Shaped
import Derived.Shelf.Sort.Plain
import Derived.Shelf.Strings.Split
import Derived.Shelf.Strings.SplitShaped
import Derived.Shelf.Unicode.Latin
import Derived.Shelf.Unicode.Decode
import Derived.Shelf.Strings.RuneCount
import Derived.Shelf.Strings.Explode
import Derived.Shelf.Unicode.DecodeSlow
import Derived.Shelf.Unicode.DecodeAny
import Derived.Shelf.Unicode.CaseLookup
import Derived.Shelf.Unicode.CaseConvert
import Derived.Shelf.Unicode.CaseTo
import Derived.Shelf.Unicode.CaseLaid
import Derived.Shelf.Strings.MapAny
import Derived.Shelf.Strings.CaseAny
import Derived.Shelf.Slices.Turned
import Derived.Shelf.Slices.In.SortNone
import Derived.Shelf.Bytes.SlIndexSmall
import Derived.Shelf.Bytes.SlIndexAt
import Derived.Shelf.Bytes.SlSearch0
import Derived.Ground.SlbCloneProg
import Derived.Shelf.Bytes.SlClone
import Derived.Shelf.Bytes.SlEqualAll
import Derived.Shelf.Bytes.Small
import Derived.Shelf.Bytes.IndexByte
import Derived.Test.YtgjlpgijlicppaaGreatDoorProg
import Derived.Deep.Cut
import Derived.Lib.QuietBelow
import Derived.Laws.BytesString
import Derived.Sort.KeysCollected
import Derived.Maps.RangeWalk
import Derived.StringKeys
import Derived.Test.YtgjlpgijlicppaaGreatDoorChecked
import Derived.Lib.Bytes
import Derived.LaidSub
import Derived.Lib.LaidTab
import Derived.MakeChecks
import Derived.StillTailTactics
namespace Go.Proofs.YtgjlpgijlicppaaGreatDoor
open Go.RowKit Go.WideShapes Go.ChangeShapes

/-- block g holds just these cells, none frozen -/
def Blk (w : World) (g : Nat) (t : TypeId) (cs : Array Value) : Prop := w.heap[g]? = some (.cells cs t (0, 0))
section
variable {w w' : World} {g : Nat} {t : TypeId} {cs : Array Value}
theorem Blk.lt (h : Blk w g t cs) : g < w.heap.size := by
  rcases Nat.lt_or_ge g w.heap.size with hlt | hge
  · exact hlt
  · unfold Blk at h; rw [Array.getElem?_eq_none hge] at h; cases h
theorem Blk.cell (h : Blk w g t cs) (i : Nat) : w.cell? ⟨g, i, none⟩ = cs[i]? := cell_of_row w g i cs t (0, 0) h
theorem Blk.frozen (h : Blk w g t cs) (i : Nat) : w.frozen? ⟨g, i, none⟩ = false := by
  unfold Blk at h
  simp [World.frozen?, h]
theorem Blk.new (w : World) (t : TypeId) (cs : Array Value) : Blk (w.alloc (.cells cs t)) w.heap.size t cs := heap_alloc_new w _
theorem Blk.drew (h : Blk w g t cs) : Blk w.drew g t cs := h
theorem Blk.drewN (h : Blk w g t cs) (n : Nat) : Blk (w.drewN n) g t cs := h
theorem Blk.alloc (h : Blk w g t cs) (o : Obj) : Blk (w.alloc o) g t cs := (Below.heap_alloc w o g h.lt).trans h
theorem Blk.set_ (h : Blk w g t cs) (i : Nat) (u : Value) : Blk (w.setCell ⟨g, i, none⟩ u) g t (cs.setIfInBounds i u) := by
  unfold Blk at h ⊢
  simp [World.setCell, Array.getElem?_modify, h]
theorem Blk.far (h : Blk w g t cs) {p : Addr} (hp : g ≠ p.block) (u : Value) : Blk (w.setCell p u) g t cs := (Below.heap_setCell w p u g hp).trans h
theorem Blk.below {B : Nat} (h : Blk w g t cs) (hb : Below B w w') (hg : g < B) : Blk w' g t cs := (hb.block g hg).trans h
theorem Blk.grown {row : Option Nat} (h : Blk w g t cs) (hb : w.grownBy w' row) (hg : some g ≠ row) : Blk w' g t cs := (hb.block g h.lt hg).trans h
end
theorem below_drewN {B : Nat} {a w : World} (h : Below B a w) (n : Nat) : Below B a (w.drewN n) := ⟨h.os, h.tape, h.output, h.size, h.block⟩

/-- the byte at a place -/
def bat (s : ByteArray) (i : Nat) : UInt8 := if h : i < s.size then s[i] else 0
theorem bat_eq (s : ByteArray) (i : Nat) (h : i < s.size) : bat s i = s[i] := by simp [bat, h]
theorem take_snoc (s : ByteArray) (k : Nat) (h : k < s.size) : s.data.toList.take (k + 1) = s.data.toList.take k ++ [s[k]] := by
  rw [List.take_succ_eq_append_getElem (by simpa using h)]; rfl
theorem ret_bool {a b : Bool} (h : a = b) : Ending.returned (.bool a) = .returned (.bool b) := by rw [h]
theorem ret_int {k : IntKind} {a b : Int} (h : a = b) : Ending.returned (.int k a) = .returned (.int k b) := by rw [h]
theorem ret_str {a b : ByteArray} (h : a = b) : Ending.returned (.string a) = .returned (.string b) := by rw [h]

theorem run_make_rowN {P : Program} (t e : TypeId) (i : TypeInfo) (z : Value) (ht : P.underlying t = some (.slice e)) (hi : P.info? e = some i) (hz : i.zero = some z)
    (kl kc : IntKind) (n c : Nat) (hnc : n ≤ c) (hbytes : i.bytes * c ≤ 281474976710656) (h63 : c ≤ 9223372036854775807) (w : World) :
    (Instr.makeSlice t (.int kl (n : Int)) (.int kc (c : Int))).run P w = .ok (.slice (some ⟨w.heap.size, 0, none⟩) n c) (w.alloc (.cells (madeCells z.cells (c * i.size)) e)) := by
  have hb : (i.bytes : Int) * (c : Int) ≤ 281474976710656 := by
    have h : ((i.bytes * c : Nat) : Int) ≤ 281474976710656 := by omega
    rwa [Int.natCast_mul] at h
  have hr := run_make (P := P) w t e i z ht hi hz kl kc n c (by omega) (by omega) hb (by omega)
  simp only [Int.toNat_natCast] at hr
  exact hr

/-- a row of booleans -/
def bcells (l : List Bool) : Array Value := (l.map Value.bool).toArray
/-- a row of booleans, told by a function -/
def bfn (f : Nat → Bool) (n : Nat) : Array Value := ((List.range n).map (fun j => Value.bool (f j))).toArray
def uptoB (f : Nat → Bool) (k : Nat) : Nat → Bool := fun j => decide (j < k) && f j
theorem bfn_get (f : Nat → Bool) (n i : Nat) (h : i < n) : (bfn f n)[i]? = some (.bool (f i)) := by simp [bfn, h]
theorem bfn_ext (f g : Nat → Bool) (n : Nat) (h : ∀ i, i < n → f i = g i) : bfn f n = bfn g n := by
  unfold bfn; congr 1; apply List.map_congr_left; intro a ha; simp at ha; rw [h a ha]
theorem bfn_setAt (f g : Nat → Bool) (n k : Nat) (b : Bool) (hb : b = g k) (h : ∀ i, i < n → i ≠ k → f i = g i) : (bfn f n).setIfInBounds k (.bool b) = bfn g n := by
  subst hb
  apply Array.ext
  · simp [bfn]
  · intro i h1 h2
    have hi : i < n := by simpa [bfn] using h2
    rw [Array.getElem_setIfInBounds (by simpa [bfn] using h2)]
    simp only [bfn, List.getElem_toArray, List.getElem_map, List.getElem_range]
    by_cases e : k = i
    · subst e; simp
    · simp only [e, if_false]
      rw [h i hi (fun x => e x.symm)]
theorem bfn_set (f : Nat → Bool) (n k : Nat) (b : Bool) (hb : b = f k) : (bfn (uptoB f k) n).setIfInBounds k (.bool b) = bfn (uptoB f (k+1)) n :=
  bfn_setAt _ _ _ _ _ (by simp [uptoB, hb]) (fun i _ hne => by
    have : (i < k) ↔ (i < k + 1) := by omega
    simp [uptoB, this])
theorem bfn_none (n : Nat) : bcells (List.replicate n false) = bfn (fun _ => false) n := by
  apply Array.ext
  · simp [bfn, bcells]
  · intro i h1 h2; simp [bfn, bcells]
theorem madeBools (n : Nat) : madeCells (Value.bool false).cells n = bcells (List.replicate n false) := by
  unfold madeCells bcells
  apply Array.ext
  · simp
  · intro i h1 h2; simp [Value.cells, Nat.mod_one]

/-- the row's last step where the call made memory of its own -/
theorem post_of_below {H : Type} {enc : TypeId × Value → H} {P : Program}
    {f : Func} {s : ChangeSpec} {apart fresh handsOn again : Bool} {W W' : World} {args : Array Value} {v : Value} {ds gs : List (DataW H)} {before pa pv : List MemPlace}
    (hW : DataW.Whole enc P f.params.toList s.vars apart W args.toList ds gs before)
    (hres : ∀ (b : Nat) (sp : Nat → Bool) (hd : Bool), DataW.TrodAll enc P W' b sp hd f.resultTypes.toList (v.resultList f.resultTypes.size) (s.fn H (ds ++ gs)).results [])
    (hargs : ∀ sp : Nat → Bool, (∀ p ∈ before, sp p.block = true) → DataW.TrodAll enc P W' 0 sp true f.params.toList args.toList (s.fn H (ds ++ gs)).args pa)
    (hvars : ∀ sp : Nat → Bool, (∀ p ∈ before, sp p.block = true) → DataW.TrodVars enc P W' sp s.vars (s.fn H (ds ++ gs)).vars pv)
    (hps : before = pa ++ pv) (hb : Below W.heap.size W W')
    (hok : ∀ (j : Nat) (t : TypeId) (r : Value), f.resultTypes[j]? = some t → (v.resultList f.resultTypes.size)[j]? = some r → Value.okWide P W' .any 0 t r) :
    s.post enc P f apart fresh handsOn again W args v W' := by
  have hlt : ∀ p ∈ before, p.block < W.heap.size := fun p hp => hW.lt p hp
  have hold : ∀ p ∈ before, (fun b => decide (b < W.heap.size)) p.block = true := fun p hp => by simpa using hlt p hp
  refine ⟨ds, gs, before, [], pa, pv, hW, hres _ _ _, hargs _ hold, hvars _ hold, World.keptBut_mono (fun p hp => ⟨hp, ?_⟩) (hb.frame (· ∈ before)), fun _ => ?_⟩
  · rw [hps, List.mem_append] at hp
    exact Or.inr hp
  · obtain ⟨_, _, _, _, _, hz, hn⟩ := hW
    refine ⟨hok, _, _, ([] ++ pa) ++ pv, ⟨[] ++ pa, pv, trodAll_append (hargs _ (fun _ _ => rfl)) (hres _ _ _), hvars _ (fun _ _ => rfl), rfl, ?_, ?_⟩, ?_⟩
    · intro b off hp
      have hin : MemPlace.cell b off ∈ before := by rw [hps]; simpa using hp
      rw [hb.frozen (hlt _ hin)]
      exact hz b off hin
    · intro ha
      have := hn ha
      rw [hps] at this
      simpa using this
    · intro p hp _
      rw [hps]
      simpa using hp
/-- there is an input that fits, at a world whose shape is given -/
theorem witness_row_shaped {H : Type} {enc : TypeId × Value → H} {C : Checked} {os : Os} {f : FuncId} {fn : Func} {s : OpenSpec} {conds : List PathCond} {apart : Bool} {laid : List (String × DataW Unit)} (modest : Bool) (w0 : World) (args : Array Value) (hos : w0.os = os)
    (hsh : (w0.forCall (fun _ _ => 0) ⟨#[], args, []⟩).Shaped C.prog)
    (hok : Input.okWideB C.prog (w0.forCall (fun _ _ => 0) ⟨#[], args, []⟩) f ⟨#[], args, []⟩ = true)
    (hrow : s.preRow enc C.prog fn conds apart laid (w0.forCall (fun _ _ => 0) ⟨#[], args, []⟩).memory args) :
    ∃ (w : World) (tape : Tape) (i : Input), w.os = os ∧ (w.forCall tape i).Shaped C.prog ∧ i.vars = [] ∧ Input.okWide C.prog (w.forCall tape i) .any w.heap.size f i ∧
      s.preRow enc C.prog fn conds apart laid (w.forCall tape i).memory i.args ∧ ({ modest := modest } : Assume).holds C.prog (lone (Frame.enter C.prog f i.args .normal) [] (w.forCall tape i)) :=
  ⟨w0, fun _ _ => 0, ⟨#[], args, []⟩, hos, hsh, (Input.okWide_of_okWideB (base := 0) hok).1, (Input.okWide_of_okWideB hok).2, hrow, by
    simp only [Assume.holds]
    exact ⟨by simp, by simp, fun _ => Modest.zero, by simp, by simp⟩⟩
end Go.Proofs.YtgjlpgijlicppaaGreatDoor
/-
  A slice that reads as a list, nil let in.
-/
namespace Go.Proofs.YtgjlpgijlicppaaGreatDoor
open Go.RowKit
theorem block_of_add (a : Addr) (n : Nat) : (a.add n).block = a.block := by unfold Addr.add; split <;> rfl
theorem add_of_add (a : Addr) (i j : Nat) : (a.add i).add j = a.add (i + j) := by
  unfold Addr.add
  by_cases hi : i = 0 <;> by_cases hj : j = 0 <;> simp [hi, hj, Nat.add_assoc]

def Reads (w : World) (B size : Nat) (A : Option Addr) (n : Nat) (xs : List Value) : Prop :=
  xs.length = n * size ∧ (0 < n → ∃ ad, A = some ad ∧ ad.block < B ∧ ∀ j u, xs[j]? = some u → w.cell? (ad.add j) = some u)

section
variable {w w' : World} {B B' size n : Nat} {A : Option Addr} {xs : List Value}
theorem Reads.none_ : Reads w B size A 0 [] := ⟨by simp, fun h => absurd h (by omega)⟩
theorem Reads.at_ {k : Nat} (h : Reads w B 1 A n xs) (hk : k < n) : ∃ ad u, A = some ad ∧ ad.block < B ∧ xs[k]? = some u ∧ w.cell? (ad.add k) = some u := by
  obtain ⟨ad, e, hb, hc⟩ := h.2 (by omega)
  have hl : k < xs.length := by have := h.1; omega
  exact ⟨ad, xs[k], e, hb, List.getElem?_eq_getElem hl, hc k _ (List.getElem?_eq_getElem hl)⟩
theorem Reads.keep (h : Reads w B size A n xs) (hk : ∀ p : Addr, p.block < B → w'.cell? p = w.cell? p) : Reads w' B size A n xs :=
  ⟨h.1, fun hn => by
    obtain ⟨ad, e, hb, hc⟩ := h.2 hn
    exact ⟨ad, e, hb, fun j u hu => (hk _ (by rw [block_of_add]; exact hb)).trans (hc j u hu)⟩⟩
theorem Reads.more (h : Reads w B size A n xs) (hB : B ≤ B') : Reads w B' size A n xs :=
  ⟨h.1, fun hn => by
    obtain ⟨ad, e, hb, hc⟩ := h.2 hn
    exact ⟨ad, e, by omega, hc⟩⟩
theorem Reads.below (h : Reads w B size A n xs) (hb : Below B w w') : Reads w' B size A n xs := h.keep fun _ hp => hb.cell hp
theorem Reads.drew (h : Reads w B size A n xs) : Reads w.drew B size A n xs := h
theorem Reads.drewN (h : Reads w B size A n xs) (k : Nat) : Reads (w.drewN k) B size A n xs := h
theorem Reads.alloc (h : Reads w B size A n xs) (hB : B ≤ w.heap.size) (o : Obj) : Reads (w.alloc o) B size A n xs := h.keep fun p hp => World.cell?_alloc_lt w o p (by omega)
theorem Reads.setCell (h : Reads w B size A n xs) {p : Addr} (hB : B ≤ p.block) (u : Value) : Reads (w.setCell p u) B size A n xs :=
  h.keep fun q hq => World.cell?_setCell_other w p q u (fun e => by subst e; omega)
theorem Reads.grown (h : Reads w B size A n xs) {row : Option Nat} (hg : w.grownBy w' row) (hB : B ≤ w.heap.size) (hr : ∀ g, row = some g → B ≤ g) : Reads w' B size A n xs :=
  h.keep fun p hp => World.cell?_of_block (hg.block p.block (by omega) (fun e => by have := hr _ e.symm; omega))
theorem Reads.cut (h : Reads w B size A n xs) {k cap : Nat} (hk : k ≤ n) (hc : n ≤ cap) :
    Reads w B size (if cap = k then A else A.map (·.add (k * size))) (n - k) (xs.drop (k * size)) := by
  refine ⟨by rw [List.length_drop, h.1, Nat.sub_mul], fun hn => ?_⟩
  obtain ⟨ad, rfl, hb, hcell⟩ := h.2 (by omega)
  rw [if_neg (by omega)]
  refine ⟨ad.add (k * size), rfl, by rw [block_of_add]; exact hb, fun j u hu => ?_⟩
  rw [add_of_add]
  exact hcell _ u (by rw [← hu, List.getElem?_drop])
theorem Reads.of_own {base : Nat} {e : TypeId} {c : Nat} (h : w.ownsRow base e size (.slice A n c) n xs) : Reads w w.heap.size size A n xs := by
  refine ⟨h.1, fun hn => ?_⟩
  obtain ⟨g, cap, hv, _, hlt⟩ := h.form hn
  have hA : A = some ⟨g, 0, none⟩ := by injection hv
  subst hA
  exact ⟨_, rfl, hlt, h.cells (g := g) rfl⟩
end
end Go.Proofs.YtgjlpgijlicppaaGreatDoor
/-
  Arguments, opened by their types: numbers, texts, structs of one-cell fields, slices of what reads.
-/
namespace Go.Proofs.YtgjlpgijlicppaaGreatDoor
open Go.ChangeShapes Go.WideShapes Go.Deep Go.RowKit
theorem cell_lt' {w : World} {a : Addr} {v : Value} (h : w.cell? a = some v) : a.block < w.heap.size := by
  rcases Nat.lt_or_ge a.block w.heap.size with hlt | hge
  · exact hlt
  · unfold World.cell? at h
    simp [Array.getElem?_eq_none hge] at h
/-- cells that read at a type -/
def Fits {H : Type} (enc : TypeId × Value → H) (P : Program) (w : World) (t : TypeId) (cs : List Value) : Prop := ∃ base spare held fuel x, DataW.trod enc P w base spare held fuel t cs = some x
section
variable {H : Type} {enc : TypeId × Value → H} {P : Program} {w : World} {t e : TypeId} {cs : List Value}
theorem fits_int {k : IntKind} (h : Fits enc P w t cs) (ht : P.underlying t = some (.int k)) : ∃ n, cs = [.int k n] ∧ (Lit.int k n).wf = true := by
  obtain ⟨_, _, _, _, _, h⟩ := h
  obtain ⟨n, e, _, hw⟩ := DataW.trod_int ht h
  exact ⟨n, e, hw⟩
theorem fits_string (h : Fits enc P w t cs) (ht : P.underlying t = some .string) : ∃ s : ByteArray, cs = [.string s] ∧ s.size ≤ maxLen := by
  obtain ⟨_, _, _, _, _, h⟩ := h
  obtain ⟨s, e, _, hw⟩ := DataW.trod_string ht h
  exact ⟨s, e, hw⟩
theorem fits_bool (h : Fits enc P w t cs) (ht : P.underlying t = some .bool) : ∃ b, cs = [.bool b] := by
  obtain ⟨_, _, _, _, _, h⟩ := h
  obtain ⟨s, e, _⟩ := DataW.trod_bool ht h
  exact ⟨s, e⟩
theorem fits_fields {fs : Array Field} (h : Fits enc P w t cs) (ht : P.underlying t = some (.struct fs)) (hone : oneCellFields P fs = true) (hC : P.cellsOf t = fs.size) : cs.length = fs.size ∧ ∀ (j : Nat) (f : Field) (c : Value), fs[j]? = some f → cs[j]? = some c → Fits enc P w f.type [c] := by
  obtain ⟨base, spare, held, fuel, x, h⟩ := h
  obtain ⟨ys, n, _, _, hl, hyl, hat⟩ := DataW.trod_struct ht h
  refine ⟨by rw [hl, hC], fun j f c hf hc => ?_⟩
  obtain ⟨ho, hk⟩ := hone_of hone j f hf
  have h1 := hat j f hf
  have hj := (Array.getElem?_eq_some_iff.1 hf).1
  rw [ho, hk] at h1
  have hd1 : (List.drop j cs).take 1 = [c] := by
    have hjl := (List.getElem?_eq_some_iff.1 hc).1
    rw [List.drop_eq_getElem_cons hjl, (List.getElem?_eq_some_iff.1 hc).2]
    rfl
  rw [hd1, List.getElem?_eq_getElem (by omega)] at h1
  exact ⟨base, spare, held, n, _, h1⟩
theorem rows_at (k : Nat) : ∀ (L : List (List Value)) (i j : Nat) (x : List Value), (∀ x ∈ L, x.length = k) → L[i]? = some x → j < k → L.flatten[i * k + j]? = x[j]?
  | y :: r, 0, j, x, hL, h, hj => by
    have e : y = x := by simpa using h
    subst e
    have := hL y List.mem_cons_self
    rw [List.flatten_cons, Nat.zero_mul, Nat.zero_add, List.getElem?_append_left (by omega)]
  | y :: r, i + 1, j, x, hL, h, hj => by
    have ih := rows_at k r i j x (fun z hz => hL z (List.mem_cons_of_mem _ hz)) (by simpa using h) hj
    have := hL y List.mem_cons_self
    have hm : k ≤ (i + 1) * k + j := by rw [Nat.succ_mul]; omega
    rw [List.flatten_cons, List.getElem?_append_right (by omega)]
    have e : (i + 1) * k + j - y.length = i * k + j := by rw [Nat.succ_mul]; omega
    rw [e]; exact ih
theorem rows_len (k : Nat) : ∀ (L : List (List Value)), (∀ x ∈ L, x.length = k) → L.flatten.length = L.length * k
  | [], _ => by simp
  | y :: r, h => by
    have := rows_len k r fun z hz => h z (List.mem_cons_of_mem _ hz)
    rw [List.flatten_cons, List.length_append, this, h y List.mem_cons_self, List.length_cons, Nat.succ_mul]; omega
theorem fits_slice (h : Fits enc P w t cs) (ht : P.underlying t = some (.slice e)) (hk : 0 < P.cellsOf e) :
    ∃ (A : Option Addr) (n c : Nat) (L : List (List Value)), cs = [.slice A n c] ∧ n ≤ c ∧ c ≤ maxLen ∧ L.length = n ∧ (∀ x ∈ L, x.length = P.cellsOf e ∧ Fits enc P w e x) ∧ Reads w w.heap.size (P.cellsOf e) A n L.flatten := by
  obtain ⟨base, spare, held, fuel, x, hf⟩ := h
  rcases open_slice ht hf with ⟨hcs, _⟩ | ⟨a, len, cap, m, n0, D, Pl, hcs, _, hl, hm, hmm, hdx, hx⟩
  · exact ⟨none, 0, 0, [], hcs, Nat.le_refl _, Nat.zero_le _, rfl, fun x hx => (by cases hx), by simp, fun hn => absurd hn (by simp)⟩
  · have hml : len ≤ m := by rw [hmm]; split <;> omega
    have hall : ∀ n, n ≤ len → ∃ L : List (List Value), L.length = n ∧ (∀ x ∈ L, x.length = P.cellsOf e ∧ Fits enc P w e x) ∧ ∀ i x, L[i]? = some x → ∀ j u, x[j]? = some u → w.cell? (a.add (i * P.cellsOf e + j)) = some u := by
      intro n
      induction n with
      | zero => intro _; exact ⟨[], rfl, by simp, by simp⟩
      | succ n ih =>
        intro hnl
        obtain ⟨L, hl1, hl2, hl3⟩ := ih (by omega)
        obtain ⟨cs', hcc, htr⟩ := hx n (by omega)
        obtain ⟨_, hlen, hat⟩ := World.cells?_some hcc
        refine ⟨L ++ [cs'], by simp [hl1], ?_, ?_⟩
        · intro y hy
          rcases List.mem_append.1 hy with h | h
          · exact hl2 y h
          · rw [List.mem_singleton] at h
            subst h
            exact ⟨hlen, base, spare, held, n0, _, htr⟩
        · intro i y hi' j u hj
          rcases Nat.lt_or_ge i L.length with h | h
          · rw [List.getElem?_append_left h] at hi'; exact hl3 i y hi' j u hj
          · rw [List.getElem?_append_right h] at hi'
            have h0 : i - L.length = 0 := by
              rcases Nat.eq_zero_or_pos (i - L.length) with h' | h'
              · exact h'
              · rw [List.getElem?_eq_none (by simp; omega)] at hi'; cases hi'
            rw [h0] at hi'
            have hy : cs' = y := by simpa using hi'
            subst hy
            obtain rfl : i = n := by omega
            have hj2 : j < P.cellsOf e := by
              have := (List.getElem?_eq_some_iff.1 hj).1
              omega
            have := hat j hj2
            rw [hj, Go.Deep.add_add] at this
            exact this
    obtain ⟨L, hL1, hL2, hL3⟩ := hall len (Nat.le_refl _)
    refine ⟨some a, len, cap, L, hcs, hl, hm, hL1, hL2, ?_, fun hn => ⟨a, rfl, ?_, ?_⟩⟩
    · rw [rows_len _ L fun x hx => (hL2 x hx).1, hL1]
    · obtain ⟨x, hx0⟩ : ∃ x, L[0]? = some x := ⟨_, List.getElem?_eq_getElem (by omega)⟩
      have hxl := (hL2 x (List.mem_of_getElem? hx0)).1
      obtain ⟨u, hu⟩ : ∃ u, x[0]? = some u := ⟨_, List.getElem?_eq_getElem (by omega)⟩
      have := cell_lt' (hL3 0 x hx0 0 u hu)
      rwa [block_of_add] at this
    · intro j u hj
      have hjl := (List.getElem?_eq_some_iff.1 hj).1
      rw [rows_len _ L fun x hx => (hL2 x hx).1] at hjl
      have hq : j / P.cellsOf e < L.length := Nat.div_lt_of_lt_mul (by rw [Nat.mul_comm]; exact hjl)
      have he2 : j / P.cellsOf e * P.cellsOf e + j % P.cellsOf e = j := by rw [Nat.mul_comm]; exact Nat.div_add_mod j _
      have hp := rows_at (P.cellsOf e) L (j / P.cellsOf e) (j % P.cellsOf e) _ (fun x hx => (hL2 x hx).1) (List.getElem?_eq_getElem hq) (Nat.mod_lt _ hk)
      rw [he2, hj] at hp
      have := hL3 _ _ (List.getElem?_eq_getElem hq) _ u hp.symm
      rw [he2] at this
      exact this
theorem fits_top {base0 : Nat} {spare : Nat → Bool} {held : Bool} {v : Value} {d : DataW H} {ps : List MemPlace} (h : DataW.Trod enc P w base0 spare held t v d ps) : Fits enc P w t v.cells.toList := by
  obtain ⟨fuel, hf⟩ := h
  exact ⟨_, _, _, fuel, _, hf⟩
theorem fits_struct {base0 : Nat} {spare : Nat → Bool} {held : Bool} {r : Reach} {b0 : Nat} {fs : Array Field} {v : Value} {d : DataW H} {ps : List MemPlace} (hv : Value.okWide P w r b0 t v) (ht : P.underlying t = some (.struct fs)) (h : DataW.Trod enc P w base0 spare held t v d ps) : ∃ cs : Array Value, v = .agg cs ∧ Fits enc P w t cs.toList := by
  obtain ⟨cs, rfl, _⟩ := okWide_struct ht hv
  exact ⟨cs, rfl, fits_top h⟩
theorem fits_plain {base0 : Nat} {spare : Nat → Bool} {held : Bool} {v : Value} {d : DataW H} {ps : List MemPlace} (h : DataW.Trod enc P w base0 spare held t v d ps) (hc : v.cells = #[v]) : Fits enc P w t [v] := by
  have := fits_top h
  rwa [hc] at this
theorem choose_list {M : Type} {f : M → List Value} {Q : M → Prop} : ∀ {L : List (List Value)}, (∀ x ∈ L, ∃ m, x = f m ∧ Q m) → ∃ l : List M, L = l.map f ∧ ∀ m ∈ l, Q m
  | [], _ => ⟨[], rfl, by simp⟩
  | x :: r, h => by
    obtain ⟨m, rfl, hm⟩ := h x List.mem_cons_self
    obtain ⟨l, rfl, hl⟩ := choose_list (L := r) fun y hy => h y (List.mem_cons_of_mem _ hy)
    exact ⟨m :: l, rfl, fun y hy => by
      rcases List.mem_cons.1 hy with e | e
      · subst e; exact hm
      · exact hl y e⟩
/-- all arguments stay behind a call that writes below nothing -/
theorem args_stay (hl : laidOutB P = true) {W W' : World} {sp : Nat → Bool} : ∀ {ts : List TypeId} {vs : List Value} {ds : List (DataW H)} {ps : List MemPlace}, (ts.all fun t => P.readableRec t && decide (t < P.types.size)) = true →
    DataW.TrodAll enc P W 0 (fun _ => true) true ts vs ds ps → (∀ x ∈ ps, W.sameAt W' x) → (∀ x ∈ ps, sp x.block = true) → DataW.TrodAll enc P W' 0 sp true ts vs ds ps
  | [], [], [], _, _, h, _, _ => h
  | _ :: _, _ :: _, _ :: _, _, ha, ⟨p, q, h1, h2, e⟩, hsame, hs => by
    rw [List.all_cons, Bool.and_eq_true, Bool.and_eq_true, decide_eq_true_eq] at ha
    subst e
    exact ⟨p, q, WideElems.Trod_stays hl ha.1.1 ha.1.2 h1 (fun x hx => hsame x (List.mem_append_left _ hx)) (fun x hx => hs x (List.mem_append_left _ hx)),
      args_stay hl ha.2 h2 (fun x hx => hsame x (List.mem_append_right _ hx)) (fun x hx => hs x (List.mem_append_right _ hx)), rfl⟩
end
end Go.Proofs.YtgjlpgijlicppaaGreatDoor
/-
  Arguments, opened by their types, with a bound on their sizes.
-/
namespace Go.Proofs.YtgjlpgijlicppaaGreatDoor
open Go.ChangeShapes Go.WideShapes Go.Deep Go.RowKit
/-- cells that read at a type; no part is longer than R -/
def FitsZ {H : Type} (R : Nat) (enc : TypeId × Value → H) (P : Program) (w : World) (t : TypeId) (cs : List Value) : Prop := ∃ base spare held fuel d ps, DataW.trod enc P w base spare held fuel t cs = some (d, ps) ∧ ∀ k ∈ d.weights P t, k ≤ R
section
variable {H : Type} {enc : TypeId × Value → H} {P : Program} {w : World} {t e : TypeId} {cs : List Value} {R : Nat}
theorem FitsZ.fits (h : FitsZ R enc P w t cs) : Fits enc P w t cs := by
  obtain ⟨b, s, hd, f, d, ps, h, _⟩ := h
  exact ⟨b, s, hd, f, _, h⟩
theorem mem_weightsAll {e : TypeId} {dd : DataW H} {k : Nat} : ∀ {l : List (DataW H)}, dd ∈ l → k ∈ dd.weights P e → k ∈ DataW.weightsAll P e l
  | y :: r, h, hk => by
    unfold DataW.weightsAll
    rw [List.mem_append]
    rcases List.mem_cons.1 h with rfl | h
    · exact .inl hk
    · exact .inr (mem_weightsAll h hk)
theorem fitsZ_string (h : FitsZ R enc P w t cs) (ht : P.underlying t = some .string) : ∃ s : ByteArray, cs = [.string s] ∧ s.size ≤ maxLen ∧ s.size ≤ R := by
  obtain ⟨_, _, _, _, d, ps, h, hz⟩ := h
  obtain ⟨s, e, hx, hw⟩ := DataW.trod_string ht h
  refine ⟨s, e, hw, hz _ ?_⟩
  rw [(Prod.mk.inj hx).1]
  show s.size ∈ [s.data.toList.length]
  rw [List.mem_singleton, Array.length_toList]; rfl
theorem fitsZ_fields {fs : Array Field} (h : FitsZ R enc P w t cs) (ht : P.underlying t = some (.struct fs)) (hone : oneCellFields P fs = true) (hC : P.cellsOf t = fs.size) : cs.length = fs.size ∧ ∀ (j : Nat) (f : Field) (c : Value), fs[j]? = some f → cs[j]? = some c → FitsZ R enc P w f.type [c] := by
  obtain ⟨base, spare, held, fuel, d, ps, h, hz⟩ := h
  obtain ⟨ys, n, _, hx, hl, hyl, hat⟩ := DataW.trod_struct ht h
  refine ⟨by rw [hl, hC], fun j f c hf hc => ?_⟩
  obtain ⟨ho, hk⟩ := hone_of hone j f hf
  have h1 := hat j f hf
  have hj := (Array.getElem?_eq_some_iff.1 hf).1
  rw [ho, hk] at h1
  have hd1 : (List.drop j cs).take 1 = [c] := by
    have hjl := (List.getElem?_eq_some_iff.1 hc).1
    rw [List.drop_eq_getElem_cons hjl, (List.getElem?_eq_some_iff.1 hc).2]
    rfl
  have hy : ys[j]? = some (ys[j]'(by omega)) := List.getElem?_eq_getElem (by omega)
  rw [hd1, hy] at h1
  refine ⟨base, spare, held, n, _, _, h1, fun k hk => hz k ?_⟩
  rw [(Prod.mk.inj hx).1]
  unfold DataW.weights
  rw [ht]
  refine DataW.weights_mem_each (j := j) (t := f.type) (d := (ys[j]'(by omega)).1) ?_ ?_ k hk
  · rw [List.getElem?_map, Array.getElem?_toList, hf]; rfl
  · rw [List.getElem?_map, hy]; rfl
theorem fitsZ_slice (h : FitsZ R enc P w t cs) (ht : P.underlying t = some (.slice e)) (hk : 0 < P.cellsOf e) (heb : 1 ≤ P.bytesOf e) :
    ∃ (A : Option Addr) (n c : Nat) (L : List (List Value)), cs = [.slice A n c] ∧ n ≤ c ∧ c ≤ maxLen ∧ n ≤ R ∧ L.length = n ∧ (∀ x ∈ L, x.length = P.cellsOf e ∧ FitsZ R enc P w e x) ∧ Reads w w.heap.size (P.cellsOf e) A n L.flatten := by
  obtain ⟨base, spare, held, fuel, d, ps, hf, hz⟩ := h
  rcases open_slice ht hf with ⟨hcs, _⟩ | ⟨a, len, cap, m, n0, D, Pl, hcs, _, hl, hm, hmm, hdx, hx⟩
  · exact ⟨none, 0, 0, [], hcs, Nat.le_refl _, Nat.zero_le _, Nat.zero_le _, rfl, fun x hx => (by cases hx), by simp, fun hn => absurd hn (by simp)⟩
  · have hml : len ≤ m := by rw [hmm]; split <;> omega
    have hdw : d = .slice ((List.range len).map D) ((List.range (m - len)).map fun j => D (len + j)) := congrArg Prod.fst hdx
    have hall : ∀ n, n ≤ len → ∃ L : List (List Value), L.length = n ∧ (∀ x ∈ L, x.length = P.cellsOf e ∧ FitsZ R enc P w e x) ∧ ∀ i x, L[i]? = some x → ∀ j u, x[j]? = some u → w.cell? (a.add (i * P.cellsOf e + j)) = some u := by
      intro n
      induction n with
      | zero => intro _; exact ⟨[], rfl, by simp, by simp⟩
      | succ n ih =>
        intro hnl
        obtain ⟨L, hl1, hl2, hl3⟩ := ih (by omega)
        obtain ⟨cs', hcc, htr⟩ := hx n (by omega)
        obtain ⟨_, hlen, hat⟩ := World.cells?_some hcc
        refine ⟨L ++ [cs'], by simp [hl1], ?_, ?_⟩
        · intro y hy
          rcases List.mem_append.1 hy with h | h
          · exact hl2 y h
          · rw [List.mem_singleton] at h
            subst h
            refine ⟨hlen, base, spare, held, n0, _, _, htr, fun k hk' => hz k ?_⟩
            rw [hdw]
            unfold DataW.weights
            rw [ht]
            simp only [List.mem_cons, List.mem_append]
            exact .inr (.inl (mem_weightsAll (List.mem_map.2 ⟨n, List.mem_range.2 (by omega), rfl⟩) hk'))
        · intro i y hi' j u hj
          rcases Nat.lt_or_ge i L.length with h | h
          · rw [List.getElem?_append_left h] at hi'; exact hl3 i y hi' j u hj
          · rw [List.getElem?_append_right h] at hi'
            have h0 : i - L.length = 0 := by
              rcases Nat.eq_zero_or_pos (i - L.length) with h' | h'
              · exact h'
              · rw [List.getElem?_eq_none (by simp; omega)] at hi'; cases hi'
            rw [h0] at hi'
            have hy : cs' = y := by simpa using hi'
            subst hy
            obtain rfl : i = n := by omega
            have hj2 : j < P.cellsOf e := by
              have := (List.getElem?_eq_some_iff.1 hj).1
              omega
            have := hat j hj2
            rw [hj, Go.Deep.add_add] at this
            exact this
    obtain ⟨L, hL1, hL2, hL3⟩ := hall len (Nat.le_refl _)
    refine ⟨some a, len, cap, L, hcs, hl, hm, ?_, hL1, hL2, ?_, fun hn => ⟨a, rfl, ?_, ?_⟩⟩
    · have hq := hz ((len + (m - len)) * P.bytesOf e) (by rw [hdw]; simp [DataW.weights, ht])
      have e2 : (len + (m - len)) * 1 ≤ (len + (m - len)) * P.bytesOf e := Nat.mul_le_mul_left _ heb
      omega
    · rw [rows_len _ L fun x hx => (hL2 x hx).1, hL1]
    · obtain ⟨x, hx0⟩ : ∃ x, L[0]? = some x := ⟨_, List.getElem?_eq_getElem (by omega)⟩
      have hxl := (hL2 x (List.mem_of_getElem? hx0)).1
      obtain ⟨u, hu⟩ : ∃ u, x[0]? = some u := ⟨_, List.getElem?_eq_getElem (by omega)⟩
      have := cell_lt' (hL3 0 x hx0 0 u hu)
      rwa [block_of_add] at this
    · intro j u hj
      have hjl := (List.getElem?_eq_some_iff.1 hj).1
      rw [rows_len _ L fun x hx => (hL2 x hx).1] at hjl
      have hq : j / P.cellsOf e < L.length := Nat.div_lt_of_lt_mul (by rw [Nat.mul_comm]; exact hjl)
      have he2 : j / P.cellsOf e * P.cellsOf e + j % P.cellsOf e = j := by rw [Nat.mul_comm]; exact Nat.div_add_mod j _
      have hp := rows_at (P.cellsOf e) L (j / P.cellsOf e) (j % P.cellsOf e) _ (fun x hx => (hL2 x hx).1) (List.getElem?_eq_getElem hq) (Nat.mod_lt _ hk)
      rw [he2, hj] at hp
      have := hL3 _ _ (List.getElem?_eq_getElem hq) _ u hp.symm
      rw [he2] at this
      exact this
theorem sized_at {ts : List TypeId} {ds : List (DataW H)} (h : (DataW.weightsEach P ts ds).all (· ≤ reachBytes) = true) {j : Nat} {t : TypeId} {d : DataW H} (ht : ts[j]? = some t) (hd : ds[j]? = some d) : ∀ k ∈ d.weights P t, k ≤ 140737488355328 := by
  intro k hk
  have := List.all_eq_true.1 h _ (DataW.weights_mem_each ht hd k hk)
  have h2 : reachBytes < 2 ^ 47 := reachBytes_lt
  simp only [decide_eq_true_eq] at this
  omega
theorem fitsZ_top {base0 : Nat} {spare : Nat → Bool} {held : Bool} {v : Value} {d : DataW H} {ps : List MemPlace} (h : DataW.Trod enc P w base0 spare held t v d ps) (hz : ∀ k ∈ d.weights P t, k ≤ R) : FitsZ R enc P w t v.cells.toList := by
  obtain ⟨fuel, hf⟩ := h
  exact ⟨_, _, _, fuel, _, _, hf, hz⟩
theorem fitsZ_struct {base0 : Nat} {spare : Nat → Bool} {held : Bool} {r : Reach} {b0 : Nat} {fs : Array Field} {v : Value} {d : DataW H} {ps : List MemPlace} (hv : Value.okWide P w r b0 t v) (ht : P.underlying t = some (.struct fs)) (h : DataW.Trod enc P w base0 spare held t v d ps) (hz : ∀ k ∈ d.weights P t, k ≤ R) : ∃ cs : Array Value, v = .agg cs ∧ FitsZ R enc P w t cs.toList := by
  obtain ⟨cs, rfl, _⟩ := okWide_struct ht hv
  exact ⟨cs, rfl, fitsZ_top h hz⟩
theorem fitsZ_plain {base0 : Nat} {spare : Nat → Bool} {held : Bool} {v : Value} {d : DataW H} {ps : List MemPlace} (h : DataW.Trod enc P w base0 spare held t v d ps) (hc : v.cells = #[v]) (hz : ∀ k ∈ d.weights P t, k ≤ R) : FitsZ R enc P w t [v] := by
  have := fitsZ_top h hz
  rwa [hc] at this
end
end Go.Proofs.YtgjlpgijlicppaaGreatDoor
/-
  append(own, src...) at whatever slice is appended, nil let in: its run, and the law for the walk.
-/
namespace Go.Proofs.YtgjlpgijlicppaaGreatDoor
open Go.RowKit
/-- what a slice that is appended yields -/
def Gives (w : World) (size : Nat) (A : Option Addr) (m : Nat) (news : List Value) : Prop :=
  news.length = m * size ∧ (0 < m → ∃ ad, A = some ad ∧ ∀ j u, news[j]? = some u → w.cell? (ad.add j) = some u) ∧ ∀ u ∈ news, u.oneCell' = true
theorem Gives.of_reads {w : World} {B size m : Nat} {A : Option Addr} {xs : List Value} (h : Reads w B size A m xs) (h1 : ∀ u ∈ xs, u.oneCell' = true) : Gives w size A m xs :=
  ⟨h.1, fun hm => by obtain ⟨ad, e, _, hc⟩ := h.2 hm; exact ⟨ad, e, hc⟩, h1⟩
theorem setCells_nil (w : World) (b off : Nat) : w.setCells b off [] = w := by simp [World.setCells]
theorem run_append_any {P : Program} (w : World) (base : Nat) (t ty e : TypeId) (i : TypeInfo) (z : Value) (size bytes : Nat) (ht : P.underlying t = some (.slice e)) (hi : P.info? e = some i) (hz : i.zero = some z)
    (hsize : i.size = size) (hby : i.bytes = bytes) (hzs : z.cells.size = size) (hsz : 0 < size) (v : Value) (n : Nat) (xs : List Value) (hown : w.ownsRow base e size v n xs)
    (A : Option Addr) (m c : Nat) (news : List Value) (hg : Gives w size A m news) (h63 : n + m ≤ maxLen) (hbytes : (n + m) * bytes ≤ 140737488355328) (hbase : base ≤ w.heap.size) :
    ∃ v' w', (Builtin.append_ #[t, t] ty #[v, .slice A m c]).run P w = .ok v' w' ∧ w'.ownsRow base e size v' (n + m) (xs ++ news) ∧ w.grownBy w' v.ownBlock := by
  obtain ⟨hl, hnews, h1⟩ := hg
  cases A with
  | some ad =>
    have hc : ∀ j u, news[j]? = some u → w.cell? (ad.add j) = some u := by
      rcases Nat.eq_zero_or_pos m with h | h
      · subst h
        intro j u hj
        have : news = [] := List.length_eq_zero_iff.1 (by simpa using hl)
        rw [this] at hj; cases hj
      · obtain ⟨ad', e, hc⟩ := hnews h
        injection e with e; subst e; exact hc
    obtain ⟨v', w', hr, h2, h3, _⟩ := run_append_own (P := P) w base t ty e i z size bytes ht hi hz hsize hby hzs hsz v n xs hown ad m c news hl hc h1 h63 hbytes hbase
    exact ⟨v', w', hr, h2, h3⟩
  | none =>
    have h0 : m = 0 := by
      rcases Nat.eq_zero_or_pos m with h | h
      · exact h
      · obtain ⟨ad, e, _⟩ := hnews h; cases e
    subst h0
    have hn : news = [] := List.length_eq_zero_iff.1 (by simpa using hl)
    subst hn
    have hrun : (Builtin.append_ #[t, t] ty #[v, .slice none 0 c]).run P w = .ok v w := by
      rcases hown.2 with ⟨rfl, rfl⟩ | ⟨g, cap, cur, rfl, _, _, hnc, _⟩
      · simp [Builtin.append_, run_underlying ht, sizeOf, typeInfo, hi, Builtin.lenOf, Builtin.firstCells, Result.andThen]
      · have := run_append_room_src (P := P) w t t ty e i ht hi g 0 n cap (.slice none 0 c) 0 [] (Src.ofNil w ht c) (by omega) (fun j hj => by simp at hj) (fun j hj => by simp at hj)
        rw [setCells_nil] at this
        exact this
    exact ⟨v, w, hrun, by simpa using hown, ⟨rfl, rfl, rfl, Nat.le_refl _, fun _ _ _ => rfl⟩⟩
theorem wpList_append_any {P : Program} (w : World) {ops : Array Oper} {rest : List Oper} {o : Oper} {a : Act} {Q : Exit → Act → World → Prop} (hgd : o.guard = none) (s x : Operand) (t : TypeId)
    (ho : o.op = .call { callee := .builtin .append, args := #[s, x], argTypes := #[t, t] })
    (base : Nat) (e : TypeId) (i : TypeInfo) (z : Value) (size bytes : Nat) (ht : P.underlying t = some (.slice e)) (hi : P.info? e = some i) (hz : i.zero = some z)
    (hsize : i.size = size) (hby : i.bytes = bytes) (hzs : z.cells.size = size) (hsz : 0 < size) (v : Value) (n : Nat) (xs : List Value) (hs : a.eval s = v) (hown : w.ownsRow base e size v n xs)
    (A : Option Addr) (m c : Nat) (news : List Value) (hx : a.eval x = .slice A m c) (hg : Gives w size A m news) (h63 : n + m ≤ maxLen) (hbytes : (n + m) * bytes ≤ 140737488355328) (hbase : base ≤ w.heap.size)
    (h : ∀ v' w', w'.ownsRow base e size v' (n + m) (xs ++ news) → w.grownBy w' v.ownBlock → wpList P ops Q rest (a.put o.dst v') w') : wpList P ops Q (o :: rest) a w := by
  refine wpList_plain hgd fun K hK => ?_
  obtain ⟨v', w', hr, h2, h3⟩ := run_append_any (P := P) w base t o.type e i z size bytes ht hi hz hsize hby hzs hsz v n xs hown A m c news hg h63 hbytes hbase
  unfold Oper.wp execOp
  simp only [ho, resolve, invoke, builtin, Sem.run_bind, Sem.run_pure, Result.andThen_ok, List.map_toArray, List.map_cons, List.map_nil, hs, hx, hr]
  exact hK _ _ (h v' w' h2 h3)
end Go.Proofs.YtgjlpgijlicppaaGreatDoor
/-
  DERIVED: THE SHELF's CONTRACTS AT THIS DUMP, IN PLAIN WORDS (tools/lay-plain.mjs out of 'TryzShelf.lean', which tools/lay-shelf.mjs wrote): THE SAME DECLARATIONS UNDER THE SAME NAMES: 'import', 'namespace', 'open', 'def', 'theorem' AND NOTHING ELSE: no command of the shelf's: FOR A HAND-IN. Each laying: the table of numbers ('.._ren') and one theorem, a field a fact of the dump's own or the kernel's comparison; each contract: ONE APPLICATION.
-/
namespace Go.Proofs
open Go.Shelf
def Tryz.lays171_ren : Go.Shelf.Ren := ⟨fun | 171 => 18 | 243 => 36 | 246 => 60 | 283 => 92 | 284 => 93 | 285 => 94 | 286 => 95 | 129 => 106 | 317 => 125 | 318 => 126 | 319 => 127 | 320 => 128 | 337 => 153 | 338 => 154 | n => n, fun | 3 => 3 | 9 => 9 | 2 => 2 | 4 => 4 | 171 => 152 | 0 => 0 | 53 => 153 | 37 => 29 | 5 => 5 | 173 => 156 | 212 => 184 | 51 => 37 | 20 => 20 | 213 => 185 | 46 => 115 | 232 => 142 | 233 => 225 | n => n, fun | 17 => 0 | 18 => 2 | 19 => 3 | n => n⟩
theorem Tryz.lays171 : Go.Proofs.Lays.n171 Tryz.prog Tryz.lays171_ren := {
  mixed := by kernel_rfl
  f129 := Tryz.func106.trans (congrArg some (by kernel_rfl))
  f171 := Tryz.func18.trans (congrArg some (by kernel_rfl))
  f243 := Tryz.func36.trans (congrArg some (by kernel_rfl))
  f246 := Tryz.func60.trans (congrArg some (by kernel_rfl))
  f283 := Tryz.func92.trans (congrArg some (by kernel_rfl))
  f284 := Tryz.func93.trans (congrArg some (by kernel_rfl))
  f285 := Tryz.func94.trans (congrArg some (by kernel_rfl))
  f286 := Tryz.func95.trans (congrArg some (by kernel_rfl))
  f317 := Tryz.func125.trans (congrArg some (by kernel_rfl))
  f318 := Tryz.func126.trans (congrArg some (by kernel_rfl))
  f319 := Tryz.func127.trans (congrArg some (by kernel_rfl))
  f320 := Tryz.func128.trans (congrArg some (by kernel_rfl))
  f337 := Tryz.func153.trans (congrArg some (by kernel_rfl))
  f338 := Tryz.func154.trans (congrArg some (by kernel_rfl))
  t0 := Tryz.underlying0
  a0 := Tryz.isAgg0
  z0 := Tryz.sizeOf0
  v0 := Tryz.zeroValue0
  t2 := Tryz.underlying2
  a2 := Tryz.isAgg2
  z2 := Tryz.sizeOf2
  v2 := Tryz.zeroValue2
  t3 := Tryz.underlying3
  a3 := Tryz.isAgg3
  z3 := Tryz.sizeOf3
  v3 := Tryz.zeroValue3
  t4 := Tryz.underlying4
  a4 := Tryz.isAgg4
  z4 := Tryz.sizeOf4
  v4 := Tryz.zeroValue4
  t5 := Tryz.underlying5
  a5 := Tryz.isAgg5
  z5 := Tryz.sizeOf5
  v5 := Tryz.zeroValue5
  t9 := Tryz.underlying9
  a9 := Tryz.isAgg9
  z9 := Tryz.sizeOf9
  v9 := Tryz.zeroValue9
  t20 := Tryz.underlying20
  a20 := Tryz.isAgg20
  z20 := Tryz.sizeOf20
  v20 := Tryz.zeroValue20
  t37 := Tryz.underlying29
  a37 := Tryz.isAgg29
  z37 := Tryz.sizeOf29
  v37 := Tryz.zeroValue29
  t46 := Tryz.underlying115
  a46 := Tryz.isAgg115
  z46 := Tryz.sizeOf115
  v46 := Tryz.zeroValue115
  t51 := Tryz.underlying37
  a51 := Tryz.isAgg37
  z51 := Tryz.sizeOf37
  v51 := Tryz.zeroValue37
  t53 := Tryz.underlying153
  a53 := Tryz.isAgg153
  z53 := Tryz.sizeOf153
  v53 := Tryz.zeroValue153
  t171 := Tryz.underlying152
  a171 := Tryz.isAgg152
  z171 := Tryz.sizeOf152
  v171 := Tryz.zeroValue152
  t173 := Tryz.underlying156
  a173 := Tryz.isAgg156
  z173 := Tryz.sizeOf156
  v173 := Tryz.zeroValue156
  t212 := Tryz.underlying184
  a212 := Tryz.isAgg184
  z212 := Tryz.sizeOf184
  v212 := Tryz.zeroValue184
  t213 := Tryz.underlying185
  a213 := Tryz.isAgg185
  z213 := Tryz.sizeOf185
  t232 := Tryz.underlying142
  a232 := Tryz.isAgg142
  z232 := Tryz.sizeOf142
  v232 := Tryz.zeroValue142
  t233 := Tryz.underlying225
  a233 := Tryz.isAgg225
  z233 := Tryz.sizeOf225
  v233 := Tryz.zeroValue225
  g17 := by kernel_rfl
  g18 := by kernel_rfl
  g19 := by kernel_rfl }
open Go.RowKit Go.Sort Go.Lib in
/-- THE ROAD WITHOUT THE TABLE: 0 <= i < 100: NO PREMISE ON THE WORLD, AND THE WORLD IS AS IT WAS: a row that keeps its argument in that range need list no table ('laid = []'). (LAID: no walk: one application.) -/
theorem Tryz.strconv_Itoa_small (i : Nat) (hi : i < 100) (w : World) :
    Calls Tryz.prog 18 #[.int .i64 i] w fun e w' => e = .returned (.string ⟨(Lib.decDigits i).toArray⟩) ∧ w' = w := Any.strconv_Itoa_small Tryz.lays171 i hi w
def Tryz.lays110_ren : Go.Shelf.Ren := ⟨fun | 110 => 17 | 109 => 35 | n => n, fun | 31 => 34 | 9 => 9 | 4 => 4 | 3 => 3 | 0 => 0 | n => n, fun | n => n⟩
theorem Tryz.lays110 : Go.Proofs.Lays.n110 Tryz.prog Tryz.lays110_ren := {
  mixed := by kernel_rfl
  f109 := Tryz.func35.trans (congrArg some (by kernel_rfl))
  f110 := Tryz.func17.trans (congrArg some (by kernel_rfl))
  t0 := Tryz.underlying0
  a0 := Tryz.isAgg0
  z0 := Tryz.sizeOf0
  v0 := Tryz.zeroValue0
  t3 := Tryz.underlying3
  a3 := Tryz.isAgg3
  z3 := Tryz.sizeOf3
  v3 := Tryz.zeroValue3
  t4 := Tryz.underlying4
  a4 := Tryz.isAgg4
  z4 := Tryz.sizeOf4
  v4 := Tryz.zeroValue4
  t9 := Tryz.underlying9
  a9 := Tryz.isAgg9
  z9 := Tryz.sizeOf9
  v9 := Tryz.zeroValue9
  t31 := Tryz.underlying34
  a31 := Tryz.isAgg34
  z31 := Tryz.sizeOf34
  v31 := Tryz.zeroValue34 }
open Go.Lib in
/-- slices.Contains at []string: "Contains reports whether v is present in s.": IT RETURNS 'Lib.containsS (the elements) v', which is true just where v is among them ('Lib.containsS_iff'); the world is as it was. ITS CALLEE slices.Index IS MET BY ITS OWN CONTRACT OFF THE SHELF (lay that first): no loop is walked here. (LAID: no walk: one application.) -/
theorem Tryz.slices_Contains_string (b off n c : Nat) (zs : List ByteArray) (x : ByteArray) (w : World) (hz : n ≤ zs.length) (hbig : n ≤ 9223372036854775807) (hc : ∀ j, j < zs.length → w.cell? ⟨b, off + j, none⟩ = some (.string (zs.getD j ByteArray.empty))) :
    Calls Tryz.prog 17 #[.slice (some ⟨b, off, none⟩) n c, .string x] w fun e w' => e = .returned (.bool (Lib.containsS (zs.take n) x)) ∧ w' = w := Any.slices_Contains_string Tryz.lays110 b off n c zs x w hz hbig hc
open Go.Lib in
/-- The same at a slice of length 0, a nil one too. (LAID: no walk: one application.) -/
theorem Tryz.slices_Contains_string_empty (a : Option Addr) (c : Nat) (x : ByteArray) (w : World) :
    Calls Tryz.prog 17 #[.slice a 0 c, .string x] w fun e w' => e = .returned (.bool false) ∧ w' = w := Any.slices_Contains_string_empty Tryz.lays110 a c x w
def Tryz.laysSlK4_ren : Go.Shelf.Ren := ⟨fun | 4 => 23 | n => n, fun | 22 => 29 | 4 => 4 | 5 => 5 | n => n, fun | n => n⟩
theorem Tryz.laysSlK4 : Go.Proofs.SlLaysK.n4 Tryz.prog Tryz.laysSlK4_ren := {
  mixed := by kernel_rfl
  f4 := Tryz.func23.trans (congrArg some (by kernel_rfl))
  t4 := Tryz.underlying4
  a4 := Tryz.isAgg4
  z4 := Tryz.sizeOf4
  v4 := Tryz.zeroValue4
  t22 := Tryz.underlying29
  a22 := Tryz.isAgg29
  z22 := Tryz.sizeOf29
  v22 := Tryz.zeroValue29
  t5 := Tryz.underlying5
  i5 := by kernel_rfl }
open Go.RowKit Go.Lib in
/-- bytes.Clone: "Clone returns a copy of b[:len(b)]. The result may have additional unused capacity.": OF A SLICE THAT IS NOT nil IT RETURNS A SLICE THAT IS NOT nil, OF THE SAME BYTES, IN MEMORY OF THE CALL's OWN: in the how-to's words (6f): 'w'.ownsRow B e 1 v' n cells' · 'Below B w w'', B the heap's size at the call. b AT WHATEVER ADDRESS, its cells as 'open_ints' hands them ('a.add i'; the numbers 'xs'). No byte: no cell is asked for. (LAID: no walk: one application.) -/
theorem Tryz.bytes_Clone_at (a : Addr) (n c : Nat) (xs : List Int) (w : World) (hx : xs.length = n) (hbig : n ≤ 140737488355328) (hc : ∀ i, i < n → w.cell? (a.add i) = some (.int .u8 (xs.getD i 0))) :
    Calls Tryz.prog 23 #[.slice (some a) n c] w fun e w' => ∃ v', e = .returned v' ∧ w'.ownsRow w.heap.size 5 1 v' n (xs.map (Value.int .u8)) ∧ v' ≠ .slice none 0 0 ∧ Below w.heap.size w w' := Any.bytes_Clone_at Tryz.laysSlK4 a n c xs w hx hbig hc
open Go.RowKit Go.Lib in
/-- "Clone(nil) returns nil.": the world is as it was. (LAID: no walk: one application.) -/
theorem Tryz.bytes_Clone_nil (n c : Nat) (w : World) :
    Calls Tryz.prog 23 #[.slice none n c] w fun e w' => e = .returned (.slice none 0 0) ∧ w' = w := Any.bytes_Clone_nil Tryz.laysSlK4 n c w
def Tryz.keys25_ren : Go.Shelf.Ren := ⟨fun | 7 => 25 | 10 => 40 | n => n, fun | 23 => 43 | 26 => 9 | 3 => 49 | 28 => 59 | 0 => 0 | 27 => 58 | 33 => 24 | 4 => 4 | n => n, fun | n => n⟩
theorem Tryz.keys25 : Go.Proofs.SlLaysZ.n7 Tryz.prog Tryz.keys25_ren := {
  mixed := by kernel_rfl
  f7 := ⟨Tryz.f25.name, by decide, Tryz.func25.trans (congrArg some (by kernel_rfl))⟩
  f10 := ⟨Tryz.f40.name, by decide, Tryz.func40.trans (congrArg some (by kernel_rfl))⟩
  t0 := Tryz.underlying0
  a0 := Tryz.isAgg0
  z0 := Tryz.sizeOf0
  v0 := Tryz.zeroValue0
  t4 := Tryz.underlying4
  a4 := Tryz.isAgg4
  z4 := Tryz.sizeOf4
  v4 := Tryz.zeroValue4
  t23 := Tryz.underlying43
  a23 := Tryz.isAgg43
  z23 := Tryz.sizeOf43
  v23 := Tryz.zeroValue43
  t26 := Tryz.underlying9
  a26 := Tryz.isAgg9
  z26 := Tryz.sizeOf9
  v26 := Tryz.zeroValue9
  t27 := Tryz.underlying58
  a27 := Tryz.isAgg58
  z27 := Tryz.sizeOf58
  v27 := Tryz.zeroValue58
  t28 := Tryz.underlying59
  a28 := Tryz.isAgg59
  z28 := Tryz.sizeOf59
  v28 := Tryz.zeroValue59
  t33 := Tryz.underlying24
  a33 := Tryz.isAgg24
  z33 := Tryz.sizeOf24
  v33 := Tryz.zeroValue24 }
def Tryz.sorted24_ren : Go.Shelf.Ren := ⟨fun | 6 => 24 | 8 => 38 | 9 => 39 | 11 => 61 | 13 => 63 | 12 => 62 | 23 => 105 | 24 => 106 | 14 => 96 | 15 => 97 | 16 => 98 | 17 => 99 | 18 => 100 | 19 => 101 | 20 => 102 | 21 => 103 | 22 => 104 | 25 => 129 | 26 => 130 | 27 => 131 | 28 => 132 | 29 => 133 | 30 => 134 | 31 => 155 | n => n, fun | 26 => 9 | 28 => 59 | 24 => 34 | 0 => 0 | 3 => 3 | 37 => 115 | 48 => 37 | 50 => 153 | 4 => 4 | 40 => 160 | 39 => 159 | 45 => 165 | 5 => 5 | 9 => 9 | 51 => 187 | 55 => 191 | 57 => 212 | 58 => 213 | 33 => 24 | n => n, fun | n => n⟩
theorem Tryz.sorted24 : Go.Proofs.SlLaysZ.n6 Tryz.prog Tryz.sorted24_ren := {
  mixed := by kernel_rfl
  f6 := ⟨Tryz.f24.name, by decide, Tryz.func24.trans (congrArg some (by kernel_rfl))⟩
  f8 := ⟨Tryz.f38.name, by decide, Tryz.func38.trans (congrArg some (by kernel_rfl))⟩
  f11 := ⟨Tryz.f61.name, by decide, Tryz.func61.trans (congrArg some (by kernel_rfl))⟩
  t0 := Tryz.underlying0
  a0 := Tryz.isAgg0
  z0 := Tryz.sizeOf0
  v0 := Tryz.zeroValue0
  t24 := Tryz.underlying34
  a24 := Tryz.isAgg34
  z24 := Tryz.sizeOf34
  v24 := Tryz.zeroValue34
  t26 := Tryz.underlying9
  a26 := Tryz.isAgg9
  z26 := Tryz.sizeOf9
  v26 := Tryz.zeroValue9
  t28 := Tryz.underlying59
  a28 := Tryz.isAgg59
  z28 := Tryz.sizeOf59
  v28 := Tryz.zeroValue59
  i26 := by kernel_rfl }
def Tryz.sort39_ren : Go.Shelf.Ren := ⟨fun | 6 => 39 | 8 => 63 | 9 => 62 | 19 => 105 | 20 => 106 | 21 => 96 | 22 => 97 | 23 => 98 | 24 => 99 | 25 => 100 | 26 => 101 | 27 => 102 | 28 => 103 | 29 => 104 | 36 => 129 | 31 => 130 | 32 => 131 | 37 => 132 | 38 => 133 | 39 => 134 | 41 => 155 | n => n, fun | 27 => 34 | 29 => 9 | 3 => 3 | 32 => 115 | 26 => 34 | 0 => 0 | 44 => 37 | 46 => 153 | 4 => 4 | 36 => 160 | 35 => 159 | 41 => 165 | 5 => 5 | 9 => 9 | 53 => 187 | 57 => 191 | 63 => 212 | 64 => 213 | n => n, fun | n => n⟩
theorem Tryz.sort39 : Go.Proofs.SlLaysM.n6 Tryz.prog Tryz.sort39_ren := {
  mixed := by kernel_rfl
  f6 := ⟨Tryz.f39.name, by decide, Tryz.func39.trans (congrArg some (by kernel_rfl))⟩
  f8 := Tryz.func63.trans (congrArg some (by kernel_rfl))
  f9 := ⟨Tryz.f62.name, by decide, Tryz.func62.trans (congrArg some (by kernel_rfl))⟩
  f19 := Tryz.func105.trans (congrArg some (by kernel_rfl))
  f20 := Tryz.func106.trans (congrArg some (by kernel_rfl))
  f21 := ⟨Tryz.f96.name, by decide, Tryz.func96.trans (congrArg some (by kernel_rfl))⟩
  f22 := ⟨Tryz.f97.name, by decide, Tryz.func97.trans (congrArg some (by kernel_rfl))⟩
  f23 := ⟨Tryz.f98.name, by decide, Tryz.func98.trans (congrArg some (by kernel_rfl))⟩
  f24 := ⟨Tryz.f99.name, by decide, Tryz.func99.trans (congrArg some (by kernel_rfl))⟩
  f25 := ⟨Tryz.f100.name, by decide, Tryz.func100.trans (congrArg some (by kernel_rfl))⟩
  f26 := ⟨Tryz.f101.name, by decide, Tryz.func101.trans (congrArg some (by kernel_rfl))⟩
  f27 := ⟨Tryz.f102.name, by decide, Tryz.func102.trans (congrArg some (by kernel_rfl))⟩
  f28 := ⟨Tryz.f103.name, by decide, Tryz.func103.trans (congrArg some (by kernel_rfl))⟩
  f29 := ⟨Tryz.f104.name, by decide, Tryz.func104.trans (congrArg some (by kernel_rfl))⟩
  f31 := Tryz.func130.trans (congrArg some (by kernel_rfl))
  f32 := Tryz.func131.trans (congrArg some (by kernel_rfl))
  f36 := ⟨Tryz.f129.name, by decide, Tryz.func129.trans (congrArg some (by kernel_rfl))⟩
  f37 := ⟨Tryz.f132.name, by decide, Tryz.func132.trans (congrArg some (by kernel_rfl))⟩
  f38 := ⟨Tryz.f133.name, by decide, Tryz.func133.trans (congrArg some (by kernel_rfl))⟩
  f39 := ⟨Tryz.f134.name, by decide, Tryz.func134.trans (congrArg some (by kernel_rfl))⟩
  f41 := ⟨Tryz.f155.name, by decide, Tryz.func155.trans (congrArg some (by kernel_rfl))⟩
  t0 := Tryz.underlying0
  a0 := Tryz.isAgg0
  z0 := Tryz.sizeOf0
  v0 := Tryz.zeroValue0
  t3 := Tryz.underlying3
  a3 := Tryz.isAgg3
  z3 := Tryz.sizeOf3
  v3 := Tryz.zeroValue3
  t4 := Tryz.underlying4
  a4 := Tryz.isAgg4
  z4 := Tryz.sizeOf4
  v4 := Tryz.zeroValue4
  t5 := Tryz.underlying5
  a5 := Tryz.isAgg5
  z5 := Tryz.sizeOf5
  v5 := Tryz.zeroValue5
  t9 := Tryz.underlying9
  a9 := Tryz.isAgg9
  z9 := Tryz.sizeOf9
  v9 := Tryz.zeroValue9
  t26 := Tryz.underlying34
  a26 := Tryz.isAgg34
  z26 := Tryz.sizeOf34
  v26 := Tryz.zeroValue34
  t27 := Tryz.underlying34
  a27 := Tryz.isAgg34
  z27 := Tryz.sizeOf34
  v27 := Tryz.zeroValue34
  t29 := Tryz.underlying9
  a29 := Tryz.isAgg9
  z29 := Tryz.sizeOf9
  v29 := Tryz.zeroValue9
  t32 := Tryz.underlying115
  a32 := Tryz.isAgg115
  z32 := Tryz.sizeOf115
  v32 := Tryz.zeroValue115
  t35 := Tryz.underlying159
  a35 := Tryz.isAgg159
  z35 := Tryz.sizeOf159
  v35 := Tryz.zeroValue159
  t36 := Tryz.underlying160
  a36 := Tryz.isAgg160
  z36 := Tryz.sizeOf160
  v36 := Tryz.zeroValue160
  t41 := Tryz.underlying165
  a41 := Tryz.isAgg165
  z41 := Tryz.sizeOf165
  v41 := Tryz.zeroValue165
  t44 := Tryz.underlying37
  a44 := Tryz.isAgg37
  z44 := Tryz.sizeOf37
  v44 := Tryz.zeroValue37
  t46 := Tryz.underlying153
  a46 := Tryz.isAgg153
  z46 := Tryz.sizeOf153
  v46 := Tryz.zeroValue153
  t53 := Tryz.underlying187
  a53 := Tryz.isAgg187
  z53 := Tryz.sizeOf187
  v53 := Tryz.zeroValue187
  t57 := Tryz.underlying191
  a57 := Tryz.isAgg191
  z57 := Tryz.sizeOf191
  v57 := Tryz.zeroValue191
  t63 := Tryz.underlying212
  a63 := Tryz.isAgg212
  z63 := Tryz.sizeOf212
  v63 := Tryz.zeroValue212
  t64 := Tryz.underlying213
  a64 := Tryz.isAgg213
  z64 := Tryz.sizeOf213
  v64 := Tryz.zeroValue213 }
def Tryz.grow34_ren : Go.Shelf.Ren := ⟨fun | 4 => 34 | n => n, fun | 22 => 29 | 25 => 5 | 3 => 3 | 4 => 4 | 9 => 9 | 20 => 20 | 0 => 0 | n => n, fun | n => n⟩
theorem Tryz.grow34 : Go.Proofs.Lays8.n4 Tryz.prog Tryz.grow34_ren := {
  mixed := by kernel_rfl
  f4 := ⟨Tryz.f34.name, by decide, Tryz.func34.trans (congrArg some (by kernel_rfl))⟩
  t0 := Tryz.underlying0
  a0 := Tryz.isAgg0
  z0 := Tryz.sizeOf0
  v0 := Tryz.zeroValue0
  t3 := Tryz.underlying3
  a3 := Tryz.isAgg3
  z3 := Tryz.sizeOf3
  v3 := Tryz.zeroValue3
  t4 := Tryz.underlying4
  a4 := Tryz.isAgg4
  z4 := Tryz.sizeOf4
  v4 := Tryz.zeroValue4
  t9 := Tryz.underlying9
  a9 := Tryz.isAgg9
  z9 := Tryz.sizeOf9
  v9 := Tryz.zeroValue9
  t20 := Tryz.underlying20
  a20 := Tryz.isAgg20
  z20 := Tryz.sizeOf20
  v20 := Tryz.zeroValue20
  t22 := Tryz.underlying29
  a22 := Tryz.isAgg29
  z22 := Tryz.sizeOf29
  v22 := Tryz.zeroValue29 }
end Go.Proofs
/-
  More plain words on memory: bytes turned into strings.
-/
namespace Go.Proofs.YtgjlpgijlicppaaGreatDoor
open Go.RowKit
theorem push_all : ∀ (bs : List UInt8) (acc : ByteArray), (bs.map fun b => ((b.toNat : Nat) : Int)).foldl (fun r n => r.push (UInt8.ofNat n.toNat)) acc = ⟨acc.data ++ bs.toArray⟩
  | [], acc => by simp
  | b :: bs, acc => by
    rw [List.map_cons, List.foldl_cons, push_all bs]
    simp [ByteArray.push]
/-- string(b), b a slice whose cells are known -/
theorem run_string_bytes {P : Program} (w : World) (src dst e : TypeId) (a : Addr) (bs : List UInt8) (cap : Nat)
    (hs : P.underlying src = some (.slice e)) (he : P.underlying e = some (.int .u8)) (hd : P.underlying dst = some .string)
    (hc : ∀ j b, bs[j]? = some b → w.cell? (a.add j) = some (.int .u8 ((b.toNat : Nat) : Int))) :
    (convert src dst (.slice (some a) bs.length cap)).run P w = .ok (.string ⟨bs.toArray⟩) w := by
  rw [run_convert_bytes_string w src dst e (some a) bs.length cap hs he hd]
  have hl := run_loadCells_list (P := P) w a (bs.map fun b => Value.int .u8 ((b.toNat : Nat) : Int)) (fun j v hv => by
    rw [List.getElem?_map] at hv
    cases hb : bs[j]? with
    | none => rw [hb] at hv; cases hv
    | some b => rw [hb] at hv; simp at hv; subst hv; exact hc j b hb)
  rw [List.length_map] at hl
  have := run_bytesToString (P := P) w a bs.length cap (bs.map fun b => ((b.toNat : Nat) : Int)) (by rw [List.map_map]; exact hl)
  rw [this, push_all]
  rw [show (⟨ByteArray.empty.data ++ bs.toArray⟩ : ByteArray) = ⟨bs.toArray⟩ from by congr 1; show #[] ++ bs.toArray = _; simp]
theorem u8_nat (n : Nat) (h : n < 256) : (UInt8.ofNat n).toNat = n := by simp; omega
end Go.Proofs.YtgjlpgijlicppaaGreatDoor
/-
  A map of names as a sorted list: plain words, no program in sight.
-/
namespace Go.Proofs.YtgjlpgijlicppaaGreatDoor
open Go.RowKit Go.Maps
abbrev Key := List UInt8
theorem less_eq : ∀ x y : Key, Op.bytesLess x y = bytesBefore x y
  | [], [] => rfl
  | [], _ :: _ => rfl
  | _ :: _, [] => rfl
  | a :: x, b :: y => by simp only [Op.bytesLess, bytesBefore, less_eq x y]
theorem lt_iff : ∀ x y : Key, x < y ↔ bytesBefore x y = true
  | [], [] => by simp [bytesBefore]
  | [], _ :: _ => by simp [bytesBefore]
  | _ :: _, [] => by simp [bytesBefore]
  | a :: x, b :: y => by simp [bytesBefore, List.cons_lt_cons_iff, lt_iff x y]
theorem leB_eq (x y : Key) : decide (x ≤ y) = !bytesBefore y x := by
  have : x ≤ y ↔ ¬ bytesBefore y x = true := by rw [← lt_iff]; exact Iff.rfl
  by_cases h : bytesBefore y x = true <;> simp [this, h]
theorem before_trans {x y z : Key} (h : bytesBefore x y = true) (k : bytesBefore y z = true) : bytesBefore x z = true := WideShapes.bytes_trans x y z h k
theorem before_irrefl (x : Key) : bytesBefore x x = false := WideAt.bytes_irrefl x
theorem before_ne {x y : Key} (h : bytesBefore x y = true) : x ≠ y := fun e => by subst e; rw [before_irrefl] at h; cases h
theorem before_anti {x y : Key} (h : bytesBefore x y = true) : bytesBefore y x = false := by
  cases hb : bytesBefore y x
  · rfl
  · have := before_trans h hb; rw [before_irrefl] at this; cases this
theorem before_total {x y : Key} (h : x ≠ y) (k : bytesBefore x y = false) : bytesBefore y x = true := by
  rcases WideAt.bytes_total x y h with h' | h'
  · rw [k] at h'; cases h'
  · exact h'

section
variable {V U : Type}
/-- the keys rise -/
def Up (l : List (Key × V)) : Prop := l.Pairwise fun p q => bytesBefore p.1 q.1 = true
def fget (k : Key) : List (Key × V) → Option V
  | [] => none
  | (y, v) :: r => if y = k then some v else fget k r
def fput (k : Key) (v : V) : List (Key × V) → List (Key × V)
  | [] => [(k, v)]
  | (y, u) :: r => if y = k then (k, v) :: r else if bytesBefore k y = true then (k, v) :: (y, u) :: r else (y, u) :: fput k v r
def fdel (k : Key) (l : List (Key × V)) : List (Key × V) := l.filter fun p => p.1 != k
def fmap (g : V → U) (l : List (Key × V)) : List (Key × U) := l.map fun p => (p.1, g p.2)

theorem fget_cons (k y : Key) (v : V) (r : List (Key × V)) : fget k ((y, v) :: r) = if y = k then some v else fget k r := rfl
theorem up_nil : Up ([] : List (Key × V)) := List.Pairwise.nil
theorem up_cons {p : Key × V} {l : List (Key × V)} : Up (p :: l) ↔ (∀ q ∈ l, bytesBefore p.1 q.1 = true) ∧ Up l := List.pairwise_cons
theorem up_fmap {g : V → U} {l : List (Key × V)} : Up (fmap g l) ↔ Up l := by
  unfold Up fmap
  rw [List.pairwise_map]
theorem up_fdel {l : List (Key × V)} (h : Up l) (k : Key) : Up (fdel k l) := List.Pairwise.filter _ h
theorem mem_fput {k : Key} {v : V} {q : Key × V} : ∀ {l : List (Key × V)}, q ∈ fput k v l → q = (k, v) ∨ q ∈ l
  | [], h => by simp [fput] at h; exact .inl h
  | (y, u) :: r, h => by
    unfold fput at h
    split at h
    · rcases List.mem_cons.1 h with h | h
      · exact .inl h
      · exact .inr (List.mem_cons_of_mem _ h)
    · split at h
      · rcases List.mem_cons.1 h with h | h
        · exact .inl h
        · exact .inr h
      · rcases List.mem_cons.1 h with h | h
        · exact .inr (by rw [h]; exact List.mem_cons_self)
        · rcases mem_fput h with h | h
          · exact .inl h
          · exact .inr (List.mem_cons_of_mem _ h)
theorem up_fput {k : Key} {v : V} : ∀ {l : List (Key × V)}, Up l → Up (fput k v l)
  | [], _ => by unfold fput Up; simp
  | (y, u) :: r, h => by
    obtain ⟨h1, h2⟩ := up_cons.1 h
    unfold fput
    split
    · rename_i e; subst e; exact up_cons.2 ⟨h1, h2⟩
    · rename_i hne
      split
      · rename_i hb
        refine up_cons.2 ⟨fun q hq => ?_, h⟩
        rcases List.mem_cons.1 hq with rfl | hq
        · exact hb
        · exact before_trans hb (h1 q hq)
      · rename_i hb
        refine up_cons.2 ⟨fun q hq => ?_, up_fput h2⟩
        rcases mem_fput hq with rfl | hq
        · exact before_total (fun e => hne e.symm) (by simpa using hb)
        · exact h1 q hq
theorem fget_none_of {k : Key} : ∀ {l : List (Key × V)}, (∀ q ∈ l, q.1 ≠ k) → fget k l = none
  | [], _ => rfl
  | (y, u) :: r, h => by
    unfold fget
    rw [if_neg (h (y, u) List.mem_cons_self)]
    exact fget_none_of fun q hq => h q (List.mem_cons_of_mem _ hq)
theorem fget_mem {k : Key} {v : V} : ∀ {l : List (Key × V)}, fget k l = some v → (k, v) ∈ l
  | [], h => by cases h
  | (y, u) :: r, h => by
    unfold fget at h
    split at h
    · rename_i e; injection h with h; subst e h; exact List.mem_cons_self
    · exact List.mem_cons_of_mem _ (fget_mem h)
theorem mem_of_isSome {k : Key} {l : List (Key × V)} (h : (fget k l).isSome = true) : ∃ v, (k, v) ∈ l := by
  obtain ⟨v, hv⟩ := Option.isSome_iff_exists.1 h
  exact ⟨v, fget_mem hv⟩
theorem fget_of_mem {k : Key} {v : V} : ∀ {l : List (Key × V)}, Up l → (k, v) ∈ l → fget k l = some v
  | (y, u) :: r, h, hm => by
    obtain ⟨h1, h2⟩ := up_cons.1 h
    unfold fget
    rcases List.mem_cons.1 hm with e | hm
    · injection e with e1 e2; subst e1 e2; simp
    · rw [if_neg (before_ne (h1 _ hm))]
      exact fget_of_mem h2 hm
theorem fget_fmap (g : V → U) (k : Key) : ∀ l : List (Key × V), fget k (fmap g l) = (fget k l).map g
  | [] => rfl
  | (y, u) :: r => by
    show (if y = k then some (g u) else fget k (fmap g r)) = (if y = k then some u else fget k r).map g
    split
    · rfl
    · exact fget_fmap g k r
theorem fput_fmap (g : V → U) (k : Key) (v : V) : ∀ l : List (Key × V), fmap g (fput k v l) = fput k (g v) (fmap g l)
  | [] => rfl
  | (y, u) :: r => by
    show fmap g (if y = k then (k, v) :: r else if bytesBefore k y = true then (k, v) :: (y, u) :: r else (y, u) :: fput k v r) = (if y = k then (k, g v) :: fmap g r else if bytesBefore k y = true then (k, g v) :: (y, g u) :: fmap g r else (y, g u) :: fput k (g v) (fmap g r))
    split
    · rfl
    · split
      · rfl
      · show (y, g u) :: fmap g (fput k v r) = _
        rw [fput_fmap g k v r]
theorem fdel_fmap (g : V → U) (k : Key) (l : List (Key × V)) : fmap g (fdel k l) = fdel k (fmap g l) := by
  unfold fmap fdel
  rw [List.filter_map]
  rfl
theorem fget_fput {k j : Key} {v : V} : ∀ {l : List (Key × V)}, fget j (fput k v l) = if j = k then some v else fget j l
  | [] => by unfold fput fget fget; by_cases h : k = j <;> simp [h]; intro e; exact absurd e.symm h
  | (y, u) :: r => by
    unfold fput
    by_cases h1 : y = k
    · rw [if_pos h1]
      unfold fget
      subst h1
      by_cases h : y = j
      · subst h; simp
      · rw [if_neg h, if_neg (fun e => h e.symm), if_neg h]
    · rw [if_neg h1]
      by_cases h2 : bytesBefore k y = true
      · rw [if_pos h2]
        show (if k = j then some v else fget j ((y, u) :: r)) = _
        by_cases h : k = j
        · subst h; simp
        · rw [if_neg h, if_neg (fun e => h e.symm)]
      · rw [if_neg h2]
        show (if y = j then some u else fget j (fput k v r)) = _
        rw [fget_fput, fget_cons]
        by_cases h : y = j
        · subst h; rw [if_pos rfl, if_neg h1, if_pos rfl]
        · rw [if_neg h, if_neg h]
theorem fget_fdel {k j : Key} : ∀ {l : List (Key × V)}, fget j (fdel k l) = if j = k then none else fget j l
  | [] => by unfold fdel fget; simp
  | (y, u) :: r => by
    have ih := fget_fdel (k := k) (j := j) (l := r)
    unfold fdel at ih ⊢
    rw [List.filter_cons]
    by_cases h1 : y = k
    · subst h1
      simp only [bne_self_eq_false, Bool.false_eq_true, if_false, ih]
      conv => rhs; unfold fget
      by_cases h : j = y
      · rw [if_pos h, if_pos h]
      · rw [if_neg h, if_neg h, if_neg (fun e => h e.symm)]
    · have : (y != k) = true := by simpa using h1
      simp only [this, if_true]
      unfold fget
      rw [ih]
      by_cases h : y = j
      · subst h; rw [if_pos rfl, if_neg h1, if_pos rfl]
      · rw [if_neg h, if_neg h]
/-- sorted lists that answer alike are one -/
theorem up_ext : ∀ {l m : List (Key × V)}, Up l → Up m → (∀ k, fget k l = fget k m) → l = m
  | [], [], _, _, _ => rfl
  | [], (y, u) :: r, _, _, h => by have := h y; simp [fget] at this
  | (y, u) :: r, [], _, _, h => by have := h y; simp [fget] at this
  | (y, u) :: r, (z, v) :: s, hl, hm, h => by
    obtain ⟨l1, l2⟩ := up_cons.1 hl
    obtain ⟨m1, m2⟩ := up_cons.1 hm
    have hyz : y = z := by
      by_cases e : y = z
      · exact e
      · exfalso
        have a1 : fget y ((z, v) :: s) = some u := by rw [← h y]; simp [fget]
        have a2 : fget z ((y, u) :: r) = some v := by rw [h z]; simp [fget]
        have b1 : (y, u) ∈ s := by
          rcases List.mem_cons.1 (fget_mem a1) with h' | h'
          · injection h' with h' _; exact absurd h' e
          · exact h'
        have b2 : (z, v) ∈ r := by
          rcases List.mem_cons.1 (fget_mem a2) with h' | h'
          · injection h' with h' _; exact absurd h'.symm e
          · exact h'
        have c1 := m1 _ b1
        have c2 := l1 _ b2
        simp only at c1 c2
        rw [before_anti c1] at c2
        cases c2
    subst hyz
    have huv : u = v := by have := h y; simpa [fget] using this
    subst huv
    congr 1
    refine up_ext l2 m2 fun k => ?_
    by_cases hk : y = k
    · subst hk
      rw [fget_none_of (fun q hq e => before_ne (l1 q hq) e.symm), fget_none_of (fun q hq e => before_ne (m1 q hq) e.symm)]
    · have := h k
      unfold fget at this
      rwa [if_neg hk, if_neg hk] at this
theorem fdel_fput {a b : Key} {v : V} {l : List (Key × V)} (h : Up l) (hne : a ≠ b) : fdel a (fput b v l) = fput b v (fdel a l) := by
  refine up_ext (up_fdel (up_fput h) a) (up_fput (up_fdel h a)) fun k => ?_
  rw [fget_fdel, fget_fput, fget_fput, fget_fdel]
  by_cases h1 : k = a
  · subst h1; simp [hne]
  · simp [h1]
theorem length_fput {k : Key} {v : V} : ∀ {l : List (Key × V)}, Up l → (fput k v l).length = l.length + (if (fget k l).isSome = true then 0 else 1)
  | [], _ => by simp [fput, fget]
  | (y, u) :: r, h => by
    obtain ⟨h1, h2⟩ := up_cons.1 h
    unfold fput fget
    by_cases e : y = k
    · rw [if_pos e, if_pos e]; simp
    · rw [if_neg e, if_neg e]
      by_cases hb : bytesBefore k y = true
      · rw [if_pos hb, fget_none_of (fun q hq e' => by have := h1 q hq; rw [e'] at this; rw [before_anti this] at hb; cases hb)]
        simp
      · rw [if_neg hb, List.length_cons, length_fput h2, List.length_cons]
        omega
theorem length_fdel_le (k : Key) (l : List (Key × V)) : (fdel k l).length ≤ l.length := List.length_filter_le _ _
theorem fput_at {k : Key} {u v : V} : ∀ {l : List (Key × V)} {r}, Up (l ++ (k, u) :: r) → fput k v (l ++ (k, u) :: r) = l ++ (k, v) :: r
  | [], r, _ => by simp [fput]
  | (y, x) :: l, r, h => by
    have h' : Up ((y, x) :: (l ++ (k, u) :: r)) := h
    obtain ⟨h1, h2⟩ := up_cons.1 h'
    have hb : bytesBefore y k = true := h1 (k, u) (by simp)
    show fput k v ((y, x) :: (l ++ (k, u) :: r)) = _
    unfold fput
    rw [if_neg (before_ne hb), if_neg (by rw [before_anti hb]; simp), fput_at h2]
    rfl
theorem fget_at {k : Key} {u : V} {l r : List (Key × V)} (h : Up (l ++ (k, u) :: r)) : fget k (l ++ (k, u) :: r) = some u := fget_of_mem h (by simp)
theorem fdel_at {k : Key} {u : V} {l r : List (Key × V)} (h : Up (l ++ (k, u) :: r)) : fdel k (l ++ (k, u) :: r) = l ++ r := by
  have h1 : ∀ q ∈ l, q.1 ≠ k := fun q hq => before_ne ((List.pairwise_append.1 h).2.2 q hq (k, u) List.mem_cons_self)
  have h2 : ∀ q ∈ r, q.1 ≠ k := fun q hq e => before_ne ((up_cons.1 (List.pairwise_append.1 h).2.1).1 q hq) e.symm
  unfold fdel
  rw [List.filter_append, List.filter_cons]
  simp only [bne_self_eq_false, Bool.false_eq_true, if_false]
  rw [List.filter_eq_self.2 (fun q hq => by simpa using h1 q hq), List.filter_eq_self.2 (fun q hq => by simpa using h2 q hq)]

/-! as a map's datum -/
variable {H : Type}
def dmap (g : V → DataW H) (l : List (Key × V)) : DataW H := .map (l.map fun p => (Lit.string p.1, g p.2))
theorem sameKey_str (a b : Key) : (Lit.string a).sameKey (.string b) = decide (a = b) := by
  simp [Lit.sameKey]
  by_cases h : a = b <;> simp [h]
theorem dmap_at (g : V → DataW H) (l : List (Key × V)) (k : Key) (z : DataW H) : (dmap g l).atKey (.string k) z = match fget k l with | some v => g v | none => z := by
  unfold dmap DataW.atKey
  simp only
  induction l with
  | nil => rfl
  | cons p r ih =>
    obtain ⟨y, u⟩ := p
    simp only [List.map_cons, List.find?_cons, sameKey_str]
    unfold fget
    by_cases h : y = k
    · simp [h]
    · simp only [h, decide_false, if_false]
      exact ih
theorem dmap_has (g : V → DataW H) (l : List (Key × V)) (k : Key) : Maps.has (dmap g l) (.string k) = (fget k l).isSome := by
  unfold dmap Maps.has
  simp only
  induction l with
  | nil => rfl
  | cons p r ih =>
    obtain ⟨y, u⟩ := p
    simp only [List.map_cons, List.any_cons, sameKey_str]
    unfold fget
    by_cases h : y = k
    · simp [h]
    · simp only [h, decide_false, if_false, Bool.false_or]
      exact ih
theorem dmap_size (g : V → DataW H) (l : List (Key × V)) : Maps.size (dmap g l) = l.length := by simp [dmap, Maps.size]
theorem dmap_keys (g : V → DataW H) (l : List (Key × V)) : strKeys (dmap g l) = l.map (·.1) := by
  simp [dmap, strKeys, strOf, List.map_map, Function.comp_def]
theorem insert_rest (g : V → DataW H) (k : Key) (d : DataW H) {r : List (Key × V)} (h : ∀ q ∈ r, bytesBefore k q.1 = true) :
    DataW.insert (Lit.string k, d) ((r.map fun p => (Lit.string p.1, g p.2)).filter fun p => !p.1.sameKey (.string k)) = (Lit.string k, d) :: r.map fun p => (Lit.string p.1, g p.2) := by
  rw [List.filter_eq_self.2 (fun p hp => by
    obtain ⟨q, hq, rfl⟩ := List.mem_map.1 hp
    have := before_ne (h q hq)
    simp only [sameKey_str, Bool.not_eq_true', decide_eq_false_iff_not]
    exact fun e => this e.symm)]
  cases r with
  | nil => rfl
  | cons q r =>
    show (if bytesBefore k q.1 = true then _ else _) = _
    rw [if_pos (h q List.mem_cons_self)]
    rfl
theorem dmap_put (g : V → DataW H) {l : List (Key × V)} (hup : Up l) (k : Key) (v : V) : (dmap g l).put (.string k) (g v) = dmap g (fput k v l) := by
  unfold dmap DataW.put
  simp only
  congr 1
  induction l with
  | nil => rfl
  | cons p r ih =>
    obtain ⟨y, u⟩ := p
    obtain ⟨h1, h2⟩ := up_cons.1 hup
    simp only [List.map_cons, List.filter_cons, sameKey_str]
    unfold fput
    by_cases e : y = k
    · subst e
      simp only [decide_true, Bool.not_true, Bool.false_eq_true, if_false, if_true, List.map_cons]
      exact insert_rest g y (g v) h1
    · simp only [e, decide_false, Bool.not_false, if_true, if_false]
      by_cases hb : bytesBefore k y = true
      · rw [if_pos hb]
        show (if bytesBefore k y = true then _ else _) = _
        rw [if_pos hb, List.filter_eq_self.2 (fun p hp => by
          obtain ⟨q, hq, rfl⟩ := List.mem_map.1 hp
          have := before_ne (before_trans hb (h1 q hq))
          simp only [sameKey_str, Bool.not_eq_true', decide_eq_false_iff_not]
          exact fun e => this e.symm)]
        rfl
      · rw [if_neg hb]
        show (if bytesBefore k y = true then _ else _) = _
        rw [if_neg hb, ih h2]
        rfl
theorem dmap_del (g : V → DataW H) (l : List (Key × V)) (k : Key) : (dmap g l).del (.string k) = dmap g (fdel k l) := by
  unfold dmap DataW.del fdel
  simp only
  congr 1
  rw [List.filter_map]
  congr 1
/-- the sorted keys are the list's own -/
theorem sorted_names {l : List (Key × V)} (hup : Up l) {ss : List Key} (h : ss.Perm (l.map (·.1))) : ss.mergeSort leB = l.map (·.1) := by
  rw [mergeSort_of_perm h]
  refine List.mergeSort_of_pairwise ?_
  rw [List.pairwise_map]
  refine List.Pairwise.imp (fun {p q} hpq => ?_) hup
  show decide (p.1 ≤ q.1) = true
  rw [leB_eq, before_anti hpq]
  rfl
end
end Go.Proofs.YtgjlpgijlicppaaGreatDoor
/-
  The disk as plain values: what each change answers, and what is left.
-/
namespace Go.Proofs.YtgjlpgijlicppaaGreatDoor
structure FileM where
  b : List UInt8
  safe : Nat
  ever : Bool
structure DiskM where
  cap : Nat
  files : List (Key × FileM)
  fuse : Int
  lost : Bool
def FileM.whole (f : FileM) : Bool := f.ever && decide (f.safe = f.b.length)
def FileM.none_ : FileM := ⟨[], 0, false⟩
def used : List (Key × FileM) → Nat
  | [] => 0
  | q :: r => q.2.b.length + used r
def rightC (c : UInt8) : Bool := (decide (97 ≤ c.toNat) && decide (c.toNat ≤ 122)) || (decide (48 ≤ c.toNat) && decide (c.toNat ≤ 57)) || decide (c.toNat = 46)
def right (s : Key) : Bool := s.all rightC && decide (1 ≤ s.length) && decide (s.length ≤ 40)
def DiskM.room (d : DiskM) : Nat := d.cap - used d.files
def DiskM.burn (d : DiskM) : DiskM := { d with lost := decide (d.fuse = 0), fuse := if 0 < d.fuse then d.fuse - 1 else d.fuse }
def DiskM.len (d : DiskM) (k : Key) : Nat := match fget k d.files with | some f => f.b.length | none => 0
/-- why nothing can be asked -/
def DiskM.gone (d : DiskM) : Int := if d.lost = true then 6 else 0
def DiskM.there (d : DiskM) (k : Key) : Int := if d.lost = true then 6 else if (fget k d.files).isSome = true then 0 else 7
def halved (d : DiskM) (b : List UInt8) : List UInt8 := if d.fuse = 0 then b.take (b.length / 2) else b
def dAppend (d : DiskM) (k : Key) (b : List UInt8) : Int × DiskM :=
  if d.lost = true then (6, d) else if right k = false then (1, d) else if d.room < b.length then (4, d)
  else if d.fuse = 0 ∧ fget k d.files = none ∧ (halved d b).length = 0 then (6, d.burn)
  else (d.burn.gone, { d.burn with files := fput k { (fget k d.files).getD FileM.none_ with b := ((fget k d.files).getD FileM.none_).b ++ halved d b } d.files })
def dSync (d : DiskM) (k : Key) : Int × DiskM :=
  if d.lost = true then (6, d) else match fget k d.files with
  | none => (7, d)
  | some f => if d.fuse = 0 then (6, d.burn) else (0, { d.burn with files := fput k { f with safe := f.b.length, ever := true } d.files })
def dRename (d : DiskM) (a b : Key) : Int × DiskM :=
  if d.lost = true then (6, d) else if right b = false ∨ a = b then (1, d) else match fget a d.files with
  | none => (7, d)
  | some f => if f.whole = false then (10, d) else if d.fuse = 0 then (6, d.burn) else (0, { d.burn with files := fdel a (fput b f d.files) })
def dRemove (d : DiskM) (k : Key) : Int × DiskM :=
  if d.lost = true then (6, d) else match fget k d.files with
  | none => (7, d)
  | some _ => if d.fuse = 0 then (6, d.burn) else (0, { d.burn with files := fdel k d.files })
def dFuse (d : DiskM) (n : Int) : Int × DiskM :=
  if d.lost = true then (6, d) else if n < 0 then (1, d) else (0, { d with fuse := n })
def dHarm (d : DiskM) (k : Key) (b : List UInt8) : Int × DiskM :=
  if d.lost = true then (6, d) else if right k = false then (1, d) else if d.room + d.len k < b.length then (4, d)
  else (0, { d with files := fput k ⟨b, b.length, true⟩ d.files })
def dLose (d : DiskM) (k : Key) : Int × DiskM :=
  if d.lost = true then (6, d) else match fget k d.files with
  | none => (7, d)
  | some _ => (0, { d with files := fdel k d.files })
/-- how much of a file's unsafe bytes is kept -/
def keepN (keep : List Int) (i n : Nat) : Nat := match keep[i % keep.length]? with
  | none => 0
  | some v => ((v.tmod n + n).tmod n).toNat
def cutF (keep : List Int) (i : Nat) (f : FileM) : FileM :=
  let b := f.b.take (f.safe + keepN keep i (f.b.length - f.safe + 1))
  ⟨b, b.length, true⟩
def restartL (keep : List Int) : Nat → List (Key × FileM) → List (Key × FileM)
  | _, [] => []
  | i, q :: r => if q.2.whole = true then q :: restartL keep i r
      else if q.2.ever = false ∧ (cutF keep i q.2).b = [] then restartL keep (i + 1) r
      else (q.1, cutF keep i q.2) :: restartL keep (i + 1) r
/-- how many files a restart has looked at that weren't safe -/
def restartN : List (Key × FileM) → Nat
  | [] => 0
  | q :: r => if q.2.whole = true then restartN r else restartN r + 1
def dRestart (d : DiskM) (keep : List Int) : DiskM := ⟨d.cap, restartL keep 0 d.files, -1, false⟩

structure WFD (d : DiskM) : Prop where
  up : Up d.files
  room : used d.files ≤ d.cap
  cap : d.cap ≤ 4194304
  fuse0 : -1 ≤ d.fuse
  fuse1 : d.fuse ≤ 9223372036854775807
  each : ∀ q ∈ d.files, q.2.safe ≤ q.2.b.length ∧ q.1.length ≤ 40

theorem used_get {k : Key} {f : FileM} : ∀ {l : List (Key × FileM)}, fget k l = some f → f.b.length ≤ used l
  | (y, u) :: r, h => by
    unfold fget at h
    split at h
    · injection h with h; subst h; show _ ≤ _ + used r; simp
    · have := used_get h; show _ ≤ _ + used r; omega
theorem used_fput {k : Key} {v : FileM} : ∀ {l : List (Key × FileM)}, Up l → used (fput k v l) + ((fget k l).getD FileM.none_).b.length = used l + v.b.length
  | [], _ => by simp [fput, fget, used, FileM.none_]
  | (y, u) :: r, h => by
    obtain ⟨h1, h2⟩ := up_cons.1 h
    unfold fput fget
    by_cases e : y = k
    · rw [if_pos e, if_pos e]; simp only [used, Option.getD_some]; omega
    · rw [if_neg e, if_neg e]
      by_cases hb : bytesBefore k y = true
      · rw [if_pos hb, fget_none_of (fun q hq e' => by have := h1 q hq; rw [e'] at this; rw [before_anti this] at hb; cases hb)]
        simp only [used, Option.getD_none, FileM.none_, List.length_nil]; omega
      · rw [if_neg hb]
        have := used_fput (v := v) (k := k) h2
        simp only [used]
        omega
theorem used_fdel_le (k : Key) : ∀ l : List (Key × FileM), used (fdel k l) ≤ used l
  | [] => Nat.le_refl _
  | (y, u) :: r => by
    have ih := used_fdel_le k r
    unfold fdel at ih ⊢
    rw [List.filter_cons]
    split
    · show _ + used _ ≤ _ + used r; omega
    · show _ ≤ _ + used r; omega
theorem used_fdel_fput {a b : Key} {f : FileM} {l : List (Key × FileM)} (h : Up l) (ha : fget a l = some f) (hne : a ≠ b) : used (fdel a (fput b f l)) ≤ used l := by
  have e1 : fput a FileM.none_ (fdel a (fput b f l)) = fput a FileM.none_ (fput b f l) := by
    refine up_ext (up_fput (up_fdel (up_fput h) a)) (up_fput (up_fput h)) fun k => ?_
    rw [fget_fput, fget_fput, fget_fdel]
    by_cases hk : k = a <;> simp [hk]
  have u1 := used_fput (v := FileM.none_) (k := a) (up_fdel (up_fput (v := f) (k := b) h) a)
  have u2 := used_fput (v := FileM.none_) (k := a) (up_fput (v := f) (k := b) h)
  have u3 := used_fput (v := f) (k := b) h
  rw [e1] at u1
  rw [fget_fdel, if_pos rfl] at u1
  rw [fget_fput, if_neg hne, ha] at u2
  simp only [FileM.none_, Option.getD_none, Option.getD_some, List.length_nil] at u1 u2
  omega
theorem burn_files (d : DiskM) : d.burn.files = d.files := rfl
theorem burn_cap (d : DiskM) : d.burn.cap = d.cap := rfl
theorem burn_lost (d : DiskM) : d.burn.lost = decide (d.fuse = 0) := rfl
theorem WFD.burn {d : DiskM} (h : WFD d) : WFD d.burn := by
  refine ⟨h.up, h.room, h.cap, ?_, ?_, h.each⟩ <;> (have := h.fuse0; have := h.fuse1; unfold DiskM.burn; simp only; split <;> omega)
theorem right_len {k : Key} (h : right k = true) : k.length ≤ 40 := by
  unfold right at h; simp at h; exact h.2
theorem halved_le (d : DiskM) (b : List UInt8) : (halved d b).length ≤ b.length := by
  unfold halved; split
  · rw [List.length_take]; omega
  · exact Nat.le_refl _
theorem WFD.put {d : DiskM} (h : WFD d) {k : Key} {f : FileM} (hk : k.length ≤ 40) (hs : f.safe ≤ f.b.length) (hr : used d.files + f.b.length ≤ d.cap + ((fget k d.files).getD FileM.none_).b.length) : WFD { d with files := fput k f d.files } := by
  refine ⟨up_fput h.up, ?_, h.cap, h.fuse0, h.fuse1, fun q hq => ?_⟩
  · have := used_fput (v := f) (k := k) h.up
    show used (fput k f d.files) ≤ d.cap
    omega
  · rcases mem_fput hq with rfl | hq
    · exact ⟨hs, hk⟩
    · exact h.each q hq
theorem WFD.get {d : DiskM} (h : WFD d) {k : Key} {f : FileM} (hk : fget k d.files = some f) : f.safe ≤ f.b.length ∧ k.length ≤ 40 := h.each (k, f) (fget_mem hk)
theorem WFD.append {d : DiskM} (h : WFD d) (k : Key) (b : List UInt8) : WFD (dAppend d k b).2 := by
  unfold dAppend
  split
  · exact h
  · split
    · exact h
    · rename_i hr
      split
      · exact h
      · rename_i hroom
        split
        · exact h.burn
        · have hle := halved_le d b
          have hrm := h.room
          unfold DiskM.room at hroom
          refine WFD.put h.burn (right_len (by simpa using hr)) ?_ ?_
          · cases hg : fget k d.files with
            | none => simp [FileM.none_]
            | some f => simp only [Option.getD_some, List.length_append]; have := (h.get hg).1; omega
          · simp only [burn_files, burn_cap, List.length_append]
            omega
theorem WFD.sync {d : DiskM} (h : WFD d) (k : Key) : WFD (dSync d k).2 := by
  unfold dSync
  split
  · exact h
  · split
    · exact h
    · rename_i f hg
      split
      · exact h.burn
      · refine WFD.put h.burn (h.get hg).2 (Nat.le_refl _) ?_
        have hrm := h.room
        simp only [burn_files, burn_cap, hg, Option.getD_some]
        omega
theorem WFD.rename {d : DiskM} (h : WFD d) (a b : Key) : WFD (dRename d a b).2 := by
  unfold dRename
  split
  · exact h
  · split
    · exact h
    · rename_i hab
      simp only [not_or] at hab
      split
      · exact h
      · rename_i f hg
        split
        · exact h
        · split
          · exact h.burn
          · have hb := h.burn
            refine ⟨up_fdel (up_fput h.up) a, Nat.le_trans (used_fdel_fput h.up hg hab.2) h.room, h.cap, hb.fuse0, hb.fuse1, fun q hq => ?_⟩
            rcases mem_fput (List.mem_filter.1 hq).1 with rfl | hq
            · exact ⟨(h.get hg).1, right_len (by simpa using hab.1)⟩
            · exact h.each q hq
theorem WFD.del {d : DiskM} (h : WFD d) (k : Key) : WFD { d with files := fdel k d.files } :=
  ⟨up_fdel h.up k, Nat.le_trans (used_fdel_le k _) h.room, h.cap, h.fuse0, h.fuse1, fun q hq => h.each q (List.mem_filter.1 hq).1⟩
theorem WFD.remove {d : DiskM} (h : WFD d) (k : Key) : WFD (dRemove d k).2 := by
  unfold dRemove
  split
  · exact h
  · split
    · exact h
    · split
      · exact h.burn
      · exact WFD.del h.burn k
theorem WFD.fuse {d : DiskM} (h : WFD d) (n : Int) (hn : n ≤ 9223372036854775807) : WFD (dFuse d n).2 := by
  unfold dFuse
  split
  · exact h
  · split
    · exact h
    · exact ⟨h.up, h.room, h.cap, by show -1 ≤ n; omega, hn, h.each⟩
theorem WFD.harm {d : DiskM} (h : WFD d) (k : Key) (b : List UInt8) : WFD (dHarm d k b).2 := by
  unfold dHarm
  split
  · exact h
  · split
    · exact h
    · rename_i hr
      split
      · exact h
      · rename_i hroom
        refine h.put (right_len (by simpa using hr)) (Nat.le_refl _) ?_
        have hrm := h.room
        unfold DiskM.room DiskM.len at hroom
        cases hg : fget k d.files with
        | none => rw [hg] at hroom; simp only [Option.getD_none, FileM.none_, List.length_nil]; simp only at hroom; omega
        | some f => rw [hg] at hroom; simp only [Option.getD_some]; simp only at hroom; omega
theorem WFD.lose {d : DiskM} (h : WFD d) (k : Key) : WFD (dLose d k).2 := by
  unfold dLose
  split
  · exact h
  · split
    · exact h
    · exact h.del k
theorem keepN_lt (keep : List Int) (i n : Nat) (hn : 0 < n) : keepN keep i n < n := by
  unfold keepN
  split
  · exact hn
  · rename_i v _
    have h1 : (v.tmod n + n).tmod n < n := Int.tmod_lt_of_pos _ (by omega)
    have h2 : 0 ≤ (v.tmod n + n).tmod n := Int.tmod_nonneg _ (by have := Int.lt_tmod_of_pos v (show (0 : Int) < n by omega); omega)
    omega
theorem cutF_len (keep : List Int) (i : Nat) {f : FileM} (h : f.safe ≤ f.b.length) : (cutF keep i f).b.length = f.safe + keepN keep i (f.b.length - f.safe + 1) := by
  have := keepN_lt keep i (f.b.length - f.safe + 1) (by omega)
  show (f.b.take _).length = _
  rw [List.length_take]
  omega
theorem cutF_le (keep : List Int) (i : Nat) (f : FileM) : (cutF keep i f).b.length ≤ f.b.length := by
  show (f.b.take _).length ≤ _
  rw [List.length_take]
  omega
theorem restartL_mem (keep : List Int) : ∀ (l : List (Key × FileM)) (i : Nat) (q : Key × FileM), q ∈ restartL keep i l → (∃ f, (q.1, f) ∈ l) ∧ q.2.whole = true ∧ (∃ i f, (q.1, f) ∈ l ∧ (q.2 = f ∨ q.2 = cutF keep i f))
  | [], _, _, h => by cases h
  | (y, u) :: r, i, q, h => by
    have lift : ∀ i, q ∈ restartL keep i r → (∃ f, (q.1, f) ∈ (y, u) :: r) ∧ q.2.whole = true ∧ (∃ i f, (q.1, f) ∈ (y, u) :: r ∧ (q.2 = f ∨ q.2 = cutF keep i f)) := fun i h => by
      obtain ⟨⟨f, hf⟩, h2, i', f', h3, h4⟩ := restartL_mem keep r i q h
      exact ⟨⟨f, List.mem_cons_of_mem _ hf⟩, h2, i', f', List.mem_cons_of_mem _ h3, h4⟩
    unfold restartL at h
    split at h
    · rename_i hw
      rcases List.mem_cons.1 h with rfl | h
      · exact ⟨⟨u, List.mem_cons_self⟩, hw, 0, u, List.mem_cons_self, .inl rfl⟩
      · exact lift _ h
    · split at h
      · exact lift _ h
      · rcases List.mem_cons.1 h with rfl | h
        · exact ⟨⟨u, List.mem_cons_self⟩, by simp [FileM.whole, cutF], i, u, List.mem_cons_self, .inr rfl⟩
        · exact lift _ h
theorem up_restartL (keep : List Int) : ∀ (l : List (Key × FileM)) (i : Nat), Up l → Up (restartL keep i l)
  | [], _, _ => up_nil
  | (y, u) :: r, i, h => by
    obtain ⟨h1, h2⟩ := up_cons.1 h
    have hh : ∀ j v, Up ((y, v) :: restartL keep j r) := fun j v => up_cons.2 ⟨fun q hq => by
      obtain ⟨⟨f, hf⟩, _⟩ := restartL_mem keep r j q hq
      exact h1 (q.1, f) hf, up_restartL keep r j h2⟩
    unfold restartL
    split
    · exact hh _ _
    · split
      · exact up_restartL keep r _ h2
      · exact hh _ _
theorem used_restartL (keep : List Int) : ∀ (l : List (Key × FileM)) (i : Nat), used (restartL keep i l) ≤ used l
  | [], _ => Nat.le_refl _
  | (y, u) :: r, i => by
    unfold restartL
    split
    · have := used_restartL keep r i; show _ + _ ≤ _ + used r; simp only at *; omega
    · split
      · have := used_restartL keep r (i + 1); show _ ≤ _ + used r; simp only at *; omega
      · have := used_restartL keep r (i + 1); have := cutF_le keep i u; show _ + _ ≤ _ + used r; simp only at *; omega
theorem length_restartL (keep : List Int) : ∀ (l : List (Key × FileM)) (i : Nat), (restartL keep i l).length ≤ l.length
  | [], _ => Nat.le_refl _
  | (y, u) :: r, i => by
    unfold restartL
    have h1 := length_restartL keep r i
    have h2 := length_restartL keep r (i + 1)
    split
    · simp only [List.length_cons]; omega
    · split <;> simp only [List.length_cons] <;> omega
theorem WFD.restart {d : DiskM} (h : WFD d) (keep : List Int) : WFD (dRestart d keep) := by
  refine ⟨up_restartL keep _ _ h.up, Nat.le_trans (used_restartL keep _ _) h.room, h.cap, by show (-1 : Int) ≤ -1; omega, by show (-1 : Int) ≤ _; omega, fun q hq => ?_⟩
  obtain ⟨_, hw, i, f, hf, he⟩ := restartL_mem keep _ _ q hq
  have he2 := h.each _ hf
  refine ⟨?_, he2.2⟩
  rcases he with e | e
  · rw [e]; exact he2.1
  · rw [e]; exact Nat.le_refl _
end Go.Proofs.YtgjlpgijlicppaaGreatDoor
/-
  The disk in memory: its record, its map, its files' bytes.
-/
namespace Go.Proofs.YtgjlpgijlicppaaGreatDoor
open Go.RowKit Go.Maps
structure FV where
  m : FileM
  a : Option Addr
  c : Nat
def FV.val (v : FV) : Value := .agg #[.slice v.a v.m.b.length v.c, .int .i64 (v.m.safe : Nat), .bool v.m.ever]
def zeroF : Value := .agg #[.slice none 0 0, .int .i64 0, .bool false]
def optF : Option FV → Value
  | some v => v.val
  | none => zeroF
def heldR (v : Value) : Option (DataW Value × List MemPlace) := some (.held v, [])
def heldF (v : FV) : DataW Value := .held v.val
def u8s (l : List UInt8) : List Value := l.map fun b => Value.int .u8 ((b.toNat : Nat) : Int)
theorem u8s_length (l : List UInt8) : (u8s l).length = l.length := by simp [u8s]
theorem u8s_get (l : List UInt8) (j : Nat) : (u8s l)[j]? = (l[j]?).map fun b => Value.int .u8 ((b.toNat : Nat) : Int) := by simp [u8s]

/-- but for two blocks nothing has turned -/
structure But (p m : Nat) (w w' : World) : Prop where
  os : w'.os = w.os
  tape : w'.tape = w.tape
  output : w'.output = w.output
  size : w.heap.size ≤ w'.heap.size
  block : ∀ i, i < w.heap.size → i ≠ p → i ≠ m → w'.heap[i]? = w.heap[i]?
section
variable {p m : Nat} {w w' w'' : World}
theorem But.refl (p m : Nat) (w : World) : But p m w w := ⟨rfl, rfl, rfl, Nat.le_refl _, fun _ _ _ _ => rfl⟩
theorem But.trans (h : But p m w w') (k : But p m w' w'') : But p m w w'' :=
  ⟨k.os.trans h.os, k.tape.trans h.tape, k.output.trans h.output, Nat.le_trans h.size k.size, fun i hi h1 h2 => (k.block i (Nat.lt_of_lt_of_le hi h.size) h1 h2).trans (h.block i hi h1 h2)⟩
theorem But.drew (h : But p m w w') : But p m w w'.drew := ⟨h.os, h.tape, h.output, h.size, h.block⟩
theorem But.drewN (h : But p m w w') (n : Nat) : But p m w (w'.drewN n) := ⟨h.os, h.tape, h.output, h.size, h.block⟩
theorem But.below (h : But p m w w') (k : Below w'.heap.size w' w'') : But p m w w'' :=
  h.trans ⟨k.os, k.tape, k.output, k.size, fun i hi _ _ => k.block i hi⟩
theorem But.of_below (k : Below w.heap.size w w') : But p m w w' := (But.refl p m w).below k
theorem But.alloc (h : But p m w w') (o : Obj) : But p m w (w'.alloc o) := h.below ((Below.refl _ _).alloc (Nat.le_refl _) o)
theorem But.set_ (h : But p m w w') (i : Nat) (u : Value) : But p m w (w'.setCell ⟨p, i, none⟩ u) :=
  h.trans ⟨rfl, rfl, rfl, by simp [World.setCell], fun j _ h1 _ => Below.heap_setCell _ _ _ _ h1⟩
theorem But.setNew (h : But p m w w') {q : Addr} (hq : w.heap.size ≤ q.block) (u : Value) : But p m w (w'.setCell q u) :=
  ⟨h.os, h.tape, h.output, by simpa [World.setCell] using h.size, fun j hj h1 h2 => (Below.heap_setCell _ _ _ _ (by omega)).trans (h.block j hj h1 h2)⟩
theorem But.turned (h : But p m w w') (k : w'.mapTurned w'' m) : But p m w w'' := by
  have g := k.grown
  exact h.trans ⟨g.os, g.tape, g.output, g.size, fun i hi _ h2 => g.block i hi (fun e => h2 (by injection e))⟩
theorem But.grown (h : But p m w w') {row : Option Nat} (g : w'.grownBy w'' row) (hr : ∀ k, row = some k → w.heap.size ≤ k) : But p m w w'' :=
  ⟨g.os.trans h.os, g.tape.trans h.tape, g.output.trans h.output, Nat.le_trans h.size g.size, fun i hi h1 h2 => (g.block i (Nat.lt_of_lt_of_le hi h.size) (fun e => by have := hr i e.symm; omega)).trans (h.block i hi h1 h2)⟩
theorem But.toBelow (h : But p m w w') {B : Nat} (hB : B ≤ w.heap.size) (hp : B ≤ p) (hm : B ≤ m) : Below B w w' :=
  ⟨h.os, h.tape, h.output, h.size, fun i hi => h.block i (by omega) (by omega) (by omega)⟩
end

/-- the disk's record -/
def dcells (mb cap : Nat) (fuse : Int) (lost : Bool) : Array Value := #[.int .i64 (cap : Nat), .map (some mb), .int .i64 fuse, .bool lost]
structure DiskAt (w : World) (p mb : Nat) (es : List (Key × FV)) (cap : Nat) (fuse : Int) (lost : Bool) : Prop where
  cells : Blk w p 45 (dcells mb cap fuse lost)
  map : w.ownsMap Tryz.prog 9 heldR mb es.length (dmap heldF es)
  up : Up es
  bytes : ∀ q ∈ es, Reads w w.heap.size 1 q.2.a q.2.m.b.length (u8s q.2.m.b) ∧ q.2.m.b.length ≤ q.2.c
def Disk (w : World) (p mb : Nat) (d : DiskM) : Prop := ∃ es, d.files = fmap FV.m es ∧ DiskAt w p mb es d.cap d.fuse d.lost

theorem string_key : Keyed Tryz.prog 9 := string_keyed Tryz.underlying9
theorem zero_file (w : World) : (zeroValue 49).run Tryz.prog w = .ok zeroF w := by kernel_rfl
theorem key_of (s : ByteArray) (hs : s.size ≤ maxLen) : keyOf Tryz.prog 9 (.string s) = some (.string s.data.toList) := Go.WideMaps.keyOf_string_mk Tryz.underlying9 hs

theorem u8_away {w : World} {p mb cap : Nat} {fuse : Int} {lost : Bool} {t : TypeId} (h : Blk w p t (dcells mb cap fuse lost)) {ad : Addr} {x : Int} (hc : w.cell? ad = some (.int .u8 x)) : ad.block ≠ p := by
  intro e
  unfold Blk at h
  unfold World.cell? at hc
  rw [e, h] at hc
  simp only [dcells] at hc
  split at hc
  · cases hc
  · rcases ho : ad.off with _ | _ | _ | _ | n <;> rw [ho] at hc <;> simp at hc
theorem map_away {w : World} {mb n : Nat} {D : DataW Value} {P : Program} {k : TypeId} {R : Value → Option (DataW Value × List MemPlace)} (h : w.ownsMap P k R mb n D) {ad : Addr} {x : Value} (hc : w.cell? ad = some x) : ad.block ≠ mb := by
  intro e
  obtain ⟨es, clock, hb, _⟩ := h
  unfold World.cell? at hc
  rw [e, hb] at hc
  cases hc
theorem blk_away {w : World} {mb n p : Nat} {D : DataW Value} {P : Program} {k t : TypeId} {R : Value → Option (DataW Value × List MemPlace)} (h : w.ownsMap P k R mb n D) {cs : Array Value} (hc : Blk w p t cs) : p ≠ mb := by
  intro e
  obtain ⟨es, clock, hb, _⟩ := h
  unfold Blk at hc
  rw [e, hb] at hc
  cases hc
section
variable {w w' : World} {p mb cap : Nat} {es : List (Key × FV)} {fuse : Int} {lost : Bool}
theorem DiskAt.ne (h : DiskAt w p mb es cap fuse lost) : p ≠ mb := blk_away h.map h.cells
theorem DiskAt.reads_but (hd : DiskAt w p mb es cap fuse lost) (hb : But p mb w w') {A : Option Addr} {n : Nat} {l : List UInt8} (h : Reads w w.heap.size 1 A n (u8s l)) : Reads w' w'.heap.size 1 A n (u8s l) := by
  refine ⟨h.1, fun hn => ?_⟩
  obtain ⟨ad, rfl, hlt, hc⟩ := h.2 hn
  have hl : 0 < l.length := by have := h.1; rw [u8s_length] at this; omega
  have h0 := hc 0 _ (by rw [u8s_get, List.getElem?_eq_getElem hl]; rfl)
  have a1 := u8_away hd.cells h0
  have a2 := map_away hd.map h0
  rw [block_of_add] at a1 a2
  refine ⟨ad, rfl, Nat.lt_of_lt_of_le hlt hb.size, fun j u hu => ?_⟩
  have hk := hb.block ad.block hlt a1 a2
  exact (World.cell?_of_block (by rw [block_of_add]; exact hk)).trans (hc j u hu)
/-- another disk, while this one turns -/
theorem DiskAt.other {q m2 : Nat} {es2 : List (Key × FV)} {cap2 : Nat} {fuse2 : Int} {lost2 : Bool} (hd : DiskAt w p mb es cap fuse lost) (h : DiskAt w q m2 es2 cap2 fuse2 lost2) (hb : But p mb w w') (hq : q ≠ p) (hm : m2 ≠ mb) : DiskAt w' q m2 es2 cap2 fuse2 lost2 := by
  have n1 : q ≠ mb := blk_away hd.map h.cells
  have n2 : p ≠ m2 := blk_away h.map hd.cells
  refine ⟨(hb.block q h.cells.lt hq n1).trans h.cells, ?_, h.up, fun x hx => ⟨hd.reads_but hb (h.bytes x hx).1, (h.bytes x hx).2⟩⟩
  have hlt := h.map.lt
  obtain ⟨a, c, hh, r⟩ := h.map
  exact ⟨a, c, (hb.block m2 hlt (fun e => n2 e.symm) hm).trans hh, r⟩
theorem DiskAt.below (h : DiskAt w p mb es cap fuse lost) (hb : Below w.heap.size w w') : DiskAt w' p mb es cap fuse lost := by
  refine ⟨h.cells.below hb h.cells.lt, ?_, h.up, fun x hx => ⟨((h.bytes x hx).1.below hb).more hb.size, (h.bytes x hx).2⟩⟩
  have hlt := h.map.lt
  obtain ⟨a, c, hh, r⟩ := h.map
  exact ⟨a, c, (hb.block mb hlt).trans hh, r⟩
/-- this one has turned -/
theorem DiskAt.turn {es' : List (Key × FV)} {cap' : Nat} {fuse' : Int} {lost' : Bool} {n : Nat} (hd : DiskAt w p mb es cap fuse lost) (hb : But p mb w w') (hc : Blk w' p 45 (dcells mb cap' fuse' lost'))
    (hm : w'.ownsMap Tryz.prog 9 heldR mb n (dmap heldF es')) (hup : Up es') (hnew : ∀ q ∈ es', q ∈ es ∨ Reads w' w'.heap.size 1 q.2.a q.2.m.b.length (u8s q.2.m.b) ∧ q.2.m.b.length ≤ q.2.c) : DiskAt w' p mb es' cap' fuse' lost' := by
  refine ⟨hc, ?_, hup, fun q hq => ?_⟩
  · obtain ⟨a, c, hh, F, hs, hD⟩ := hm
    refine ⟨a, c, hh, F, ?_, hD⟩
    have e1 : Maps.size (dmap heldF es') = a.size := by rw [hD]; simp [Maps.size, length_sorted]
    rw [dmap_size] at e1
    omega
  · rcases hnew q hq with h | h
    · exact ⟨hd.reads_but hb (hd.bytes q h).1, (hd.bytes q h).2⟩
    · exact h
end
/-! the map's operations -/
section
variable {w : World} {mb n : Nat} {es : List (Key × FV)}
theorem look_run (h : w.ownsMap Tryz.prog 9 heldR mb n (dmap heldF es)) (s : ByteArray) (hs : s.size ≤ maxLen) :
    (Instr.lookup 43 (.map (some mb)) (.string s) true).run Tryz.prog w = .ok (.tuple #[optF (fget s.data.toList es), .bool (fget s.data.toList es).isSome]) w := by
  obtain ⟨v, ps, hrun, hv⟩ := h.look_ok string_key Tryz.underlying43 (zero_file w) (zd := .held zeroF) (zp := []) rfl (key_of s hs)
  rw [hrun, dmap_has]
  rw [dmap_at] at hv
  have : v = optF (fget s.data.toList es) := by
    cases hg : fget s.data.toList es with
    | none => rw [hg] at hv; simp [heldR] at hv; rw [hv.1]; rfl
    | some f => rw [hg] at hv; simp [heldR, heldF] at hv; rw [hv.1]; rfl
  rw [this]
theorem look_run1 (h : w.ownsMap Tryz.prog 9 heldR mb n (dmap heldF es)) (s : ByteArray) (hs : s.size ≤ maxLen) :
    (Instr.lookup 43 (.map (some mb)) (.string s) false).run Tryz.prog w = .ok (optF (fget s.data.toList es)) w := by
  obtain ⟨v, ps, hrun, hv⟩ := h.lookup string_key Tryz.underlying43 (zero_file w) (zd := .held zeroF) (zp := []) rfl (key_of s hs)
  rw [hrun]
  rw [dmap_at] at hv
  have : v = optF (fget s.data.toList es) := by
    cases hg : fget s.data.toList es with
    | none => rw [hg] at hv; simp [heldR] at hv; rw [hv.1]; rfl
    | some f => rw [hg] at hv; simp [heldR, heldF] at hv; rw [hv.1]; rfl
  rw [this]
theorem store_run (h : w.ownsMap Tryz.prog 9 heldR mb n (dmap heldF es)) (hup : Up es) (hn : n < maxLen) (s : ByteArray) (hs : s.size ≤ maxLen) (v : FV) :
    ∃ w', (Instr.mapUpdate 43 (.map (some mb)) (.string s) v.val).run Tryz.prog w = .ok () w' ∧ w'.ownsMap Tryz.prog 9 heldR mb (n + 1) (dmap heldF (fput s.data.toList v es)) ∧ w.mapTurned w' mb := by
  obtain ⟨w', h1, h2, h3⟩ := h.store string_key Tryz.underlying43 hn (key_of s hs) (val := v.val) (d := heldF v) (ps := []) rfl
  rw [dmap_put heldF hup] at h2
  exact ⟨w', h1, h2, h3⟩
theorem drop_run (h : w.ownsMap Tryz.prog 9 heldR mb n (dmap heldF es)) (s : ByteArray) (hs : s.size ≤ maxLen) (ty : TypeId) :
    ∃ w', (Builtin.delete_ #[43, 9] ty #[.map (some mb), .string s]).run Tryz.prog w = .ok (.tuple #[]) w' ∧ w'.ownsMap Tryz.prog 9 heldR mb n (dmap heldF (fdel s.data.toList es)) ∧ w.mapTurned w' mb := by
  obtain ⟨w', h1, h2, h3⟩ := h.drop string_key Tryz.underlying43 (key_of s hs) ty
  rw [dmap_del heldF] at h2
  exact ⟨w', h1, h2, h3⟩
end
end Go.Proofs.YtgjlpgijlicppaaGreatDoor
/-
  The library's functions at the disk: bytes.Clone, slices.Sorted(maps.Keys(m)), slices.Grow, slices.Concat.
-/
namespace Go.Proofs.YtgjlpgijlicppaaGreatDoor
open Go.RowKit Go.Maps
/-- a slice of the call's own, and what stands in it -/
theorem own_reads {w : World} {base n size : Nat} {e : TypeId} {v : Value} {xs : List Value} (h : w.ownsRow base e size v n xs) : ∃ A c, v = .slice A n c ∧ Reads w w.heap.size size A n xs ∧ n ≤ c := by
  rcases h.2 with ⟨rfl, h0⟩ | ⟨g, cap, cur, rfl, h1, h2, h3, h4⟩
  · subst h0
    exact ⟨none, 0, rfl, ⟨h.1, fun hn => absurd hn (by omega)⟩, Nat.le_refl _⟩
  · exact ⟨_, cap, rfl, Reads.of_own h, by omega⟩
theorem clone_any (A : Option Addr) (n c : Nat) (l : List UInt8) (w : World) (hl : l.length = n) (hn : n ≤ 1000000000) (hr : Reads w w.heap.size 1 A n (u8s l)) :
    Calls Tryz.prog 23 #[.slice A n c] w fun e w' => ∃ A' c', e = .returned (.slice A' n c') ∧ Reads w' w'.heap.size 1 A' n (u8s l) ∧ n ≤ c' ∧ Below w.heap.size w w' := by
  cases A with
  | none =>
    have h0 : n = 0 := by
      rcases Nat.eq_zero_or_pos n with h | h
      · exact h
      · obtain ⟨ad, h, _⟩ := hr.2 h; cases h
    subst h0
    refine (Tryz.bytes_Clone_nil 0 c w).mono ?_
    rintro e w' ⟨rfl, rfl⟩
    exact ⟨none, 0, rfl, hr, Nat.le_refl _, Below.refl _ _⟩
  | some a =>
    have hx : ∀ i, i < n → w.cell? (a.add i) = some (.int .u8 ((l.map fun b => ((b.toNat : Nat) : Int)).getD i 0)) := by
      intro i hi
      obtain ⟨ad, e, _, hc⟩ := hr.2 (by omega)
      injection e with e
      subst e
      have hil : i < l.length := by omega
      refine hc i _ ?_
      rw [u8s_get, List.getElem?_eq_getElem hil]
      simp [List.getD, hil]
    refine (Tryz.bytes_Clone_at a n c (l.map fun b => ((b.toNat : Nat) : Int)) w (by simpa using hl) (by omega) hx).mono ?_
    rintro e w' ⟨v, rfl, ho, _, hb⟩
    obtain ⟨A', c', rfl, h1, h2⟩ := own_reads ho
    refine ⟨A', c', rfl, ?_, h2, hb⟩
    rw [List.map_map] at h1
    exact h1
end Go.Proofs.YtgjlpgijlicppaaGreatDoor
/-
  Walk of slices.Concat of two rows of bytes.
-/
namespace Go.Proofs.YtgjlpgijlicppaaGreatDoor
open Go.RowKit Go.Maps
theorem u8_info : (Tryz.prog.info? 5).map (fun i => (i.zero, i.size, i.bytes)) = some (some (.int .u8 0), 1, 1) := by kernel_rfl
theorem u8s_one (l : List UInt8) : ∀ u ∈ u8s l, u.oneCell' = true := by
  intro u hu
  simp only [u8s, List.mem_map] at hu
  obtain ⟨p, _, rfl⟩ := hu
  rfl
theorem u8s_append (l m : List UInt8) : u8s (l ++ m) = u8s l ++ u8s m := by simp [u8s]
theorem grow_any (n : Nat) (hn : n ≤ 1000000000) (w : World) : Calls Tryz.prog 34 #[.slice none 0 0, .int .i64 (n : Nat)] w fun e w' => ∃ v, e = .returned v ∧ w'.ownsRow w.heap.size 5 1 v 0 [] ∧ Below w.heap.size w w' := by
  obtain ⟨i0, hi0, hz0, hz1, hz2⟩ := info_parts u8_info
  rcases Nat.eq_zero_or_pos n with h | h
  · subst h
    refine (Any8.slices_Grow_room Tryz.grow34 none 0 0 0 w (Nat.le_refl _) (by omega) (by omega) (Nat.le_refl _)).mono ?_
    rintro e w' ⟨rfl, rfl⟩
    exact ⟨_, rfl, World.ownsRow_nil _ _ _ _, Below.refl _ _⟩
  · refine (Any8.slices_Grow_grow Tryz.grow34 i0 (.int .u8 0) hi0 hz0 (by omega) none 0 0 n [] w (Nat.le_refl _) (by omega) (by rw [hz2]; omega) (by omega) (by simp) (fun _ => rfl) (fun a ha => by cases ha)).mono ?_
    rintro e w' ⟨rfl, rfl⟩
    rw [show Tryz.grow34_ren.t 25 = 5 from rfl]
    have hle := grownCap_le_maxLen w (0 + n) 0 5 (by unfold maxLen; omega)
    have hge := grownCap_ge w (0 + n) 0 5
    refine ⟨_, rfl, ?_, (Below.refl _ _).drew.alloc (Nat.le_refl _) _⟩
    refine World.ownsRow_made w.drew _ _ (Nat.le_refl _) hle ?_
    show (([].toArray ++ Builtin.zeroCells (Value.int IntKind.u8 0).cells (0 + n - 0)) ++ Builtin.zeroCells (Value.int IntKind.u8 0).cells (grownCap w (0 + n) 0 5 - (0 + n))).size = _
    simp only [Array.size_append, size_zeroCells]
    simp only [Value.cells, List.size_toArray, List.length_nil, List.length_cons]
    omega
set_option maxHeartbeats 1000000 in
set_option maxRecDepth 100000 in
theorem concat_two (g : Nat) (A1 A2 : Option Addr) (c1 c2 : Nat) (l1 l2 : List UInt8) (h1 : l1.length ≤ 100000000) (h2 : l2.length ≤ 100000000) (w : World) (hg : Blk w g 29 #[.slice A1 l1.length c1, .slice A2 l2.length c2])
    (r1 : Reads w w.heap.size 1 A1 l1.length (u8s l1)) (r2 : Reads w w.heap.size 1 A2 l2.length (u8s l2)) :
    Calls Tryz.prog 16 #[.slice (some ⟨g, 0, none⟩) 2 2] w fun e w' => ∃ A c, e = .returned (.slice A (l1 ++ l2).length c) ∧ Reads w' w'.heap.size 1 A (l1 ++ l2).length (u8s (l1 ++ l2)) ∧ (l1 ++ l2).length ≤ c ∧ Below w.heap.size w w' := by
  obtain ⟨i0, hi0, hz0, hz1, hz2⟩ := info_parts u8_info
  have k0 : w.cell? ⟨g, 0, none⟩ = some (.slice A1 l1.length c1) := by rw [hg.cell]; rfl
  have k1 : w.cell? ⟨g, 1, none⟩ = some (.slice A2 l2.length c2) := by rw [hg.cell]; rfl
  have HG := Lib.hid hg
  have R1 := Lib.hid r1
  have R2 := Lib.hid r2
  have HW := Lib.hid (grow_any (l1.length + l2.length) (by omega) w)
  rw [Int.natCast_add] at HW
  rw [List.length_append]
  have hll : (l1 ++ l2).length = l1.length + l2.length := List.length_append
  have HLL := Lib.hid hll
  clear hg r1 r2 hll
  generalize l1.length = n1 at *
  generalize l2.length = n2 at *
  go_enter Tryz.func16, Tryz.ntmps16
  go_wp2
  refine wp_loop_rounds 3 ?_
  rw [rounds_succ]
  go_wp2
  rw [rounds_succ]
  go_wp2
  rw [rounds_succ]
  go_wp2_with fail
  refine HW.out.mono ?_
  rintro e w1 ⟨v, rfl, ho, hb⟩
  have hs1 := hb.size
  have HB := Lib.hid hb
  have k0' : w1.cell? ⟨g, 0, none⟩ = some (.slice A1 n1 c1) := (hb.cell HG.out.lt).trans k0
  have k1' : w1.cell? ⟨g, 1, none⟩ = some (.slice A2 n2 c2) := (hb.cell HG.out.lt).trans k1
  clear hb k0 k1
  go_wp2
  refine wp_loop_rounds 3 ?_
  rw [rounds_succ]
  go_wp2_with (first | (at_builtin; refine wpList_append_any _ rfl _ _ 29 rfl w.heap.size 5 i0 _ 1 1 Tryz.underlying29 hi0 hz0 hz1 hz2 rfl (by omega) _ _ _ rfl ho A1 n1 c1 (u8s l1) rfl (Gives.of_reads (R1.out.below HB.out) (u8s_one l1)) ?c1 ?c2 hs1 ?_))
  case c1 => unfold maxLen; omega
  case c2 => omega
  intro v2 w2 ho2 hg2
  have hb2 := HB.out.grown hg2 hs1 (fun k hk => (ho.lt k hk).1)
  have HB2 := Lib.hid hb2
  have hs2 := hb2.size
  have k1'' : w2.cell? ⟨g, 1, none⟩ = some (.slice A2 n2 c2) := (hb2.cell HG.out.lt).trans ((HB.out.cell HG.out.lt).symm.trans k1')
  clear hb2 hg2 ho k0' k1'
  go_wp2
  rw [rounds_succ]
  go_wp2_with (first | (at_builtin; refine wpList_append_any _ rfl _ _ 29 rfl w.heap.size 5 i0 _ 1 1 Tryz.underlying29 hi0 hz0 hz1 hz2 rfl (by omega) _ _ _ rfl ho2 A2 n2 c2 (u8s l2) rfl (Gives.of_reads (R2.out.below HB2.out) (u8s_one l2)) ?c1 ?c2 hs2 ?_))
  case c1 => unfold maxLen; omega
  case c2 => omega
  intro v3 w3 ho3 hg3
  have hb3 := HB2.out.grown hg3 hs2 (fun k hk => (ho2.lt k hk).1)
  have HB3 := Lib.hid hb3
  clear hb3 hg3 ho2 k1''
  have HO := Lib.hid ho3
  clear ho3
  go_wp2
  rw [rounds_succ]
  go_wp2
  go_ret
  have ho3 := HO.out
  rw [← u8s_append] at ho3
  obtain ⟨A, c, rfl, hr, hc⟩ := own_reads ho3
  exact ⟨A, c, rfl, hr, hc, HB3.out⟩
end Go.Proofs.YtgjlpgijlicppaaGreatDoor
/-
  Bytes in memory: rows that are owned, cloned, compared, and made texts.
-/
namespace Go.Proofs.YtgjlpgijlicppaaGreatDoor
open Go.RowKit
theorem info_parts {P : Program} {t : TypeId} {z : Value} {s b : Nat} (h : (P.info? t).map (fun i => (i.zero, i.size, i.bytes)) = some (some z, s, b)) : ∃ i, P.info? t = some i ∧ i.zero = some z ∧ i.size = s ∧ i.bytes = b := by
  cases hi : P.info? t with
  | none => rw [hi] at h; cases h
  | some i => rw [hi] at h; simp at h; exact ⟨i, rfl, h.1, h.2.1, h.2.2⟩
theorem own_mono {w : World} {base base' : Nat} {e : TypeId} {size : Nat} {v : Value} {n : Nat} {xs : List Value} (h : w.ownsRow base e size v n xs) (hb : base' ≤ base) : w.ownsRow base' e size v n xs := by
  refine ⟨h.1, ?_⟩
  rcases h.2 with h0 | ⟨g, cap, cur, e, hb', hr⟩
  · exact .inl h0
  · exact .inr ⟨g, cap, cur, e, Nat.le_trans hb hb', hr⟩
theorem own_keep {w w' : World} {base : Nat} {v : Value} {e : TypeId} {size n : Nat} {xs : List Value} (h : w.ownsRow base e size v n xs) (hk : ∀ g, v.ownBlock = some g → w'.heap[g]? = w.heap[g]?) : w'.ownsRow base e size v n xs := by
  refine ⟨h.1, ?_⟩
  rcases h.2 with h0 | ⟨g, cap, cur, rfl, hb, hg, hr⟩
  · exact .inl h0
  · exact .inr ⟨g, cap, cur, rfl, hb, (hk g rfl).trans hg, hr⟩
theorem own_below {w w' : World} {base : Nat} {v : Value} {e : TypeId} {size n : Nat} {xs : List Value} (h : w.ownsRow base e size v n xs) (hb : Below w.heap.size w w') : w'.ownsRow base e size v n xs :=
  own_keep h fun g hg => hb.block g (h.lt g hg).2
theorem bytes_empty (w : World) : (w.alloc (.cells #[] 5)).ownsRow w.heap.size 5 1 (.slice (some ⟨w.heap.size, 0, none⟩) 0 0) 0 [] := World.ownsRow_lit w #[] 0 (Nat.le_refl _) (by unfold maxLen; omega) rfl
/-- a row of bytes, of a list's length -/
theorem own8 {w : World} {base n : Nat} {v : Value} {l : List UInt8} (h : w.ownsRow base 5 1 v n (u8s l)) : w.ownsRow base 5 1 v l.length (u8s l) := by
  have : n = l.length := by have := h.1; rw [u8s_length] at this; omega
  rw [← this]; exact h
theorem Reads.take8 {w : World} {B n : Nat} {A : Option Addr} {l : List UInt8} (h : Reads w B 1 A n (u8s l)) {k : Nat} (hk : k ≤ n) : Reads w B 1 A k (u8s (l.take k)) := by
  have hl : l.length = n := by have := h.1; rw [u8s_length] at this; omega
  refine ⟨by rw [u8s_length, List.length_take]; omega, fun hp => ?_⟩
  obtain ⟨ad, e, hlt, hc⟩ := h.2 (by omega)
  refine ⟨ad, e, hlt, fun j u hu => hc j u ?_⟩
  rw [u8s_get] at hu ⊢
  rw [List.getElem?_take] at hu
  split at hu
  · exact hu
  · cases hu
theorem u8s_drop (l : List UInt8) (k : Nat) : u8s (l.drop k) = (u8s l).drop k := by simp [u8s]
theorem Reads.drop8 {w : World} {B n c : Nat} {A : Option Addr} {l : List UInt8} (h : Reads w B 1 A n (u8s l)) {k : Nat} (hk : k ≤ n) (hc : n ≤ c) : Reads w B 1 (if c = k then A else A.map (·.add k)) (n - k) (u8s (l.drop k)) := by
  have := h.cut (k := k) (cap := c) hk hc
  rw [Nat.mul_one] at this
  rw [u8s_drop]
  exact this
theorem Reads.none8 {w : World} {B : Nat} : Reads w B 1 none 0 (u8s []) := Reads.none_
theorem Reads.empty8 {w : World} {B n : Nat} {l : List UInt8} (h : Reads w B 1 none n (u8s l)) : n = 0 ∧ l = [] := by
  have hl : l.length = n := by have := h.1; rw [u8s_length] at this; omega
  rcases Nat.eq_zero_or_pos n with h0 | h0
  · exact ⟨h0, List.length_eq_zero_iff.1 (by omega)⟩
  · obtain ⟨ad, e, _⟩ := h.2 h0; cases e
def ints8 (l : List UInt8) : List Int := l.map fun b => ((b.toNat : Nat) : Int)
theorem ints8_at {w : World} {B n : Nat} {a : Addr} {l : List UInt8} (hl : l.length = n) (hr : Reads w B 1 (some a) n (u8s l)) : ∀ i, i < n → w.cell? (a.add i) = some (.int .u8 ((ints8 l).getD i 0)) := by
  intro i hi
  obtain ⟨ad, e, _, hc⟩ := hr.2 (by omega)
  injection e with e
  subst e
  have hil : i < l.length := by omega
  refine hc i _ ?_
  rw [u8s_get, List.getElem?_eq_getElem hil]
  simp [ints8, List.getD, hil]
theorem bytesOf_ints8 (l : List UInt8) : Lib.bytesOf (ints8 l) = l := by
  unfold Lib.bytesOf ints8
  rw [List.map_map]
  conv => rhs; rw [← List.map_id l]
  apply List.map_congr_left
  intro b _
  simp
theorem conv_nil (c : Nat) (w : World) : (convert 29 9 (.slice none 0 c)).run Tryz.prog w = .ok (.string ⟨#[]⟩) w := by kernel_rfl
/-- string(b), whatever slice b is -/
theorem conv_reads {w : World} {B n c : Nat} {A : Option Addr} {l : List UInt8} (hl : l.length = n) (hr : Reads w B 1 A n (u8s l)) : (convert 29 9 (.slice A n c)).run Tryz.prog w = .ok (.string ⟨l.toArray⟩) w := by
  subst hl
  cases A with
  | none =>
    obtain ⟨h0, rfl⟩ := hr.empty8
    exact conv_nil c w
  | some a =>
    refine run_string_bytes w 29 9 5 a l c Tryz.underlying29 Tryz.underlying5 Tryz.underlying9 fun j b hj => ?_
    have hp : 0 < l.length := by
      rcases Nat.lt_or_ge j l.length with h | h
      · omega
      · rw [List.getElem?_eq_none h] at hj; cases hj
    obtain ⟨ad, e, _, hc⟩ := hr.2 hp
    injection e with e
    subst e
    exact hc j _ (by rw [u8s_get, hj]; rfl)
end Go.Proofs.YtgjlpgijlicppaaGreatDoor
/-
  Arguments, opened: numbers, truths, bytes.
-/
namespace Go.Proofs.YtgjlpgijlicppaaGreatDoor
open Go.RowKit Go.ChangeShapes Go.WideShapes
theorem u32_range {n : Int} (h : (Lit.int .u32 n).wf = true) : ∃ k : Nat, n = (k : Nat) ∧ k < 4294967296 := by
  simp [Lit.wf, IntKind.min, IntKind.max, IntKind.signed, IntKind.bits] at h
  exact ⟨n.toNat, by omega, by omega⟩
theorem u8_range {n : Int} (h : (Lit.int .u8 n).wf = true) : ∃ k : UInt8, n = (k.toNat : Nat) := by
  simp [Lit.wf, IntKind.min, IntKind.max, IntKind.signed, IntKind.bits] at h
  refine ⟨UInt8.ofNat n.toNat, ?_⟩
  rw [UInt8.toNat_ofNat']
  omega
theorem i64_range {n : Int} (h : (Lit.int .i64 n).wf = true) : -9223372036854775808 ≤ n ∧ n ≤ 9223372036854775807 := by
  simp [Lit.wf, IntKind.min, IntKind.max, IntKind.signed, IntKind.bits] at h
  omega
theorem map_flat {M : Type} (f : M → List Value) (l : List M) : (l.map f).flatten = l.flatMap f := by
  induction l with
  | nil => rfl
  | cons x r ih => rw [List.map_cons, List.flatten_cons, List.flatMap_cons, ih]
theorem flat_one {M : Type} (f : M → Value) (l : List M) : (l.map fun x => [f x]).flatten = l.map f := by
  induction l with
  | nil => rfl
  | cons x r ih => rw [List.map_cons, List.flatten_cons, ih]; rfl
theorem list1 {α : Type} {x : List α} (h : x.length = 1) : ∃ a, x = [a] := by
  match x, h with
  | [a], _ => exact ⟨a, rfl⟩
theorem list4 {α : Type} {x : List α} (h : x.length = 4) : ∃ a b c d, x = [a, b, c, d] := by
  match x, h with
  | [a, b, c, d], _ => exact ⟨a, b, c, d, rfl⟩
theorem array4 {α : Type} {x : Array α} (h : x.toList.length = 4) : ∃ a b c d, x = #[a, b, c, d] := by
  obtain ⟨l⟩ := x
  obtain ⟨a, b, c, d, e⟩ := list4 (show l.length = 4 from h)
  exact ⟨a, b, c, d, by rw [e]⟩
section
variable {H : Type} {enc : TypeId × Value → H} {w : World} {R : Nat}
theorem open_bytesZ {c1 : Value} (h : FitsZ R enc Tryz.prog w 29 [c1]) : ∃ (A : Option Addr) (c : Nat) (l : List UInt8), c1 = .slice A l.length c ∧ l.length ≤ c ∧ c ≤ maxLen ∧ l.length ≤ R ∧ Reads w w.heap.size 1 A l.length (u8s l) := by
  have hk : Tryz.prog.cellsOf 5 = 1 := by kernel_rfl
  obtain ⟨A, n, c, L, hcs, hn, hc, hR, hl, hL, hr⟩ := fitsZ_slice h Tryz.underlying29 (by rw [hk]; omega) (Nat.le_of_ble_eq_true (by kernel_rfl))
  rw [hk] at hr
  obtain ⟨l, rfl, _⟩ := choose_list (f := fun b : UInt8 => [.int .u8 ((b.toNat : Nat) : Int)]) (Q := fun _ => True) fun x hx => by
    obtain ⟨hx1, hx2⟩ := hL x hx
    rw [hk] at hx1
    obtain ⟨a, rfl⟩ := list1 hx1
    obtain ⟨u, e0, hu⟩ := fits_int hx2.fits Tryz.underlying5
    obtain ⟨k, rfl⟩ := u8_range hu
    exact ⟨k, e0, trivial⟩
  rw [List.length_map] at hl
  rw [flat_one (fun b : UInt8 => .int .u8 ((b.toNat : Nat) : Int))] at hr
  subst hl
  simp only [List.cons.injEq, and_true] at hcs
  exact ⟨A, c, l, hcs, hn, hc, hR, hr⟩
theorem fitsZ_part {t : TypeId} {cs : List Value} {fs : Array Field} (h : FitsZ R enc Tryz.prog w t cs) (ht : Tryz.prog.underlying t = some (.struct fs)) : cs.length = Tryz.prog.cellsOf t ∧ ∀ (j : Nat) (f : Field), fs[j]? = some f → FitsZ R enc Tryz.prog w f.type ((cs.drop f.offset).take (Tryz.prog.cellsOf f.type)) := by
  obtain ⟨base, spare, held, fuel, d, ps, h, hz⟩ := h
  obtain ⟨ys, n, _, hx, hl, hyl, hat⟩ := DataW.trod_struct ht h
  refine ⟨hl, fun j f hf => ?_⟩
  have h1 := hat j f hf
  have hj := (Array.getElem?_eq_some_iff.1 hf).1
  have hy : ys[j]? = some (ys[j]'(by omega)) := List.getElem?_eq_getElem (by omega)
  rw [hy] at h1
  refine ⟨base, spare, held, n, _, _, h1, fun k hk => hz k ?_⟩
  rw [(Prod.mk.inj hx).1]
  unfold DataW.weights
  rw [ht]
  refine DataW.weights_mem_each (j := j) (t := f.type) (d := (ys[j]'(by omega)).1) ?_ ?_ k hk
  · rw [List.getElem?_map, Array.getElem?_toList, hf]; rfl
  · rw [List.getElem?_map, hy]; rfl
end
theorem tab_met {l : List (String × DataW Unit)} {W : World} (h : laidMetH Tryz.prog l W) (hl : l.filter (fun x => x.1 == "internal/strconv.uint64pow10") = [("internal/strconv.uint64pow10", Lib.tabData .u64 Lib.pow10Tab)]) :
    Lib.TabIs Tryz.prog W "internal/strconv.uint64pow10" .u64 Lib.pow10Tab := by
  have h1 := laidMetH.filter (fun x => x.1 == "internal/strconv.uint64pow10") h
  rw [hl, MakeChecks.laidMetH_plain _ _ _ (by kernel_rfl)] at h1
  exact Lib.tabIs_of_head (g := 0) (t := 184) (e := 153) (n := 20) (by kernel_rfl) (by kernel_rfl) Tryz.underlying184 Tryz.underlying153 (by kernel_rfl) (by kernel_rfl) h1
section
variable {H : Type} {enc : TypeId × Value → H} {W : World} {base0 b0 : Nat} {spare : Nat → Bool} {held : Bool} {r : Reach} {R : Nat}
set_option maxRecDepth 100000 in
theorem i64_arg {v : Value} {d : DataW H} {ps : List MemPlace} (hv : Value.okWide Tryz.prog W r b0 3 v) (h : DataW.Trod enc Tryz.prog W base0 spare held 3 v d ps) : ∃ k : Int, v = .int .i64 k ∧ -9223372036854775808 ≤ k ∧ k ≤ 9223372036854775807 := by
  obtain ⟨x0, rfl, _, _, h0⟩ := open_int Tryz.underlying3 hv h
  exact ⟨x0, rfl, i64_range h0⟩
set_option maxRecDepth 100000 in
theorem bytes_arg {v : Value} {d : DataW H} {ps : List MemPlace} (hv : Value.okWide Tryz.prog W r b0 29 v) (h : DataW.Trod enc Tryz.prog W base0 spare held 29 v d ps) (hz : ∀ k ∈ d.weights Tryz.prog 29, k ≤ R) :
    ∃ (A : Option Addr) (c : Nat) (l : List UInt8), v = .slice A l.length c ∧ l.length ≤ c ∧ c ≤ maxLen ∧ l.length ≤ R ∧ Reads W W.heap.size 1 A l.length (u8s l) := by
  obtain ⟨A, n, c, rfl⟩ := okWide_slice Tryz.underlying29 hv
  obtain ⟨A', c', l, e, b⟩ := open_bytesZ (fitsZ_plain h rfl hz)
  exact ⟨A', c', l, e, b⟩
set_option maxRecDepth 100000 in
theorem u32_arg {v : Value} {d : DataW H} {ps : List MemPlace} (hv : Value.okWide Tryz.prog W r b0 37 v) (h : DataW.Trod enc Tryz.prog W base0 spare held 37 v d ps) : ∃ k : Nat, v = .int .u32 (k : Nat) ∧ k < 4294967296 := by
  obtain ⟨x0, rfl, _, _, h0⟩ := open_int Tryz.underlying37 hv h
  obtain ⟨k, rfl, hk⟩ := u32_range h0
  exact ⟨k, rfl, hk⟩
set_option maxRecDepth 100000 in
theorem bool_arg {v : Value} {d : DataW H} {ps : List MemPlace} (hv : Value.okWide Tryz.prog W r b0 4 v) (h : DataW.Trod enc Tryz.prog W base0 spare held 4 v d ps) : ∃ b : Bool, v = .bool b := by
  obtain ⟨b, rfl, _⟩ := open_bool Tryz.underlying4 hv h
  exact ⟨b, rfl⟩
end
end Go.Proofs.YtgjlpgijlicppaaGreatDoor
/-
  Plain: a file that is put aside, on a disk as plain values.
-/
namespace Go.Proofs.YtgjlpgijlicppaaGreatDoor
/-- a file that is whole -/
def wholeF (b : List UInt8) : FileM := ⟨b, b.length, true⟩
theorem wholeF_whole (b : List UInt8) : (wholeF b).whole = true := by simp [wholeF, FileM.whole]
/-- the disk on which nothing burns -/
structure Calm (d : DiskM) : Prop where
  lost : d.lost = false
  fuse : d.fuse = -1
theorem calm_burn {d : DiskM} (h : Calm d) : d.burn = d := by
  obtain ⟨cap, files, fuse, lost⟩ := d
  obtain ⟨h1, h2⟩ := h
  simp only at h1 h2
  subst h1 h2
  rfl
theorem calm_halved {d : DiskM} (h : Calm d) (b : List UInt8) : halved d b = b := by
  unfold halved
  rw [h.fuse, if_neg (by decide)]
theorem append_new {d : DiskM} (h : Calm d) {k : Key} {b : List UInt8} (hr : right k = true) (hroom : b.length ≤ d.room) (hn : fget k d.files = none) : dAppend d k b = (0, { d with files := fput k ⟨b, 0, false⟩ d.files }) := by
  obtain ⟨cap, files, fuse, lost⟩ := d
  obtain ⟨h1, h2⟩ := h
  simp only at h1 h2
  subst h1 h2
  have hc : Calm ⟨cap, files, -1, false⟩ := ⟨rfl, rfl⟩
  unfold dAppend
  rw [if_neg (show ¬ (false = true) by decide), hr, if_neg (show ¬ (true = false) by decide), if_neg (by omega), if_neg (by rintro ⟨e, _⟩; exact absurd (show (-1 : Int) = 0 from e) (by decide)), calm_burn hc, calm_halved hc, hn]
  rfl
theorem sync_new {d : DiskM} (h : Calm d) {k : Key} {f : FileM} (hg : fget k d.files = some f) : dSync d k = (0, { d with files := fput k (wholeF f.b) d.files }) := by
  obtain ⟨cap, files, fuse, lost⟩ := d
  obtain ⟨h1, h2⟩ := h
  simp only at h1 h2
  subst h1 h2
  have hc : Calm ⟨cap, files, -1, false⟩ := ⟨rfl, rfl⟩
  unfold dSync
  rw [if_neg (show ¬ (false = true) by decide), hg]
  simp only
  rw [if_neg (show ¬ ((-1 : Int) = 0) by decide), calm_burn hc]
  rfl
theorem sync_none {d : DiskM} (h : Calm d) {k : Key} (hg : fget k d.files = none) : dSync d k = (7, d) := by
  unfold dSync
  rw [h.lost, if_neg (by decide), hg]
theorem rename_new {d : DiskM} (h : Calm d) {a b : Key} {f : FileM} (hr : right b = true) (hne : a ≠ b) (hg : fget a d.files = some f) (hf : f.whole = true) : dRename d a b = (0, { d with files := fdel a (fput b f d.files) }) := by
  obtain ⟨cap, files, fuse, lost⟩ := d
  obtain ⟨h1, h2⟩ := h
  simp only at h1 h2
  subst h1 h2
  have hc : Calm ⟨cap, files, -1, false⟩ := ⟨rfl, rfl⟩
  unfold dRename
  rw [if_neg (show ¬ (false = true) by decide), hr, if_neg (by intro e; rcases e with e | e; cases e; exact hne e), hg]
  simp only
  rw [hf, if_neg (show ¬ (true = false) by decide), if_neg (show ¬ ((-1 : Int) = 0) by decide), calm_burn hc]
/-- what stands behind an append, a sync and a rename -/
theorem aside_ext {l : List (Key × FileM)} (h : Up l) {a b : Key} {f g : FileM} (hne : a ≠ b) (hn : fget a l = none) : fdel a (fput b f (fput a f (fput a g l))) = fput b f l := by
  refine up_ext (up_fdel (up_fput (up_fput (up_fput h))) a) (up_fput h) fun k => ?_
  rw [fget_fdel, fget_fput, fget_fput, fget_fput, fget_fput]
  by_cases h1 : k = a
  · subst h1
    rw [if_pos rfl, if_neg hne, hn]
  · rw [if_neg h1]
    by_cases h2 : k = b
    · rw [if_pos h2, if_pos h2]
    · rw [if_neg h2, if_neg h2, if_neg h1, if_neg h1]
/-- the names under which files stand aside -/
def digB (k : Nat) : List UInt8 := if k < 10 then [UInt8.ofNat (48 + k)] else [49, UInt8.ofNat (38 + k)]
def badK (nm : List UInt8) (k : Nat) : Key := [98, 97, 100, 46] ++ digB k ++ [46] ++ nm
theorem digB_inj : ∀ i j : Fin 13, digB i.1 = digB j.1 → i = j := by decide
theorem badK_inj {nm : List UInt8} {i j : Nat} (hi : i < 13) (hj : j < 13) (h : badK nm i = badK nm j) : i = j := by
  unfold badK at h
  rw [List.append_assoc, List.append_assoc, List.append_assoc, List.append_assoc] at h
  have h1 := List.append_cancel_left h
  have h2 := (List.append_inj_left' h1 rfl)
  have := digB_inj ⟨i, hi⟩ ⟨j, hj⟩ h2
  exact congrArg Fin.val this
theorem badK_len (nm : List UInt8) (k : Nat) : nm.length + 6 ≤ (badK nm k).length ∧ (badK nm k).length ≤ nm.length + 7 := by
  unfold badK digB
  split <;> simp <;> omega
theorem badK_ne (nm : List UInt8) (k : Nat) : nm ≠ badK nm k := fun e => by
  have := (badK_len nm k).1
  rw [← e] at this
  omega
theorem digB_right : ∀ k : Fin 13, (digB k.1).all rightC = true := by decide
theorem badK_right {nm : List UInt8} {k : Nat} (hk : k < 13) (hr : right nm = true) (hl : nm.length ≤ 20) : right (badK nm k) = true := by
  unfold right at hr ⊢
  simp only [Bool.and_eq_true, decide_eq_true_eq] at hr ⊢
  have hb := badK_len nm k
  refine ⟨⟨?_, by omega⟩, by omega⟩
  unfold badK
  rw [List.all_append, List.all_append, List.all_append, digB_right ⟨k, hk⟩, hr.1.1]
  decide
/-- the files behind so many rounds -/
def asideF (nm : List UInt8) (fs : List (List UInt8)) : Nat → List (Key × FileM)
  | 0 => []
  | j + 1 => fput (badK nm j) (wholeF (fs.getD j [])) (asideF nm fs j)
theorem aside_up (nm : List UInt8) (fs : List (List UInt8)) : ∀ j, Up (asideF nm fs j)
  | 0 => up_nil
  | j + 1 => up_fput (aside_up nm fs j)
theorem aside_get {nm : List UInt8} {fs : List (List UInt8)} : ∀ {j i : Nat}, j ≤ 12 → i < j → fget (badK nm i) (asideF nm fs j) = some (wholeF (fs.getD i []))
  | j + 1, i, hj, hi => by
    rw [asideF, fget_fput]
    by_cases h : i = j
    · subst h; rw [if_pos rfl]
    · rw [if_neg fun e => h (badK_inj (by omega) (by omega) e)]
      exact aside_get (by omega) (by omega)
theorem aside_none {nm : List UInt8} {fs : List (List UInt8)} {k : Key} : ∀ {j : Nat}, (∀ i, i < j → k ≠ badK nm i) → fget k (asideF nm fs j) = none
  | 0, _ => rfl
  | j + 1, h => by
    rw [asideF, fget_fput, if_neg (h j (by omega))]
    exact aside_none fun i hi => h i (by omega)
theorem fput_len {k : Key} {v : FileM} : ∀ {l : List (Key × FileM)}, fget k l = none → (fput k v l).length = l.length + 1
  | [], _ => rfl
  | (y, u) :: r, h => by
    rw [fget_cons] at h
    split at h
    · cases h
    · rename_i hne
      rw [fput, if_neg hne]
      split
      · rfl
      · rw [List.length_cons, fput_len h]; rfl
theorem aside_len {nm : List UInt8} {fs : List (List UInt8)} : ∀ {j : Nat}, j ≤ 12 → (asideF nm fs j).length = j
  | 0, _ => rfl
  | j + 1, h => by
    rw [asideF, fput_len (aside_none fun i hi e => by have := badK_inj (by omega) (by omega) e; omega), aside_len (by omega)]
theorem aside_used {nm : List UInt8} {fs : List (List UInt8)} : ∀ {j : Nat}, j ≤ 12 → (∀ i, i < j → (fs.getD i []).length ≤ 1000) → used (asideF nm fs j) ≤ j * 1000
  | 0, _, _ => Nat.zero_le _
  | j + 1, h, hs => by
    have h1 := used_fput (k := badK nm j) (v := wholeF (fs.getD j [])) (aside_up nm fs j)
    rw [aside_none fun i hi e => by have := badK_inj (by omega) (by omega) e; omega] at h1
    have h2 := aside_used (nm := nm) (fs := fs) (j := j) (by omega) fun i hi => hs i (by omega)
    have h3 : (wholeF (fs.getD j [])).b.length ≤ 1000 := hs j (by omega)
    show used (fput _ _ _) ≤ _
    simp only [Option.getD_none, FileM.none_, List.length_nil, Nat.add_zero] at h1
    omega
/-- the disk behind so many rounds -/
def dA (nm : List UInt8) (fs : List (List UInt8)) (j : Nat) : DiskM := ⟨1048576, asideF nm fs j, -1, false⟩
theorem dA_calm (nm : List UInt8) (fs : List (List UInt8)) (j : Nat) : Calm (dA nm fs j) := ⟨rfl, rfl⟩
theorem nm_none {nm : List UInt8} {fs : List (List UInt8)} {j : Nat} : fget nm (asideF nm fs j) = none := aside_none fun i _ => badK_ne nm i
end Go.Proofs.YtgjlpgijlicppaaGreatDoor
/-
  Walks of the disk's small functions.
-/
namespace Go.Proofs.YtgjlpgijlicppaaGreatDoor
open Go.RowKit Go.Maps
theorem whole_any (A : Option Addr) (n c : Nat) (s : Nat) (ev : Bool) (w : World) :
    Calls Tryz.prog 37 #[.agg #[.slice A n c, .int .i64 (s : Nat), .bool ev]] w fun e w' => e = .returned (.bool (ev && decide (s = n))) ∧ Below w.heap.size w w' := by
  cases ev with
  | false =>
    go_enter Tryz.func37, Tryz.ntmps37
    go_wp2
    go_ret
    exact ⟨rfl, (Below.refl _ _).alloc (Nat.le_refl _) _⟩
  | true =>
    by_cases h : s = n
    · subst h
      go_enter Tryz.func37, Tryz.ntmps37
      go_wp2
      go_ret
      exact ⟨by simp, (Below.refl _ _).alloc (Nat.le_refl _) _⟩
    · have h1 : ((s : Int) == (n : Int)) = false := by simp; omega
      go_enter Tryz.func37, Tryz.ntmps37
      go_wp2
      go_ret
      exact ⟨by simp [h], (Below.refl _ _).alloc (Nat.le_refl _) _⟩
theorem gone_nil (w : World) : Calls Tryz.prog 12 #[.pointer none] w fun e w' => e = .returned (.int .i64 1) ∧ w' = w := by
  go_enter Tryz.func12, Tryz.ntmps12
  go_wp2
  go_ret
  exact ⟨rfl, rfl⟩
section
variable {w : World} {p mb cap : Nat} {es : List (Key × FV)} {fuse : Int} {lost : Bool}
theorem DiskAt.c0 (h : DiskAt w p mb es cap fuse lost) : w.cell? ⟨p, 0, none⟩ = some (.int .i64 (cap : Nat)) := by rw [h.cells.cell]; rfl
theorem DiskAt.c1 (h : DiskAt w p mb es cap fuse lost) : w.cell? ⟨p, 1, none⟩ = some (.map (some mb)) := by rw [h.cells.cell]; rfl
theorem DiskAt.c2 (h : DiskAt w p mb es cap fuse lost) : w.cell? ⟨p, 2, none⟩ = some (.int .i64 fuse) := by rw [h.cells.cell]; rfl
theorem DiskAt.c3 (h : DiskAt w p mb es cap fuse lost) : w.cell? ⟨p, 3, none⟩ = some (.bool lost) := by rw [h.cells.cell]; rfl
end
theorem gone_at (p : Nat) (lost : Bool) (w : World) (c3 : w.cell? ⟨p, 3, none⟩ = some (.bool lost)) :
    Calls Tryz.prog 12 #[.pointer (some ⟨p, 0, none⟩)] w fun e w' => e = .returned (.int .i64 (if lost = true then 6 else 0)) ∧ w' = w := by
  cases lost
  all_goals
    go_enter Tryz.func12, Tryz.ntmps12
    go_wp2
    go_ret
    exact ⟨rfl, rfl⟩
/-- the power may go -/
theorem burns_at {w : World} {p mb cap : Nat} {es : List (Key × FV)} {fuse : Int} {lost : Bool} (h : DiskAt w p mb es cap fuse lost) (h0 : -1 ≤ fuse) (h1 : fuse ≤ 9223372036854775807) :
    Calls Tryz.prog 15 #[.pointer (some ⟨p, 0, none⟩)] w fun e w' => e = .returned (.bool (decide (fuse = 0))) ∧ DiskAt w' p mb es cap (if 0 < fuse then fuse - 1 else fuse) (decide (fuse = 0)) ∧ But p mb w w' := by
  have c0 := h.c0
  have c2 := h.c2
  have c3 := h.c3
  have f0 := h.cells.frozen 2
  have f1 := h.cells.frozen 3
  have H := Lib.hid h
  have fin : ∀ (fu : Int) (l : Bool) (w' : World), Blk w' p 45 (dcells mb cap fu l) → But p mb w w' → w'.ownsMap Tryz.prog 9 heldR mb es.length (dmap heldF es) → DiskAt w' p mb es cap fu l := fun fu l w' hc hb hm => H.out.turn hb hc hm H.out.up fun q hq => .inl hq
  have hne := h.ne
  have FIN := Lib.hid fin
  clear fin h
  by_cases hz : fuse = 0
  · subst hz
    go_enter Tryz.func15, Tryz.ntmps15
    go_wp2
    go_ret
    have hb := (But.refl p mb w).set_ 3 (.bool true)
    exact ⟨rfl, FIN.out _ _ _ (H.out.cells.set_ 3 (.bool true)) hb (H.out.map.setCell (fun e => hne e.symm) _), hb⟩
  · have z1 : (fuse == 0) = false := by simp [hz]
    have z2 : (decide (fuse = 0)) = false := by simp [hz]
    rw [z2]
    by_cases hp : 0 < fuse
    · rw [if_pos hp]
      go_enter Tryz.func15, Tryz.ntmps15
      go_wp2
      go_ret
      have hb := ((But.refl p mb w).set_ 3 (.bool false)).set_ 2 (.int .i64 (fuse - 1))
      exact ⟨rfl, FIN.out _ _ _ ((H.out.cells.set_ 3 (.bool false)).set_ 2 (.int .i64 (fuse - 1))) hb ((H.out.map.setCell (fun e => hne e.symm) _).setCell (fun e => hne e.symm) _), hb⟩
    · rw [if_neg hp]
      have hp' : decide (0 < fuse) = false := by simp; omega
      go_enter Tryz.func15, Tryz.ntmps15
      go_wp2
      go_ret
      have hb := (But.refl p mb w).set_ 3 (.bool false)
      exact ⟨rfl, FIN.out _ _ _ (H.out.cells.set_ 3 (.bool false)) hb (H.out.map.setCell (fun e => hne e.symm) _), hb⟩
end Go.Proofs.YtgjlpgijlicppaaGreatDoor
/-
  Walks of the disk's functions that look up a file.
-/
namespace Go.Proofs.YtgjlpgijlicppaaGreatDoor
open Go.RowKit Go.Maps
theorem look_none {w : World} {mb n : Nat} {es : List (Key × FV)} (h : w.ownsMap Tryz.prog 9 heldR mb n (dmap heldF es)) (s : ByteArray) (hs : s.size ≤ maxLen) (hg : fget s.data.toList es = none) :
    (Instr.lookup 43 (.map (some mb)) (.string s) true).run Tryz.prog w = .ok (.tuple #[.agg #[.slice none 0 0, .int .i64 0, .bool false], .bool false]) w := by
  rw [look_run h s hs, hg]; rfl
theorem look_some {w : World} {mb n : Nat} {es : List (Key × FV)} (h : w.ownsMap Tryz.prog 9 heldR mb n (dmap heldF es)) (s : ByteArray) (hs : s.size ≤ maxLen) {b : List UInt8} {sf : Nat} {ev : Bool} {A : Option Addr} {c : Nat} (hg : fget s.data.toList es = some ⟨⟨b, sf, ev⟩, A, c⟩) :
    (Instr.lookup 43 (.map (some mb)) (.string s) true).run Tryz.prog w = .ok (.tuple #[.agg #[.slice A b.length c, .int .i64 (sf : Nat), .bool ev], .bool true]) w := by
  rw [look_run h s hs, hg]; rfl
theorem look1_none {w : World} {mb n : Nat} {es : List (Key × FV)} (h : w.ownsMap Tryz.prog 9 heldR mb n (dmap heldF es)) (s : ByteArray) (hs : s.size ≤ maxLen) (hg : fget s.data.toList es = none) :
    (Instr.lookup 43 (.map (some mb)) (.string s) false).run Tryz.prog w = .ok (.agg #[.slice none 0 0, .int .i64 0, .bool false]) w := by
  rw [look_run1 h s hs, hg]; rfl
theorem look1_some {w : World} {mb n : Nat} {es : List (Key × FV)} (h : w.ownsMap Tryz.prog 9 heldR mb n (dmap heldF es)) (s : ByteArray) (hs : s.size ≤ maxLen) {b : List UInt8} {sf : Nat} {ev : Bool} {A : Option Addr} {c : Nat} (hg : fget s.data.toList es = some ⟨⟨b, sf, ev⟩, A, c⟩) :
    (Instr.lookup 43 (.map (some mb)) (.string s) false).run Tryz.prog w = .ok (.agg #[.slice A b.length c, .int .i64 (sf : Nat), .bool ev]) w := by
  rw [look_run1 h s hs, hg]; rfl
theorem there_nil (s : ByteArray) (w : World) : Calls Tryz.prog 22 #[.pointer none, .string s] w fun e w' => e = .returned (.int .i64 1) ∧ Below w.heap.size w w' := by
  have Hg := Lib.hid (gone_nil w)
  go_enter Tryz.func22, Tryz.ntmps22
  go_wp2_with fail
  refine Hg.out.mono ?_
  rintro e w1 ⟨rfl, rfl⟩
  go_wp2
  go_ret
  exact ⟨rfl, Below.refl _ _⟩
set_option maxRecDepth 100000 in
theorem there_at {w : World} {p mb cap : Nat} {es : List (Key × FV)} {fuse : Int} {lost : Bool} (h : DiskAt w p mb es cap fuse lost) (s : ByteArray) (hs : s.size ≤ maxLen) :
    Calls Tryz.prog 22 #[.pointer (some ⟨p, 0, none⟩), .string s] w fun e w' => e = .returned (.int .i64 (if lost = true then 6 else if (fget s.data.toList es).isSome = true then 0 else 7)) ∧ Below w.heap.size w w' := by
  have c1 := h.c1
  have Hg := Lib.hid (gone_at p lost w h.c3)
  cases lost with
  | true =>
    clear h
    go_enter Tryz.func22, Tryz.ntmps22
    go_wp2_with fail
    refine Hg.out.mono ?_
    rintro e w1 ⟨rfl, rfl⟩
    go_wp2
    go_ret
    exact ⟨rfl, Below.refl _ _⟩
  | false =>
    cases hg : fget s.data.toList es with
    | none =>
      have hl := look_none h.map s hs hg
      clear h hg
      go_enter Tryz.func22, Tryz.ntmps22
      go_wp2_with fail
      refine Hg.out.mono ?_
      rintro e w1 ⟨rfl, rfl⟩
      go_wp2
      go_ret
      exact ⟨rfl, by repeat (first | exact Below.refl _ _ | refine Below.setCell ?_ (by simp) _ | refine Below.alloc ?_ (by simp) _)⟩
    | some f =>
      obtain ⟨⟨b, sf, ev⟩, A, c⟩ := f
      have hl := look_some h.map s hs hg
      clear h hg
      go_enter Tryz.func22, Tryz.ntmps22
      go_wp2_with fail
      refine Hg.out.mono ?_
      rintro e w1 ⟨rfl, rfl⟩
      go_wp2
      go_ret
      exact ⟨rfl, by repeat (first | exact Below.refl _ _ | refine Below.setCell ?_ (by simp) _ | refine Below.alloc ?_ (by simp) _)⟩
/-- whether a file is there, and safe -/
def safeE (k : Key) (es : List (Key × FV)) : Bool := match fget k es with | some v => v.m.whole | none => false
theorem safe_nil (s : ByteArray) (w : World) : Calls Tryz.prog 19 #[.pointer none, .string s] w fun e w' => e = .returned (.bool false) ∧ Below w.heap.size w w' := by
  go_enter Tryz.func19, Tryz.ntmps19
  go_wp2
  go_ret
  exact ⟨rfl, Below.refl _ _⟩
theorem safe_at {w : World} {p mb cap : Nat} {es : List (Key × FV)} {fuse : Int} {lost : Bool} (h : DiskAt w p mb es cap fuse lost) (s : ByteArray) (hs : s.size ≤ maxLen) :
    Calls Tryz.prog 19 #[.pointer (some ⟨p, 0, none⟩), .string s] w fun e w' => e = .returned (.bool (safeE s.data.toList es)) ∧ Below w.heap.size w w' := by
  have c1 := h.c1
  unfold safeE
  cases hg : fget s.data.toList es with
  | none =>
    have hl := look1_none h.map s hs hg
    have Hw := Lib.hid (whole_any none 0 0 0 false w)
    clear h hg
    go_enter Tryz.func19, Tryz.ntmps19
    go_wp2_with fail
    refine Hw.out.mono ?_
    rintro e w1 ⟨rfl, hb⟩
    go_wp2
    go_ret
    exact ⟨rfl, hb⟩
  | some f =>
    obtain ⟨⟨b, sf, ev⟩, A, c⟩ := f
    have hl := look1_some h.map s hs hg
    have Hw := Lib.hid (whole_any A b.length c sf ev w)
    clear h hg
    go_enter Tryz.func19, Tryz.ntmps19
    go_wp2_with fail
    refine Hw.out.mono ?_
    rintro e w1 ⟨rfl, hb⟩
    go_wp2
    go_ret
    exact ⟨rfl, hb⟩
/-- a new disk -/
theorem new_bad (n : Int) (hn : n < 0 ∨ 4194304 < n) (w : World) : Calls Tryz.prog 6 #[.int .i64 n] w fun e w' => e = .returned (.tuple #[.pointer none, .int .i64 1]) ∧ w' = w := by
  by_cases h : n < 0
  all_goals
    try (have h2 : decide (n < 0) = false := by simp; omega)
    go_enter Tryz.func6, Tryz.ntmps6
    go_wp2
    go_ret2
    exact ⟨rfl, rfl⟩
theorem new_at (n : Nat) (hn : n ≤ 4194304) (w : World) : Calls Tryz.prog 6 #[.int .i64 (n : Nat)] w fun e w' => ∃ p mb, e = .returned (.tuple #[.pointer (some ⟨p, 0, none⟩), .int .i64 0]) ∧ DiskAt w' p mb [] n (-1) false ∧ w.heap.size ≤ p ∧ w.heap.size ≤ mb ∧ Below w.heap.size w w' := by
  have hmm := @run_makeMap Tryz.prog
  have h1 : decide ((n : Int) < 0) = false := by simp
  have h2 : decide ((n : Int) > 4194304) = false := by simp; omega
  go_enter Tryz.func6, Tryz.ntmps6
  go_wp2
  go_ret2
  refine ⟨w.heap.size + 1, w.heap.size, by simp,  ⟨?_, ?_, up_nil, fun q hq => by cases hq⟩, by omega, by omega, ((Below.refl _ _).alloc (by simp) _).alloc (by simp) _⟩
  · have hk := Blk.new (w.alloc (.map #[] 0)) 45 (dcells w.heap.size n (-1) false)
    rw [World.size_alloc] at hk
    exact hk
  · exact (World.ownsMap_made w _ _ _).alloc _
end Go.Proofs.YtgjlpgijlicppaaGreatDoor
/-
  Walks of the disk's changes: Fuse, Remove, Lose, Sync.
-/
namespace Go.Proofs.YtgjlpgijlicppaaGreatDoor
open Go.RowKit Go.Maps
theorem fget_m (k : Key) (es : List (Key × FV)) : fget k (fmap FV.m es) = (fget k es).map FV.m := fget_fmap FV.m k es
/-- a file is taken away -/
theorem DiskAt.drop {w w' : World} {p mb cap : Nat} {es : List (Key × FV)} {fuse : Int} {lost : Bool} (h : DiskAt w p mb es cap fuse lost) (k : Key) {n : Nat} (hm : w'.ownsMap Tryz.prog 9 heldR mb n (dmap heldF (fdel k es))) (ht : w.mapTurned w' mb) :
    DiskAt w' p mb (fdel k es) cap fuse lost ∧ But p mb w w' := by
  have hb := (But.refl p mb w).turned ht
  refine ⟨h.turn hb ?_ hm (up_fdel h.up k) fun q hq => .inl (List.mem_filter.1 hq).1, hb⟩
  exact h.cells.grown ht.grown (fun e => h.ne (by injection e))
theorem remove_nil (s : ByteArray) (w : World) : Calls Tryz.prog 58 #[.pointer none, .string s] w fun e w' => e = .returned (.int .i64 1) ∧ Below w.heap.size w w' := by
  have Hg := Lib.hid (there_nil s w)
  go_enter Tryz.func58, Tryz.ntmps58
  go_wp2_with fail
  refine Hg.out.mono ?_
  rintro e w1 ⟨rfl, hb⟩
  go_wp2
  go_ret
  exact ⟨rfl, hb⟩
end Go.Proofs.YtgjlpgijlicppaaGreatDoor
/-
  Walks of the disk's changes: Remove, Sync.
-/
namespace Go.Proofs.YtgjlpgijlicppaaGreatDoor
open Go.RowKit Go.Maps
set_option maxRecDepth 100000 in
theorem remove_at {w : World} {p mb : Nat} {d : DiskM} (h : Disk w p mb d) (hf : WFD d) (s : ByteArray) (hs : s.size ≤ maxLen) :
    Calls Tryz.prog 58 #[.pointer (some ⟨p, 0, none⟩), .string s] w fun e w' => e = .returned (.int .i64 (dRemove d s.data.toList).1) ∧ Disk w' p mb (dRemove d s.data.toList).2 ∧ But p mb w w' := by
  have hf0 := hf.fuse0
  have hf1 := hf.fuse1
  clear hf
  obtain ⟨cap, files, fuse, lost⟩ := d
  obtain ⟨es, hf, h⟩ := h
  obtain rfl : files = fmap FV.m es := hf
  have Ht := Lib.hid (there_at h s hs)
  have H := Lib.hid h
  unfold dRemove
  simp only [fget_m] at hf0 hf1 ⊢
  cases lost with
  | true =>
    clear h
    go_enter Tryz.func58, Tryz.ntmps58
    go_wp2_with fail
    refine Ht.out.mono ?_
    rintro e w1 ⟨rfl, hb⟩
    go_wp2
    go_ret
    exact ⟨rfl, ⟨es, rfl, H.out.below hb⟩, But.of_below hb⟩
  | false =>
    cases hg : fget s.data.toList es with
    | none =>
      rw [hg] at Ht
      clear h hg
      go_enter Tryz.func58, Tryz.ntmps58
      go_wp2_with fail
      refine Ht.out.mono ?_
      rintro e w1 ⟨rfl, hb⟩
      go_wp2
      go_ret
      exact ⟨rfl, ⟨es, rfl, H.out.below hb⟩, But.of_below hb⟩
    | some f =>
      rw [hg] at Ht
      clear h hg
      go_enter Tryz.func58, Tryz.ntmps58
      go_wp2_with fail
      refine Ht.out.mono ?_
      rintro e w1 ⟨rfl, hb⟩
      have HB := Lib.hid hb
      have Hu := Lib.hid (burns_at (H.out.below hb) hf0 hf1)
      clear hb
      go_wp2_with fail
      refine Hu.out.mono ?_
      rintro e w2 ⟨rfl, h2, hb2⟩
      have HB2 := Lib.hid ((But.of_below HB.out).trans hb2)
      by_cases hz : fuse = 0
      · have H2 := Lib.hid h2
        have hd : decide (fuse = 0) = true := by simp [hz]
        rw [hd] at H2 ⊢
        clear h2 hb2 HB
        go_wp2
        go_ret
        subst hz
        exact ⟨rfl, ⟨es, rfl, H2.out⟩, HB2.out⟩
      · have hd : decide (fuse = 0) = false := by simp [hz]
        have c1 := h2.c1
        obtain ⟨w3, hrun, hm, ht⟩ := drop_run h2.map s hs 0
        obtain ⟨hdr, hb3⟩ := h2.drop s.data.toList hm ht
        have Hd := Lib.hid hdr
        have Hb := Lib.hid (HB2.out.trans hb3)
        rw [hd] at Hd ⊢
        clear h2 hb2 HB hm ht hdr hb3
        go_wp2
        go_ret
        exact ⟨rfl, ⟨_, (fdel_fmap FV.m _ es).symm, by show DiskAt _ _ _ _ _ _ (decide (fuse = 0)); rw [hd]; exact Hd.out⟩, Hb.out⟩
theorem sync_nil (s : ByteArray) (w : World) : Calls Tryz.prog 20 #[.pointer none, .string s] w fun e w' => e = .returned (.int .i64 1) ∧ Below w.heap.size w w' := by
  have Hg := Lib.hid (there_nil s w)
  go_enter Tryz.func20, Tryz.ntmps20
  go_wp2_with fail
  refine Hg.out.mono ?_
  rintro e w1 ⟨rfl, hb⟩
  go_wp2
  go_ret
  exact ⟨rfl, hb⟩
/-- a file is put -/
theorem DiskAt.store {w w1 w' : World} {p mb cap cap0 : Nat} {es : List (Key × FV)} {fuse fuse0 : Int} {lost lost0 : Bool} (h : DiskAt w p mb es cap0 fuse0 lost0) (hw : But p mb w w1) (hc : Blk w1 p 45 (dcells mb cap fuse lost)) (k : Key) (v : FV) {n : Nat} (hm : w'.ownsMap Tryz.prog 9 heldR mb n (dmap heldF (fput k v es))) (ht : w1.mapTurned w' mb)
    (hv : Reads w' w'.heap.size 1 v.a v.m.b.length (u8s v.m.b) ∧ v.m.b.length ≤ v.c) :
    DiskAt w' p mb (fput k v es) cap fuse lost ∧ But p mb w w' := by
  have hb := hw.turned ht
  refine ⟨h.turn hb ?_ hm (up_fput h.up) fun q hq => ?_, hb⟩
  · exact hc.grown ht.grown (fun e => h.ne (by injection e))
  · rcases mem_fput hq with rfl | hq
    · exact .inr hv
    · exact .inl hq
theorem store_some {w : World} {mb n : Nat} {es : List (Key × FV)} (h : w.ownsMap Tryz.prog 9 heldR mb n (dmap heldF es)) (hup : Up es) (hn : n < maxLen) (s : ByteArray) (hs : s.size ≤ maxLen) (b : List UInt8) (sf : Nat) (ev : Bool) (A : Option Addr) (c : Nat) :
    ∃ w', (Instr.mapUpdate 43 (.map (some mb)) (.string s) (.agg #[.slice A b.length c, .int .i64 (sf : Nat), .bool ev])).run Tryz.prog w = .ok () w' ∧ w'.ownsMap Tryz.prog 9 heldR mb (n + 1) (dmap heldF (fput s.data.toList ⟨⟨b, sf, ev⟩, A, c⟩ es)) ∧ w.mapTurned w' mb :=
  store_run h hup hn s hs ⟨⟨b, sf, ev⟩, A, c⟩
set_option maxRecDepth 100000 in
theorem sync_at {w : World} {p mb : Nat} {d : DiskM} (h : Disk w p mb d) (hf : WFD d) (hN : d.files.length < 1000000) (s : ByteArray) (hs : s.size ≤ maxLen) :
    Calls Tryz.prog 20 #[.pointer (some ⟨p, 0, none⟩), .string s] w fun e w' => e = .returned (.int .i64 (dSync d s.data.toList).1) ∧ Disk w' p mb (dSync d s.data.toList).2 ∧ But p mb w w' := by
  have hf0 := hf.fuse0
  have hf1 := hf.fuse1
  clear hf
  obtain ⟨cap, files, fuse, lost⟩ := d
  obtain ⟨es, hf, h⟩ := h
  obtain rfl : files = fmap FV.m es := hf
  have hN' : es.length < 1000000 := by simpa [fmap] using hN
  clear hN
  have Ht := Lib.hid (there_at h s hs)
  have H := Lib.hid h
  unfold dSync
  simp only [fget_m] at hf0 hf1 ⊢
  cases lost with
  | true =>
    clear h
    go_enter Tryz.func20, Tryz.ntmps20
    go_wp2_with fail
    refine Ht.out.mono ?_
    rintro e w1 ⟨rfl, hb⟩
    go_wp2
    go_ret
    exact ⟨rfl, ⟨es, rfl, H.out.below hb⟩, But.of_below hb⟩
  | false =>
    cases hg : fget s.data.toList es with
    | none =>
      rw [hg] at Ht
      clear h hg
      go_enter Tryz.func20, Tryz.ntmps20
      go_wp2_with fail
      refine Ht.out.mono ?_
      rintro e w1 ⟨rfl, hb⟩
      go_wp2
      go_ret
      exact ⟨rfl, ⟨es, rfl, H.out.below hb⟩, But.of_below hb⟩
    | some f =>
      obtain ⟨⟨b, sf, ev⟩, A, c⟩ := f
      rw [hg] at Ht
      have Hg := Lib.hid hg
      clear h hg
      go_enter Tryz.func20, Tryz.ntmps20
      go_wp2_with fail
      refine Ht.out.mono ?_
      rintro e w1 ⟨rfl, hb⟩
      have HB := Lib.hid hb
      have Hu := Lib.hid (burns_at (H.out.below hb) hf0 hf1)
      clear hb
      go_wp2_with fail
      refine Hu.out.mono ?_
      rintro e w2 ⟨rfl, h2, hb2⟩
      have HB2 := Lib.hid ((But.of_below HB.out).trans hb2)
      by_cases hz : fuse = 0
      · have H2 := Lib.hid h2
        have hd : decide (fuse = 0) = true := by simp [hz]
        rw [hd] at H2 ⊢
        clear h2 hb2 HB
        go_wp2
        go_ret
        subst hz
        exact ⟨rfl, ⟨es, rfl, H2.out⟩, HB2.out⟩
      · have hd : decide (fuse = 0) = false := by simp [hz]
        have c1 := h2.c1
        have H2 := Lib.hid h2
        have hl := look1_some h2.map s hs Hg.out
        rw [hd] at H2 ⊢
        clear h2 hb2 HB
        obtain ⟨w3, hrun, hm, ht⟩ := store_some (((H2.out.map.alloc (.cells #[.slice A b.length c, .int .i64 (b.length : Nat), .bool true] 49)).drew)) H2.out.up (by unfold maxLen; omega) s hs b b.length true A c
        have c1' := Lib.cell?_alloc_some (.cells #[.slice A b.length c, .int .i64 (b.length : Nat), .bool true] 49) c1
        have hb3 : But p mb w2 (w2.alloc (.cells #[.slice A b.length c, .int .i64 (b.length : Nat), .bool true] 49)).drew := ((But.refl _ _ _).alloc _).drew
        have hk := H2.out.bytes _ (fget_mem Hg.out)
        obtain ⟨hst, hbt⟩ := H2.out.store hb3 ((H2.out.cells.alloc _).drew) s.data.toList ⟨⟨b, b.length, true⟩, A, c⟩ hm ht ⟨H2.out.reads_but (hb3.turned ht) hk.1, hk.2⟩
        have HS := Lib.hid hst
        have HT := Lib.hid (HB2.out.trans hbt)
        clear hm ht hst hbt hb3 hk
        go_wp2
        go_region
        go_wp2
        go_ret
        exact ⟨rfl, ⟨_, (fput_fmap FV.m _ ⟨⟨b, b.length, true⟩, A, c⟩ es).symm, by show DiskAt _ _ _ _ _ _ (decide (fuse = 0)); rw [hd]; exact HS.out⟩, HT.out⟩
end Go.Proofs.YtgjlpgijlicppaaGreatDoor
/-
  Ranging over the disk's map.
-/
namespace Go.Proofs.YtgjlpgijlicppaaGreatDoor
open Go.RowKit Go.Maps
set_option maxRecDepth 100000 in
theorem wpList_next_files {w : World} {ops : Array Oper} {rest : List Oper} {o : Oper} {a : Act} {Q : Exit → Act → World → Prop} (hg : o.guard = none) (it : Operand) (hop : o.op = Op.next it false) (mb r n : Nat) (es : List (Key × FV)) (left : Lit → Bool) (cnt : Nat)
    (hit : a.eval it = .pointer (some ⟨r, 0, none⟩)) (h : w.ranges Tryz.prog 9 heldR mb r n (dmap heldF es) left cnt)
    (hDone : cnt = 0 → (∀ kl, left kl = false) → wpList Tryz.prog ops Q rest (a.put o.dst (.tuple #[.bool false])) w)
    (hMore : ∀ (x : Key) (v : FV) (w' : World) (cnt' : Nat), x.length ≤ maxLen → left (.string x) = true → fget x es = some v → w'.ranges Tryz.prog 9 heldR mb r n (dmap heldF es) (fun z => left z && !z.sameKey (.string x)) cnt' → cnt' < cnt →
      w.grownBy w' (some r) → w'.heap.size = w.heap.size → (Instr.entry (.pointer (some ⟨r, 0, none⟩))).run Tryz.prog w' = .ok (.tuple #[.string ⟨x.toArray⟩, .agg #[.slice v.a v.m.b.length v.c, .int .i64 (v.m.safe : Nat), .bool v.m.ever]]) w' →
      wpList Tryz.prog ops Q rest (a.put o.dst (.tuple #[.bool true, .string ⟨x.toArray⟩, .agg #[.slice v.a v.m.b.length v.c, .int .i64 (v.m.safe : Nat), .bool v.m.ever]])) w') :
    wpList Tryz.prog ops Q (o :: rest) a w := by
  refine wpList_next_ranges w hg it hop 9 string_key heldR encStr id (fun key kl hk => ?_) (fun v y _ => ⟨v, rfl⟩) mb r n _ left cnt hit h hDone ?_
  · obtain ⟨x, hx, _⟩ := Maps.keyOf_str Tryz.underlying9 hk
    exact ⟨x, hx⟩
  · intro x v kl y w' cnt' hkey hlk hv hat hrg hlt hgr hsz hen
    obtain ⟨x', ex, rfl, hxl⟩ := Maps.keyOf_str Tryz.underlying9 hkey
    obtain rfl : x = x' := encStr_inj ex
    obtain ⟨yd, yp⟩ := y
    have hv' : v = v ∧ yd = .held v := by
      simp only [heldR, id] at hv
      injection hv with hv
      injection hv with h1 h2
      exact ⟨rfl, h1.symm⟩
    have h1 := hat .nil
    rw [dmap_at] at h1
    cases hg : fget x es with
    | none => rw [hg] at h1; rw [hv'.2] at h1; cases h1
    | some fv =>
      rw [hg] at h1
      have e : v = FV.val fv := by rw [hv'.2] at h1; injection h1 with h1; exact h1.symm
      subst e
      exact hMore x fv w' cnt' hxl hlk hg hrg hlt hgr hsz hen
/-- the bytes of those files that have come -/
def usedL (left : Lit → Bool) : List (Key × FV) → Nat
  | [] => 0
  | q :: r => (if left (.string q.1) = true then 0 else q.2.m.b.length) + usedL left r
theorem usedL_start : ∀ {es all : List (Key × FV)}, (∀ q ∈ es, q ∈ all) → usedL (Maps.has (dmap heldF all)) es = 0
  | [], _, _ => rfl
  | q :: r, all, h => by
    have h1 : Maps.has (dmap heldF all) (.string q.1) = true := by
      rw [dmap_has]
      cases hg : fget q.1 all with
      | some v => rfl
      | none =>
        exfalso
        have hq := h q List.mem_cons_self
        clear h
        induction all with
        | nil => cases hq
        | cons z t ih =>
          rw [fget_cons] at hg
          split at hg
          · cases hg
          · rename_i hne
            rcases List.mem_cons.1 hq with e | hq
            · subst e; exact hne rfl
            · exact ih hg hq
    show (if Maps.has (dmap heldF all) (.string q.1) = true then 0 else q.2.m.b.length) + usedL _ r = 0
    rw [if_pos h1, usedL_start (fun z hz => h z (List.mem_cons_of_mem _ hz))]
theorem usedL_end {left : Lit → Bool} (h : ∀ kl, left kl = false) : ∀ es : List (Key × FV), usedL left es = used (fmap FV.m es)
  | [] => rfl
  | q :: r => by
    show (if left (.string q.1) = true then 0 else q.2.m.b.length) + usedL left r = q.2.m.b.length + used (fmap FV.m r)
    rw [h, if_neg (by simp), usedL_end h r]
theorem usedL_le (left : Lit → Bool) : ∀ es : List (Key × FV), usedL left es ≤ used (fmap FV.m es)
  | [] => Nat.le_refl _
  | q :: r => by
    show (if left (.string q.1) = true then 0 else q.2.m.b.length) + usedL left r ≤ q.2.m.b.length + used (fmap FV.m r)
    have := usedL_le left r
    split <;> omega
theorem usedL_out {left : Lit → Bool} {x : Key} : ∀ {es : List (Key × FV)}, (∀ q ∈ es, q.1 ≠ x) → usedL (fun z => left z && !z.sameKey (.string x)) es = usedL left es
  | [], _ => rfl
  | q :: r, h => by
    have h1 : (left (.string q.1) && !(Lit.string q.1).sameKey (.string x)) = left (.string q.1) := by
      rw [sameKey_str]; simp [h q List.mem_cons_self]
    show (if (left (.string q.1) && !(Lit.string q.1).sameKey (.string x)) = true then 0 else q.2.m.b.length) + usedL _ r = (if left (.string q.1) = true then 0 else q.2.m.b.length) + usedL left r
    rw [h1, usedL_out (fun z hz => h z (List.mem_cons_of_mem _ hz))]
theorem usedL_step {left : Lit → Bool} {x : Key} {v : FV} : ∀ {es : List (Key × FV)}, Up es → fget x es = some v → left (.string x) = true → usedL (fun z => left z && !z.sameKey (.string x)) es = usedL left es + v.m.b.length
  | q :: r, hup, hg, hl => by
    obtain ⟨h1, h2⟩ := up_cons.1 hup
    obtain ⟨y, u⟩ := q
    rw [fget_cons] at hg
    show (if (left (.string y) && !(Lit.string y).sameKey (.string x)) = true then 0 else u.m.b.length) + usedL _ r = (if left (.string y) = true then 0 else u.m.b.length) + usedL left r + v.m.b.length
    rw [sameKey_str]
    by_cases e : y = x
    · rw [if_pos e] at hg
      injection hg with hg
      subst e hg
      rw [usedL_out (fun z hz e => before_ne (h1 z hz) e.symm)]
      simp [hl]; omega
    · rw [if_neg e] at hg
      rw [usedL_step h2 hg hl]
      simp [e]; omega
end Go.Proofs.YtgjlpgijlicppaaGreatDoor
/-
  Walk of the disk's Room.
-/
namespace Go.Proofs.YtgjlpgijlicppaaGreatDoor
open Go.RowKit Go.Maps
theorem room_nil (w : World) : Calls Tryz.prog 14 #[.pointer none] w fun e w' => e = .returned (.int .i64 0) ∧ w' = w := by
  go_enter Tryz.func14, Tryz.ntmps14
  go_wp2
  go_ret
  exact ⟨rfl, rfl⟩
set_option maxRecDepth 100000 in
theorem room_at {w : World} {p mb : Nat} {d : DiskM} (h : Disk w p mb d) (hf : WFD d) :
    Calls Tryz.prog 14 #[.pointer (some ⟨p, 0, none⟩)] w fun e w' => e = .returned (.int .i64 (d.room : Nat)) ∧ Below w.heap.size w w' := by
  obtain ⟨cap, files, fuse, lost⟩ := d
  obtain ⟨es, hfi, h⟩ := h
  obtain rfl : files = fmap FV.m es := hfi
  have hr : used (fmap FV.m es) ≤ cap := hf.room
  have hc : cap ≤ 4194304 := hf.cap
  have hup := h.up
  have c0 := h.c0
  have c1 := h.c1
  have hm := h.map
  have H := Lib.hid h
  have HU := Lib.hid hup
  clear h hf hup
  unfold DiskM.room
  go_enter Tryz.func14, Tryz.ntmps14
  go_wp2_with (first | (at_range; refine wpList_range_own _ rfl _ 43 rfl 9 49 string_key Tryz.underlying43 _ mb es.length (dmap heldF es) rfl hm ?_; intro w0 hrg0 hg0 hs0) | go_in)
  try go_frame
  have hb0 : Below w.heap.size w w0 := (Below.refl _ _).grown hg0 (Nat.le_refl _) (fun k hk => by cases hk)
  have HG := Lib.hid hrg0
  have HB := Lib.hid hb0
  clear hg0 hs0 hrg0 hb0
  go_loopw [3] (fun v wr => ∃ (left : Lit → Bool) (cnt : Nat), v = .int .i64 ((cap - usedL left es : Nat) : Int) ∧ Hid (wr.ranges Tryz.prog 9 heldR mb w.heap.size es.length (dmap heldF es) left cnt) ∧ Hid (Below w.heap.size w wr)) (fun _ wr => wr.rangeLeft mb w.heap.size)
  case atStart => exact ⟨_, _, by rw [usedL_start (fun _ h => h)]; rfl, HG, HB⟩
  case round =>
    obtain ⟨left, cnt, rfl, hrg, hb⟩ := hrel
    go_wp2_with (first | (at_next; refine wpList_next_files rfl _ rfl mb w.heap.size es.length es _ _ rfl hrg.out ?_ ?_) | go_in)
    · intro _ hl0
      have e := usedL_end hl0 es
      rw [e]
      have HB1 := Lib.hid hb
      clear e hl0
      go_wp2
      go_ret
      exact ⟨rfl, hb.out⟩
    · intro x ⟨⟨b, sf, ev⟩, A, c⟩ w1 cnt1 hxl hlx hget hrg1 hlt hg1 hs1 hen
      have hst := usedL_step HU.out hget hlx
      have hle := usedL_le (fun z => left z && !z.sameKey (.string x)) es
      have hbl := hb.out.size
      have hb1 := hb.out.grown hg1 hbl (fun k hk => by cases hk; exact Nat.le_refl _)
      have HB1 := Lib.hid hb1
      have HR1 := Lib.hid hrg1
      have HL := Lib.hid hlt
      have hn : (cap - usedL left es : Nat) = (cap - usedL left es : Nat) := rfl
      have hne : ((cap - usedL left es : Nat) : Int) - (b.length : Nat) = ((cap - usedL (fun z => left z && !z.sameKey (.string x)) es : Nat) : Int) := by simp only at hst; omega
      have hbd : (cap - usedL left es : Nat) ≤ 4194304 := by omega
      have hbd2 : b.length ≤ 4194304 := by simp only at hst; omega
      have HNE := Lib.hid hne
      clear hst hle hb1 hrg1 hlt hg1 hs1 hne hlx hget hn
      generalize (cap - usedL left es : Nat) = u at *
      go_wp2
      go_roundw
      case rel =>
        refine ⟨_, cnt1, by rw [HNE.out], HR1.out.alloc _, HB1.out.alloc ?_ _⟩
        exact HB1.out.size
      case measure =>
        rw [(HR1.out.alloc _).left_eq, hrg.out.left_eq]
        exact HL.out
end Go.Proofs.YtgjlpgijlicppaaGreatDoor
/-
  Walks: names that files may have; a name in the reference.
-/
namespace Go.Proofs.YtgjlpgijlicppaaGreatDoor
open Go.RowKit Go.Maps
theorem rightC_cases (c : UInt8) : (rightC c = true ∧ ((97 ≤ (c.toNat : Int) ∧ (c.toNat : Int) ≤ 122) ∨ (48 ≤ (c.toNat : Int) ∧ (c.toNat : Int) ≤ 57) ∨ (c.toNat : Int) = 46)) ∨
    (rightC c = false ∧ ((c.toNat : Int) < 46 ∨ (c.toNat : Int) = 47 ∨ (58 ≤ (c.toNat : Int) ∧ (c.toNat : Int) < 97) ∨ 122 < (c.toNat : Int))) := by
  unfold rightC
  by_cases h1 : 97 ≤ c.toNat ∧ c.toNat ≤ 122
  · left; exact ⟨by simp [h1], .inl (by omega)⟩
  · by_cases h2 : 48 ≤ c.toNat ∧ c.toNat ≤ 57
    · left; exact ⟨by simp [h2], .inr (.inl (by omega))⟩
    · by_cases h3 : c.toNat = 46
      · left; exact ⟨by simp [h3], .inr (.inr (by omega))⟩
      · right
        refine ⟨?_, by omega⟩
        have e1 : (decide (97 ≤ c.toNat) && decide (c.toNat ≤ 122)) = false := by simp; omega
        have e2 : (decide (48 ≤ c.toNat) && decide (c.toNat ≤ 57)) = false := by simp; omega
        rw [e1, e2]; simp [h3]
theorem right_bad (s : ByteArray) (k : Nat) (h : k < s.size) (hc : rightC s[k] = false) : right s.data.toList = false := by
  unfold right
  have : s.data.toList.all rightC = false := by
    rw [List.all_eq_false]
    exact ⟨s[k], by rw [show s[k] = s.data.toList[k]'(by simpa using h) from rfl]; exact List.getElem_mem _, by simp [hc]⟩
  rw [this]; rfl
theorem right_good (s : ByteArray) (h : (s.data.toList.take s.size).all rightC = true) : right s.data.toList = (decide (1 ≤ s.size) && decide (s.size ≤ 40)) := by
  have e : s.data.toList.length = s.size := by simp
  rw [List.take_of_length_le (by omega)] at h
  unfold right
  rw [h, e]; rfl
theorem right_any (s : ByteArray) (hs : s.size ≤ 1000000000) (w : World) : Calls Tryz.prog 13 #[.string s] w fun e w' => e = .returned (.bool (right s.data.toList)) ∧ w' = w := by
  go_enter Tryz.func13, Tryz.ntmps13
  go_wp2
  go_loop [7] (fun i => ∃ k : Nat, i = .int .i64 k ∧ k ≤ s.size ∧ Hid ((s.data.toList.take k).all rightC = true)) (fun i => s.size - (intOf i).toNat)
  case atStart => exact ⟨0, rfl, by omega, rfl⟩
  case round =>
    obtain ⟨k, rfl, hk, hall⟩ := hrel
    by_cases hlt : k < s.size
    · rcases rightC_cases s[k] with ⟨hc, hn⟩ | ⟨hc, hn⟩
      · have Hc := Lib.hid hc
        clear hc
        rcases hn with ⟨hn, hn2⟩ | ⟨hn, hn2⟩ | hn
        all_goals
          go_wp2
          all_goals
            go_round
            case rel =>
              refine ⟨k + 1, by go_num, by omega, ?_⟩
              have h1 := hall.out
              show (s.data.toList.take (k + 1)).all rightC = true
              rw [take_snoc s k hlt]; simp only [List.all_append, h1, Bool.true_and, List.all_cons, List.all_nil, Bool.and_true]; exact Hc.out
            case measure => simp [intOf] <;> omega
      · have Hv := Lib.hid (right_bad s k hlt hc)
        clear hc
        have hm1 : ((s[k].toNat : Int) == 46) = false := by simp; omega
        have hm2 : ((s[k].toNat : Int) != 46) = true := by simp; omega
        rcases hn with hn | hn | ⟨hn, hn2⟩ | hn
        all_goals
          go_wp2
          all_goals
            go_ret
            exact ⟨by rw [Hv.out]; rfl, rfl⟩
    · obtain rfl : k = s.size := by omega
      have Hv := Lib.hid (right_good s hall.out)
      by_cases h1 : 1 ≤ s.size
      · by_cases h2 : s.size ≤ 40
        · go_wp2
          go_ret
          exact ⟨by rw [Hv.out]; simp [h1, h2] <;> omega, rfl⟩
        · go_wp2
          go_ret
          exact ⟨by rw [Hv.out]; simp [h1, h2] <;> omega, rfl⟩
      · go_wp2
        go_ret
        exact ⟨by rw [Hv.out]; simp [h1], rfl⟩
theorem refRight_any (s : ByteArray) (hs : s.size ≤ 1000000000) (w : World) : Calls Tryz.prog 5 #[.string s] w fun e w' => e = .returned (.bool (right s.data.toList)) ∧ w' = w := by
  go_enter Tryz.func5, Tryz.ntmps5
  go_wp2
  go_loop [7] (fun i => ∃ k : Nat, i = .int .i64 k ∧ k ≤ s.size ∧ Hid ((s.data.toList.take k).all rightC = true)) (fun i => s.size - (intOf i).toNat)
  case atStart => exact ⟨0, rfl, by omega, rfl⟩
  case round =>
    obtain ⟨k, rfl, hk, hall⟩ := hrel
    by_cases hlt : k < s.size
    · have he : ((s[k].toNat : Int) = 46 ∧ ((s[k].toNat : Int) == 46) = true) ∨ ((s[k].toNat : Int) ≠ 46 ∧ ((s[k].toNat : Int) == 46) = false) := by
        by_cases h : (s[k].toNat : Int) = 46
        · exact .inl ⟨h, by rw [h]; rfl⟩
        · exact .inr ⟨h, by simpa using h⟩
      rcases rightC_cases s[k] with ⟨hc, hn⟩ | ⟨hc, hn⟩
      · have Hc := Lib.hid hc
        clear hc
        rcases he with ⟨he, he'⟩ | ⟨he, he'⟩
        all_goals rcases hn with ⟨hn, hn2⟩ | ⟨hn, hn2⟩ | hn
        all_goals first | (exfalso; omega) | skip
        all_goals
          clear he
          go_wp2
          all_goals
            go_round
            case rel =>
              refine ⟨k + 1, by go_num, by omega, ?_⟩
              have h1 := hall.out
              show (s.data.toList.take (k + 1)).all rightC = true
              rw [take_snoc s k hlt]; simp only [List.all_append, h1, Bool.true_and, List.all_cons, List.all_nil, Bool.and_true]; exact Hc.out
            case measure => simp [intOf] <;> omega
      · have Hv := Lib.hid (right_bad s k hlt hc)
        clear hc
        rcases he with ⟨he, he'⟩ | ⟨he, he'⟩
        all_goals rcases hn with hn | hn | ⟨hn, hn2⟩ | hn
        all_goals first | (exfalso; omega) | skip
        all_goals
          clear he
          go_wp2
          all_goals first | (go_ret; exact ⟨by rw [Hv.out]; rfl, rfl⟩) | (exfalso; rename_i h; simp at h; omega)
    · obtain rfl : k = s.size := by omega
      have Hv := Lib.hid (right_good s hall.out)
      by_cases h1 : 1 ≤ s.size
      · by_cases h2 : s.size ≤ 40
        · go_wp2
          go_ret
          exact ⟨by rw [Hv.out]; simp [h1, h2] <;> omega, rfl⟩
        · go_wp2
          go_ret
          exact ⟨by rw [Hv.out]; simp [h1, h2] <;> omega, rfl⟩
      · go_wp2
        go_ret
        exact ⟨by rw [Hv.out]; simp [h1], rfl⟩
end Go.Proofs.YtgjlpgijlicppaaGreatDoor
/-
  Walk of the disk's Append.
-/
namespace Go.Proofs.YtgjlpgijlicppaaGreatDoor
open Go.RowKit Go.Maps
theorem field_run (A : Option Addr) (n c : Nat) (s : Int) (ev : Bool) (w : World) : (Instr.field 49 (.agg #[.slice A n c, .int .i64 s, .bool ev]) 0).run Tryz.prog w = .ok (.slice A n c) w := by kernel_rfl
def zeroFV : FV := ⟨FileM.none_, none, 0⟩
theorem look_get {w : World} {mb n : Nat} {es : List (Key × FV)} (h : w.ownsMap Tryz.prog 9 heldR mb n (dmap heldF es)) (s : ByteArray) (hs : s.size ≤ maxLen) (fv : FV) (has : Bool) (hv : (fget s.data.toList es).getD zeroFV = fv) (hb : (fget s.data.toList es).isSome = has) :
    (Instr.lookup 43 (.map (some mb)) (.string s) true).run Tryz.prog w = .ok (.tuple #[.agg #[.slice fv.a fv.m.b.length fv.c, .int .i64 (fv.m.safe : Nat), .bool fv.m.ever], .bool has]) w := by
  rw [look_run h s hs, hb, ← hv]
  cases fget s.data.toList es <;> rfl
theorem look_get1 {w : World} {mb n : Nat} {es : List (Key × FV)} (h : w.ownsMap Tryz.prog 9 heldR mb n (dmap heldF es)) (s : ByteArray) (hs : s.size ≤ maxLen) (fv : FV) (hv : (fget s.data.toList es).getD zeroFV = fv) :
    (Instr.lookup 43 (.map (some mb)) (.string s) false).run Tryz.prog w = .ok (.agg #[.slice fv.a fv.m.b.length fv.c, .int .i64 (fv.m.safe : Nat), .bool fv.m.ever]) w := by
  rw [look_run1 h s hs, ← hv]
  cases fget s.data.toList es <;> rfl
theorem DiskAt.get_reads {w : World} {p mb cap : Nat} {es : List (Key × FV)} {fuse : Int} {lost : Bool} (h : DiskAt w p mb es cap fuse lost) {k : Key} {fv : FV} (hv : (fget k es).getD zeroFV = fv) : Reads w w.heap.size 1 fv.a fv.m.b.length (u8s fv.m.b) ∧ fv.m.b.length ≤ fv.c := by
  cases hg : fget k es with
  | none => rw [hg] at hv; subst hv; exact ⟨Reads.none_, Nat.le_refl _⟩
  | some f => rw [hg] at hv; obtain rfl : f = fv := hv; exact h.bytes _ (fget_mem hg)
theorem append_nil' (s : ByteArray) (A : Option Addr) (n c : Nat) (w : World) : Calls Tryz.prog 7 #[.pointer none, .string s, .slice A n c] w fun e w' => e = .returned (.int .i64 1) ∧ Below w.heap.size w w' := by
  have Hg := Lib.hid (gone_nil w)
  go_enter Tryz.func7, Tryz.ntmps7
  go_wp2_with fail
  refine Hg.out.mono ?_
  rintro e w1 ⟨rfl, rfl⟩
  go_wp2
  go_ret
  exact ⟨rfl, Below.refl _ _⟩
theorem Reads.take {w : World} {B n : Nat} {A : Option Addr} {l : List UInt8} (h : Reads w B 1 A n (u8s l)) {k : Nat} (hk : k ≤ n) : Reads w B 1 A k (u8s (l.take k)) := by
  refine ⟨?_, fun hk0 => ?_⟩
  · have := h.1; rw [u8s_length] at this; rw [u8s_length, List.length_take]; omega
  · obtain ⟨ad, e, hb, hc⟩ := h.2 (by omega)
    refine ⟨ad, e, hb, fun j u hu => hc j u ?_⟩
    rw [u8s_get] at hu ⊢
    rw [← hu]
    rw [List.getElem?_take]
    split
    · rfl
    · rename_i hj
      rw [List.getElem?_take, if_neg hj] at hu
      cases hu
theorem file_away {w : World} {g n c : Nat} {A : Option Addr} {s : Int} {ev : Bool} {t : TypeId} (h : Blk w g t #[.slice A n c, .int .i64 s, .bool ev]) {ad : Addr} {x : Int} (hc : w.cell? ad = some (.int .u8 x)) : ad.block ≠ g := by
  intro e
  unfold Blk at h
  unfold World.cell? at hc
  rw [e, h] at hc
  simp only at hc
  split at hc
  · cases hc
  · rcases ho : ad.off with _ | _ | _ | n <;> rw [ho] at hc <;> simp at hc
theorem reads_set {w : World} {B g n : Nat} {A : Option Addr} {l : List UInt8} (h : Reads w B 1 A n (u8s l)) (haw : ∀ (ad : Addr) (x : Int), w.cell? ad = some (.int .u8 x) → ad.block ≠ g) (i : Nat) (u : Value) : Reads (w.setCell ⟨g, i, none⟩ u) B 1 A n (u8s l) := by
  refine ⟨h.1, fun hn => ?_⟩
  obtain ⟨ad, rfl, hlt, hc⟩ := h.2 hn
  refine ⟨ad, rfl, hlt, fun j v hj => ?_⟩
  have h0 := hc j v hj
  have hv : ∃ x, v = .int .u8 x := by
    rw [u8s_get] at hj
    cases hl : l[j]? with
    | none => rw [hl] at hj; cases hj
    | some b => rw [hl] at hj; injection hj with hj; exact ⟨_, hj.symm⟩
  obtain ⟨x, rfl⟩ := hv
  have := haw _ _ h0
  rw [← h0]
  exact World.cell?_of_block (Below.heap_setCell _ _ _ _ this)
theorem concat_two' (g : Nat) (A1 A2 : Option Addr) (c1 c2 : Nat) (l1 l2 : List UInt8) (k : Nat) (hk : l2.length = k) (h1 : l1.length ≤ 100000000) (h2 : k ≤ 100000000) (w : World) (hg : Blk w g 29 #[.slice A1 l1.length c1, .slice A2 k c2])
    (r1 : Reads w w.heap.size 1 A1 l1.length (u8s l1)) (r2 : Reads w w.heap.size 1 A2 k (u8s l2)) :
    Calls Tryz.prog 16 #[.slice (some ⟨g, 0, none⟩) 2 2] w fun e w' => ∃ A c, e = .returned (.slice A (l1 ++ l2).length c) ∧ Reads w' w'.heap.size 1 A (l1 ++ l2).length (u8s (l1 ++ l2)) ∧ (l1 ++ l2).length ≤ c ∧ Below w.heap.size w w' := by
  subst hk
  exact concat_two g A1 A2 c1 c2 l1 l2 h1 h2 w hg r1 r2
set_option maxHeartbeats 1000000 in
set_option maxRecDepth 100000 in
theorem append_main {w : World} {p mb : Nat} {d : DiskM} (h : Disk w p mb d) (hf : WFD d) (hN : d.files.length < 1000000) (s : ByteArray) (hsm : s.size ≤ maxLen) (A : Option Addr) (n c : Nat) (l : List UInt8) (hl : l.length = n) (hn : n ≤ 10000000) (hnc : n ≤ c) (hr : Reads w w.heap.size 1 A n (u8s l))
    (hlo : d.lost = false) (hroom : ¬ d.room < n) (hg : Calls Tryz.prog 12 #[.pointer (some ⟨p, 0, none⟩)] w fun e w' => e = .returned (.int .i64 (if false = true then 6 else 0)) ∧ w' = w)
    (hrt : Calls Tryz.prog 13 #[.string s] w fun e w' => e = .returned (.bool true) ∧ w' = w)
    (hro : Calls Tryz.prog 14 #[.pointer (some ⟨p, 0, none⟩)] w fun e w' => e = .returned (.int .i64 (d.room : Nat)) ∧ Below w.heap.size w w') :
    Calls Tryz.prog 7 #[.pointer (some ⟨p, 0, none⟩), .string s, .slice A n c] w fun e w' =>
      e = .returned (.int .i64 (if d.fuse = 0 ∧ fget s.data.toList d.files = none ∧ (halved d l).length = 0 then (6, d.burn) else (d.burn.gone, { d.burn with files := fput s.data.toList { (fget s.data.toList d.files).getD FileM.none_ with b := ((fget s.data.toList d.files).getD FileM.none_).b ++ halved d l } d.files })).1) ∧
      Disk w' p mb (if d.fuse = 0 ∧ fget s.data.toList d.files = none ∧ (halved d l).length = 0 then (6, d.burn) else (d.burn.gone, { d.burn with files := fput s.data.toList { (fget s.data.toList d.files).getD FileM.none_ with b := ((fget s.data.toList d.files).getD FileM.none_).b ++ halved d l } d.files })).2 ∧ But p mb w w' := by
  have hf0 := hf.fuse0
  have hf1 := hf.fuse1
  have hrm := hf.room
  have hcp := hf.cap
  generalize hro' : d.room = ro at *
  obtain ⟨cap, files, fuse, lost⟩ := d
  obtain rfl : lost = false := hlo
  obtain ⟨es, hfi, h⟩ := h
  obtain rfl : files = fmap FV.m es := hfi
  have hN' : es.length < 1000000 := by simpa [fmap] using hN
  obtain ⟨fv, hv⟩ : ∃ fv, (fget s.data.toList es).getD zeroFV = fv := ⟨_, rfl⟩
  obtain ⟨has, hb⟩ : ∃ has, (fget s.data.toList es).isSome = has := ⟨_, rfl⟩
  have e1 : (fget s.data.toList (fmap FV.m es)).getD FileM.none_ = fv.m := by rw [fget_m, ← hv]; cases fget s.data.toList es <;> rfl
  have e2 : (fget s.data.toList (fmap FV.m es) = none) ↔ has = false := by rw [fget_m, ← hb]; cases fget s.data.toList es <;> simp
  have hfl : fv.m.b.length ≤ 4194304 := by
    cases hq : fget s.data.toList es with
    | none => rw [hq] at hv; subst hv; simp [zeroFV, FileM.none_]
    | some g => rw [hq] at hv; obtain rfl : g = fv := hv; have := used_get (k := s.data.toList) (f := g.m) (l := fmap FV.m es) (by rw [fget_m, hq]; rfl); simp only at hrm hcp; omega
  simp only [e1, e2]
  have Hg := Lib.hid hg
  have Hr := Lib.hid hrt
  have Hro := Lib.hid hro
  have HR := Lib.hid hr
  have H := Lib.hid h
  have HV := Lib.hid hv
  have HB := Lib.hid hb
  clear hf hrm hcp hro' hN hv hb e1 e2 hg hrt hro hr h
  simp only at hf0 hf1
  subst hl
  by_cases hz : fuse = 0
  · obtain ⟨k, hk⟩ : ∃ k, l.length / 2 = k := ⟨_, rfl⟩
    obtain ⟨lk, hlk⟩ : ∃ lk, l.take k = lk := ⟨_, rfl⟩
    have hlkl : lk.length = k := by rw [← hlk, List.length_take]; omega
    have hrk : Hid (Reads w w.heap.size 1 A k (u8s lk)) := by rw [← hlk]; exact HR.out.take (by omega)
    have HLK := Lib.hid hlkl
    have e3 : halved ⟨cap, fmap FV.m es, fuse, false⟩ l = lk := by unfold halved; rw [if_pos hz, hk, hlk]
    have hkn : k ≤ l.length := by omega
    have hki : ((l.length : Nat) : Int).tdiv 2 = (k : Nat) := by rw [← hk]; exact Int.ofNat_tdiv _ _
    rw [e3, hlkl]
    have hd : decide (fuse = 0) = true := by simp [hz]
    have HZ := Lib.hid hz
    clear e3 hlkl hlk hz
    cases has with
    | true =>
      rw [if_neg (by simp)]
      go_enter Tryz.func7, Tryz.ntmps7
      go_wp2_with fail
      refine Hg.out.mono ?_
      rintro e w1 ⟨rfl, rfl⟩
      go_wp2_with fail
      refine Hr.out.mono ?_
      rintro e w1 ⟨rfl, rfl⟩
      go_wp2_with fail
      refine Hro.out.mono ?_
      rintro e w2 ⟨rfl, hb⟩
      have h2 := H.out.below hb
      have HB2 := Lib.hid hb
      have H2 := Lib.hid h2
      have c1 := h2.c1
      have hlk := look_get h2.map s hsm fv true HV.out HB.out
      clear h2 hb
      go_wp2_with fail
      have hA0 : But p mb w1 (w2.alloc (.cells #[.slice fv.a fv.m.b.length fv.c, .int .i64 (fv.m.safe : Nat), .bool fv.m.ever] 49)) := (But.of_below HB2.out).alloc _
      have h2a := H2.out.below ((Below.refl _ _).alloc (Nat.le_refl _) (.cells #[.slice fv.a fv.m.b.length fv.c, .int .i64 (fv.m.safe : Nat), .bool fv.m.ever] 49))
      have hF := Blk.new w2 49 #[.slice fv.a fv.m.b.length fv.c, .int .i64 (fv.m.safe : Nat), .bool fv.m.ever]
      have hpg : p ≠ w2.heap.size := Nat.ne_of_lt H2.out.cells.lt
      have hmg : mb ≠ w2.heap.size := Nat.ne_of_lt H2.out.map.lt
      have Hu := Lib.hid (burns_at h2a hf0 hf1)
      have hwg : w1.heap.size ≤ w2.heap.size := HB2.out.size
      refine Hu.out.mono ?_
      rintro e w3 ⟨rfl, h3, hb3⟩
      rw [hd] at h3 ⊢
      have hF3 : Blk w3 w2.heap.size 49 #[.slice fv.a fv.m.b.length fv.c, .int .i64 (fv.m.safe : Nat), .bool fv.m.ever] := (hb3.block _ (by simp) (fun e => hpg e.symm) (fun e => hmg e.symm)).trans hF
      have hA1 := hA0.trans hb3
      generalize w2.heap.size = gf at *
      have H3 := Lib.hid h3
      have HF3 := Lib.hid hF3
      have HA1 := Lib.hid hA1
      have HPG : Hid (p ≠ gf) := hpg
      have HMG : Hid (mb ≠ gf) := hmg
      have x0 : w3.cell? ⟨gf, 0, none⟩ = some (.slice fv.a fv.m.b.length fv.c) := by rw [hF3.cell]; rfl
      have FR := HR.out
      have HR3 : Hid (Reads w3 w3.heap.size 1 A k (u8s lk)) := H.out.reads_but hA1 hrk.out
      have HV3 := Lib.hid (h3.get_reads HV.out)
      clear hF3 h3 hb3 hF h2a hA0 hA1 hlk c1 Hu hpg hmg FR
      go_wp2_with fail
      have Hcat := Lib.hid (concat_two' w3.heap.size fv.a A fv.c c fv.m.b lk k HLK.out (by omega) (by omega) (w3.alloc (.cells #[.slice fv.a fv.m.b.length fv.c, .slice A k c] 29)) (Blk.new _ _ _) ((HV3.out.1.alloc (Nat.le_refl _) _).more (by simp)) ((HR3.out.alloc (Nat.le_refl _) _).more (by simp)))
      refine Hcat.out.mono ?_
      rintro e w4 ⟨A', c', rfl, hr4, hc4, hb4⟩
      obtain ⟨nl, hnl⟩ : ∃ nl, (fv.m.b ++ lk).length = nl := ⟨_, rfl⟩
      have hnl2 : nl = fv.m.b.length + k := by rw [← hnl, List.length_append, HLK.out]
      rw [hnl] at hr4 hc4 ⊢
      have hb4' : Below w3.heap.size w3 w4 := ((Below.refl _ _).alloc (Nat.le_refl _) _).trans (hb4.mono (by simp))
      have hF4 := HF3.out.below hb4' HF3.out.lt
      have hA4 := HA1.out.below hb4'
      have h4 := H3.out.below hb4'
      have y0 : (w4.cell? ⟨gf, 0, none⟩).isSome = true := by rw [hF4.cell]; rfl
      have x0' : w4.cell? ⟨gf, 0, none⟩ = some (.slice fv.a fv.m.b.length fv.c) := by rw [hF4.cell]; rfl
      have f0 := hF4.frozen 0
      obtain ⟨w5, hw5⟩ : ∃ w5, w5 = w4.setCell ⟨gf, 0, none⟩ (.slice A' nl c') := ⟨_, rfl⟩
      have hA5 : But p mb w1 w5 := by rw [hw5]; exact hA4.setNew hwg _
      have hF5 : Blk w5 gf 49 #[.slice A' nl c', .int .i64 (fv.m.safe : Nat), .bool fv.m.ever] := by rw [hw5]; exact hF4.set_ 0 _
      have h5c : Blk w5 p 45 (dcells mb cap (if 0 < fuse then fuse - 1 else fuse) true) := by rw [hw5]; exact h4.cells.far HPG.out _
      have h5m : w5.ownsMap Tryz.prog 9 heldR mb es.length (dmap heldF es) := by rw [hw5]; exact h4.map.setCell HMG.out _
      have hr5 : Reads w5 w5.heap.size 1 A' nl (u8s (fv.m.b ++ lk)) := by
        have := reads_set hr4 (fun ad x hc => file_away hF4 hc) 0 (.slice A' nl c')
        rw [← hw5] at this
        exact this.more (by rw [hw5]; simp [World.setCell])
      have h5 := H.out.turn hA5 h5c h5m H.out.up (fun q hq => .inl hq)
      obtain ⟨w6, hrun, hm6, ht6⟩ := store_some (w := w5.drew) h5m.drew H.out.up (by unfold maxLen; omega) s hsm (fv.m.b ++ lk) fv.m.safe fv.m.ever A' c'
      rw [hnl] at hrun
      obtain ⟨h6, hA6⟩ := H.out.store hA5.drew h5c.drew s.data.toList ⟨⟨fv.m.b ++ lk, fv.m.safe, fv.m.ever⟩, A', c'⟩ hm6 ht6 ⟨by rw [hnl]; exact h5.reads_but (((But.refl _ _ _).drew).turned ht6) hr5, by rw [hnl]; exact hc4⟩
      have z0 : w5.cell? ⟨gf, 0, none⟩ = some (.slice A' nl c') := by rw [hF5.cell]; rfl
      have z1 : w5.cell? ⟨gf, 1, none⟩ = some (.int .i64 (fv.m.safe : Nat)) := by rw [hF5.cell]; rfl
      have z2 : w5.cell? ⟨gf, 2, none⟩ = some (.bool fv.m.ever) := by rw [hF5.cell]; rfl
      have z3 : w5.cell? ⟨p, 1, none⟩ = some (.map (some mb)) := h5.c1
      have Hgo := Lib.hid (gone_at p _ w6 h6.c3)
      have H6 := Lib.hid h6
      have HA6 := Lib.hid hA6
      have HW5 := Lib.hid hw5
      have HNL := Lib.hid hnl
      clear h6 hA6 hm6 ht6 h5 h5m h5c hF5 hA5 hr5 hr4 hc4 hb4 hb4' hF4 hA4 h4 y0 hw5 hnl hnl2
      go_upto_region 15 with (first | fail)
      rw [← HW5.out]
      go_region
      go_wp2_with fail
      refine Hgo.out.mono ?_
      rintro e w7 ⟨rfl, rfl⟩
      go_wp2
      go_ret
      refine ⟨?_, ⟨fput s.data.toList ⟨⟨fv.m.b ++ lk, fv.m.safe, fv.m.ever⟩, A', c'⟩ es, ?_, ?_⟩, HA6.out⟩
      · show _ = Ending.returned (.int .i64 (if (decide (fuse = 0)) = true then 6 else 0))
        rw [hd]
        rfl
      · show _ = fmap FV.m (fput _ ⟨⟨fv.m.b ++ lk, fv.m.safe, fv.m.ever⟩, A', c'⟩ es)
        rw [fput_fmap]
      · show DiskAt _ _ _ _ _ _ (decide (fuse = 0))
        rw [hd]
        exact H6.out
    | false =>
      by_cases hk0 : k = 0
      · rw [if_pos ⟨HZ.out, rfl, hk0⟩]
        have hk1 : ((k : Nat) : Int) = 0 := by omega
        go_enter Tryz.func7, Tryz.ntmps7
        go_wp2_with fail
        refine Hg.out.mono ?_
        rintro e w1 ⟨rfl, rfl⟩
        go_wp2_with fail
        refine Hr.out.mono ?_
        rintro e w1 ⟨rfl, rfl⟩
        go_wp2_with fail
        refine Hro.out.mono ?_
        rintro e w2 ⟨rfl, hb⟩
        have h2 := H.out.below hb
        have HB2 := Lib.hid hb
        have H2 := Lib.hid h2
        have c1 := h2.c1
        have hlk := look_get h2.map s hsm fv false HV.out HB.out
        clear h2 hb
        go_wp2_with fail
        have hA0 : But p mb w1 (w2.alloc (.cells #[.slice fv.a fv.m.b.length fv.c, .int .i64 (fv.m.safe : Nat), .bool fv.m.ever] 49)) := (But.of_below HB2.out).alloc _
        have h2a := H2.out.below ((Below.refl _ _).alloc (Nat.le_refl _) (.cells #[.slice fv.a fv.m.b.length fv.c, .int .i64 (fv.m.safe : Nat), .bool fv.m.ever] 49))
        have hF := Blk.new w2 49 #[.slice fv.a fv.m.b.length fv.c, .int .i64 (fv.m.safe : Nat), .bool fv.m.ever]
        have hpg : p ≠ w2.heap.size := Nat.ne_of_lt H2.out.cells.lt
        have hmg : mb ≠ w2.heap.size := Nat.ne_of_lt H2.out.map.lt
        have Hu := Lib.hid (burns_at h2a hf0 hf1)
        have hwg : w1.heap.size ≤ w2.heap.size := HB2.out.size
        refine Hu.out.mono ?_
        rintro e w3 ⟨rfl, h3, hb3⟩
        rw [hd] at h3 ⊢
        have hF3 : Blk w3 w2.heap.size 49 #[.slice fv.a fv.m.b.length fv.c, .int .i64 (fv.m.safe : Nat), .bool fv.m.ever] := (hb3.block _ (by simp) (fun e => hpg e.symm) (fun e => hmg e.symm)).trans hF
        have hA1 := hA0.trans hb3
        generalize w2.heap.size = gf at *
        have H3 := Lib.hid h3
        have HF3 := Lib.hid hF3
        have HA1 := Lib.hid hA1
        have HPG : Hid (p ≠ gf) := hpg
        have HMG : Hid (mb ≠ gf) := hmg
        have x0 : w3.cell? ⟨gf, 0, none⟩ = some (.slice fv.a fv.m.b.length fv.c) := by rw [hF3.cell]; rfl
        have FR := HR.out
        have HR3 : Hid (Reads w3 w3.heap.size 1 A k (u8s lk)) := H.out.reads_but hA1 hrk.out
        have HV3 := Lib.hid (h3.get_reads HV.out)
        clear hF3 h3 hb3 hF h2a hA0 hA1 hlk c1 Hu hpg hmg FR
        go_wp2
        go_ret
        exact ⟨rfl, ⟨es, rfl, by show DiskAt _ _ _ _ _ _ (decide (fuse = 0)); rw [hd]; exact H3.out⟩, HA1.out⟩
      · rw [if_neg (fun h => hk0 h.2.2)]
        have hk1 : (((k : Nat) : Int) == 0) = false := by simp; omega
        go_enter Tryz.func7, Tryz.ntmps7
        go_wp2_with fail
        refine Hg.out.mono ?_
        rintro e w1 ⟨rfl, rfl⟩
        go_wp2_with fail
        refine Hr.out.mono ?_
        rintro e w1 ⟨rfl, rfl⟩
        go_wp2_with fail
        refine Hro.out.mono ?_
        rintro e w2 ⟨rfl, hb⟩
        have h2 := H.out.below hb
        have HB2 := Lib.hid hb
        have H2 := Lib.hid h2
        have c1 := h2.c1
        have hlk := look_get h2.map s hsm fv false HV.out HB.out
        clear h2 hb
        go_wp2_with fail
        have hA0 : But p mb w1 (w2.alloc (.cells #[.slice fv.a fv.m.b.length fv.c, .int .i64 (fv.m.safe : Nat), .bool fv.m.ever] 49)) := (But.of_below HB2.out).alloc _
        have h2a := H2.out.below ((Below.refl _ _).alloc (Nat.le_refl _) (.cells #[.slice fv.a fv.m.b.length fv.c, .int .i64 (fv.m.safe : Nat), .bool fv.m.ever] 49))
        have hF := Blk.new w2 49 #[.slice fv.a fv.m.b.length fv.c, .int .i64 (fv.m.safe : Nat), .bool fv.m.ever]
        have hpg : p ≠ w2.heap.size := Nat.ne_of_lt H2.out.cells.lt
        have hmg : mb ≠ w2.heap.size := Nat.ne_of_lt H2.out.map.lt
        have Hu := Lib.hid (burns_at h2a hf0 hf1)
        have hwg : w1.heap.size ≤ w2.heap.size := HB2.out.size
        refine Hu.out.mono ?_
        rintro e w3 ⟨rfl, h3, hb3⟩
        rw [hd] at h3 ⊢
        have hF3 : Blk w3 w2.heap.size 49 #[.slice fv.a fv.m.b.length fv.c, .int .i64 (fv.m.safe : Nat), .bool fv.m.ever] := (hb3.block _ (by simp) (fun e => hpg e.symm) (fun e => hmg e.symm)).trans hF
        have hA1 := hA0.trans hb3
        generalize w2.heap.size = gf at *
        have H3 := Lib.hid h3
        have HF3 := Lib.hid hF3
        have HA1 := Lib.hid hA1
        have HPG : Hid (p ≠ gf) := hpg
        have HMG : Hid (mb ≠ gf) := hmg
        have x0 : w3.cell? ⟨gf, 0, none⟩ = some (.slice fv.a fv.m.b.length fv.c) := by rw [hF3.cell]; rfl
        have FR := HR.out
        have HR3 : Hid (Reads w3 w3.heap.size 1 A k (u8s lk)) := H.out.reads_but hA1 hrk.out
        have HV3 := Lib.hid (h3.get_reads HV.out)
        clear hF3 h3 hb3 hF h2a hA0 hA1 hlk c1 Hu hpg hmg FR
        go_wp2_with fail
        have Hcat := Lib.hid (concat_two' w3.heap.size fv.a A fv.c c fv.m.b lk k HLK.out (by omega) (by omega) (w3.alloc (.cells #[.slice fv.a fv.m.b.length fv.c, .slice A k c] 29)) (Blk.new _ _ _) ((HV3.out.1.alloc (Nat.le_refl _) _).more (by simp)) ((HR3.out.alloc (Nat.le_refl _) _).more (by simp)))
        refine Hcat.out.mono ?_
        rintro e w4 ⟨A', c', rfl, hr4, hc4, hb4⟩
        obtain ⟨nl, hnl⟩ : ∃ nl, (fv.m.b ++ lk).length = nl := ⟨_, rfl⟩
        have hnl2 : nl = fv.m.b.length + k := by rw [← hnl, List.length_append, HLK.out]
        rw [hnl] at hr4 hc4 ⊢
        have hb4' : Below w3.heap.size w3 w4 := ((Below.refl _ _).alloc (Nat.le_refl _) _).trans (hb4.mono (by simp))
        have hF4 := HF3.out.below hb4' HF3.out.lt
        have hA4 := HA1.out.below hb4'
        have h4 := H3.out.below hb4'
        have y0 : (w4.cell? ⟨gf, 0, none⟩).isSome = true := by rw [hF4.cell]; rfl
        have x0' : w4.cell? ⟨gf, 0, none⟩ = some (.slice fv.a fv.m.b.length fv.c) := by rw [hF4.cell]; rfl
        have f0 := hF4.frozen 0
        obtain ⟨w5, hw5⟩ : ∃ w5, w5 = w4.setCell ⟨gf, 0, none⟩ (.slice A' nl c') := ⟨_, rfl⟩
        have hA5 : But p mb w1 w5 := by rw [hw5]; exact hA4.setNew hwg _
        have hF5 : Blk w5 gf 49 #[.slice A' nl c', .int .i64 (fv.m.safe : Nat), .bool fv.m.ever] := by rw [hw5]; exact hF4.set_ 0 _
        have h5c : Blk w5 p 45 (dcells mb cap (if 0 < fuse then fuse - 1 else fuse) true) := by rw [hw5]; exact h4.cells.far HPG.out _
        have h5m : w5.ownsMap Tryz.prog 9 heldR mb es.length (dmap heldF es) := by rw [hw5]; exact h4.map.setCell HMG.out _
        have hr5 : Reads w5 w5.heap.size 1 A' nl (u8s (fv.m.b ++ lk)) := by
          have := reads_set hr4 (fun ad x hc => file_away hF4 hc) 0 (.slice A' nl c')
          rw [← hw5] at this
          exact this.more (by rw [hw5]; simp [World.setCell])
        have h5 := H.out.turn hA5 h5c h5m H.out.up (fun q hq => .inl hq)
        obtain ⟨w6, hrun, hm6, ht6⟩ := store_some (w := w5.drew) h5m.drew H.out.up (by unfold maxLen; omega) s hsm (fv.m.b ++ lk) fv.m.safe fv.m.ever A' c'
        rw [hnl] at hrun
        obtain ⟨h6, hA6⟩ := H.out.store hA5.drew h5c.drew s.data.toList ⟨⟨fv.m.b ++ lk, fv.m.safe, fv.m.ever⟩, A', c'⟩ hm6 ht6 ⟨by rw [hnl]; exact h5.reads_but (((But.refl _ _ _).drew).turned ht6) hr5, by rw [hnl]; exact hc4⟩
        have z0 : w5.cell? ⟨gf, 0, none⟩ = some (.slice A' nl c') := by rw [hF5.cell]; rfl
        have z1 : w5.cell? ⟨gf, 1, none⟩ = some (.int .i64 (fv.m.safe : Nat)) := by rw [hF5.cell]; rfl
        have z2 : w5.cell? ⟨gf, 2, none⟩ = some (.bool fv.m.ever) := by rw [hF5.cell]; rfl
        have z3 : w5.cell? ⟨p, 1, none⟩ = some (.map (some mb)) := h5.c1
        have Hgo := Lib.hid (gone_at p _ w6 h6.c3)
        have H6 := Lib.hid h6
        have HA6 := Lib.hid hA6
        have HW5 := Lib.hid hw5
        have HNL := Lib.hid hnl
        clear h6 hA6 hm6 ht6 h5 h5m h5c hF5 hA5 hr5 hr4 hc4 hb4 hb4' hF4 hA4 h4 y0 hw5 hnl hnl2
        go_upto_region 15 with (first | fail)
        rw [← HW5.out]
        go_region
        go_wp2_with fail
        refine Hgo.out.mono ?_
        rintro e w7 ⟨rfl, rfl⟩
        go_wp2
        go_ret
        refine ⟨?_, ⟨fput s.data.toList ⟨⟨fv.m.b ++ lk, fv.m.safe, fv.m.ever⟩, A', c'⟩ es, ?_, ?_⟩, HA6.out⟩
        · show _ = Ending.returned (.int .i64 (if (decide (fuse = 0)) = true then 6 else 0))
          rw [hd]
          rfl
        · show _ = fmap FV.m (fput _ ⟨⟨fv.m.b ++ lk, fv.m.safe, fv.m.ever⟩, A', c'⟩ es)
          rw [fput_fmap]
        · show DiskAt _ _ _ _ _ _ (decide (fuse = 0))
          rw [hd]
          exact H6.out
  · have e3 : halved ⟨cap, fmap FV.m es, fuse, false⟩ l = l := by unfold halved; rw [if_neg hz]
    rw [e3, if_neg (fun h => hz h.1)]
    clear e3
    have hd : decide (fuse = 0) = false := by simp [hz]
    go_enter Tryz.func7, Tryz.ntmps7
    go_wp2_with fail
    refine Hg.out.mono ?_
    rintro e w1 ⟨rfl, rfl⟩
    go_wp2_with fail
    refine Hr.out.mono ?_
    rintro e w1 ⟨rfl, rfl⟩
    go_wp2_with fail
    refine Hro.out.mono ?_
    rintro e w2 ⟨rfl, hb⟩
    have h2 := H.out.below hb
    have HB2 := Lib.hid hb
    have H2 := Lib.hid h2
    have c1 := h2.c1
    have hlk := look_get h2.map s hsm fv has HV.out HB.out
    clear h2 hb
    go_wp2_with fail
    have hA0 : But p mb w1 (w2.alloc (.cells #[.slice fv.a fv.m.b.length fv.c, .int .i64 (fv.m.safe : Nat), .bool fv.m.ever] 49)) := (But.of_below HB2.out).alloc _
    have h2a := H2.out.below ((Below.refl _ _).alloc (Nat.le_refl _) (.cells #[.slice fv.a fv.m.b.length fv.c, .int .i64 (fv.m.safe : Nat), .bool fv.m.ever] 49))
    have hF := Blk.new w2 49 #[.slice fv.a fv.m.b.length fv.c, .int .i64 (fv.m.safe : Nat), .bool fv.m.ever]
    have hpg : p ≠ w2.heap.size := Nat.ne_of_lt H2.out.cells.lt
    have hmg : mb ≠ w2.heap.size := Nat.ne_of_lt H2.out.map.lt
    have Hu := Lib.hid (burns_at h2a hf0 hf1)
    have hwg : w1.heap.size ≤ w2.heap.size := HB2.out.size
    refine Hu.out.mono ?_
    rintro e w3 ⟨rfl, h3, hb3⟩
    rw [hd] at h3 ⊢
    have hF3 : Blk w3 w2.heap.size 49 #[.slice fv.a fv.m.b.length fv.c, .int .i64 (fv.m.safe : Nat), .bool fv.m.ever] := (hb3.block _ (by simp) (fun e => hpg e.symm) (fun e => hmg e.symm)).trans hF
    have hA1 := hA0.trans hb3
    generalize w2.heap.size = gf at *
    have H3 := Lib.hid h3
    have HF3 := Lib.hid hF3
    have HA1 := Lib.hid hA1
    have HPG : Hid (p ≠ gf) := hpg
    have HMG : Hid (mb ≠ gf) := hmg
    have x0 : w3.cell? ⟨gf, 0, none⟩ = some (.slice fv.a fv.m.b.length fv.c) := by rw [hF3.cell]; rfl
    have FR := HR.out
    have HR3 : Hid (Reads w3 w3.heap.size 1 A l.length (u8s l)) := H.out.reads_but hA1 HR.out
    have HV3 := Lib.hid (h3.get_reads HV.out)
    clear hF3 h3 hb3 hF h2a hA0 hA1 hlk c1 Hu hpg hmg FR
    go_wp2_with fail
    have Hcat := Lib.hid (concat_two w3.heap.size fv.a A fv.c c fv.m.b l (by omega) (by omega) (w3.alloc (.cells #[.slice fv.a fv.m.b.length fv.c, .slice A l.length c] 29)) (Blk.new _ _ _) ((HV3.out.1.alloc (Nat.le_refl _) _).more (by simp)) ((HR3.out.alloc (Nat.le_refl _) _).more (by simp)))
    refine Hcat.out.mono ?_
    rintro e w4 ⟨A', c', rfl, hr4, hc4, hb4⟩
    obtain ⟨nl, hnl⟩ : ∃ nl, (fv.m.b ++ l).length = nl := ⟨_, rfl⟩
    have hnl2 : nl = fv.m.b.length + l.length := by rw [← hnl, List.length_append]
    rw [hnl] at hr4 hc4 ⊢
    have hb4' : Below w3.heap.size w3 w4 := ((Below.refl _ _).alloc (Nat.le_refl _) _).trans (hb4.mono (by simp))
    have hF4 := HF3.out.below hb4' HF3.out.lt
    have hA4 := HA1.out.below hb4'
    have h4 := H3.out.below hb4'
    have y0 : (w4.cell? ⟨gf, 0, none⟩).isSome = true := by rw [hF4.cell]; rfl
    have x0' : w4.cell? ⟨gf, 0, none⟩ = some (.slice fv.a fv.m.b.length fv.c) := by rw [hF4.cell]; rfl
    have f0 := hF4.frozen 0
    obtain ⟨w5, hw5⟩ : ∃ w5, w5 = w4.setCell ⟨gf, 0, none⟩ (.slice A' nl c') := ⟨_, rfl⟩
    have hA5 : But p mb w1 w5 := by rw [hw5]; exact hA4.setNew hwg _
    have hF5 : Blk w5 gf 49 #[.slice A' nl c', .int .i64 (fv.m.safe : Nat), .bool fv.m.ever] := by rw [hw5]; exact hF4.set_ 0 _
    have h5c : Blk w5 p 45 (dcells mb cap (if 0 < fuse then fuse - 1 else fuse) false) := by rw [hw5]; exact h4.cells.far HPG.out _
    have h5m : w5.ownsMap Tryz.prog 9 heldR mb es.length (dmap heldF es) := by rw [hw5]; exact h4.map.setCell HMG.out _
    have hr5 : Reads w5 w5.heap.size 1 A' nl (u8s (fv.m.b ++ l)) := by
      have := reads_set hr4 (fun ad x hc => file_away hF4 hc) 0 (.slice A' nl c')
      rw [← hw5] at this
      exact this.more (by rw [hw5]; simp [World.setCell])
    have h5 := H.out.turn hA5 h5c h5m H.out.up (fun q hq => .inl hq)
    obtain ⟨w6, hrun, hm6, ht6⟩ := store_some (w := w5.drew) h5m.drew H.out.up (by unfold maxLen; omega) s hsm (fv.m.b ++ l) fv.m.safe fv.m.ever A' c'
    rw [hnl] at hrun
    obtain ⟨h6, hA6⟩ := H.out.store hA5.drew h5c.drew s.data.toList ⟨⟨fv.m.b ++ l, fv.m.safe, fv.m.ever⟩, A', c'⟩ hm6 ht6 ⟨by rw [hnl]; exact h5.reads_but (((But.refl _ _ _).drew).turned ht6) hr5, by rw [hnl]; exact hc4⟩
    have z0 : w5.cell? ⟨gf, 0, none⟩ = some (.slice A' nl c') := by rw [hF5.cell]; rfl
    have z1 : w5.cell? ⟨gf, 1, none⟩ = some (.int .i64 (fv.m.safe : Nat)) := by rw [hF5.cell]; rfl
    have z2 : w5.cell? ⟨gf, 2, none⟩ = some (.bool fv.m.ever) := by rw [hF5.cell]; rfl
    have z3 : w5.cell? ⟨p, 1, none⟩ = some (.map (some mb)) := h5.c1
    have Hgo := Lib.hid (gone_at p _ w6 h6.c3)
    have H6 := Lib.hid h6
    have HA6 := Lib.hid hA6
    have HW5 := Lib.hid hw5
    have HNL := Lib.hid hnl
    clear h6 hA6 hm6 ht6 h5 h5m h5c hF5 hA5 hr5 hr4 hc4 hb4 hb4' hF4 hA4 h4 y0 hw5 hnl hnl2
    go_upto_region 15 with (first | fail)
    rw [← HW5.out]
    go_region
    go_wp2_with fail
    refine Hgo.out.mono ?_
    rintro e w7 ⟨rfl, rfl⟩
    go_wp2
    go_ret
    refine ⟨?_, ⟨fput s.data.toList ⟨⟨fv.m.b ++ l, fv.m.safe, fv.m.ever⟩, A', c'⟩ es, ?_, ?_⟩, HA6.out⟩
    · show _ = Ending.returned (.int .i64 (if (decide (fuse = 0)) = true then 6 else 0))
      rw [hd]
      rfl
    · show _ = fmap FV.m (fput _ ⟨⟨fv.m.b ++ l, fv.m.safe, fv.m.ever⟩, A', c'⟩ es)
      rw [fput_fmap]
    · show DiskAt _ _ _ _ _ _ (decide (fuse = 0))
      rw [hd]
      exact H6.out
set_option maxHeartbeats 1000000 in
set_option maxRecDepth 100000 in
theorem append_at {w : World} {p mb : Nat} {d : DiskM} (h : Disk w p mb d) (hf : WFD d) (hN : d.files.length < 1000000) (s : ByteArray) (hs : s.size ≤ 1000000000) (A : Option Addr) (n c : Nat) (l : List UInt8) (hl : l.length = n) (hn : n ≤ 10000000) (hnc : n ≤ c) (hr : Reads w w.heap.size 1 A n (u8s l)) :
    Calls Tryz.prog 7 #[.pointer (some ⟨p, 0, none⟩), .string s, .slice A n c] w fun e w' => e = .returned (.int .i64 (dAppend d s.data.toList l).1) ∧ Disk w' p mb (dAppend d s.data.toList l).2 ∧ But p mb w w' := by
  have hsm : s.size ≤ maxLen := by unfold maxLen; omega
  have hf0 := hf.fuse0
  have hf1 := hf.fuse1
  have Hro := Lib.hid (room_at h hf)
  have HF := Lib.hid hf
  clear hf
  unfold dAppend
  have Hgo := fun (lo : Bool) (e : d.lost = lo) => gone_at p lo w (by rw [← e]; exact h.choose_spec.2.c3)
  have HD := Lib.hid h
  have HR := Lib.hid hr
  clear h hr
  cases hlo : d.lost with
  | true =>
    have Hg := Lib.hid (Hgo true hlo)
    clear Hgo hlo
    rw [if_pos rfl]
    go_enter Tryz.func7, Tryz.ntmps7
    go_wp2_with fail
    refine Hg.out.mono ?_
    rintro e w1 ⟨rfl, rfl⟩
    go_wp2
    go_ret
    exact ⟨rfl, HD.out, But.refl _ _ _⟩
  | false =>
    have Hg := Lib.hid (Hgo false hlo)
    have Hr := Lib.hid (right_any s hs w)
    have HLO := Lib.hid hlo
    clear Hgo hlo
    rw [if_neg (by simp)]
    cases hrt : right s.data.toList with
    | false =>
      rw [hrt] at Hr
      rw [if_pos rfl]
      clear hrt
      go_enter Tryz.func7, Tryz.ntmps7
      go_wp2_with fail
      refine Hg.out.mono ?_
      rintro e w1 ⟨rfl, rfl⟩
      go_wp2_with fail
      refine Hr.out.mono ?_
      rintro e w1 ⟨rfl, rfl⟩
      go_wp2
      go_ret
      exact ⟨rfl, HD.out, But.refl _ _ _⟩
    | true =>
      rw [hrt] at Hr
      rw [if_neg (by simp)]
      clear hrt
      by_cases hroom : d.room < l.length
      · rw [if_pos hroom]
        rw [hl] at hroom
        generalize d.room = ro at *
        go_enter Tryz.func7, Tryz.ntmps7
        go_wp2_with fail
        refine Hg.out.mono ?_
        rintro e w1 ⟨rfl, rfl⟩
        go_wp2_with fail
        refine Hr.out.mono ?_
        rintro e w1 ⟨rfl, rfl⟩
        go_wp2_with fail
        refine Hro.out.mono ?_
        rintro e w2 ⟨rfl, hb⟩
        go_wp2
        go_ret
        obtain ⟨es, hes, hd⟩ := HD.out
        exact ⟨rfl, ⟨es, hes, hd.below hb⟩, But.of_below hb⟩
      · rw [if_neg hroom]
        rw [hl] at hroom
        exact append_main HD.out HF.out hN s hsm A n c l hl hn hnc HR.out HLO.out hroom Hg.out Hr.out Hro.out
end Go.Proofs.YtgjlpgijlicppaaGreatDoor
/-
  Walk of the disk's Read.
-/
namespace Go.Proofs.YtgjlpgijlicppaaGreatDoor
open Go.RowKit Go.Maps
def dRead (d : DiskM) (k : Key) : List UInt8 × Int :=
  if d.lost = true then ([], 6) else match fget k d.files with
  | none => ([], 7)
  | some f => (f.b, 0)
theorem read_nil (s : ByteArray) (w : World) : Calls Tryz.prog 9 #[.pointer none, .string s] w fun e w' => e = .returned (.tuple #[.slice none 0 0, .int .i64 1]) ∧ Below w.heap.size w w' := by
  have Hg := Lib.hid (there_nil s w)
  go_enter Tryz.func9, Tryz.ntmps9
  go_wp2_with fail
  refine Hg.out.mono ?_
  rintro e w1 ⟨rfl, hb⟩
  go_wp2
  go_ret2
  exact ⟨rfl, hb⟩
set_option maxRecDepth 100000 in
theorem read_at {w : World} {p mb : Nat} {d : DiskM} (h : Disk w p mb d) (hf : WFD d) (s : ByteArray) (hs : s.size ≤ maxLen) :
    Calls Tryz.prog 9 #[.pointer (some ⟨p, 0, none⟩), .string s] w fun e w' => ∃ A c, e = .returned (.tuple #[.slice A (dRead d s.data.toList).1.length c, .int .i64 (dRead d s.data.toList).2]) ∧ Reads w' w'.heap.size 1 A (dRead d s.data.toList).1.length (u8s (dRead d s.data.toList).1) ∧ Below w.heap.size w w' := by
  have hrm := hf.room
  have hcp := hf.cap
  clear hf
  obtain ⟨cap, files, fuse, lost⟩ := d
  obtain ⟨es, hf, h⟩ := h
  obtain rfl : files = fmap FV.m es := hf
  have Ht := Lib.hid (there_at h s hs)
  have H := Lib.hid h
  unfold dRead
  simp only [fget_m] at hrm hcp ⊢
  cases lost with
  | true =>
    rw [if_pos rfl]
    clear h
    go_enter Tryz.func9, Tryz.ntmps9
    go_wp2_with fail
    refine Ht.out.mono ?_
    rintro e w1 ⟨rfl, hb⟩
    go_wp2
    go_ret2
    exact ⟨none, 0, rfl, Reads.none_, hb⟩
  | false =>
    rw [if_neg (by simp)]
    cases hg : fget s.data.toList es with
    | none =>
      rw [hg] at Ht
      dsimp only [Option.map_none]
      clear h hg
      go_enter Tryz.func9, Tryz.ntmps9
      go_wp2_with fail
      refine Ht.out.mono ?_
      rintro e w1 ⟨rfl, hb⟩
      go_wp2
      go_ret2
      exact ⟨none, 0, rfl, Reads.none_, hb⟩
    | some f =>
      have hle : f.m.b.length ≤ 4194304 := by
        have := used_get (k := s.data.toList) (f := f.m) (l := fmap FV.m es) (by rw [fget_m, hg]; rfl)
        omega
      obtain ⟨⟨b, sf, ev⟩, A, c⟩ := f
      rw [hg] at Ht
      dsimp only [Option.map_some] at hle ⊢
      have HG := Lib.hid hg
      clear h hg
      go_enter Tryz.func9, Tryz.ntmps9
      go_wp2_with fail
      refine Ht.out.mono ?_
      rintro e w1 ⟨rfl, hb⟩
      have h1 := H.out.below hb
      have HB := Lib.hid hb
      have c1 := h1.c1
      have hl := look1_some h1.map s hs HG.out
      have hr1 := (h1.bytes _ (fget_mem HG.out)).1
      have Hc := Lib.hid (clone_any A b.length c b w1 rfl (by omega) hr1)
      have hfr := field_run A b.length c (sf : Nat) ev w1
      clear h1 hb hr1
      go_wp2_with fail
      refine Hc.out.mono ?_
      rintro e w2 ⟨A', c', rfl, hr2, _, hb2⟩
      have HB2 := Lib.hid (HB.out.trans (hb2.mono HB.out.size))
      have HR := Lib.hid hr2
      clear hr2 hb2
      go_wp2
      go_ret2
      exact ⟨A', c', rfl, HR.out, HB2.out⟩
end Go.Proofs.YtgjlpgijlicppaaGreatDoor
/-
  Walk of the disk's Rename.
-/
namespace Go.Proofs.YtgjlpgijlicppaaGreatDoor
open Go.RowKit Go.Maps
theorem rename_nil (s t : ByteArray) (w : World) : Calls Tryz.prog 21 #[.pointer none, .string s, .string t] w fun e w' => e = .returned (.int .i64 1) ∧ Below w.heap.size w w' := by
  have Hg := Lib.hid (gone_nil w)
  go_enter Tryz.func21, Tryz.ntmps21
  go_wp2_with fail
  refine Hg.out.mono ?_
  rintro e w1 ⟨rfl, rfl⟩
  go_wp2
  go_ret
  exact ⟨rfl, Below.refl _ _⟩
theorem str_ne {s t : ByteArray} (h : s.data.toList ≠ t.data.toList) : (s.toList == t.toList) = false := by
  rw [ByteArray.toList_eq, ByteArray.toList_eq]
  simpa using h
set_option maxRecDepth 100000 in
theorem rename_at {w : World} {p mb : Nat} {d : DiskM} (h : Disk w p mb d) (hf : WFD d) (hN : d.files.length < 1000000) (s t : ByteArray) (hs : s.size ≤ 1000000000) (ht : t.size ≤ 1000000000) :
    Calls Tryz.prog 21 #[.pointer (some ⟨p, 0, none⟩), .string s, .string t] w fun e w' => e = .returned (.int .i64 (dRename d s.data.toList t.data.toList).1) ∧ Disk w' p mb (dRename d s.data.toList t.data.toList).2 ∧ But p mb w w' := by
  have hsm : s.size ≤ maxLen := by unfold maxLen; omega
  have htm : t.size ≤ maxLen := by unfold maxLen; omega
  have hf0 := hf.fuse0
  have hf1 := hf.fuse1
  clear hf
  obtain ⟨cap, files, fuse, lost⟩ := d
  obtain ⟨es, hf, h⟩ := h
  obtain rfl : files = fmap FV.m es := hf
  have hN' : es.length < 1000000 := by simpa [fmap] using hN
  clear hN
  have Hg := Lib.hid (gone_at p lost w h.c3)
  have H := Lib.hid h
  unfold dRename
  simp only [fget_m] at hf0 hf1 ⊢
  cases lost with
  | true =>
    clear h
    go_enter Tryz.func21, Tryz.ntmps21
    go_wp2_with fail
    refine Hg.out.mono ?_
    rintro e w1 ⟨rfl, rfl⟩
    go_wp2
    go_ret
    exact ⟨rfl, ⟨es, rfl, H.out⟩, But.refl _ _ _⟩
  | false =>
    simp only [Bool.false_eq_true, if_false]
    have Hr := Lib.hid (right_any t ht w)
    cases hrt : right t.data.toList with
    | false =>
      rw [hrt] at Hr
      rw [if_pos (.inl rfl)]
      clear h hrt
      go_enter Tryz.func21, Tryz.ntmps21
      go_wp2_with fail
      refine Hg.out.mono ?_
      rintro e w1 ⟨rfl, rfl⟩
      go_wp2_with fail
      refine Hr.out.mono ?_
      rintro e w1 ⟨rfl, rfl⟩
      go_wp2
      go_ret
      exact ⟨rfl, ⟨es, rfl, H.out⟩, But.refl _ _ _⟩
    | true =>
      rw [hrt] at Hr
      clear hrt
      by_cases hst : s.data.toList = t.data.toList
      · have hst' : s = t := ByteArray.ext (Array.ext' hst)
        subst hst'
        rw [if_pos (.inr rfl)]
        clear h hst
        go_enter Tryz.func21, Tryz.ntmps21
        go_wp2_with fail
        refine Hg.out.mono ?_
        rintro e w1 ⟨rfl, rfl⟩
        go_wp2_with fail
        refine Hr.out.mono ?_
        rintro e w1 ⟨rfl, rfl⟩
        go_wp2
        go_ret
        exact ⟨rfl, ⟨es, rfl, H.out⟩, But.refl _ _ _⟩
      · have hne := str_ne hst
        have Hst := Lib.hid hst
        have Ht := Lib.hid (there_at h s hsm)
        have e0 : ¬ (true = false ∨ s.data.toList = t.data.toList) := by simp [hst]
        rw [if_neg e0]
        clear hst e0
        cases hg : fget s.data.toList es with
        | none =>
          rw [hg] at Ht
          dsimp only [Option.map_none]
          clear h hg
          go_enter Tryz.func21, Tryz.ntmps21
          go_wp2_with fail
          refine Hg.out.mono ?_
          rintro e w1 ⟨rfl, rfl⟩
          go_wp2_with fail
          refine Hr.out.mono ?_
          rintro e w1 ⟨rfl, rfl⟩
          go_wp2_with fail
          refine Ht.out.mono ?_
          rintro e w1 ⟨rfl, hb⟩
          go_wp2
          go_ret
          exact ⟨rfl, ⟨es, rfl, H.out.below hb⟩, But.of_below hb⟩
        | some f =>
          obtain ⟨⟨b, sf, ev⟩, A, c⟩ := f
          rw [hg] at Ht
          have HG := Lib.hid hg
          clear h hg
          have hw : (FileM.whole ⟨b, sf, ev⟩) = (ev && decide (sf = b.length)) := rfl
          simp only [Option.map_some, hw]
          generalize hbw : (ev && decide (sf = b.length)) = bw
          have Hbw := Lib.hid hbw
          clear hbw hw
          cases bw with
          | false =>
            rw [if_pos rfl]
            go_enter Tryz.func21, Tryz.ntmps21
            go_wp2_with fail
            refine Hg.out.mono ?_
            rintro e w1 ⟨rfl, rfl⟩
            go_wp2_with fail
            refine Hr.out.mono ?_
            rintro e w1 ⟨rfl, rfl⟩
            go_wp2_with fail
            refine Ht.out.mono ?_
            rintro e w1 ⟨rfl, hb⟩
            have h1 := H.out.below hb
            have H1 := Lib.hid h1
            have HB := Lib.hid (But.of_below (p := p) (m := mb) hb)
            have c1 := h1.c1
            have hl := look1_some h1.map s hsm HG.out
            have Hw := Lib.hid (whole_any A b.length c sf ev w1)
            rw [Hbw.out] at Hw
            clear h1 hb
            go_wp2_with fail
            refine Hw.out.mono ?_
            rintro e w2 ⟨rfl, hb⟩
            have H2 := Lib.hid (H1.out.below hb)
            have HB2 := Lib.hid (HB.out.below hb)
            clear hb c1 hl
            go_wp2
            go_ret
            exact ⟨rfl, ⟨es, rfl, H2.out⟩, HB2.out⟩
          | true =>
            rw [if_neg (by simp)]
            by_cases hz : fuse = 0
            · have hd : decide (fuse = 0) = true := by simp [hz]
              rw [if_pos hz]
              go_enter Tryz.func21, Tryz.ntmps21
              go_wp2_with fail
              refine Hg.out.mono ?_
              rintro e w1 ⟨rfl, rfl⟩
              go_wp2_with fail
              refine Hr.out.mono ?_
              rintro e w1 ⟨rfl, rfl⟩
              go_wp2_with fail
              refine Ht.out.mono ?_
              rintro e w1 ⟨rfl, hb⟩
              have h1 := H.out.below hb
              have H1 := Lib.hid h1
              have HB := Lib.hid (But.of_below (p := p) (m := mb) hb)
              have c1 := h1.c1
              have hl := look1_some h1.map s hsm HG.out
              have Hw := Lib.hid (whole_any A b.length c sf ev w1)
              rw [Hbw.out] at Hw
              clear h1 hb
              go_wp2_with fail
              refine Hw.out.mono ?_
              rintro e w2 ⟨rfl, hb⟩
              have H2 := Lib.hid (H1.out.below hb)
              have HB2 := Lib.hid (HB.out.below hb)
              clear hb c1 hl
              have Hu := Lib.hid (burns_at H2.out hf0 hf1)
              go_wp2_with fail
              refine Hu.out.mono ?_
              rintro e w3 ⟨rfl, h3, hb3⟩
              have H3 := Lib.hid h3
              have HB3 := Lib.hid (HB2.out.trans hb3)
              clear h3 hb3
              rw [hd] at H3 ⊢
              go_wp2
              go_ret
              subst hz
              exact ⟨rfl, ⟨es, rfl, H3.out⟩, HB3.out⟩
            · have hd : decide (fuse = 0) = false := by simp [hz]
              rw [if_neg hz]
              go_enter Tryz.func21, Tryz.ntmps21
              go_wp2_with fail
              refine Hg.out.mono ?_
              rintro e w1 ⟨rfl, rfl⟩
              go_wp2_with fail
              refine Hr.out.mono ?_
              rintro e w1 ⟨rfl, rfl⟩
              go_wp2_with fail
              refine Ht.out.mono ?_
              rintro e w1 ⟨rfl, hb⟩
              have h1 := H.out.below hb
              have H1 := Lib.hid h1
              have HB := Lib.hid (But.of_below (p := p) (m := mb) hb)
              have c1 := h1.c1
              have hl := look1_some h1.map s hsm HG.out
              have Hw := Lib.hid (whole_any A b.length c sf ev w1)
              rw [Hbw.out] at Hw
              clear h1 hb
              go_wp2_with fail
              refine Hw.out.mono ?_
              rintro e w2 ⟨rfl, hb⟩
              have H2 := Lib.hid (H1.out.below hb)
              have HB2 := Lib.hid (HB.out.below hb)
              clear hb c1 hl
              have Hu := Lib.hid (burns_at H2.out hf0 hf1)
              go_wp2_with fail
              refine Hu.out.mono ?_
              rintro e w3 ⟨rfl, h3, hb3⟩
              have H3 := Lib.hid h3
              have HB3 := Lib.hid (HB2.out.trans hb3)
              clear h3 hb3
              have c1 := H3.out.c1
              have c1' : w3.drew.cell? ⟨p, 1, none⟩ = some (.map (some mb)) := c1
              have hl := look1_some (w := w3.drew) (H3.out.map.drew) s hsm HG.out
              obtain ⟨w4, hrun, hm, htn⟩ := store_some (w := w3.drew) H3.out.map.drew H3.out.up (by unfold maxLen; omega) t htm b sf ev A c
              have hb3 : But p mb w3 w3.drew := (But.refl _ _ _).drew
              have hk := H3.out.bytes _ (fget_mem HG.out)
              obtain ⟨hst4, hbt4⟩ := H3.out.store hb3 H3.out.cells.drew t.data.toList ⟨⟨b, sf, ev⟩, A, c⟩ hm htn ⟨H3.out.reads_but (hb3.turned htn) hk.1, hk.2⟩
              obtain ⟨w5, hrun5, hm5, ht5⟩ := drop_run hst4.map s hsm 0
              obtain ⟨hd5, hb5⟩ := hst4.drop s.data.toList hm5 ht5
              have c5 := hst4.c1
              have HD := Lib.hid hd5
              have HB5 := Lib.hid ((HB3.out.trans hbt4).trans hb5)
              rw [hd] at HD ⊢
              clear hm htn hb3 hk hst4 hbt4 hm5 ht5 hd5 hb5
              go_wp2
              go_region
              go_wp2
              go_ret
              exact ⟨rfl, ⟨fdel s.data.toList (fput t.data.toList ⟨⟨b, sf, ev⟩, A, c⟩ es), by show _ = fmap FV.m (fdel _ (fput _ ⟨⟨b, sf, ev⟩, A, c⟩ es)); rw [fdel_fmap, fput_fmap], by show DiskAt _ _ _ _ _ _ (decide (fuse = 0)); rw [hd]; exact HD.out⟩, HB5.out⟩
end Go.Proofs.YtgjlpgijlicppaaGreatDoor
/-
  The library on maps.Keys and slices.Sorted, at this program (after the kit's lay-iter).
-/
namespace Go.Proofs
open Go.RowKit Go.Maps Go.Sort Go.Shelf


theorem Tryz.sorts24 (m : Nat) : AnyZ.SortsIn Tryz.prog Tryz.sorted24_ren Fence.wide m :=
  ⟨fun blk off cap ss W hH hblk hsz => callsIn_wide.2 (AnyM.slices_Sort_string Tryz.sort39 blk off cap ss W hH hblk hsz),
   fun p cap W => callsIn_wide.2 (AnyM.slices_Sort_string_none Tryz.sort39 p cap W)⟩

theorem Tryz.maps_Keys_25 (mb : Option Nat) (W : World) : CallsIn Fence.wide 5 Tryz.prog 25 #[.map mb] W fun e w' => e = .returned (.func (.func 40) #[] #[.pointer (some ⟨W.heap.size, 0, none⟩)]) ∧ w' = W.alloc (.cells #[.map mb] 43) :=
  AnyZ.keys_in Tryz.keys25 Fence.wide 5 trivial rfl mb W

set_option maxHeartbeats 1000000 in
theorem Tryz.slices_Sorted_keys_24_25 {H : Type} (b nn : Nat) (D0 : DataW H) (R : Value → Option (DataW H × List MemPlace)) (w : World) (hown : w.ownsMap Tryz.prog 9 R b nn D0) (hmax : Maps.size D0 ≤ maxLen) (hbytes : Maps.size D0 * 16 ≤ 140737488355328) :
    CallsIn Fence.wide 5 Tryz.prog 24 #[.func (.func 40) #[] #[.pointer (some ⟨w.heap.size, 0, none⟩)]] (w.alloc (.cells #[.map (some b)] 43)) fun e w' => ∃ (v : Value) (ss : List (List UInt8)), e = .returned v ∧ ss.Perm (strKeys D0) ∧
      w'.ownsRow (w.alloc (.cells #[.map (some b)] 43)).heap.size 9 1 v ss.length ((ss.mergeSort (fun x y => decide (x ≤ y))).map encStr) ∧ (v = .slice none 0 0 ↔ ss = []) ∧ Below (w.alloc (.cells #[.map (some b)] 43)).heap.size (w.alloc (.cells #[.map (some b)] 43)) w' := by
  have hbl := hown.lt
  have hseq : SeqGives Fence.wide 2 Tryz.prog 40 #[.pointer (some ⟨w.heap.size, 0, none⟩)] encStr (fun ss => ss.Perm (strKeys D0)) (Maps.size D0) (w.alloc (.cells #[.map (some b)] 43)) :=
    AnyZ.keys_gives (ρ := Tryz.keys25_ren) { Tryz.keys25 with } Fence.wide _ trivial rfl (by omega) w.heap.size b nn D0 _ (by simp) (by simp) (by
      obtain ⟨es, clock, hb, Ft, hs, hD⟩ := hown
      exact ⟨es, clock, (Below.heap_alloc _ _ b hbl).trans hb, Ft, hs, hD⟩)
  exact AnyZ.sorted_in Tryz.sorted24 Fence.wide 5 trivial trivial trivial trivial rfl (by omega) (Tryz.sorts24 _) (enters_of Tryz.func39 (by kernel_rfl) rfl) 40 #[.pointer (some ⟨w.heap.size, 0, none⟩)] trivial (enters_of Tryz.func40 (by kernel_rfl) rfl) _ _ hmax hbytes _ hseq

set_option maxHeartbeats 1000000 in
theorem Tryz.slices_Sorted_keys_nil_24_25 (w : World) :
    CallsIn Fence.wide 5 Tryz.prog 24 #[.func (.func 40) #[] #[.pointer (some ⟨w.heap.size, 0, none⟩)]] (w.alloc (.cells #[.map none] 43)) fun e w' => ∃ (v : Value) (ss : List (List UInt8)), e = .returned v ∧ ss = [] ∧
      w'.ownsRow (w.alloc (.cells #[.map none] 43)).heap.size 9 1 v ss.length ((ss.mergeSort (fun x y => decide (x ≤ y))).map encStr) ∧ (v = .slice none 0 0 ↔ ss = []) ∧ Below (w.alloc (.cells #[.map none] 43)).heap.size (w.alloc (.cells #[.map none] 43)) w' := by
  have hseq : SeqGives Fence.wide 2 Tryz.prog 40 #[.pointer (some ⟨w.heap.size, 0, none⟩)] encStr (fun ss : List (List UInt8) => ss = []) 0 (w.alloc (.cells #[.map none] 43)) :=
    AnyZ.keys_gives_nil (ρ := Tryz.keys25_ren) { Tryz.keys25 with } Fence.wide _ trivial rfl w.heap.size _ (by simp) (by simp)
  exact AnyZ.sorted_in Tryz.sorted24 Fence.wide 5 trivial trivial trivial trivial rfl (by omega) (Tryz.sorts24 _) (enters_of Tryz.func39 (by kernel_rfl) rfl) 40 #[.pointer (some ⟨w.heap.size, 0, none⟩)] trivial (enters_of Tryz.func40 (by kernel_rfl) rfl) _ 0 (Nat.zero_le _) (by omega) _ hseq



end Go.Proofs
/-
  Walk of the disk's Names.
-/
namespace Go.Proofs.YtgjlpgijlicppaaGreatDoor
open Go.RowKit Go.Maps
theorem names_nil (w : World) : Calls Tryz.prog 10 #[.pointer none] w fun e w' => e = .returned (.slice none 0 0) ∧ w' = w := by
  go_enter Tryz.func10, Tryz.ntmps10
  go_wp2
  go_ret
  exact ⟨rfl, rfl⟩
/-- a row of names -/
def keyCells {V : Type} (l : List (Key × V)) : List Value := l.map fun q => encStr q.1
theorem keyCells_fmap {V U : Type} (g : V → U) (l : List (Key × V)) : keyCells (fmap g l) = keyCells l := by simp [keyCells, fmap]
set_option maxRecDepth 100000 in
theorem names_at {w : World} {p mb : Nat} {d : DiskM} (h : Disk w p mb d) (hN : d.files.length < 1000000) :
    Calls Tryz.prog 10 #[.pointer (some ⟨p, 0, none⟩)] w fun e w' => ∃ A c, e = .returned (.slice A d.files.length c) ∧ Reads w' w'.heap.size 1 A d.files.length (keyCells d.files) ∧ Below w.heap.size w w' := by
  obtain ⟨cap, files, fuse, lost⟩ := d
  obtain ⟨es, hfi, h⟩ := h
  obtain rfl : files = fmap FV.m es := hfi
  have e1 : (fmap FV.m es).length = es.length := by simp [fmap]
  simp only [e1, keyCells_fmap] at hN ⊢
  have c1 := h.c1
  have HU := Lib.hid h.up
  have HK := Lib.hid (callsIn_wide.1 (Tryz.maps_Keys_25 (some mb) w))
  have HS := Lib.hid (callsIn_wide.1 (Tryz.slices_Sorted_keys_24_25 mb es.length (dmap heldF es) heldR w h.map (by rw [dmap_size]; unfold maxLen; omega) (by rw [dmap_size]; omega)))
  clear h
  go_enter Tryz.func10, Tryz.ntmps10
  go_wp2_with fail
  refine HK.out.mono ?_
  rintro e w1 ⟨rfl, rfl⟩
  go_wp2_with fail
  refine HS.out.mono ?_
  rintro e w2 ⟨v, ss, rfl, hp, ho, _, hb⟩
  have hb2 : Below w.heap.size w w2 := ((Below.refl _ w).alloc (Nat.le_refl _) _).trans (hb.mono (by simp))
  rw [dmap_keys] at hp
  have hlen : ss.length = es.length := by have := hp.length_eq; simpa using this
  have hs := sorted_names HU.out hp
  rw [show ss.mergeSort (fun x y => decide (x ≤ y)) = es.map (·.1) from hs, hlen, List.map_map] at ho
  obtain ⟨A, c, rfl, hr, _⟩ := own_reads ho
  have HR := Lib.hid hr
  have HB := Lib.hid hb2
  clear hb hb2 hp hs ho hr hlen
  go_wp2
  go_ret
  exact ⟨A, c, rfl, HR.out, HB.out⟩
end Go.Proofs.YtgjlpgijlicppaaGreatDoor
