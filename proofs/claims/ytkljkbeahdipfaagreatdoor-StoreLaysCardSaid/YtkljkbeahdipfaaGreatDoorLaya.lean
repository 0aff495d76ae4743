/-
  Plain words on memory, bytes and rows for the walks: no program in sight but its name in the namespace.
-/
import Derived.WalkKit
import Derived.WalkSpells
import Derived.WalkLawsBesides
import Derived.Handy
import Derived.ProofKit
import Derived.OpenShut
import Derived.Deep.Draws
import Derived.Deep.QuietTactic
import Derived.BigQuiet
import Derived.Lib.Hide
import Derived.ChangeSame
import Derived.Deep.DeepHandedRow
import Derived.Lay
import Derived.LaidMore
import Derived.LaidLaws
import Derived.Stop.Joined
import Derived.Below
import Derived.Laws.OwnMore
import Derived.Deep.AppendLies
import Derived.Deep.AppendSrc
import Derived.OwnWalk
import Derived.Deep.Cut
import Derived.Lib.QuietBelow
import Derived.Laws.BytesString
import Derived.Shelf.SlIter.Nil
import Derived.Shelf.SortM.Plain
import Derived.Shelf.SortM.SortNone
import Derived.Ground.GgzProg
import Derived.Ground.SlgmProg
import Derived.Shelf.Spec.SlicesGrow
import Derived.Ground.Names8Prog
import Derived.Shelf.SlGeneric
import Derived.Shelf.SlSortCmp.WholeK
import Derived.Shelf.SlLaysF0
import Derived.Shelf.Strings.Builder1
import Derived.Shelf.Strings.Builder2
import Derived.Shelf.Strings.OnBuilder
import Derived.Shelf.Small.Utf8
import Derived.Shelf.Small.Bits
import Derived.Shelf.Small.Wraps
import Derived.Shelf.Strings.BuilderF
import Derived.Shelf.Strings.BuilderK
import Derived.Shelf.Strings.BuilderRune
import Derived.Shelf.Utf8.RuneCount
import Derived.Shelf.Strings.Builder2Cap
import Derived.Shelf.Strconv.Atoi
import Derived.Shelf.Strconv.Itoa0
import Derived.Shelf.Strconv.Itoa1
import Derived.Shelf.LaysM
import Derived.Shelf.Strconv.Itoa2
import Derived.Shelf.Strconv.Itoa3
import Derived.Shelf.Strconv.Itoa4
import Derived.Shelf.Strconv.AtoiErrFast
import Derived.Shelf.Strconv.ParseIntEmpty
import Derived.Shelf.Strconv.AtoiFail
import Derived.Shelf.Strconv.Clone
import Derived.Shelf.Strconv.SyntaxError
import Derived.Shelf.LaysC
import Derived.Shelf.Strconv.ToError
import Derived.Shelf.Strconv.Lower
import Derived.Shelf.Strconv.ParseUint10
import Derived.Shelf.Strconv.ParseUint10Empty
import Derived.Shelf.Strconv.ParseUint10Any
import Derived.Shelf.Strconv.ParseInt10
import Derived.Shelf.Strconv.AtoiLong
import Derived.Shelf.Strconv.AtoiInnerAll
import Derived.Shelf.Strconv.RangeError
import Derived.Shelf.Strconv.ToErrorRange
import Derived.Shelf.Strconv.AtoiAll
import Derived.Shelf.Strconv.ParseUintEmpty
import Derived.Shelf.Strconv.ParseUint10b64
import Derived.Shelf.Strconv.ParseUint10b32
import Derived.Shelf.Strconv.ParseUint10b16
import Derived.Shelf.Strconv.ParseUint10b8
import Derived.Shelf.Strings.Search1
import Derived.Shelf.Strings.Search2
import Derived.Shelf.Strings.Search3
import Derived.Shelf.Strings.Count
import Derived.Shelf.Strings.Shaped
import Derived.Shelf.Sort.Plain
import Derived.Shelf.Strings.Prefix
import Derived.Shelf.Strings.Split
import Derived.Shelf.Strings.SplitShaped
import Derived.Shelf.Unicode.Latin
import Derived.Shelf.Unicode.Decode
import Derived.Shelf.Strings.RuneCount
import Derived.Shelf.Strings.Explode
import Derived.Shelf.Unicode.DecodeSlow
import Derived.Shelf.Unicode.DecodeAny
import Derived.Shelf.Unicode.CaseLookup
import Derived.Shelf.Unicode.CaseConvert
import Derived.Shelf.Unicode.CaseTo
import Derived.Shelf.Unicode.CaseLaid
import Derived.Shelf.Strings.MapAny
import Derived.Shelf.Strings.CaseAny
import Derived.Shelf.Slices.Turned
import Derived.Ground.Names2Prog
import Derived.Shelf.Slices.SearchI
import Derived.Shelf.Slices.In.SortNone
import Derived.Shelf.Bytes.SlIndexSmall
import Derived.Shelf.Bytes.SlIndexAt
import Derived.Shelf.Bytes.SlSearch0
import Derived.Shelf.Bytes.SlSearch1
import Derived.Shelf.Bytes.SlSearch2
import Derived.Shelf.Bytes.SlIndexWhole
import Derived.Ground.SlbCloneProg
import Derived.Shelf.Bytes.SlClone
import Derived.Shelf.Bytes.SlEqualAll
import Derived.Shelf.Bytes.Small
import Derived.Shelf.Bytes.IndexByte
import Derived.Test.YtkljkbeahdipfaaGreatDoorProg
import Derived.Lib.Bytes
import Derived.Test.YtkljkbeahdipfaaGreatDoorChecked
import Derived.Sort.KeysCollected
import Derived.Maps.RangeWalk
import Derived.StringKeys
import Derived.StillTailTactics
import Derived.Orders
import Derived.OrdersHeld
namespace Go.Proofs.YtkljkbeahdipfaaGreatDoor
open Go.RowKit Go.WideShapes Go.ChangeShapes

/-- block g holds just these cells, none frozen -/
def Blk (w : World) (g : Nat) (t : TypeId) (cs : Array Value) : Prop := w.heap[g]? = some (.cells cs t (0, 0))
section
variable {w w' : World} {g : Nat} {t : TypeId} {cs : Array Value}
theorem Blk.lt (h : Blk w g t cs) : g < w.heap.size := by
 rcases Nat.lt_or_ge g w.heap.size with hlt | hge
 ·exact hlt
 ·unfold Blk at h; rw [Array.getElem?_eq_none hge] at h; cases h
theorem Blk.cell (h : Blk w g t cs) (i : Nat) : w.cell? ⟨g, i, none⟩ = cs[i]? := cell_of_row w g i cs t (0, 0) h
theorem Blk.frozen (h : Blk w g t cs) (i : Nat) : w.frozen? ⟨g, i, none⟩ = false := by
 unfold Blk at h
 simp [World.frozen?, h]
theorem Blk.new (w : World) (t : TypeId) (cs : Array Value) : Blk (w.alloc (.cells cs t)) w.heap.size t cs := heap_alloc_new w _
theorem Blk.drew (h : Blk w g t cs) : Blk w.drew g t cs := h
theorem Blk.alloc (h : Blk w g t cs) (o : Obj) : Blk (w.alloc o) g t cs := (Below.heap_alloc w o g h.lt).trans h
theorem Blk.set_ (h : Blk w g t cs) (i : Nat) (u : Value) : Blk (w.setCell ⟨g, i, none⟩ u) g t (cs.setIfInBounds i u) := by
 unfold Blk at h ⊢
 simp [World.setCell, Array.getElem?_modify, h]
theorem Blk.far (h : Blk w g t cs) {p : Addr} (hp : g ≠ p.block) (u : Value) : Blk (w.setCell p u) g t cs := (Below.heap_setCell w p u g hp).trans h
theorem Blk.below {B : Nat} (h : Blk w g t cs) (hb : Below B w w') (hg : g < B) : Blk w' g t cs := (hb.block g hg).trans h
theorem Blk.grown {row : Option Nat} (h : Blk w g t cs) (hb : w.grownBy w' row) (hg : some g ≠ row) : Blk w' g t cs := (hb.block g h.lt hg).trans h
end
theorem below_drewN {B : Nat} {a w : World} (h : Below B a w) (n : Nat) : Below B a (w.drewN n) := ⟨h.os, h.tape, h.output, h.size, h.block⟩

theorem take_snoc (s : ByteArray) (k : Nat) (h : k < s.size) : s.data.toList.take (k + 1) = s.data.toList.take k ++ [s[k]] := by
 rw [List.take_succ_eq_append_getElem (by simpa using h)]; rfl
theorem ret_bool {a b : Bool} (h : a = b) : Ending.returned (.bool a) = .returned (.bool b) := by rw [h]
theorem run_make_rowN {P : Program} (t e : TypeId) (i : TypeInfo) (z : Value) (ht : P.underlying t = some (.slice e)) (hi : P.info? e = some i) (hz : i.zero = some z)
 (kl kc : IntKind) (n c : Nat) (hnc : n ≤ c) (hbytes : i.bytes * c ≤ 281474976710656) (h63 : c ≤ 9223372036854775807) (w : World) :
 (Instr.makeSlice t (.int kl (n : Int)) (.int kc (c : Int))).run P w = .ok (.slice (some ⟨w.heap.size, 0, none⟩) n c) (w.alloc (.cells (madeCells z.cells (c * i.size)) e)) := by
 have hb : (i.bytes : Int) * (c : Int) ≤ 281474976710656 := by
  have h : ((i.bytes * c : Nat) : Int) ≤ 281474976710656 := by omega
  rwa [Int.natCast_mul] at h
 have hr := run_make (P := P) w t e i z ht hi hz kl kc n c (by omega) (by omega) hb (by omega)
 simp only [Int.toNat_natCast] at hr
 exact hr

/-- the row's last step where the call made memory of its own -/
theorem post_of_below {H : Type} {enc : TypeId × Value → H} {P : Program}
 {f : Func} {s : ChangeSpec} {apart fresh handsOn again : Bool} {W W' : World} {args : Array Value} {v : Value} {ds gs : List (DataW H)} {before pa pv : List MemPlace}
 (hW : DataW.Whole enc P f.params.toList s.vars apart W args.toList ds gs before)
 (hres : ∀ (b : Nat) (sp : Nat → Bool) (hd : Bool), DataW.TrodAll enc P W' b sp hd f.resultTypes.toList (v.resultList f.resultTypes.size) (s.fn H (ds ++ gs)).results [])
 (hargs : ∀ sp : Nat → Bool, (∀ p ∈ before, sp p.block = true) → DataW.TrodAll enc P W' 0 sp true f.params.toList args.toList (s.fn H (ds ++ gs)).args pa)
 (hvars : ∀ sp : Nat → Bool, (∀ p ∈ before, sp p.block = true) → DataW.TrodVars enc P W' sp s.vars (s.fn H (ds ++ gs)).vars pv)
 (hps : before = pa ++ pv) (hb : Below W.heap.size W W')
 (hok : ∀ (j : Nat) (t : TypeId) (r : Value), f.resultTypes[j]? = some t → (v.resultList f.resultTypes.size)[j]? = some r → Value.okWide P W' .any 0 t r) :
 s.post enc P f apart fresh handsOn again W args v W' := by
 have hlt : ∀ p ∈ before, p.block < W.heap.size := fun p hp => hW.lt p hp
 have hold : ∀ p ∈ before, (fun b => decide (b < W.heap.size)) p.block = true := fun p hp => by simpa using hlt p hp
 refine ⟨ds, gs, before, [], pa, pv, hW, hres _ _ _, hargs _ hold, hvars _ hold, World.keptBut_mono (fun p hp => ⟨hp, ?_⟩) (hb.frame (· ∈ before)), fun _ => ?_⟩
 ·rw [hps, List.mem_append] at hp
  exact Or.inr hp
 ·obtain ⟨_, _, _, _, _, hz, hn⟩ := hW
  refine ⟨hok, _, _, ([] ++ pa) ++ pv, ⟨[] ++ pa, pv, trodAll_append (hargs _ (fun _ _ => rfl)) (hres _ _ _), hvars _ (fun _ _ => rfl), rfl, ?_, ?_⟩, ?_⟩
  ·intro b off hp
   have hin : MemPlace.cell b off ∈ before := by rw [hps]; simpa using hp
   rw [hb.frozen (hlt _ hin)]
   exact hz b off hin
  ·intro ha
   have := hn ha
   rw [hps] at this
   simpa using this
  ·intro p hp _
   rw [hps]
   simpa using hp
/-- there is an input that fits, at a world whose shape is given -/
theorem witness_row_shaped {H : Type} {enc : TypeId × Value → H} {C : Checked} {os : Os} {f : FuncId} {fn : Func} {s : OpenSpec} {conds : List PathCond} {apart : Bool} {laid : List (String × DataW Unit)} (modest : Bool) (w0 : World) (args : Array Value) (hos : w0.os = os)
 (hsh : (w0.forCall (fun _ _ => 0) ⟨#[], args, []⟩).Shaped C.prog)
 (hok : Input.okWideB C.prog (w0.forCall (fun _ _ => 0) ⟨#[], args, []⟩) f ⟨#[], args, []⟩ = true)
 (hrow : s.preRow enc C.prog fn conds apart laid (w0.forCall (fun _ _ => 0) ⟨#[], args, []⟩).memory args) :
 ∃ (w : World) (tape : Tape) (i : Input), w.os = os ∧ (w.forCall tape i).Shaped C.prog ∧ i.vars = [] ∧ Input.okWide C.prog (w.forCall tape i) .any w.heap.size f i ∧
   s.preRow enc C.prog fn conds apart laid (w.forCall tape i).memory i.args ∧ ({ modest := modest } : Assume).holds C.prog (lone (Frame.enter C.prog f i.args .normal) [] (w.forCall tape i)) :=
 ⟨w0, fun _ _ => 0, ⟨#[], args, []⟩, hos, hsh, (Input.okWide_of_okWideB (base := 0) hok).1, (Input.okWide_of_okWideB hok).2, hrow, by
  simp only [Assume.holds]
  exact ⟨by simp, by simp, fun _ => Modest.zero, by simp, by simp⟩⟩
end Go.Proofs.YtkljkbeahdipfaaGreatDoor
/-
  A slice that reads as a list, nil let in.
-/
namespace Go.Proofs.YtkljkbeahdipfaaGreatDoor
open Go.RowKit
theorem block_of_add (a : Addr) (n : Nat) : (a.add n).block = a.block := by unfold Addr.add; split <;> rfl
theorem add_of_add (a : Addr) (i j : Nat) : (a.add i).add j = a.add (i + j) := by
 unfold Addr.add
 by_cases hi : i = 0 <;> by_cases hj : j = 0 <;> simp [hi, hj, Nat.add_assoc]

def Reads (w : World) (B size : Nat) (A : Option Addr) (n : Nat) (xs : List Value) : Prop :=
 xs.length = n * size ∧ (0 < n → ∃ ad, A = some ad ∧ ad.block < B ∧ ∀ j u, xs[j]? = some u → w.cell? (ad.add j) = some u)

section
variable {w w' : World} {B B' size n : Nat} {A : Option Addr} {xs : List Value}
theorem Reads.none_ : Reads w B size A 0 [] := ⟨by simp, fun h => absurd h (by omega)⟩
theorem Reads.keep (h : Reads w B size A n xs) (hk : ∀ p : Addr, p.block < B → w'.cell? p = w.cell? p) : Reads w' B size A n xs :=
 ⟨h.1, fun hn => by
  obtain ⟨ad, e, hb, hc⟩ := h.2 hn
  exact ⟨ad, e, hb, fun j u hu => (hk _ (by rw [block_of_add]; exact hb)).trans (hc j u hu)⟩⟩
theorem Reads.more (h : Reads w B size A n xs) (hB : B ≤ B') : Reads w B' size A n xs :=
 ⟨h.1, fun hn => by
  obtain ⟨ad, e, hb, hc⟩ := h.2 hn
  exact ⟨ad, e, by omega, hc⟩⟩
theorem Reads.below (h : Reads w B size A n xs) (hb : Below B w w') : Reads w' B size A n xs := h.keep fun _ hp => hb.cell hp
theorem Reads.drew (h : Reads w B size A n xs) : Reads w.drew B size A n xs := h
theorem Reads.alloc (h : Reads w B size A n xs) (hB : B ≤ w.heap.size) (o : Obj) : Reads (w.alloc o) B size A n xs := h.keep fun p hp => World.cell?_alloc_lt w o p (by omega)
theorem Reads.grown (h : Reads w B size A n xs) {row : Option Nat} (hg : w.grownBy w' row) (hB : B ≤ w.heap.size) (hr : ∀ g, row = some g → B ≤ g) : Reads w' B size A n xs :=
 h.keep fun p hp => World.cell?_of_block (hg.block p.block (by omega) (fun e => by have := hr _ e.symm; omega))
theorem Reads.cut (h : Reads w B size A n xs) {k cap : Nat} (hk : k ≤ n) (hc : n ≤ cap) :
 Reads w B size (if cap = k then A else A.map (·.add (k * size))) (n - k) (xs.drop (k * size)) := by
 refine ⟨by rw [List.length_drop, h.1, Nat.sub_mul], fun hn => ?_⟩
 obtain ⟨ad, rfl, hb, hcell⟩ := h.2 (by omega)
 rw [if_neg (by omega)]
 refine ⟨ad.add (k * size), rfl, by rw [block_of_add]; exact hb, fun j u hu => ?_⟩
 rw [add_of_add]
 exact hcell _ u (by rw [← hu, List.getElem?_drop])
theorem Reads.of_own {base : Nat} {e : TypeId} {c : Nat} (h : w.ownsRow base e size (.slice A n c) n xs) : Reads w w.heap.size size A n xs := by
 refine ⟨h.1, fun hn => ?_⟩
 obtain ⟨g, cap, hv, _, hlt⟩ := h.form hn
 have hA : A = some ⟨g, 0, none⟩ := by injection hv
 subst hA
 exact ⟨_, rfl, hlt, h.cells (g := g) rfl⟩
end
end Go.Proofs.YtkljkbeahdipfaaGreatDoor
/-
  append(own, src...) at whatever slice is appended, nil let in: its run, and the law for the walk.
-/
namespace Go.Proofs.YtkljkbeahdipfaaGreatDoor
open Go.RowKit
/-- what a slice that is appended yields -/
def Gives (w : World) (size : Nat) (A : Option Addr) (m : Nat) (news : List Value) : Prop :=
 news.length = m * size ∧ (0 < m → ∃ ad, A = some ad ∧ ∀ j u, news[j]? = some u → w.cell? (ad.add j) = some u) ∧ ∀ u ∈ news, u.oneCell' = true
theorem Gives.of_reads {w : World} {B size m : Nat} {A : Option Addr} {xs : List Value} (h : Reads w B size A m xs) (h1 : ∀ u ∈ xs, u.oneCell' = true) : Gives w size A m xs :=
 ⟨h.1, fun hm => by obtain ⟨ad, e, _, hc⟩ := h.2 hm; exact ⟨ad, e, hc⟩, h1⟩
theorem setCells_nil (w : World) (b off : Nat) : w.setCells b off [] = w := by simp [World.setCells]
theorem run_append_any {P : Program} (w : World) (base : Nat) (t ty e : TypeId) (i : TypeInfo) (z : Value) (size bytes : Nat) (ht : P.underlying t = some (.slice e)) (hi : P.info? e = some i) (hz : i.zero = some z)
 (hsize : i.size = size) (hby : i.bytes = bytes) (hzs : z.cells.size = size) (hsz : 0 < size) (v : Value) (n : Nat) (xs : List Value) (hown : w.ownsRow base e size v n xs)
 (A : Option Addr) (m c : Nat) (news : List Value) (hg : Gives w size A m news) (h63 : n + m ≤ maxLen) (hbytes : (n + m) * bytes ≤ 140737488355328) (hbase : base ≤ w.heap.size) :
 ∃ v' w', (Builtin.append_ #[t, t] ty #[v, .slice A m c]).run P w = .ok v' w' ∧ w'.ownsRow base e size v' (n + m) (xs ++ news) ∧ w.grownBy w' v.ownBlock := by
 obtain ⟨hl, hnews, h1⟩ := hg
 cases A with
 | some ad =>
   have hc : ∀ j u, news[j]? = some u → w.cell? (ad.add j) = some u := by
    rcases Nat.eq_zero_or_pos m with h | h
    ·subst h
     intro j u hj
     have : news = [] := List.length_eq_zero_iff.1 (by simpa using hl)
     rw [this] at hj; cases hj
    ·obtain ⟨ad', e, hc⟩ := hnews h
     injection e with e; subst e; exact hc
   obtain ⟨v', w', hr, h2, h3, _⟩ := run_append_own (P := P) w base t ty e i z size bytes ht hi hz hsize hby hzs hsz v n xs hown ad m c news hl hc h1 h63 hbytes hbase
   exact ⟨v', w', hr, h2, h3⟩
 | none =>
   have h0 : m = 0 := by
    rcases Nat.eq_zero_or_pos m with h | h
    ·exact h
    ·obtain ⟨ad, e, _⟩ := hnews h; cases e
   subst h0
   have hn : news = [] := List.length_eq_zero_iff.1 (by simpa using hl)
   subst hn
   have hrun : (Builtin.append_ #[t, t] ty #[v, .slice none 0 c]).run P w = .ok v w := by
    rcases hown.2 with ⟨rfl, rfl⟩ | ⟨g, cap, cur, rfl, _, _, hnc, _⟩
    ·simp [Builtin.append_, run_underlying ht, sizeOf, typeInfo, hi, Builtin.lenOf, Builtin.firstCells, Result.andThen]
    ·have := run_append_room_src (P := P) w t t ty e i ht hi g 0 n cap (.slice none 0 c) 0 [] (Src.ofNil w ht c) (by omega) (fun j hj => by simp at hj) (fun j hj => by simp at hj)
     rw [setCells_nil] at this
     exact this
   exact ⟨v, w, hrun, by simpa using hown, ⟨rfl, rfl, rfl, Nat.le_refl _, fun _ _ _ => rfl⟩⟩
theorem wpList_append_any {P : Program} (w : World) {ops : Array Oper} {rest : List Oper} {o : Oper} {a : Act} {Q : Exit → Act → World → Prop} (hgd : o.guard = none) (s x : Operand) (t : TypeId)
 (ho : o.op = .call { callee := .builtin .append, args := #[s, x], argTypes := #[t, t] })
 (base : Nat) (e : TypeId) (i : TypeInfo) (z : Value) (size bytes : Nat) (ht : P.underlying t = some (.slice e)) (hi : P.info? e = some i) (hz : i.zero = some z)
 (hsize : i.size = size) (hby : i.bytes = bytes) (hzs : z.cells.size = size) (hsz : 0 < size) (v : Value) (n : Nat) (xs : List Value) (hs : a.eval s = v) (hown : w.ownsRow base e size v n xs)
 (A : Option Addr) (m c : Nat) (news : List Value) (hx : a.eval x = .slice A m c) (hg : Gives w size A m news) (h63 : n + m ≤ maxLen) (hbytes : (n + m) * bytes ≤ 140737488355328) (hbase : base ≤ w.heap.size)
 (h : ∀ v' w', w'.ownsRow base e size v' (n + m) (xs ++ news) → w.grownBy w' v.ownBlock → wpList P ops Q rest (a.put o.dst v') w') : wpList P ops Q (o :: rest) a w := by
 refine wpList_plain hgd fun K hK => ?_
 obtain ⟨v', w', hr, h2, h3⟩ := run_append_any (P := P) w base t o.type e i z size bytes ht hi hz hsize hby hzs hsz v n xs hown A m c news hg h63 hbytes hbase
 unfold Oper.wp execOp
 simp only [ho, resolve, invoke, builtin, Sem.run_bind, Sem.run_pure, Result.andThen_ok, List.map_toArray, List.map_cons, List.map_nil, hs, hx, hr]
 exact hK _ _ (h v' w' h2 h3)
end Go.Proofs.YtkljkbeahdipfaaGreatDoor
/-
  More plain words on memory: bytes turned into strings.
-/
namespace Go.Proofs.YtkljkbeahdipfaaGreatDoor
open Go.RowKit
theorem push_all : ∀ (bs : List UInt8) (acc : ByteArray), (bs.map fun b => ((b.toNat : Nat) : Int)).foldl (fun r n => r.push (UInt8.ofNat n.toNat)) acc = ⟨acc.data ++ bs.toArray⟩
 | [], acc => by simp
 | b :: bs, acc => by
   rw [List.map_cons, List.foldl_cons, push_all bs]
   simp [ByteArray.push]
/-- string(b), b a slice whose cells are known -/
theorem run_string_bytes {P : Program} (w : World) (src dst e : TypeId) (a : Addr) (bs : List UInt8) (cap : Nat)
 (hs : P.underlying src = some (.slice e)) (he : P.underlying e = some (.int .u8)) (hd : P.underlying dst = some .string)
 (hc : ∀ j b, bs[j]? = some b → w.cell? (a.add j) = some (.int .u8 ((b.toNat : Nat) : Int))) :
 (convert src dst (.slice (some a) bs.length cap)).run P w = .ok (.string ⟨bs.toArray⟩) w := by
 rw [run_convert_bytes_string w src dst e (some a) bs.length cap hs he hd]
 have hl := run_loadCells_list (P := P) w a (bs.map fun b => Value.int .u8 ((b.toNat : Nat) : Int)) (fun j v hv => by
  rw [List.getElem?_map] at hv
  cases hb : bs[j]? with
  | none => rw [hb] at hv; cases hv
  | some b => rw [hb] at hv; simp at hv; subst hv; exact hc j b hb)
 rw [List.length_map] at hl
 have := run_bytesToString (P := P) w a bs.length cap (bs.map fun b => ((b.toNat : Nat) : Int)) (by rw [List.map_map]; exact hl)
 rw [this, push_all]
 rw [show (⟨ByteArray.empty.data ++ bs.toArray⟩ : ByteArray) = ⟨bs.toArray⟩ from by congr 1; show #[] ++ bs.toArray = _; simp]
theorem u8_nat (n : Nat) (h : n < 256) : (UInt8.ofNat n).toNat = n := by simp; omega
end Go.Proofs.YtkljkbeahdipfaaGreatDoor
/-
  DERIVED: THE SHELF's CONTRACTS AT THIS DUMP, IN PLAIN WORDS (tools/lay-plain.mjs out of 'TryzShelf.lean', which tools/lay-shelf.mjs wrote): THE SAME DECLARATIONS UNDER THE SAME NAMES: 'import', 'namespace', 'open', 'def', 'theorem' AND NOTHING ELSE: no command of the shelf's: FOR A HAND-IN. Each laying: the table of numbers ('.._ren') and one theorem, a field a fact of the dump's own or the kernel's comparison; each contract: ONE APPLICATION.
-/
namespace Go.Proofs
open Go.Shelf
def Tryz.lays158_ren : Go.Shelf.Ren := ⟨fun | 158 => 190 | 165 => 230 | 166 => 231 | 167 => 232 | 169 => 233 | 230 => 234 | 203 => 235 | 240 => 272 | 241 => 273 | 197 => 274 | 118 => 275 | 168 => 276 | 270 => 277 | 262 => 278 | 276 => 313 | 277 => 314 | 260 => 315 | 242 => 316 | 313 => 317 | 278 => 333 | 274 => 334 | 275 => 335 | n => n, fun | 9 => 9 | 4 => 4 | 3 => 3 | 5 => 5 | 72 => 301 | 0 => 0 | 76 => 271 | 75 => 270 | 107 => 305 | 70 => 299 | 20 => 20 | 37 => 22 | 127 => 335 | 21 => 21 | 105 => 336 | 164 => 369 | 162 => 374 | 203 => 372 | 119 => 384 | 46 => 241 | 139 => 387 | 138 => 386 | 51 => 38 | 160 => 388 | 208 => 401 | 206 => 399 | 80 => 185 | n => n, fun | 13 => 2 | 3 => 5 | 4 => 6 | n => n⟩
theorem Tryz.lays158 : Go.Proofs.Lays.n158 Tryz.prog Tryz.lays158_ren := {
 mixed := by kernel_rfl
 f118 := Tryz.func275.trans (congrArg some (by kernel_rfl))
 f158 := Tryz.func190.trans (congrArg some (by kernel_rfl))
 f165 := Tryz.func230.trans (congrArg some (by kernel_rfl))
 f166 := Tryz.func231.trans (congrArg some (by kernel_rfl))
 f167 := Tryz.func232.trans (congrArg some (by kernel_rfl))
 f168 := Tryz.func276.trans (congrArg some (by kernel_rfl))
 f169 := Tryz.func233.trans (congrArg some (by kernel_rfl))
 f197 := Tryz.func274.trans (congrArg some (by kernel_rfl))
 f203 := Tryz.func235.trans (congrArg some (by kernel_rfl))
 f230 := Tryz.func234.trans (congrArg some (by kernel_rfl))
 f240 := Tryz.func272.trans (congrArg some (by kernel_rfl))
 f241 := Tryz.func273.trans (congrArg some (by kernel_rfl))
 f242 := Tryz.func316.trans (congrArg some (by kernel_rfl))
 f260 := Tryz.func315.trans (congrArg some (by kernel_rfl))
 f262 := Tryz.func278.trans (congrArg some (by kernel_rfl))
 f270 := Tryz.func277.trans (congrArg some (by kernel_rfl))
 f274 := Tryz.func334.trans (congrArg some (by kernel_rfl))
 f275 := Tryz.func335.trans (congrArg some (by kernel_rfl))
 f276 := Tryz.func313.trans (congrArg some (by kernel_rfl))
 f277 := Tryz.func314.trans (congrArg some (by kernel_rfl))
 f278 := Tryz.func333.trans (congrArg some (by kernel_rfl))
 f313 := Tryz.func317.trans (congrArg some (by kernel_rfl))
 t0 := Tryz.underlying0
 a0 := Tryz.isAgg0
 z0 := Tryz.sizeOf0
 v0 := Tryz.zeroValue0
 t3 := Tryz.underlying3
 a3 := Tryz.isAgg3
 z3 := Tryz.sizeOf3
 v3 := Tryz.zeroValue3
 t4 := Tryz.underlying4
 a4 := Tryz.isAgg4
 z4 := Tryz.sizeOf4
 v4 := Tryz.zeroValue4
 t5 := Tryz.underlying5
 a5 := Tryz.isAgg5
 z5 := Tryz.sizeOf5
 v5 := Tryz.zeroValue5
 t9 := Tryz.underlying9
 a9 := Tryz.isAgg9
 z9 := Tryz.sizeOf9
 v9 := Tryz.zeroValue9
 t20 := Tryz.underlying20
 a20 := Tryz.isAgg20
 z20 := Tryz.sizeOf20
 v20 := Tryz.zeroValue20
 t21 := Tryz.underlying21
 a21 := Tryz.isAgg21
 z21 := Tryz.sizeOf21
 v21 := Tryz.zeroValue21
 t37 := Tryz.underlying22
 a37 := Tryz.isAgg22
 z37 := Tryz.sizeOf22
 v37 := Tryz.zeroValue22
 t46 := Tryz.underlying241
 a46 := Tryz.isAgg241
 z46 := Tryz.sizeOf241
 v46 := Tryz.zeroValue241
 t51 := Tryz.underlying38
 a51 := Tryz.isAgg38
 z51 := Tryz.sizeOf38
 v51 := Tryz.zeroValue38
 t70 := Tryz.underlying299
 a70 := Tryz.isAgg299
 z70 := Tryz.sizeOf299
 v70 := Tryz.zeroValue299
 t72 := Tryz.underlying301
 a72 := Tryz.isAgg301
 z72 := Tryz.sizeOf301
 v72 := Tryz.zeroValue301
 t75 := Tryz.underlying270
 a75 := Tryz.isAgg270
 z75 := Tryz.sizeOf270
 v75 := Tryz.zeroValue270
 t76 := Tryz.underlying271
 a76 := Tryz.isAgg271
 z76 := Tryz.sizeOf271
 v76 := Tryz.zeroValue271
 t105 := Tryz.underlying336
 a105 := Tryz.isAgg336
 z105 := Tryz.sizeOf336
 v105 := Tryz.zeroValue336
 t107 := Tryz.underlying305
 a107 := Tryz.isAgg305
 z107 := Tryz.sizeOf305
 v107 := Tryz.zeroValue305
 t119 := Tryz.underlying384
 a119 := Tryz.isAgg384
 z119 := Tryz.sizeOf384
 t127 := Tryz.underlying335
 a127 := Tryz.isAgg335
 z127 := Tryz.sizeOf335
 v127 := Tryz.zeroValue335
 t138 := Tryz.underlying386
 a138 := Tryz.isAgg386
 z138 := Tryz.sizeOf386
 v138 := Tryz.zeroValue386
 t139 := Tryz.underlying387
 a139 := Tryz.isAgg387
 z139 := Tryz.sizeOf387
 v139 := Tryz.zeroValue387
 t160 := Tryz.underlying388
 a160 := Tryz.isAgg388
 z160 := Tryz.sizeOf388
 v160 := Tryz.zeroValue388
 t162 := Tryz.underlying374
 a162 := Tryz.isAgg374
 z162 := Tryz.sizeOf374
 v162 := Tryz.zeroValue374
 t164 := Tryz.underlying369
 a164 := Tryz.isAgg369
 z164 := Tryz.sizeOf369
 v164 := Tryz.zeroValue369
 t203 := Tryz.underlying372
 a203 := Tryz.isAgg372
 z203 := Tryz.sizeOf372
 v203 := Tryz.zeroValue372
 t206 := Tryz.underlying399
 a206 := Tryz.isAgg399
 z206 := Tryz.sizeOf399
 v206 := Tryz.zeroValue399
 t208 := Tryz.underlying401
 a208 := Tryz.isAgg401
 z208 := Tryz.sizeOf401
 v208 := Tryz.zeroValue401
 g3 := by kernel_rfl
 g4 := by kernel_rfl
 g13 := by kernel_rfl }
theorem Tryz.Builder_Extra_158 : Builder.Extra Tryz.prog Tryz.lays158_ren := {
 sizeBuilder := by kernel_rfl
 liesBuilder := by kernel_rfl
 t5 := Tryz.underlying5
 a5 := Tryz.isAgg5
 z5 := Tryz.sizeOf5
 v5 := Tryz.zeroValue5
 infoByte := by kernel_rfl
 cellsByte := by kernel_rfl
 sizeByte := by kernel_rfl
 neB5 := by decide }
open Go.RowKit in
/-- strings.ToUpper: "ToUpper returns s with all Unicode letters mapped to their upper case.": ON ASCII TEXT OF AT MOST 2^47 BYTES. Below the heap's end the world is as it was: where a letter turns, the call makes a builder and its buffer. (LAID: no walk: one application.) -/
theorem Tryz.strings_ToUpper_ascii (s : ByteArray) (w : World) (hs : s.size ≤ 140737488355328) (hascii : ∀ (j : Nat) (b : UInt8), s.data.toList[j]? = some b → b.toNat < 128) :
 Calls Tryz.prog 190 #[.string s] w fun e w' => e = .returned (.string ⟨(Lib.toUpperA s.data.toList).toArray⟩) ∧ Below w.heap.size w w' := Any.strings_ToUpper_ascii Tryz.lays158 Tryz.Builder_Extra_158 s w hs hascii
def Tryz.lays103_ren : Go.Shelf.Ren := ⟨fun | 103 => 195 | 210 => 241 | 206 => 279 | n => n, fun | 9 => 9 | 4 => 4 | 24 => 217 | 3 => 3 | n => n, fun | n => n⟩
theorem Tryz.lays103 : Go.Proofs.Lays.n103 Tryz.prog Tryz.lays103_ren := {
 mixed := by kernel_rfl
 f103 := Tryz.func195.trans (congrArg some (by kernel_rfl))
 f206 := Tryz.func279.trans (congrArg some (by kernel_rfl))
 f210 := Tryz.func241.trans (congrArg some (by kernel_rfl))
 t3 := Tryz.underlying3
 a3 := Tryz.isAgg3
 z3 := Tryz.sizeOf3
 v3 := Tryz.zeroValue3
 t4 := Tryz.underlying4
 a4 := Tryz.isAgg4
 z4 := Tryz.sizeOf4
 v4 := Tryz.zeroValue4
 t9 := Tryz.underlying9
 a9 := Tryz.isAgg9
 z9 := Tryz.sizeOf9
 v9 := Tryz.zeroValue9
 t24 := Tryz.underlying217
 a24 := Tryz.isAgg217
 z24 := Tryz.sizeOf217
 v24 := Tryz.zeroValue217 }
open Go.RowKit in
/-- strings.CutPrefix: "CutPrefix returns s without the provided leading prefix string and reports whether it found the prefix. If s doesn't start with prefix, CutPrefix returns s, false. If prefix is the empty string, CutPrefix returns s, true.": IT RETURNS '(Lib.trimPrefix s p, Lib.hasPrefix s p)'; the world is as it was. (LAID: no walk: one application.) -/
theorem Tryz.strings_CutPrefix (s p : ByteArray) (w : World) :
 Calls Tryz.prog 195 #[.string s, .string p] w fun e w' => e = .returned (.tuple #[.string ⟨(Lib.trimPrefix s.data.toList p.data.toList).toArray⟩, .bool (Lib.hasPrefix s.data.toList p.data.toList)]) ∧ w' = w := Any.strings_CutPrefix Tryz.lays103 s p w
def Tryz.laysM171_ren : Go.Shelf.Ren := ⟨fun | 171 => 106 | 243 => 167 | 246 => 225 | 283 => 261 | 284 => 262 | 285 => 263 | 286 => 264 | 129 => 224 | 317 => 304 | 318 => 305 | 319 => 306 | 320 => 307 | 337 => 328 | 338 => 329 | n => n, fun | 3 => 3 | 9 => 9 | 2 => 2 | 4 => 4 | 171 => 327 | 0 => 0 | 53 => 175 | 37 => 22 | 5 => 5 | 173 => 329 | 212 => 363 | 51 => 38 | 20 => 20 | 213 => 364 | 46 => 241 | 232 => 180 | 233 => 396 | n => n, fun | 17 => 1 | 18 => 7 | 19 => 8 | n => n⟩
def Tryz.lays171_ren : Go.Shelf.Ren := ⟨fun | 171 => 106 | 243 => 167 | 246 => 225 | 283 => 261 | 284 => 262 | 285 => 263 | 286 => 264 | 129 => 224 | 317 => 304 | 318 => 305 | 319 => 306 | 320 => 307 | 337 => 328 | 338 => 329 | n => n, fun | 3 => 3 | 9 => 9 | 2 => 2 | 4 => 4 | 171 => 327 | 0 => 0 | 53 => 175 | 37 => 22 | 5 => 5 | 173 => 329 | 212 => 363 | 51 => 38 | 20 => 20 | 213 => 364 | 46 => 241 | 232 => 180 | 233 => 396 | n => n, fun | 17 => 1 | 18 => 7 | 19 => 8 | n => n⟩
theorem Tryz.lays171 : Go.Proofs.Lays.n171 Tryz.prog Tryz.lays171_ren := {
 mixed := by kernel_rfl
 f129 := Tryz.func224.trans (congrArg some (by kernel_rfl))
 f171 := Tryz.func106.trans (congrArg some (by kernel_rfl))
 f243 := Tryz.func167.trans (congrArg some (by kernel_rfl))
 f246 := Tryz.func225.trans (congrArg some (by kernel_rfl))
 f283 := Tryz.func261.trans (congrArg some (by kernel_rfl))
 f284 := Tryz.func262.trans (congrArg some (by kernel_rfl))
 f285 := Tryz.func263.trans (congrArg some (by kernel_rfl))
 f286 := Tryz.func264.trans (congrArg some (by kernel_rfl))
 f317 := Tryz.func304.trans (congrArg some (by kernel_rfl))
 f318 := Tryz.func305.trans (congrArg some (by kernel_rfl))
 f319 := Tryz.func306.trans (congrArg some (by kernel_rfl))
 f320 := Tryz.func307.trans (congrArg some (by kernel_rfl))
 f337 := Tryz.func328.trans (congrArg some (by kernel_rfl))
 f338 := Tryz.func329.trans (congrArg some (by kernel_rfl))
 t0 := Tryz.underlying0
 a0 := Tryz.isAgg0
 z0 := Tryz.sizeOf0
 v0 := Tryz.zeroValue0
 t2 := Tryz.underlying2
 a2 := Tryz.isAgg2
 z2 := Tryz.sizeOf2
 v2 := Tryz.zeroValue2
 t3 := Tryz.underlying3
 a3 := Tryz.isAgg3
 z3 := Tryz.sizeOf3
 v3 := Tryz.zeroValue3
 t4 := Tryz.underlying4
 a4 := Tryz.isAgg4
 z4 := Tryz.sizeOf4
 v4 := Tryz.zeroValue4
 t5 := Tryz.underlying5
 a5 := Tryz.isAgg5
 z5 := Tryz.sizeOf5
 v5 := Tryz.zeroValue5
 t9 := Tryz.underlying9
 a9 := Tryz.isAgg9
 z9 := Tryz.sizeOf9
 v9 := Tryz.zeroValue9
 t20 := Tryz.underlying20
 a20 := Tryz.isAgg20
 z20 := Tryz.sizeOf20
 v20 := Tryz.zeroValue20
 t37 := Tryz.underlying22
 a37 := Tryz.isAgg22
 z37 := Tryz.sizeOf22
 v37 := Tryz.zeroValue22
 t46 := Tryz.underlying241
 a46 := Tryz.isAgg241
 z46 := Tryz.sizeOf241
 v46 := Tryz.zeroValue241
 t51 := Tryz.underlying38
 a51 := Tryz.isAgg38
 z51 := Tryz.sizeOf38
 v51 := Tryz.zeroValue38
 t53 := Tryz.underlying175
 a53 := Tryz.isAgg175
 z53 := Tryz.sizeOf175
 v53 := Tryz.zeroValue175
 t171 := Tryz.underlying327
 a171 := Tryz.isAgg327
 z171 := Tryz.sizeOf327
 v171 := Tryz.zeroValue327
 t173 := Tryz.underlying329
 a173 := Tryz.isAgg329
 z173 := Tryz.sizeOf329
 v173 := Tryz.zeroValue329
 t212 := Tryz.underlying363
 a212 := Tryz.isAgg363
 z212 := Tryz.sizeOf363
 v212 := Tryz.zeroValue363
 t213 := Tryz.underlying364
 a213 := Tryz.isAgg364
 z213 := Tryz.sizeOf364
 t232 := Tryz.underlying180
 a232 := Tryz.isAgg180
 z232 := Tryz.sizeOf180
 v232 := Tryz.zeroValue180
 t233 := Tryz.underlying396
 a233 := Tryz.isAgg396
 z233 := Tryz.sizeOf396
 v233 := Tryz.zeroValue396
 g17 := by kernel_rfl
 g18 := by kernel_rfl
 g19 := by kernel_rfl }
open Go.RowKit Go.Sort Go.Lib in
/-- THE ROAD WITHOUT THE TABLE: 0 <= i < 100: NO PREMISE ON THE WORLD, AND THE WORLD IS AS IT WAS: a row that keeps its argument in that range need list no table ('laid = []'). (LAID: no walk: one application.) -/
theorem Tryz.strconv_Itoa_small (i : Nat) (hi : i < 100) (w : World) :
 Calls Tryz.prog 106 #[.int .i64 i] w fun e w' => e = .returned (.string ⟨(Lib.decDigits i).toArray⟩) ∧ w' = w := Any.strconv_Itoa_small Tryz.lays171 i hi w
def Tryz.laysM173_ren : Go.Shelf.Ren := ⟨fun | 173 => 239 | 246 => 225 | 283 => 261 | 284 => 262 | 285 => 263 | 286 => 264 | 129 => 224 | 317 => 304 | 318 => 305 | 319 => 306 | 320 => 307 | 337 => 328 | 338 => 329 | n => n, fun | 2 => 2 | 3 => 3 | 9 => 9 | 4 => 4 | 171 => 327 | 0 => 0 | 53 => 175 | 37 => 22 | 5 => 5 | 173 => 329 | 212 => 363 | 51 => 38 | 20 => 20 | 213 => 364 | 46 => 241 | 232 => 180 | 233 => 396 | n => n, fun | 17 => 1 | 18 => 7 | 19 => 8 | n => n⟩
theorem Tryz.laysM173 : Go.Proofs.LaysM.n173 Tryz.prog Tryz.laysM173_ren := {
 mixed := by kernel_rfl
 f129 := Tryz.func224.trans (congrArg some (by kernel_rfl))
 f173 := Tryz.func239.trans (congrArg some (by kernel_rfl))
 f246 := Tryz.func225.trans (congrArg some (by kernel_rfl))
 f283 := Tryz.func261.trans (congrArg some (by kernel_rfl))
 f284 := Tryz.func262.trans (congrArg some (by kernel_rfl))
 f285 := Tryz.func263.trans (congrArg some (by kernel_rfl))
 f286 := Tryz.func264.trans (congrArg some (by kernel_rfl))
 f317 := Tryz.func304.trans (congrArg some (by kernel_rfl))
 f318 := Tryz.func305.trans (congrArg some (by kernel_rfl))
 f319 := Tryz.func306.trans (congrArg some (by kernel_rfl))
 f320 := Tryz.func307.trans (congrArg some (by kernel_rfl))
 f337 := Tryz.func328.trans (congrArg some (by kernel_rfl))
 f338 := Tryz.func329.trans (congrArg some (by kernel_rfl))
 t0 := Tryz.underlying0
 a0 := Tryz.isAgg0
 z0 := Tryz.sizeOf0
 v0 := Tryz.zeroValue0
 t2 := Tryz.underlying2
 a2 := Tryz.isAgg2
 z2 := Tryz.sizeOf2
 v2 := Tryz.zeroValue2
 t3 := Tryz.underlying3
 a3 := Tryz.isAgg3
 z3 := Tryz.sizeOf3
 v3 := Tryz.zeroValue3
 t4 := Tryz.underlying4
 a4 := Tryz.isAgg4
 z4 := Tryz.sizeOf4
 v4 := Tryz.zeroValue4
 t5 := Tryz.underlying5
 a5 := Tryz.isAgg5
 z5 := Tryz.sizeOf5
 v5 := Tryz.zeroValue5
 t9 := Tryz.underlying9
 a9 := Tryz.isAgg9
 z9 := Tryz.sizeOf9
 v9 := Tryz.zeroValue9
 t20 := Tryz.underlying20
 a20 := Tryz.isAgg20
 z20 := Tryz.sizeOf20
 v20 := Tryz.zeroValue20
 t37 := Tryz.underlying22
 a37 := Tryz.isAgg22
 z37 := Tryz.sizeOf22
 v37 := Tryz.zeroValue22
 t46 := Tryz.underlying241
 a46 := Tryz.isAgg241
 z46 := Tryz.sizeOf241
 v46 := Tryz.zeroValue241
 t51 := Tryz.underlying38
 a51 := Tryz.isAgg38
 z51 := Tryz.sizeOf38
 v51 := Tryz.zeroValue38
 t53 := Tryz.underlying175
 a53 := Tryz.isAgg175
 z53 := Tryz.sizeOf175
 v53 := Tryz.zeroValue175
 t171 := Tryz.underlying327
 a171 := Tryz.isAgg327
 z171 := Tryz.sizeOf327
 v171 := Tryz.zeroValue327
 t173 := Tryz.underlying329
 a173 := Tryz.isAgg329
 z173 := Tryz.sizeOf329
 v173 := Tryz.zeroValue329
 t212 := Tryz.underlying363
 a212 := Tryz.isAgg363
 z212 := Tryz.sizeOf363
 v212 := Tryz.zeroValue363
 t213 := Tryz.underlying364
 a213 := Tryz.isAgg364
 z213 := Tryz.sizeOf364
 t232 := Tryz.underlying180
 a232 := Tryz.isAgg180
 z232 := Tryz.sizeOf180
 v232 := Tryz.zeroValue180
 t233 := Tryz.underlying396
 a233 := Tryz.isAgg396
 z233 := Tryz.sizeOf396
 v233 := Tryz.zeroValue396
 g17 := by kernel_rfl
 g18 := by kernel_rfl
 g19 := by kernel_rfl
 i0 := by kernel_rfl
 i2 := by kernel_rfl
 i3 := by kernel_rfl
 i4 := by kernel_rfl
 i5 := by kernel_rfl
 i9 := by kernel_rfl
 i20 := by kernel_rfl
 i37 := by kernel_rfl
 i46 := by kernel_rfl
 i51 := by kernel_rfl
 i53 := by kernel_rfl
 i171 := by kernel_rfl
 i173 := by kernel_rfl
 i212 := by kernel_rfl
 i232 := by kernel_rfl
 i233 := by kernel_rfl
 m17 := by kernel_rfl
 m18 := by kernel_rfl
 m19 := by kernel_rfl }
open Go.RowKit Go.Sort Go.Lib in
/-- strconv.FormatInt: "FormatInt returns the string representation of i in the given base": AT BASE 10: i's decimal numeral, for every int64. (LAID: no walk: one application.) -/
theorem Tryz.strconv_FormatInt_10 (n : Int) (h0 : -9223372036854775808 ≤ n) (h1 : n ≤ 9223372036854775807) (w : World) (htab : Lib.TabIs Tryz.prog w "internal/strconv.uint64pow10" .u64 Lib.pow10Tab) :
 Calls Tryz.prog 239 #[.int .i64 n, .int .i64 10] w fun e w' => e = .returned (.string ⟨(Lib.itoa n).toArray⟩) ∧ ∃ k os, w' = grow (w.drewN k) os := Any.strconv_FormatInt_10 Tryz.laysM173 n h0 h1 w htab
def Tryz.laysC172_ren : Go.Shelf.Ren := ⟨fun | 172 => 196 | 244 => 242 | 245 => 243 | 247 => 280 | 279 => 281 | 280 => 282 | 281 => 283 | 282 => 284 | 287 => 318 | 316 => 319 | 171 => 106 | 205 => 320 | 321 => 336 | 322 => 337 | 243 => 167 | 246 => 225 | 283 => 261 | 284 => 262 | 285 => 263 | 286 => 264 | 129 => 224 | 317 => 304 | 318 => 305 | 319 => 306 | 320 => 307 | 337 => 328 | 338 => 329 | n => n, fun | 9 => 9 | 3 => 3 | 75 => 270 | 76 => 271 | 4 => 4 | 5 => 5 | 167 => 341 | 37 => 22 | 0 => 0 | 85 => 342 | 2 => 2 | 168 => 344 | 53 => 175 | 175 => 375 | 46 => 241 | 210 => 378 | 127 => 335 | 145 => 393 | 143 => 391 | 21 => 21 | 171 => 327 | 173 => 329 | 212 => 363 | 51 => 38 | 20 => 20 | 213 => 364 | 232 => 180 | 233 => 396 | 80 => 185 | n => n, fun | 15 => 3 | 16 => 4 | 17 => 1 | 18 => 7 | 19 => 8 | n => n⟩
theorem Tryz.laysC172 : Go.Proofs.LaysC.n172 Tryz.prog Tryz.laysC172_ren := {
 mixed := by kernel_rfl
 f129 := Tryz.func224.trans (congrArg some (by kernel_rfl))
 f171 := Tryz.func106.trans (congrArg some (by kernel_rfl))
 f172 := Tryz.func196.trans (congrArg some (by kernel_rfl))
 f205 := Tryz.func320.trans (congrArg some (by kernel_rfl))
 f243 := Tryz.func167.trans (congrArg some (by kernel_rfl))
 f244 := Tryz.func242.trans (congrArg some (by kernel_rfl))
 f245 := Tryz.func243.trans (congrArg some (by kernel_rfl))
 f246 := Tryz.func225.trans (congrArg some (by kernel_rfl))
 f247 := Tryz.func280.trans (congrArg some (by kernel_rfl))
 f279 := Tryz.func281.trans (congrArg some (by kernel_rfl))
 f280 := Tryz.func282.trans (congrArg some (by kernel_rfl))
 f281 := Tryz.func283.trans (congrArg some (by kernel_rfl))
 f282 := Tryz.func284.trans (congrArg some (by kernel_rfl))
 f283 := Tryz.func261.trans (congrArg some (by kernel_rfl))
 f284 := Tryz.func262.trans (congrArg some (by kernel_rfl))
 f285 := Tryz.func263.trans (congrArg some (by kernel_rfl))
 f286 := Tryz.func264.trans (congrArg some (by kernel_rfl))
 f287 := Tryz.func318.trans (congrArg some (by kernel_rfl))
 f316 := Tryz.func319.trans (congrArg some (by kernel_rfl))
 f317 := Tryz.func304.trans (congrArg some (by kernel_rfl))
 f318 := Tryz.func305.trans (congrArg some (by kernel_rfl))
 f319 := Tryz.func306.trans (congrArg some (by kernel_rfl))
 f320 := Tryz.func307.trans (congrArg some (by kernel_rfl))
 f321 := Tryz.func336.trans (congrArg some (by kernel_rfl))
 f322 := Tryz.func337.trans (congrArg some (by kernel_rfl))
 f337 := Tryz.func328.trans (congrArg some (by kernel_rfl))
 f338 := Tryz.func329.trans (congrArg some (by kernel_rfl))
 t0 := Tryz.underlying0
 a0 := Tryz.isAgg0
 z0 := Tryz.sizeOf0
 v0 := Tryz.zeroValue0
 t2 := Tryz.underlying2
 a2 := Tryz.isAgg2
 z2 := Tryz.sizeOf2
 v2 := Tryz.zeroValue2
 t3 := Tryz.underlying3
 a3 := Tryz.isAgg3
 z3 := Tryz.sizeOf3
 v3 := Tryz.zeroValue3
 t4 := Tryz.underlying4
 a4 := Tryz.isAgg4
 z4 := Tryz.sizeOf4
 v4 := Tryz.zeroValue4
 t5 := Tryz.underlying5
 a5 := Tryz.isAgg5
 z5 := Tryz.sizeOf5
 v5 := Tryz.zeroValue5
 t9 := Tryz.underlying9
 a9 := Tryz.isAgg9
 z9 := Tryz.sizeOf9
 v9 := Tryz.zeroValue9
 t20 := Tryz.underlying20
 a20 := Tryz.isAgg20
 z20 := Tryz.sizeOf20
 v20 := Tryz.zeroValue20
 t21 := Tryz.underlying21
 a21 := Tryz.isAgg21
 z21 := Tryz.sizeOf21
 v21 := Tryz.zeroValue21
 t37 := Tryz.underlying22
 a37 := Tryz.isAgg22
 z37 := Tryz.sizeOf22
 v37 := Tryz.zeroValue22
 t46 := Tryz.underlying241
 a46 := Tryz.isAgg241
 z46 := Tryz.sizeOf241
 v46 := Tryz.zeroValue241
 t51 := Tryz.underlying38
 a51 := Tryz.isAgg38
 z51 := Tryz.sizeOf38
 v51 := Tryz.zeroValue38
 t53 := Tryz.underlying175
 a53 := Tryz.isAgg175
 z53 := Tryz.sizeOf175
 v53 := Tryz.zeroValue175
 t75 := Tryz.underlying270
 a75 := Tryz.isAgg270
 z75 := Tryz.sizeOf270
 v75 := Tryz.zeroValue270
 t76 := Tryz.underlying271
 a76 := Tryz.isAgg271
 z76 := Tryz.sizeOf271
 v76 := Tryz.zeroValue271
 t85 := Tryz.underlying342
 a85 := Tryz.isAgg342
 z85 := Tryz.sizeOf342
 v85 := Tryz.zeroValue342
 t127 := Tryz.underlying335
 a127 := Tryz.isAgg335
 z127 := Tryz.sizeOf335
 v127 := Tryz.zeroValue335
 t143 := Tryz.underlying391
 a143 := Tryz.isAgg391
 z143 := Tryz.sizeOf391
 v143 := Tryz.zeroValue391
 t145 := Tryz.underlying393
 a145 := Tryz.isAgg393
 z145 := Tryz.sizeOf393
 v145 := Tryz.zeroValue393
 t167 := Tryz.underlying341
 a167 := Tryz.isAgg341
 z167 := Tryz.sizeOf341
 v167 := Tryz.zeroValue341
 t168 := Tryz.underlying344
 a168 := Tryz.isAgg344
 z168 := Tryz.sizeOf344
 v168 := Tryz.zeroValue344
 t171 := Tryz.underlying327
 a171 := Tryz.isAgg327
 z171 := Tryz.sizeOf327
 v171 := Tryz.zeroValue327
 t173 := Tryz.underlying329
 a173 := Tryz.isAgg329
 z173 := Tryz.sizeOf329
 v173 := Tryz.zeroValue329
 t175 := Tryz.underlying375
 a175 := Tryz.isAgg375
 z175 := Tryz.sizeOf375
 v175 := Tryz.zeroValue375
 t210 := Tryz.underlying378
 a210 := Tryz.isAgg378
 z210 := Tryz.sizeOf378
 v210 := Tryz.zeroValue378
 t212 := Tryz.underlying363
 a212 := Tryz.isAgg363
 z212 := Tryz.sizeOf363
 v212 := Tryz.zeroValue363
 t213 := Tryz.underlying364
 a213 := Tryz.isAgg364
 z213 := Tryz.sizeOf364
 t232 := Tryz.underlying180
 a232 := Tryz.isAgg180
 z232 := Tryz.sizeOf180
 v232 := Tryz.zeroValue180
 t233 := Tryz.underlying396
 a233 := Tryz.isAgg396
 z233 := Tryz.sizeOf396
 v233 := Tryz.zeroValue396
 g15 := by kernel_rfl
 g16 := by kernel_rfl
 g17 := by kernel_rfl
 g18 := by kernel_rfl
 g19 := by kernel_rfl
 t80 := Tryz.underlying185
 a80 := Tryz.isAgg185
 z80 := Tryz.sizeOf185
 v80 := Tryz.zeroValue185
 i0 := by kernel_rfl
 i2 := by kernel_rfl
 i3 := by kernel_rfl
 i4 := by kernel_rfl
 i5 := by kernel_rfl
 i9 := by kernel_rfl
 i20 := by kernel_rfl
 i21 := by kernel_rfl
 i37 := by kernel_rfl
 i46 := by kernel_rfl
 i51 := by kernel_rfl
 i53 := by kernel_rfl
 i75 := by kernel_rfl
 i76 := by kernel_rfl
 i80 := by kernel_rfl
 i85 := by kernel_rfl
 i127 := by kernel_rfl
 i143 := by kernel_rfl
 i145 := by kernel_rfl
 i167 := by kernel_rfl
 i168 := by kernel_rfl
 i171 := by kernel_rfl
 i173 := by kernel_rfl
 i175 := by kernel_rfl
 i210 := by kernel_rfl
 i212 := by kernel_rfl
 i232 := by kernel_rfl
 i233 := by kernel_rfl
 m15 := by kernel_rfl
 m16 := by kernel_rfl
 m17 := by kernel_rfl
 m18 := by kernel_rfl
 m19 := by kernel_rfl
 c0 := by kernel_rfl
 c2 := by kernel_rfl
 c3 := by kernel_rfl
 c4 := by kernel_rfl
 c5 := by kernel_rfl
 c9 := by kernel_rfl
 c20 := by kernel_rfl
 c21 := by kernel_rfl
 c37 := by kernel_rfl
 c46 := by kernel_rfl
 c51 := by kernel_rfl
 c53 := by kernel_rfl
 c75 := by kernel_rfl
 c76 := by kernel_rfl
 c80 := by kernel_rfl
 c85 := by kernel_rfl
 c127 := by kernel_rfl
 c143 := by kernel_rfl
 c145 := by kernel_rfl
 c167 := by kernel_rfl
 c168 := by kernel_rfl
 c171 := by kernel_rfl
 c173 := by kernel_rfl
 c175 := by kernel_rfl
 c210 := by kernel_rfl
 c212 := by kernel_rfl
 c213 := by kernel_rfl
 c232 := by kernel_rfl
 c233 := by kernel_rfl }
open Go.RowKit in
/-- strconv.Atoi, AT EVERY STRING THAT SPELLS AN int ('Lib.atoiAll .. = .ok v'; of whatever length: leading zeros count): v, AND NO ERROR. The world: as it was, or with the one new row that '[]byte(..)' lays. (LAID: no walk: one application.) -/
theorem Tryz.strconv_Atoi_ok (s : ByteArray) (hmax : s.size ≤ 9223372036854775806) (v : Int) (h : Lib.atoiAll s.data.toList = .ok v) (w : World) :
 Calls Tryz.prog 196 #[.string s] w fun e w' => e = .returned (.tuple #[.int .i64 v, .nilIface]) ∧ (w' = w ∨ ∃ t, w' = Lib.bytesWorld w 5 t) := Any.strconv_Atoi_ok Tryz.laysC172 s hmax v h w
open Go.RowKit in
/-- strconv.Atoi, AT EVERY STRING THAT IS NO DECIMAL NUMERAL (a bad numeral): 0, AND AN ERROR THAT IS NOT nil: a *NumError in a new block N: {Func: "Atoi", Num: s's bytes, Err: what the variable ErrSyntax holds}. Of what was there nothing has turned. (LAID: no walk: one application.) -/
theorem Tryz.strconv_Atoi_syntax (s : ByteArray) (hlim : s.size ≤ 281474976710656) (h : Lib.atoiAll s.data.toList = Lib.atoiAll []) (ev : Value) (w : World) (hv : w.cell? ⟨3, 0, none⟩ = some ev) (hev : ev = .nilIface ∨ ∃ te pe, ev = .iface te pe) :
 Calls Tryz.prog 196 #[.string s] w fun e w' => ∃ N, e = .returned (.tuple #[.int .i64 (0), .iface 344 (.pointer (some ⟨N, 0, none⟩))]) ∧ w.heap.size ≤ N ∧ w'.heap[N]? = some (.cells #[.string ⟨#[65, 116, 111, 105]⟩, .string s, ev] 378 (0, 0)) ∧ Below w.heap.size w w' := Any.strconv_Atoi_syntax Tryz.laysC172 s hlim (h.trans (by kernel_rfl)) ev w hv hev
open Go.RowKit in
/-- strconv.Atoi, AT EVERY NUMERAL THAT NO int HOLDS ('.range'): THE GREATEST OR THE LEAST int, BY THE SIGN ('Lib.atoiSat'), AND AN ERROR THAT IS NOT nil: a *NumError in a new block N: {Func: "Atoi", Num: s's bytes, Err: what the variable ErrRange holds}. Of what was there nothing has turned. (LAID: no walk: one application.) -/
theorem Tryz.strconv_Atoi_range (s : ByteArray) (hlim : s.size ≤ 281474976710656) (h : Lib.atoiAll s.data.toList = .range) (ev : Value) (w : World) (hv : w.cell? ⟨4, 0, none⟩ = some ev) (hev : ev = .nilIface ∨ ∃ te pe, ev = .iface te pe) :
 Calls Tryz.prog 196 #[.string s] w fun e w' => ∃ N, e = .returned (.tuple #[.int .i64 (Lib.atoiSat s.data.toList), .iface 344 (.pointer (some ⟨N, 0, none⟩))]) ∧ w.heap.size ≤ N ∧ w'.heap[N]? = some (.cells #[.string ⟨#[65, 116, 111, 105]⟩, .string s, ev] 378 (0, 0)) ∧ Below w.heap.size w w' := Any.strconv_Atoi_range Tryz.laysC172 s hlim h ev w hv hev
def Tryz.lays189_ren : Go.Shelf.Ren := ⟨fun | 189 => 197 | 125 => 165 | 257 => 244 | 128 => 223 | 129 => 224 | 294 => 285 | 295 => 286 | 296 => 287 | 297 => 288 | 298 => 289 | 299 => 290 | 216 => 291 | 300 => 292 | 301 => 293 | 328 => 321 | 329 => 256 | 330 => 257 | 331 => 322 | 332 => 323 | 215 => 324 | 343 => 338 | n => n, fun | 28 => 35 | 3 => 3 | 46 => 241 | 0 => 0 | 51 => 38 | 53 => 175 | 4 => 4 | 183 => 288 | 182 => 287 | 131 => 174 | 5 => 5 | 9 => 9 | 218 => 321 | 222 => 325 | 228 => 359 | 229 => 360 | n => n, fun | n => n⟩
theorem Tryz.lays189 : Go.Proofs.Lays.n189 Tryz.prog Tryz.lays189_ren := {
 mixed := by kernel_rfl
 f125 := Tryz.func165.trans (congrArg some (by kernel_rfl))
 f128 := Tryz.func223.trans (congrArg some (by kernel_rfl))
 f129 := Tryz.func224.trans (congrArg some (by kernel_rfl))
 f189 := Tryz.func197.trans (congrArg some (by kernel_rfl))
 f215 := Tryz.func324.trans (congrArg some (by kernel_rfl))
 f216 := Tryz.func291.trans (congrArg some (by kernel_rfl))
 f257 := Tryz.func244.trans (congrArg some (by kernel_rfl))
 f294 := Tryz.func285.trans (congrArg some (by kernel_rfl))
 f295 := Tryz.func286.trans (congrArg some (by kernel_rfl))
 f296 := Tryz.func287.trans (congrArg some (by kernel_rfl))
 f297 := Tryz.func288.trans (congrArg some (by kernel_rfl))
 f298 := Tryz.func289.trans (congrArg some (by kernel_rfl))
 f299 := Tryz.func290.trans (congrArg some (by kernel_rfl))
 f300 := Tryz.func292.trans (congrArg some (by kernel_rfl))
 f301 := Tryz.func293.trans (congrArg some (by kernel_rfl))
 f328 := Tryz.func321.trans (congrArg some (by kernel_rfl))
 f329 := Tryz.func256.trans (congrArg some (by kernel_rfl))
 f330 := Tryz.func257.trans (congrArg some (by kernel_rfl))
 f331 := Tryz.func322.trans (congrArg some (by kernel_rfl))
 f332 := Tryz.func323.trans (congrArg some (by kernel_rfl))
 f343 := Tryz.func338.trans (congrArg some (by kernel_rfl))
 t0 := Tryz.underlying0
 a0 := Tryz.isAgg0
 z0 := Tryz.sizeOf0
 v0 := Tryz.zeroValue0
 t3 := Tryz.underlying3
 a3 := Tryz.isAgg3
 z3 := Tryz.sizeOf3
 v3 := Tryz.zeroValue3
 t4 := Tryz.underlying4
 a4 := Tryz.isAgg4
 z4 := Tryz.sizeOf4
 v4 := Tryz.zeroValue4
 t5 := Tryz.underlying5
 a5 := Tryz.isAgg5
 z5 := Tryz.sizeOf5
 v5 := Tryz.zeroValue5
 t9 := Tryz.underlying9
 a9 := Tryz.isAgg9
 z9 := Tryz.sizeOf9
 v9 := Tryz.zeroValue9
 t28 := Tryz.underlying35
 a28 := Tryz.isAgg35
 z28 := Tryz.sizeOf35
 v28 := Tryz.zeroValue35
 t46 := Tryz.underlying241
 a46 := Tryz.isAgg241
 z46 := Tryz.sizeOf241
 v46 := Tryz.zeroValue241
 t51 := Tryz.underlying38
 a51 := Tryz.isAgg38
 z51 := Tryz.sizeOf38
 v51 := Tryz.zeroValue38
 t53 := Tryz.underlying175
 a53 := Tryz.isAgg175
 z53 := Tryz.sizeOf175
 v53 := Tryz.zeroValue175
 t131 := Tryz.underlying174
 a131 := Tryz.isAgg174
 z131 := Tryz.sizeOf174
 v131 := Tryz.zeroValue174
 t182 := Tryz.underlying287
 a182 := Tryz.isAgg287
 z182 := Tryz.sizeOf287
 v182 := Tryz.zeroValue287
 t183 := Tryz.underlying288
 a183 := Tryz.isAgg288
 z183 := Tryz.sizeOf288
 v183 := Tryz.zeroValue288
 t218 := Tryz.underlying321
 a218 := Tryz.isAgg321
 z218 := Tryz.sizeOf321
 v218 := Tryz.zeroValue321
 t222 := Tryz.underlying325
 a222 := Tryz.isAgg325
 z222 := Tryz.sizeOf325
 v222 := Tryz.zeroValue325
 t228 := Tryz.underlying359
 a228 := Tryz.isAgg359
 z228 := Tryz.sizeOf359
 v228 := Tryz.zeroValue359
 t229 := Tryz.underlying360
 a229 := Tryz.isAgg360
 z229 := Tryz.sizeOf360
 v229 := Tryz.zeroValue360 }
open Go.Sort Go.RowKit in
theorem Tryz.slices_Sort_int (blk off cap : Nat) (zs : List Int) (w : World) (hH : Holds (Value.int .i64) w blk off zs.toArray) (hblk : blk < w.heap.size) (hsz : zs.length < 4611686018427387904) :
 Calls Tryz.prog 197 #[.slice (some ⟨blk, off, none⟩) zs.length cap] w fun e w' =>
  e = .returned (.tuple #[]) ∧ ∃ n os, w' = grow (putRow (Value.int .i64) (Sort.ahead w n) blk off (zs.mergeSort fun x y => decide (x ≤ y)).toArray) os := Any.slices_Sort_int Tryz.lays189 blk off cap zs w hH hblk hsz
def Tryz.lays146_ren : Go.Shelf.Ren := ⟨fun | 146 => 188 | 221 => 229 | 268 => 269 | 138 => 270 | 143 => 271 | 195 => 310 | 197 => 274 | 218 => 311 | 219 => 312 | 260 => 315 | 217 => 330 | 225 => 331 | 224 => 267 | 267 => 332 | 266 => 340 | 314 => 341 | n => n, fun | 9 => 9 | 31 => 55 | 3 => 3 | 4 => 4 | 0 => 0 | 105 => 336 | 21 => 21 | 5 => 5 | 46 => 241 | 119 => 384 | 139 => 387 | 138 => 386 | 146 => 366 | 51 => 38 | n => n, fun | 1 => 0 | 3 => 5 | 4 => 6 | n => n⟩
theorem Tryz.lays146 : Go.Proofs.Lays.n146 Tryz.prog Tryz.lays146_ren := {
 mixed := by kernel_rfl
 f138 := Tryz.func270.trans (congrArg some (by kernel_rfl))
 f143 := Tryz.func271.trans (congrArg some (by kernel_rfl))
 f146 := Tryz.func188.trans (congrArg some (by kernel_rfl))
 f195 := Tryz.func310.trans (congrArg some (by kernel_rfl))
 f197 := Tryz.func274.trans (congrArg some (by kernel_rfl))
 f217 := Tryz.func330.trans (congrArg some (by kernel_rfl))
 f218 := Tryz.func311.trans (congrArg some (by kernel_rfl))
 f219 := Tryz.func312.trans (congrArg some (by kernel_rfl))
 f221 := Tryz.func229.trans (congrArg some (by kernel_rfl))
 f224 := Tryz.func267.trans (congrArg some (by kernel_rfl))
 f225 := Tryz.func331.trans (congrArg some (by kernel_rfl))
 f260 := Tryz.func315.trans (congrArg some (by kernel_rfl))
 f266 := Tryz.func340.trans (congrArg some (by kernel_rfl))
 f267 := Tryz.func332.trans (congrArg some (by kernel_rfl))
 f268 := Tryz.func269.trans (congrArg some (by kernel_rfl))
 f314 := Tryz.func341.trans (congrArg some (by kernel_rfl))
 t0 := Tryz.underlying0
 a0 := Tryz.isAgg0
 z0 := Tryz.sizeOf0
 v0 := Tryz.zeroValue0
 t3 := Tryz.underlying3
 a3 := Tryz.isAgg3
 z3 := Tryz.sizeOf3
 v3 := Tryz.zeroValue3
 t4 := Tryz.underlying4
 a4 := Tryz.isAgg4
 z4 := Tryz.sizeOf4
 v4 := Tryz.zeroValue4
 t5 := Tryz.underlying5
 a5 := Tryz.isAgg5
 z5 := Tryz.sizeOf5
 v5 := Tryz.zeroValue5
 t9 := Tryz.underlying9
 a9 := Tryz.isAgg9
 z9 := Tryz.sizeOf9
 v9 := Tryz.zeroValue9
 t21 := Tryz.underlying21
 a21 := Tryz.isAgg21
 z21 := Tryz.sizeOf21
 v21 := Tryz.zeroValue21
 t31 := Tryz.underlying55
 a31 := Tryz.isAgg55
 z31 := Tryz.sizeOf55
 v31 := Tryz.zeroValue55
 t46 := Tryz.underlying241
 a46 := Tryz.isAgg241
 z46 := Tryz.sizeOf241
 v46 := Tryz.zeroValue241
 t51 := Tryz.underlying38
 a51 := Tryz.isAgg38
 z51 := Tryz.sizeOf38
 v51 := Tryz.zeroValue38
 t105 := Tryz.underlying336
 a105 := Tryz.isAgg336
 z105 := Tryz.sizeOf336
 v105 := Tryz.zeroValue336
 t119 := Tryz.underlying384
 a119 := Tryz.isAgg384
 z119 := Tryz.sizeOf384
 t138 := Tryz.underlying386
 a138 := Tryz.isAgg386
 z138 := Tryz.sizeOf386
 v138 := Tryz.zeroValue386
 t139 := Tryz.underlying387
 a139 := Tryz.isAgg387
 z139 := Tryz.sizeOf387
 v139 := Tryz.zeroValue387
 t146 := Tryz.underlying366
 a146 := Tryz.isAgg366
 z146 := Tryz.sizeOf366
 v146 := Tryz.zeroValue366
 g1 := by kernel_rfl
 g3 := by kernel_rfl
 g4 := by kernel_rfl }
open Go.RowKit Go.Lib in
/-- strings.Split. (LAID: no walk: one application.) -/
theorem Tryz.strings_Split (s sep : ByteArray) (m : Int) (w : World) (hs : s.size < 4294967281) (hm : w.cell? ⟨0, 0, none⟩ = some (.int .i64 m)) (h1 : 1 ≤ sep.size) :
 Calls Tryz.prog 188 #[.string s, .string sep] w fun e w' =>
  e = .returned (.slice (some ⟨w.heap.size, 0, none⟩) (Lib.countB s sep + 1) (Lib.countB s sep + 1)) ∧ w' = w.alloc (.cells ((Lib.splitB sep 0 (Lib.countB s sep) s).map Value.string).toArray 9) := Any.strings_Split Tryz.lays146 (by kernel_rfl) s sep m w hs hm h1
open Go.RowKit Go.Sort in
/-- .. and plain. (LAID: no walk: one application.) -/
theorem Tryz.slices_Sort_int_none (p : Option Addr) (cap : Nat) (w : World) :
 Calls Tryz.prog 197 #[.slice p 0 cap] w fun e w' => e = .returned (.tuple #[]) ∧ w' = w := Any.slices_Sort_int_none Tryz.lays189 p cap w
def Tryz.lays185_ren : Go.Shelf.Ren := ⟨fun | 185 => 227 | 187 => 265 | 115 => 68 | 253 => 266 | 224 => 267 | 254 => 268 | 255 => 308 | 291 => 309 | n => n, fun | 37 => 22 | 3 => 3 | 4 => 4 | 0 => 0 | 5 => 5 | 46 => 241 | 9 => 9 | 146 => 366 | 51 => 38 | n => n, fun | 1 => 0 | n => n⟩
theorem Tryz.lays185 : Go.Proofs.Lays.n185 Tryz.prog Tryz.lays185_ren := {
 mixed := by kernel_rfl
 f115 := Tryz.func68.trans (congrArg some (by kernel_rfl))
 f185 := Tryz.func227.trans (congrArg some (by kernel_rfl))
 f187 := Tryz.func265.trans (congrArg some (by kernel_rfl))
 f224 := Tryz.func267.trans (congrArg some (by kernel_rfl))
 f253 := Tryz.func266.trans (congrArg some (by kernel_rfl))
 f254 := Tryz.func268.trans (congrArg some (by kernel_rfl))
 f255 := Tryz.func308.trans (congrArg some (by kernel_rfl))
 f291 := Tryz.func309.trans (congrArg some (by kernel_rfl))
 t0 := Tryz.underlying0
 a0 := Tryz.isAgg0
 z0 := Tryz.sizeOf0
 v0 := Tryz.zeroValue0
 t3 := Tryz.underlying3
 a3 := Tryz.isAgg3
 z3 := Tryz.sizeOf3
 v3 := Tryz.zeroValue3
 t4 := Tryz.underlying4
 a4 := Tryz.isAgg4
 z4 := Tryz.sizeOf4
 v4 := Tryz.zeroValue4
 t5 := Tryz.underlying5
 a5 := Tryz.isAgg5
 z5 := Tryz.sizeOf5
 v5 := Tryz.zeroValue5
 t9 := Tryz.underlying9
 a9 := Tryz.isAgg9
 z9 := Tryz.sizeOf9
 v9 := Tryz.zeroValue9
 t37 := Tryz.underlying22
 a37 := Tryz.isAgg22
 z37 := Tryz.sizeOf22
 v37 := Tryz.zeroValue22
 t46 := Tryz.underlying241
 a46 := Tryz.isAgg241
 z46 := Tryz.sizeOf241
 v46 := Tryz.zeroValue241
 t51 := Tryz.underlying38
 a51 := Tryz.isAgg38
 z51 := Tryz.sizeOf38
 v51 := Tryz.zeroValue38
 t146 := Tryz.underlying366
 a146 := Tryz.isAgg366
 z146 := Tryz.sizeOf366
 v146 := Tryz.zeroValue366
 g1 := by kernel_rfl }
open Go.Proofs Go.RowKit Go.Lib in
/-- bytes.Index, WHOLE: "Index returns the index of the first instance of sep in s, or -1 if sep is not present in s.": 'Lib.index' of the two lists of bytes. (LAID: no walk: one application.) -/
theorem Tryz.bytes_Index_at (a1 a2 : Addr) (n c1 k c2 : Nat) (xs ys : List Int) (m : Int) (w : World) (hx : xs.length = n) (hy : ys.length = k) (hr1 : ∀ x ∈ xs, 0 ≤ x ∧ x < 256) (hr2 : ∀ y ∈ ys, 0 ≤ y ∧ y < 256) (hc1 : ∀ i, i < n → w.cell? (a1.add i) = some (.int .u8 (xs.getD i 0))) (hc2 : ∀ i, i < k → w.cell? (a2.add i) = some (.int .u8 (ys.getD i 0))) (hcap : n ≤ c1) (hs : n < 4294967281) (hk : k ≤ 9223372036854775807) (hm : w.cell? ⟨0, 0, none⟩ = some (.int .i64 m)) :
 Calls Tryz.prog 227 #[.slice (some a1) n c1, .slice (some a2) k c2] w fun e w' => e = .returned (.int .i64 (Lib.index (Lib.bytesOf xs) (Lib.bytesOf ys))) ∧ ∃ q, w' = w.drewN q := Any.bytes_Index_at Tryz.lays185 a1 a2 n c1 k c2 xs ys m w hx hy hr1 hr2 hc1 hc2 hcap hs hk hm
def Tryz.laysSlK4_ren : Go.Shelf.Ren := ⟨fun | 4 => 55 | n => n, fun | 22 => 22 | 4 => 4 | 5 => 5 | n => n, fun | n => n⟩
theorem Tryz.laysSlK4 : Go.Proofs.SlLaysK.n4 Tryz.prog Tryz.laysSlK4_ren := {
 mixed := by kernel_rfl
 f4 := Tryz.func55.trans (congrArg some (by kernel_rfl))
 t4 := Tryz.underlying4
 a4 := Tryz.isAgg4
 z4 := Tryz.sizeOf4
 v4 := Tryz.zeroValue4
 t22 := Tryz.underlying22
 a22 := Tryz.isAgg22
 z22 := Tryz.sizeOf22
 v22 := Tryz.zeroValue22
 t5 := Tryz.underlying5
 i5 := by kernel_rfl }
open Go.RowKit Go.Lib in
/-- bytes.Clone: "Clone returns a copy of b[:len(b)]. The result may have additional unused capacity.": OF A SLICE THAT IS NOT nil IT RETURNS A SLICE THAT IS NOT nil, OF THE SAME BYTES, IN MEMORY OF THE CALL's OWN: in the how-to's words (6f): 'w'.ownsRow B e 1 v' n cells' · 'Below B w w'', B the heap's size at the call. b AT WHATEVER ADDRESS, its cells as 'open_ints' hands them ('a.add i'; the numbers 'xs'). No byte: no cell is asked for. (LAID: no walk: one application.) -/
theorem Tryz.bytes_Clone_at (a : Addr) (n c : Nat) (xs : List Int) (w : World) (hx : xs.length = n) (hbig : n ≤ 140737488355328) (hc : ∀ i, i < n → w.cell? (a.add i) = some (.int .u8 (xs.getD i 0))) :
 Calls Tryz.prog 55 #[.slice (some a) n c] w fun e w' => ∃ v', e = .returned v' ∧ w'.ownsRow w.heap.size 5 1 v' n (xs.map (Value.int .u8)) ∧ v' ≠ .slice none 0 0 ∧ Below w.heap.size w w' := Any.bytes_Clone_at Tryz.laysSlK4 a n c xs w hx hbig hc
open Go.RowKit Go.Lib in
/-- "Clone(nil) returns nil.": the world is as it was. (LAID: no walk: one application.) -/
theorem Tryz.bytes_Clone_nil (n c : Nat) (w : World) :
 Calls Tryz.prog 55 #[.slice none n c] w fun e w' => e = .returned (.slice none 0 0) ∧ w' = w := Any.bytes_Clone_nil Tryz.laysSlK4 n c w
def Tryz.laysnb115_ren : Go.Shelf.Ren := ⟨fun | 115 => 68 | n => n, fun | 37 => 22 | 4 => 4 | 9 => 9 | 5 => 5 | n => n, fun | n => n⟩
theorem Tryz.laysnb115 : Go.Proofs.Lays.nb115 Tryz.prog Tryz.laysnb115_ren := {
 mixed := by kernel_rfl
 f115 := Tryz.func68.trans (congrArg some (by kernel_rfl))
 t4 := Tryz.underlying4
 a4 := Tryz.isAgg4
 z4 := Tryz.sizeOf4
 v4 := Tryz.zeroValue4
 t9 := Tryz.underlying9
 a9 := Tryz.isAgg9
 z9 := Tryz.sizeOf9
 v9 := Tryz.zeroValue9
 t37 := Tryz.underlying22
 a37 := Tryz.isAgg22
 z37 := Tryz.sizeOf22
 v37 := Tryz.zeroValue22
 t5 := Tryz.underlying5
 a5 := Tryz.isAgg5
 z5 := Tryz.sizeOf5
 v5 := Tryz.zeroValue5 }
/-- bytes.Equal: WHOLE. (LAID: no walk: one application.) -/
theorem Tryz.bytes_Equal_all (p1 p2 : Option Addr) (n c m d : Nat) (xs ys : List Int) (w : World) (hx : xs.length = n) (hy : ys.length = m) (h1 : Lib.BytesIn w p1 n xs) (h2 : Lib.BytesIn w p2 m ys) :
 Calls Tryz.prog 68 #[.slice p1 n c, .slice p2 m d] w fun e w' => e = .returned (.bool (Lib.bytesOf xs == Lib.bytesOf ys)) ∧ w' = w := Any.bytes_Equal_all Tryz.laysnb115 p1 p2 n c m d xs ys w hx hy h1 h2
def Tryz.keys142_ren : Go.Shelf.Ren := ⟨fun | 7 => 142 | 10 => 194 | n => n, fun | 23 => 98 | 26 => 9 | 3 => 103 | 28 => 223 | 0 => 0 | 27 => 222 | 33 => 88 | 4 => 4 | n => n, fun | n => n⟩
theorem Tryz.keys142 : Go.Proofs.SlLaysZ.n7 Tryz.prog Tryz.keys142_ren := {
 mixed := by kernel_rfl
 f7 := ⟨Tryz.f142.name, by decide, Tryz.func142.trans (congrArg some (by kernel_rfl))⟩
 f10 := ⟨Tryz.f194.name, by decide, Tryz.func194.trans (congrArg some (by kernel_rfl))⟩
 t0 := Tryz.underlying0
 a0 := Tryz.isAgg0
 z0 := Tryz.sizeOf0
 v0 := Tryz.zeroValue0
 t4 := Tryz.underlying4
 a4 := Tryz.isAgg4
 z4 := Tryz.sizeOf4
 v4 := Tryz.zeroValue4
 t23 := Tryz.underlying98
 a23 := Tryz.isAgg98
 z23 := Tryz.sizeOf98
 v23 := Tryz.zeroValue98
 t26 := Tryz.underlying9
 a26 := Tryz.isAgg9
 z26 := Tryz.sizeOf9
 v26 := Tryz.zeroValue9
 t27 := Tryz.underlying222
 a27 := Tryz.isAgg222
 z27 := Tryz.sizeOf222
 v27 := Tryz.zeroValue222
 t28 := Tryz.underlying223
 a28 := Tryz.isAgg223
 z28 := Tryz.sizeOf223
 v28 := Tryz.zeroValue223
 t33 := Tryz.underlying88
 a33 := Tryz.isAgg88
 z33 := Tryz.sizeOf88
 v33 := Tryz.zeroValue88 }
def Tryz.sorted141_ren : Go.Shelf.Ren := ⟨fun | 6 => 141 | 8 => 193 | 9 => 104 | 11 => 240 | 13 => 165 | 12 => 164 | 23 => 223 | 24 => 224 | 14 => 214 | 15 => 215 | 16 => 216 | 17 => 217 | 18 => 218 | 19 => 219 | 20 => 220 | 21 => 221 | 22 => 222 | 25 => 255 | 26 => 256 | 27 => 257 | 28 => 258 | 29 => 259 | 30 => 260 | 31 => 303 | n => n, fun | 26 => 9 | 28 => 223 | 24 => 55 | 0 => 0 | 3 => 3 | 37 => 241 | 48 => 38 | 50 => 175 | 4 => 4 | 40 => 288 | 39 => 287 | 45 => 174 | 5 => 5 | 9 => 9 | 51 => 321 | 55 => 325 | 57 => 359 | 58 => 360 | 33 => 88 | n => n, fun | n => n⟩
theorem Tryz.sorted141 : Go.Proofs.SlLaysZ.n6 Tryz.prog Tryz.sorted141_ren := {
 mixed := by kernel_rfl
 f6 := ⟨Tryz.f141.name, by decide, Tryz.func141.trans (congrArg some (by kernel_rfl))⟩
 f8 := ⟨Tryz.f193.name, by decide, Tryz.func193.trans (congrArg some (by kernel_rfl))⟩
 f11 := ⟨Tryz.f240.name, by decide, Tryz.func240.trans (congrArg some (by kernel_rfl))⟩
 t0 := Tryz.underlying0
 a0 := Tryz.isAgg0
 z0 := Tryz.sizeOf0
 v0 := Tryz.zeroValue0
 t24 := Tryz.underlying55
 a24 := Tryz.isAgg55
 z24 := Tryz.sizeOf55
 v24 := Tryz.zeroValue55
 t26 := Tryz.underlying9
 a26 := Tryz.isAgg9
 z26 := Tryz.sizeOf9
 v26 := Tryz.zeroValue9
 t28 := Tryz.underlying223
 a28 := Tryz.isAgg223
 z28 := Tryz.sizeOf223
 v28 := Tryz.zeroValue223
 i26 := by kernel_rfl }
def Tryz.sort104_ren : Go.Shelf.Ren := ⟨fun | 6 => 104 | 8 => 165 | 9 => 164 | 19 => 223 | 20 => 224 | 21 => 214 | 22 => 215 | 23 => 216 | 24 => 217 | 25 => 218 | 26 => 219 | 27 => 220 | 28 => 221 | 29 => 222 | 36 => 255 | 31 => 256 | 32 => 257 | 37 => 258 | 38 => 259 | 39 => 260 | 41 => 303 | n => n, fun | 27 => 55 | 29 => 9 | 3 => 3 | 32 => 241 | 26 => 55 | 0 => 0 | 44 => 38 | 46 => 175 | 4 => 4 | 36 => 288 | 35 => 287 | 41 => 174 | 5 => 5 | 9 => 9 | 53 => 321 | 57 => 325 | 63 => 359 | 64 => 360 | n => n, fun | n => n⟩
theorem Tryz.sort104 : Go.Proofs.SlLaysM.n6 Tryz.prog Tryz.sort104_ren := {
 mixed := by kernel_rfl
 f6 := ⟨Tryz.f104.name, by decide, Tryz.func104.trans (congrArg some (by kernel_rfl))⟩
 f8 := Tryz.func165.trans (congrArg some (by kernel_rfl))
 f9 := ⟨Tryz.f164.name, by decide, Tryz.func164.trans (congrArg some (by kernel_rfl))⟩
 f19 := Tryz.func223.trans (congrArg some (by kernel_rfl))
 f20 := Tryz.func224.trans (congrArg some (by kernel_rfl))
 f21 := ⟨Tryz.f214.name, by decide, Tryz.func214.trans (congrArg some (by kernel_rfl))⟩
 f22 := ⟨Tryz.f215.name, by decide, Tryz.func215.trans (congrArg some (by kernel_rfl))⟩
 f23 := ⟨Tryz.f216.name, by decide, Tryz.func216.trans (congrArg some (by kernel_rfl))⟩
 f24 := ⟨Tryz.f217.name, by decide, Tryz.func217.trans (congrArg some (by kernel_rfl))⟩
 f25 := ⟨Tryz.f218.name, by decide, Tryz.func218.trans (congrArg some (by kernel_rfl))⟩
 f26 := ⟨Tryz.f219.name, by decide, Tryz.func219.trans (congrArg some (by kernel_rfl))⟩
 f27 := ⟨Tryz.f220.name, by decide, Tryz.func220.trans (congrArg some (by kernel_rfl))⟩
 f28 := ⟨Tryz.f221.name, by decide, Tryz.func221.trans (congrArg some (by kernel_rfl))⟩
 f29 := ⟨Tryz.f222.name, by decide, Tryz.func222.trans (congrArg some (by kernel_rfl))⟩
 f31 := Tryz.func256.trans (congrArg some (by kernel_rfl))
 f32 := Tryz.func257.trans (congrArg some (by kernel_rfl))
 f36 := ⟨Tryz.f255.name, by decide, Tryz.func255.trans (congrArg some (by kernel_rfl))⟩
 f37 := ⟨Tryz.f258.name, by decide, Tryz.func258.trans (congrArg some (by kernel_rfl))⟩
 f38 := ⟨Tryz.f259.name, by decide, Tryz.func259.trans (congrArg some (by kernel_rfl))⟩
 f39 := ⟨Tryz.f260.name, by decide, Tryz.func260.trans (congrArg some (by kernel_rfl))⟩
 f41 := ⟨Tryz.f303.name, by decide, Tryz.func303.trans (congrArg some (by kernel_rfl))⟩
 t0 := Tryz.underlying0
 a0 := Tryz.isAgg0
 z0 := Tryz.sizeOf0
 v0 := Tryz.zeroValue0
 t3 := Tryz.underlying3
 a3 := Tryz.isAgg3
 z3 := Tryz.sizeOf3
 v3 := Tryz.zeroValue3
 t4 := Tryz.underlying4
 a4 := Tryz.isAgg4
 z4 := Tryz.sizeOf4
 v4 := Tryz.zeroValue4
 t5 := Tryz.underlying5
 a5 := Tryz.isAgg5
 z5 := Tryz.sizeOf5
 v5 := Tryz.zeroValue5
 t9 := Tryz.underlying9
 a9 := Tryz.isAgg9
 z9 := Tryz.sizeOf9
 v9 := Tryz.zeroValue9
 t26 := Tryz.underlying55
 a26 := Tryz.isAgg55
 z26 := Tryz.sizeOf55
 v26 := Tryz.zeroValue55
 t27 := Tryz.underlying55
 a27 := Tryz.isAgg55
 z27 := Tryz.sizeOf55
 v27 := Tryz.zeroValue55
 t29 := Tryz.underlying9
 a29 := Tryz.isAgg9
 z29 := Tryz.sizeOf9
 v29 := Tryz.zeroValue9
 t32 := Tryz.underlying241
 a32 := Tryz.isAgg241
 z32 := Tryz.sizeOf241
 v32 := Tryz.zeroValue241
 t35 := Tryz.underlying287
 a35 := Tryz.isAgg287
 z35 := Tryz.sizeOf287
 v35 := Tryz.zeroValue287
 t36 := Tryz.underlying288
 a36 := Tryz.isAgg288
 z36 := Tryz.sizeOf288
 v36 := Tryz.zeroValue288
 t41 := Tryz.underlying174
 a41 := Tryz.isAgg174
 z41 := Tryz.sizeOf174
 v41 := Tryz.zeroValue174
 t44 := Tryz.underlying38
 a44 := Tryz.isAgg38
 z44 := Tryz.sizeOf38
 v44 := Tryz.zeroValue38
 t46 := Tryz.underlying175
 a46 := Tryz.isAgg175
 z46 := Tryz.sizeOf175
 v46 := Tryz.zeroValue175
 t53 := Tryz.underlying321
 a53 := Tryz.isAgg321
 z53 := Tryz.sizeOf321
 v53 := Tryz.zeroValue321
 t57 := Tryz.underlying325
 a57 := Tryz.isAgg325
 z57 := Tryz.sizeOf325
 v57 := Tryz.zeroValue325
 t63 := Tryz.underlying359
 a63 := Tryz.isAgg359
 z63 := Tryz.sizeOf359
 v63 := Tryz.zeroValue359
 t64 := Tryz.underlying360
 a64 := Tryz.isAgg360
 z64 := Tryz.sizeOf360
 v64 := Tryz.zeroValue360 }
def Tryz.grow192_ren : Go.Shelf.Ren := ⟨fun | 4 => 192 | n => n, fun | 22 => 22 | 25 => 5 | 3 => 3 | 4 => 4 | 9 => 9 | 20 => 20 | 0 => 0 | n => n, fun | n => n⟩
theorem Tryz.grow192 : Go.Proofs.Lays8.n4 Tryz.prog Tryz.grow192_ren := {
 mixed := by kernel_rfl
 f4 := ⟨Tryz.f192.name, by decide, Tryz.func192.trans (congrArg some (by kernel_rfl))⟩
 t0 := Tryz.underlying0
 a0 := Tryz.isAgg0
 z0 := Tryz.sizeOf0
 v0 := Tryz.zeroValue0
 t3 := Tryz.underlying3
 a3 := Tryz.isAgg3
 z3 := Tryz.sizeOf3
 v3 := Tryz.zeroValue3
 t4 := Tryz.underlying4
 a4 := Tryz.isAgg4
 z4 := Tryz.sizeOf4
 v4 := Tryz.zeroValue4
 t9 := Tryz.underlying9
 a9 := Tryz.isAgg9
 z9 := Tryz.sizeOf9
 v9 := Tryz.zeroValue9
 t20 := Tryz.underlying20
 a20 := Tryz.isAgg20
 z20 := Tryz.sizeOf20
 v20 := Tryz.zeroValue20
 t22 := Tryz.underlying22
 a22 := Tryz.isAgg22
 z22 := Tryz.sizeOf22
 v22 := Tryz.zeroValue22 }
end Go.Proofs
/-
  Bytes in memory: rows that are owned, cloned, compared, and made texts.
-/
namespace Go.Proofs.YtkljkbeahdipfaaGreatDoor
open Go.RowKit
def u8s (l : List UInt8) : List Value := l.map fun b => Value.int .u8 ((b.toNat : Nat) : Int)
theorem u8s_length (l : List UInt8) : (u8s l).length = l.length := by simp [u8s]
theorem u8s_get (l : List UInt8) (j : Nat) : (u8s l)[j]? = (l[j]?).map fun b => Value.int .u8 ((b.toNat : Nat) : Int) := by simp [u8s]
theorem u8s_append (l m : List UInt8) : u8s (l ++ m) = u8s l ++ u8s m := by simp [u8s]
theorem u8s_one (l : List UInt8) : ∀ u ∈ u8s l, u.oneCell' = true := by
 intro u hu
 simp only [u8s, List.mem_map] at hu
 obtain ⟨p, _, rfl⟩ := hu
 rfl
theorem u8_info : (Tryz.prog.info? 5).map (fun i => (i.zero, i.size, i.bytes)) = some (some (.int .u8 0), 1, 1) := by kernel_rfl
theorem info_parts {P : Program} {t : TypeId} {z : Value} {s b : Nat} (h : (P.info? t).map (fun i => (i.zero, i.size, i.bytes)) = some (some z, s, b)) : ∃ i, P.info? t = some i ∧ i.zero = some z ∧ i.size = s ∧ i.bytes = b := by
 cases hi : P.info? t with
 | none => rw [hi] at h; cases h
 | some i => rw [hi] at h; simp at h; exact ⟨i, rfl, h.1, h.2.1, h.2.2⟩
theorem own_reads {w : World} {base n size : Nat} {e : TypeId} {v : Value} {xs : List Value} (h : w.ownsRow base e size v n xs) : ∃ A c, v = .slice A n c ∧ Reads w w.heap.size size A n xs ∧ n ≤ c := by
 rcases h.2 with ⟨rfl, h0⟩ | ⟨g, cap, cur, rfl, h1, h2, h3, h4⟩
 ·subst h0
  exact ⟨none, 0, rfl, ⟨h.1, fun hn => absurd hn (by omega)⟩, Nat.le_refl _⟩
 ·exact ⟨_, cap, rfl, Reads.of_own h, by omega⟩
theorem own_mono {w : World} {base base' : Nat} {e : TypeId} {size : Nat} {v : Value} {n : Nat} {xs : List Value} (h : w.ownsRow base e size v n xs) (hb : base' ≤ base) : w.ownsRow base' e size v n xs := by
 refine ⟨h.1, ?_⟩
 rcases h.2 with h0 | ⟨g, cap, cur, e, hb', hr⟩
 ·exact .inl h0
 ·exact .inr ⟨g, cap, cur, e, Nat.le_trans hb hb', hr⟩
theorem own_keep {w w' : World} {base : Nat} {v : Value} {e : TypeId} {size n : Nat} {xs : List Value} (h : w.ownsRow base e size v n xs) (hk : ∀ g, v.ownBlock = some g → w'.heap[g]? = w.heap[g]?) : w'.ownsRow base e size v n xs := by
 refine ⟨h.1, ?_⟩
 rcases h.2 with h0 | ⟨g, cap, cur, rfl, hb, hg, hr⟩
 ·exact .inl h0
 ·exact .inr ⟨g, cap, cur, rfl, hb, (hk g rfl).trans hg, hr⟩
theorem own_below {w w' : World} {base : Nat} {v : Value} {e : TypeId} {size n : Nat} {xs : List Value} (h : w.ownsRow base e size v n xs) (hb : Below w.heap.size w w') : w'.ownsRow base e size v n xs :=
 own_keep h fun g hg => hb.block g (h.lt g hg).2
theorem bytes_empty (w : World) : (w.alloc (.cells #[] 5)).ownsRow w.heap.size 5 1 (.slice (some ⟨w.heap.size, 0, none⟩) 0 0) 0 [] := World.ownsRow_lit w #[] 0 (Nat.le_refl _) (by unfold maxLen; omega) rfl
/-- a row of bytes, of a list's length -/
theorem own8 {w : World} {base n : Nat} {v : Value} {l : List UInt8} (h : w.ownsRow base 5 1 v n (u8s l)) : w.ownsRow base 5 1 v l.length (u8s l) := by
 have : n = l.length := by have := h.1; rw [u8s_length] at this; omega
 rw [← this]; exact h
theorem Reads.take8 {w : World} {B n : Nat} {A : Option Addr} {l : List UInt8} (h : Reads w B 1 A n (u8s l)) {k : Nat} (hk : k ≤ n) : Reads w B 1 A k (u8s (l.take k)) := by
 have hl : l.length = n := by have := h.1; rw [u8s_length] at this; omega
 refine ⟨by rw [u8s_length, List.length_take]; omega, fun hp => ?_⟩
 obtain ⟨ad, e, hlt, hc⟩ := h.2 (by omega)
 refine ⟨ad, e, hlt, fun j u hu => hc j u ?_⟩
 rw [u8s_get] at hu ⊢
 rw [List.getElem?_take] at hu
 split at hu
 ·exact hu
 ·cases hu
theorem u8s_drop (l : List UInt8) (k : Nat) : u8s (l.drop k) = (u8s l).drop k := by simp [u8s]
theorem Reads.drop8 {w : World} {B n c : Nat} {A : Option Addr} {l : List UInt8} (h : Reads w B 1 A n (u8s l)) {k : Nat} (hk : k ≤ n) (hc : n ≤ c) : Reads w B 1 (if c = k then A else A.map (·.add k)) (n - k) (u8s (l.drop k)) := by
 have := h.cut (k := k) (cap := c) hk hc
 rw [Nat.mul_one] at this
 rw [u8s_drop]
 exact this
theorem Reads.none8 {w : World} {B : Nat} : Reads w B 1 none 0 (u8s []) := Reads.none_
theorem Reads.empty8 {w : World} {B n : Nat} {l : List UInt8} (h : Reads w B 1 none n (u8s l)) : n = 0 ∧ l = [] := by
 have hl : l.length = n := by have := h.1; rw [u8s_length] at this; omega
 rcases Nat.eq_zero_or_pos n with h0 | h0
 ·exact ⟨h0, List.length_eq_zero_iff.1 (by omega)⟩
 ·obtain ⟨ad, e, _⟩ := h.2 h0; cases e
def ints8 (l : List UInt8) : List Int := l.map fun b => ((b.toNat : Nat) : Int)
theorem ints8_at {w : World} {B n : Nat} {a : Addr} {l : List UInt8} (hl : l.length = n) (hr : Reads w B 1 (some a) n (u8s l)) : ∀ i, i < n → w.cell? (a.add i) = some (.int .u8 ((ints8 l).getD i 0)) := by
 intro i hi
 obtain ⟨ad, e, _, hc⟩ := hr.2 (by omega)
 injection e with e
 subst e
 have hil : i < l.length := by omega
 refine hc i _ ?_
 rw [u8s_get, List.getElem?_eq_getElem hil]
 simp [ints8, List.getD, hil]
theorem bytesOf_ints8 (l : List UInt8) : Lib.bytesOf (ints8 l) = l := by
 unfold Lib.bytesOf ints8
 rw [List.map_map]
 conv => rhs; rw [← List.map_id l]
 apply List.map_congr_left
 intro b _
 simp
theorem conv_nil (c : Nat) (w : World) : (convert 22 9 (.slice none 0 c)).run Tryz.prog w = .ok (.string ⟨#[]⟩) w := by kernel_rfl
/-- string(b), whatever slice b is -/
theorem conv_reads {w : World} {B n c : Nat} {A : Option Addr} {l : List UInt8} (hl : l.length = n) (hr : Reads w B 1 A n (u8s l)) : (convert 22 9 (.slice A n c)).run Tryz.prog w = .ok (.string ⟨l.toArray⟩) w := by
 subst hl
 cases A with
 | none =>
   obtain ⟨h0, rfl⟩ := hr.empty8
   exact conv_nil c w
 | some a =>
   refine run_string_bytes w 22 9 5 a l c Tryz.underlying22 Tryz.underlying5 Tryz.underlying9 fun j b hj => ?_
   have hp : 0 < l.length := by
    rcases Nat.lt_or_ge j l.length with h | h
    ·omega
    ·rw [List.getElem?_eq_none h] at hj; cases hj
   obtain ⟨ad, e, _, hc⟩ := hr.2 hp
   injection e with e
   subst e
   exact hc j _ (by rw [u8s_get, hj]; rfl)
end Go.Proofs.YtkljkbeahdipfaaGreatDoor
/-
  A map of names as a sorted list: plain words, no program in sight.
-/
namespace Go.Proofs.YtkljkbeahdipfaaGreatDoor
open Go.RowKit Go.Maps
abbrev Key := List UInt8
theorem less_eq : ∀ x y : Key, Op.bytesLess x y = bytesBefore x y
 | [], [] => rfl
 | [], _ :: _ => rfl
 | _ :: _, [] => rfl
 | a :: x, b :: y => by simp only [Op.bytesLess, bytesBefore, less_eq x y]
theorem lt_iff : ∀ x y : Key, x < y ↔ bytesBefore x y = true
 | [], [] => by simp [bytesBefore]
 | [], _ :: _ => by simp [bytesBefore]
 | _ :: _, [] => by simp [bytesBefore]
 | a :: x, b :: y => by simp [bytesBefore, List.cons_lt_cons_iff, lt_iff x y]
theorem leB_eq (x y : Key) : decide (x ≤ y) = !bytesBefore y x := by
 have : x ≤ y ↔ ¬ bytesBefore y x = true := by rw [← lt_iff]; exact Iff.rfl
 by_cases h : bytesBefore y x = true <;> simp [this, h]
theorem before_trans {x y z : Key} (h : bytesBefore x y = true) (k : bytesBefore y z = true) : bytesBefore x z = true := WideShapes.bytes_trans x y z h k
theorem before_irrefl (x : Key) : bytesBefore x x = false := WideAt.bytes_irrefl x
theorem before_ne {x y : Key} (h : bytesBefore x y = true) : x ≠ y := fun e => by subst e; rw [before_irrefl] at h; cases h
theorem before_anti {x y : Key} (h : bytesBefore x y = true) : bytesBefore y x = false := by
 cases hb : bytesBefore y x
 ·rfl
 ·have := before_trans h hb; rw [before_irrefl] at this; cases this
theorem before_total {x y : Key} (h : x ≠ y) (k : bytesBefore x y = false) : bytesBefore y x = true := by
 rcases WideAt.bytes_total x y h with h' | h'
 ·rw [k] at h'; cases h'
 ·exact h'

section
variable {V U : Type}
/-- the keys rise -/
def Up (l : List (Key × V)) : Prop := l.Pairwise fun p q => bytesBefore p.1 q.1 = true
def fget (k : Key) : List (Key × V) → Option V
 | [] => none
 | (y, v) :: r => if y = k then some v else fget k r
def fput (k : Key) (v : V) : List (Key × V) → List (Key × V)
 | [] => [(k, v)]
 | (y, u) :: r => if y = k then (k, v) :: r else if bytesBefore k y = true then (k, v) :: (y, u) :: r else (y, u) :: fput k v r
def fdel (k : Key) (l : List (Key × V)) : List (Key × V) := l.filter fun p => p.1 != k
def fmap (g : V → U) (l : List (Key × V)) : List (Key × U) := l.map fun p => (p.1, g p.2)

theorem fget_cons (k y : Key) (v : V) (r : List (Key × V)) : fget k ((y, v) :: r) = if y = k then some v else fget k r := rfl
theorem up_nil : Up ([] : List (Key × V)) := List.Pairwise.nil
theorem up_cons {p : Key × V} {l : List (Key × V)} : Up (p :: l) ↔ (∀ q ∈ l, bytesBefore p.1 q.1 = true) ∧ Up l := List.pairwise_cons
theorem up_fdel {l : List (Key × V)} (h : Up l) (k : Key) : Up (fdel k l) := List.Pairwise.filter _ h
theorem mem_fput {k : Key} {v : V} {q : Key × V} : ∀ {l : List (Key × V)}, q ∈ fput k v l → q = (k, v) ∨ q ∈ l
 | [], h => by simp [fput] at h; exact .inl h
 | (y, u) :: r, h => by
   unfold fput at h
   split at h
   ·rcases List.mem_cons.1 h with h | h
    ·exact .inl h
    ·exact .inr (List.mem_cons_of_mem _ h)
   ·split at h
    ·rcases List.mem_cons.1 h with h | h
     ·exact .inl h
     ·exact .inr h
    ·rcases List.mem_cons.1 h with h | h
     ·exact .inr (by rw [h]; exact List.mem_cons_self)
     ·rcases mem_fput h with h | h
      ·exact .inl h
      ·exact .inr (List.mem_cons_of_mem _ h)
theorem up_fput {k : Key} {v : V} : ∀ {l : List (Key × V)}, Up l → Up (fput k v l)
 | [], _ => by unfold fput Up; simp
 | (y, u) :: r, h => by
   obtain ⟨h1, h2⟩ := up_cons.1 h
   unfold fput
   split
   ·rename_i e; subst e; exact up_cons.2 ⟨h1, h2⟩
   ·rename_i hne
    split
    ·rename_i hb
     refine up_cons.2 ⟨fun q hq => ?_, h⟩
     rcases List.mem_cons.1 hq with rfl | hq
     ·exact hb
     ·exact before_trans hb (h1 q hq)
    ·rename_i hb
     refine up_cons.2 ⟨fun q hq => ?_, up_fput h2⟩
     rcases mem_fput hq with rfl | hq
     ·exact before_total (fun e => hne e.symm) (by simpa using hb)
     ·exact h1 q hq
theorem fget_none_of {k : Key} : ∀ {l : List (Key × V)}, (∀ q ∈ l, q.1 ≠ k) → fget k l = none
 | [], _ => rfl
 | (y, u) :: r, h => by
   unfold fget
   rw [if_neg (h (y, u) List.mem_cons_self)]
   exact fget_none_of fun q hq => h q (List.mem_cons_of_mem _ hq)
theorem fget_mem {k : Key} {v : V} : ∀ {l : List (Key × V)}, fget k l = some v → (k, v) ∈ l
 | [], h => by cases h
 | (y, u) :: r, h => by
   unfold fget at h
   split at h
   ·rename_i e; injection h with h; subst e h; exact List.mem_cons_self
   ·exact List.mem_cons_of_mem _ (fget_mem h)
theorem fget_of_mem {k : Key} {v : V} : ∀ {l : List (Key × V)}, Up l → (k, v) ∈ l → fget k l = some v
 | (y, u) :: r, h, hm => by
   obtain ⟨h1, h2⟩ := up_cons.1 h
   unfold fget
   rcases List.mem_cons.1 hm with e | hm
   ·injection e with e1 e2; subst e1 e2; simp
   ·rw [if_neg (before_ne (h1 _ hm))]
    exact fget_of_mem h2 hm
theorem fget_fmap (g : V → U) (k : Key) : ∀ l : List (Key × V), fget k (fmap g l) = (fget k l).map g
 | [] => rfl
 | (y, u) :: r => by
   show (if y = k then some (g u) else fget k (fmap g r)) = (if y = k then some u else fget k r).map g
   split
   ·rfl
   ·exact fget_fmap g k r
theorem fput_fmap (g : V → U) (k : Key) (v : V) : ∀ l : List (Key × V), fmap g (fput k v l) = fput k (g v) (fmap g l)
 | [] => rfl
 | (y, u) :: r => by
   show fmap g (if y = k then (k, v) :: r else if bytesBefore k y = true then (k, v) :: (y, u) :: r else (y, u) :: fput k v r) = (if y = k then (k, g v) :: fmap g r else if bytesBefore k y = true then (k, g v) :: (y, g u) :: fmap g r else (y, g u) :: fput k (g v) (fmap g r))
   split
   ·rfl
   ·split
    ·rfl
    ·show (y, g u) :: fmap g (fput k v r) = _
     rw [fput_fmap g k v r]
theorem fdel_fmap (g : V → U) (k : Key) (l : List (Key × V)) : fmap g (fdel k l) = fdel k (fmap g l) := by
 unfold fmap fdel
 rw [List.filter_map]
 rfl
theorem fget_fput {k j : Key} {v : V} : ∀ {l : List (Key × V)}, fget j (fput k v l) = if j = k then some v else fget j l
 | [] => by unfold fput fget fget; by_cases h : k = j <;> simp [h]; intro e; exact absurd e.symm h
 | (y, u) :: r => by
   unfold fput
   by_cases h1 : y = k
   ·rw [if_pos h1]
    unfold fget
    subst h1
    by_cases h : y = j
    ·subst h; simp
    ·rw [if_neg h, if_neg (fun e => h e.symm), if_neg h]
   ·rw [if_neg h1]
    by_cases h2 : bytesBefore k y = true
    ·rw [if_pos h2]
     show (if k = j then some v else fget j ((y, u) :: r)) = _
     by_cases h : k = j
     ·subst h; simp
     ·rw [if_neg h, if_neg (fun e => h e.symm)]
    ·rw [if_neg h2]
     show (if y = j then some u else fget j (fput k v r)) = _
     rw [fget_fput, fget_cons]
     by_cases h : y = j
     ·subst h; rw [if_pos rfl, if_neg h1, if_pos rfl]
     ·rw [if_neg h, if_neg h]
theorem fget_fdel {k j : Key} : ∀ {l : List (Key × V)}, fget j (fdel k l) = if j = k then none else fget j l
 | [] => by unfold fdel fget; simp
 | (y, u) :: r => by
   have ih := fget_fdel (k := k) (j := j) (l := r)
   unfold fdel at ih ⊢
   rw [List.filter_cons]
   by_cases h1 : y = k
   ·subst h1
    simp only [bne_self_eq_false, Bool.false_eq_true, if_false, ih]
    conv => rhs; unfold fget
    by_cases h : j = y
    ·rw [if_pos h, if_pos h]
    ·rw [if_neg h, if_neg h, if_neg (fun e => h e.symm)]
   ·have : (y != k) = true := by simpa using h1
    simp only [this, if_true]
    unfold fget
    rw [ih]
    by_cases h : y = j
    ·subst h; rw [if_pos rfl, if_neg h1, if_pos rfl]
    ·rw [if_neg h, if_neg h]
/-- sorted lists that answer alike are one -/
theorem up_ext : ∀ {l m : List (Key × V)}, Up l → Up m → (∀ k, fget k l = fget k m) → l = m
 | [], [], _, _, _ => rfl
 | [], (y, u) :: r, _, _, h => by have := h y; simp [fget] at this
 | (y, u) :: r, [], _, _, h => by have := h y; simp [fget] at this
 | (y, u) :: r, (z, v) :: s, hl, hm, h => by
   obtain ⟨l1, l2⟩ := up_cons.1 hl
   obtain ⟨m1, m2⟩ := up_cons.1 hm
   have hyz : y = z := by
    by_cases e : y = z
    ·exact e
    ·exfalso
     have a1 : fget y ((z, v) :: s) = some u := by rw [← h y]; simp [fget]
     have a2 : fget z ((y, u) :: r) = some v := by rw [h z]; simp [fget]
     have b1 : (y, u) ∈ s := by
      rcases List.mem_cons.1 (fget_mem a1) with h' | h'
      ·injection h' with h' _; exact absurd h' e
      ·exact h'
     have b2 : (z, v) ∈ r := by
      rcases List.mem_cons.1 (fget_mem a2) with h' | h'
      ·injection h' with h' _; exact absurd h'.symm e
      ·exact h'
     have c1 := m1 _ b1
     have c2 := l1 _ b2
     simp only at c1 c2
     rw [before_anti c1] at c2
     cases c2
   subst hyz
   have huv : u = v := by have := h y; simpa [fget] using this
   subst huv
   congr 1
   refine up_ext l2 m2 fun k => ?_
   by_cases hk : y = k
   ·subst hk
    rw [fget_none_of (fun q hq e => before_ne (l1 q hq) e.symm), fget_none_of (fun q hq e => before_ne (m1 q hq) e.symm)]
   ·have := h k
    unfold fget at this
    rwa [if_neg hk, if_neg hk] at this
theorem length_fdel_le (k : Key) (l : List (Key × V)) : (fdel k l).length ≤ l.length := List.length_filter_le _ _
theorem fput_at {k : Key} {u v : V} : ∀ {l : List (Key × V)} {r}, Up (l ++ (k, u) :: r) → fput k v (l ++ (k, u) :: r) = l ++ (k, v) :: r
 | [], r, _ => by simp [fput]
 | (y, x) :: l, r, h => by
   have h' : Up ((y, x) :: (l ++ (k, u) :: r)) := h
   obtain ⟨h1, h2⟩ := up_cons.1 h'
   have hb : bytesBefore y k = true := h1 (k, u) (by simp)
   show fput k v ((y, x) :: (l ++ (k, u) :: r)) = _
   unfold fput
   rw [if_neg (before_ne hb), if_neg (by rw [before_anti hb]; simp), fput_at h2]
   rfl
theorem fget_at {k : Key} {u : V} {l r : List (Key × V)} (h : Up (l ++ (k, u) :: r)) : fget k (l ++ (k, u) :: r) = some u := fget_of_mem h (by simp)
theorem fdel_at {k : Key} {u : V} {l r : List (Key × V)} (h : Up (l ++ (k, u) :: r)) : fdel k (l ++ (k, u) :: r) = l ++ r := by
 have h1 : ∀ q ∈ l, q.1 ≠ k := fun q hq => before_ne ((List.pairwise_append.1 h).2.2 q hq (k, u) List.mem_cons_self)
 have h2 : ∀ q ∈ r, q.1 ≠ k := fun q hq e => before_ne ((up_cons.1 (List.pairwise_append.1 h).2.1).1 q hq) e.symm
 unfold fdel
 rw [List.filter_append, List.filter_cons]
 simp only [bne_self_eq_false, Bool.false_eq_true, if_false]
 rw [List.filter_eq_self.2 (fun q hq => by simpa using h1 q hq), List.filter_eq_self.2 (fun q hq => by simpa using h2 q hq)]

/-! as a map's datum -/
variable {H : Type}
def dmap (g : V → DataW H) (l : List (Key × V)) : DataW H := .map (l.map fun p => (Lit.string p.1, g p.2))
theorem sameKey_str (a b : Key) : (Lit.string a).sameKey (.string b) = decide (a = b) := by
 simp [Lit.sameKey]
 by_cases h : a = b <;> simp [h]
theorem dmap_at (g : V → DataW H) (l : List (Key × V)) (k : Key) (z : DataW H) : (dmap g l).atKey (.string k) z = match fget k l with | some v => g v | none => z := by
 unfold dmap DataW.atKey
 simp only
 induction l with
 | nil => rfl
 | cons p r ih =>
   obtain ⟨y, u⟩ := p
   simp only [List.map_cons, List.find?_cons, sameKey_str]
   unfold fget
   by_cases h : y = k
   ·simp [h]
   ·simp only [h, decide_false, if_false]
    exact ih
theorem dmap_has (g : V → DataW H) (l : List (Key × V)) (k : Key) : Maps.has (dmap g l) (.string k) = (fget k l).isSome := by
 unfold dmap Maps.has
 simp only
 induction l with
 | nil => rfl
 | cons p r ih =>
   obtain ⟨y, u⟩ := p
   simp only [List.map_cons, List.any_cons, sameKey_str]
   unfold fget
   by_cases h : y = k
   ·simp [h]
   ·simp only [h, decide_false, if_false, Bool.false_or]
    exact ih
theorem dmap_size (g : V → DataW H) (l : List (Key × V)) : Maps.size (dmap g l) = l.length := by simp [dmap, Maps.size]
theorem dmap_keys (g : V → DataW H) (l : List (Key × V)) : strKeys (dmap g l) = l.map (·.1) := by
 simp [dmap, strKeys, strOf, List.map_map, Function.comp_def]
theorem insert_rest (g : V → DataW H) (k : Key) (d : DataW H) {r : List (Key × V)} (h : ∀ q ∈ r, bytesBefore k q.1 = true) :
 DataW.insert (Lit.string k, d) ((r.map fun p => (Lit.string p.1, g p.2)).filter fun p => !p.1.sameKey (.string k)) = (Lit.string k, d) :: r.map fun p => (Lit.string p.1, g p.2) := by
 rw [List.filter_eq_self.2 (fun p hp => by
  obtain ⟨q, hq, rfl⟩ := List.mem_map.1 hp
  have := before_ne (h q hq)
  simp only [sameKey_str, Bool.not_eq_true', decide_eq_false_iff_not]
  exact fun e => this e.symm)]
 cases r with
 | nil => rfl
 | cons q r =>
   show (if bytesBefore k q.1 = true then _ else _) = _
   rw [if_pos (h q List.mem_cons_self)]
   rfl
theorem dmap_put (g : V → DataW H) {l : List (Key × V)} (hup : Up l) (k : Key) (v : V) : (dmap g l).put (.string k) (g v) = dmap g (fput k v l) := by
 unfold dmap DataW.put
 simp only
 congr 1
 induction l with
 | nil => rfl
 | cons p r ih =>
   obtain ⟨y, u⟩ := p
   obtain ⟨h1, h2⟩ := up_cons.1 hup
   simp only [List.map_cons, List.filter_cons, sameKey_str]
   unfold fput
   by_cases e : y = k
   ·subst e
    simp only [decide_true, Bool.not_true, Bool.false_eq_true, if_false, if_true, List.map_cons]
    exact insert_rest g y (g v) h1
   ·simp only [e, decide_false, Bool.not_false, if_true, if_false]
    by_cases hb : bytesBefore k y = true
    ·rw [if_pos hb]
     show (if bytesBefore k y = true then _ else _) = _
     rw [if_pos hb, List.filter_eq_self.2 (fun p hp => by
      obtain ⟨q, hq, rfl⟩ := List.mem_map.1 hp
      have := before_ne (before_trans hb (h1 q hq))
      simp only [sameKey_str, Bool.not_eq_true', decide_eq_false_iff_not]
      exact fun e => this e.symm)]
     rfl
    ·rw [if_neg hb]
     show (if bytesBefore k y = true then _ else _) = _
     rw [if_neg hb, ih h2]
     rfl
theorem dmap_del (g : V → DataW H) (l : List (Key × V)) (k : Key) : (dmap g l).del (.string k) = dmap g (fdel k l) := by
 unfold dmap DataW.del fdel
 simp only
 congr 1
 rw [List.filter_map]
 congr 1
/-- the sorted keys are the list's own -/
theorem sorted_names {l : List (Key × V)} (hup : Up l) {ss : List Key} (h : ss.Perm (l.map (·.1))) : ss.mergeSort leB = l.map (·.1) := by
 rw [mergeSort_of_perm h]
 refine List.mergeSort_of_pairwise ?_
 rw [List.pairwise_map]
 refine List.Pairwise.imp (fun {p q} hpq => ?_) hup
 show decide (p.1 ≤ q.1) = true
 rw [leB_eq, before_anti hpq]
 rfl
end
end Go.Proofs.YtkljkbeahdipfaaGreatDoor
/-
  The disk as plain values: what each change answers, and what is left.
-/
namespace Go.Proofs.YtkljkbeahdipfaaGreatDoor
structure FileM where
 b : List UInt8
 safe : Nat
 ever : Bool
structure DiskM where
 cap : Nat
 files : List (Key × FileM)
 fuse : Int
 lost : Bool
def FileM.whole (f : FileM) : Bool := f.ever && decide (f.safe = f.b.length)
def FileM.none_ : FileM := ⟨[], 0, false⟩
def used : List (Key × FileM) → Nat
 | [] => 0
 | q :: r => q.2.b.length + used r
def rightC (c : UInt8) : Bool := (decide (97 ≤ c.toNat) && decide (c.toNat ≤ 122)) || (decide (48 ≤ c.toNat) && decide (c.toNat ≤ 57)) || decide (c.toNat = 46)
def right (s : Key) : Bool := s.all rightC && decide (1 ≤ s.length) && decide (s.length ≤ 40)
def DiskM.room (d : DiskM) : Nat := d.cap - used d.files
def DiskM.burn (d : DiskM) : DiskM := { d with lost := decide (d.fuse = 0), fuse := if 0 < d.fuse then d.fuse - 1 else d.fuse }
/-- why nothing can be asked -/
def DiskM.gone (d : DiskM) : Int := if d.lost = true then 6 else 0
def halved (d : DiskM) (b : List UInt8) : List UInt8 := if d.fuse = 0 then b.take (b.length / 2) else b
def dAppend (d : DiskM) (k : Key) (b : List UInt8) : Int × DiskM :=
 if d.lost = true then (6, d) else if right k = false then (1, d) else if d.room < b.length then (4, d)
 else if d.fuse = 0 ∧ fget k d.files = none ∧ (halved d b).length = 0 then (6, d.burn)
 else (d.burn.gone, { d.burn with files := fput k { (fget k d.files).getD FileM.none_ with b := ((fget k d.files).getD FileM.none_).b ++ halved d b } d.files })
def dSync (d : DiskM) (k : Key) : Int × DiskM :=
 if d.lost = true then (6, d) else match fget k d.files with
 | none => (7, d)
 | some f => if d.fuse = 0 then (6, d.burn) else (0, { d.burn with files := fput k { f with safe := f.b.length, ever := true } d.files })
def dRename (d : DiskM) (a b : Key) : Int × DiskM :=
 if d.lost = true then (6, d) else if right b = false ∨ a = b then (1, d) else match fget a d.files with
 | none => (7, d)
 | some f => if f.whole = false then (10, d) else if d.fuse = 0 then (6, d.burn) else (0, { d.burn with files := fdel a (fput b f d.files) })
def dRemove (d : DiskM) (k : Key) : Int × DiskM :=
 if d.lost = true then (6, d) else match fget k d.files with
 | none => (7, d)
 | some _ => if d.fuse = 0 then (6, d.burn) else (0, { d.burn with files := fdel k d.files })
def dFuse (d : DiskM) (n : Int) : Int × DiskM :=
 if d.lost = true then (6, d) else if n < 0 then (1, d) else (0, { d with fuse := n })
/-- how much of a file's unsafe bytes is kept -/
def keepN (keep : List Int) (i n : Nat) : Nat := match keep[i % keep.length]? with
 | none => 0
 | some v => ((v.tmod n + n).tmod n).toNat
def cutF (keep : List Int) (i : Nat) (f : FileM) : FileM :=
 let b := f.b.take (f.safe + keepN keep i (f.b.length - f.safe + 1))
 ⟨b, b.length, true⟩
def restartL (keep : List Int) : Nat → List (Key × FileM) → List (Key × FileM)
 | _, [] => []
 | i, q :: r => if q.2.whole = true then q :: restartL keep i r
  else if q.2.ever = false ∧ (cutF keep i q.2).b = [] then restartL keep (i + 1) r
  else (q.1, cutF keep i q.2) :: restartL keep (i + 1) r
/-- how many files a restart has looked at that weren't safe -/
def restartN : List (Key × FileM) → Nat
 | [] => 0
 | q :: r => if q.2.whole = true then restartN r else restartN r + 1
def dRestart (d : DiskM) (keep : List Int) : DiskM := ⟨d.cap, restartL keep 0 d.files, -1, false⟩

structure WFD (d : DiskM) : Prop where
 up : Up d.files
 room : used d.files ≤ d.cap
 cap : d.cap ≤ 4194304
 fuse0 : -1 ≤ d.fuse
 fuse1 : d.fuse ≤ 9223372036854775807
 each : ∀ q ∈ d.files, q.2.safe ≤ q.2.b.length ∧ q.1.length ≤ 40

theorem used_get {k : Key} {f : FileM} : ∀ {l : List (Key × FileM)}, fget k l = some f → f.b.length ≤ used l
 | (y, u) :: r, h => by
   unfold fget at h
   split at h
   ·injection h with h; subst h; show _ ≤ _ + used r; simp
   ·have := used_get h; show _ ≤ _ + used r; omega
theorem used_fput {k : Key} {v : FileM} : ∀ {l : List (Key × FileM)}, Up l → used (fput k v l) + ((fget k l).getD FileM.none_).b.length = used l + v.b.length
 | [], _ => by simp [fput, fget, used, FileM.none_]
 | (y, u) :: r, h => by
   obtain ⟨h1, h2⟩ := up_cons.1 h
   unfold fput fget
   by_cases e : y = k
   ·rw [if_pos e, if_pos e]; simp only [used, Option.getD_some]; omega
   ·rw [if_neg e, if_neg e]
    by_cases hb : bytesBefore k y = true
    ·rw [if_pos hb, fget_none_of (fun q hq e' => by have := h1 q hq; rw [e'] at this; rw [before_anti this] at hb; cases hb)]
     simp only [used, Option.getD_none, FileM.none_, List.length_nil]; omega
    ·rw [if_neg hb]
     have := used_fput (v := v) (k := k) h2
     simp only [used]
     omega
theorem used_fdel_le (k : Key) : ∀ l : List (Key × FileM), used (fdel k l) ≤ used l
 | [] => Nat.le_refl _
 | (y, u) :: r => by
   have ih := used_fdel_le k r
   unfold fdel at ih ⊢
   rw [List.filter_cons]
   split
   ·show _ + used _ ≤ _ + used r; omega
   ·show _ ≤ _ + used r; omega
theorem used_fdel_fput {a b : Key} {f : FileM} {l : List (Key × FileM)} (h : Up l) (ha : fget a l = some f) (hne : a ≠ b) : used (fdel a (fput b f l)) ≤ used l := by
 have e1 : fput a FileM.none_ (fdel a (fput b f l)) = fput a FileM.none_ (fput b f l) := by
  refine up_ext (up_fput (up_fdel (up_fput h) a)) (up_fput (up_fput h)) fun k => ?_
  rw [fget_fput, fget_fput, fget_fdel]
  by_cases hk : k = a <;> simp [hk]
 have u1 := used_fput (v := FileM.none_) (k := a) (up_fdel (up_fput (v := f) (k := b) h) a)
 have u2 := used_fput (v := FileM.none_) (k := a) (up_fput (v := f) (k := b) h)
 have u3 := used_fput (v := f) (k := b) h
 rw [e1] at u1
 rw [fget_fdel, if_pos rfl] at u1
 rw [fget_fput, if_neg hne, ha] at u2
 simp only [FileM.none_, Option.getD_none, Option.getD_some, List.length_nil] at u1 u2
 omega
theorem burn_files (d : DiskM) : d.burn.files = d.files := rfl
theorem burn_cap (d : DiskM) : d.burn.cap = d.cap := rfl
theorem WFD.burn {d : DiskM} (h : WFD d) : WFD d.burn := by
 refine ⟨h.up, h.room, h.cap, ?_, ?_, h.each⟩ <;> (have := h.fuse0; have := h.fuse1; unfold DiskM.burn; simp only; split <;> omega)
theorem right_len {k : Key} (h : right k = true) : k.length ≤ 40 := by
 unfold right at h; simp at h; exact h.2
theorem halved_le (d : DiskM) (b : List UInt8) : (halved d b).length ≤ b.length := by
 unfold halved; split
 ·rw [List.length_take]; omega
 ·exact Nat.le_refl _
theorem WFD.put {d : DiskM} (h : WFD d) {k : Key} {f : FileM} (hk : k.length ≤ 40) (hs : f.safe ≤ f.b.length) (hr : used d.files + f.b.length ≤ d.cap + ((fget k d.files).getD FileM.none_).b.length) : WFD { d with files := fput k f d.files } := by
 refine ⟨up_fput h.up, ?_, h.cap, h.fuse0, h.fuse1, fun q hq => ?_⟩
 ·have := used_fput (v := f) (k := k) h.up
  show used (fput k f d.files) ≤ d.cap
  omega
 ·rcases mem_fput hq with rfl | hq
  ·exact ⟨hs, hk⟩
  ·exact h.each q hq
theorem WFD.get {d : DiskM} (h : WFD d) {k : Key} {f : FileM} (hk : fget k d.files = some f) : f.safe ≤ f.b.length ∧ k.length ≤ 40 := h.each (k, f) (fget_mem hk)
theorem WFD.append {d : DiskM} (h : WFD d) (k : Key) (b : List UInt8) : WFD (dAppend d k b).2 := by
 unfold dAppend
 split
 ·exact h
 ·split
  ·exact h
  ·rename_i hr
   split
   ·exact h
   ·rename_i hroom
    split
    ·exact h.burn
    ·have hle := halved_le d b
     have hrm := h.room
     unfold DiskM.room at hroom
     refine WFD.put h.burn (right_len (by simpa using hr)) ?_ ?_
     ·cases hg : fget k d.files with
      | none => simp [FileM.none_]
      | some f => simp only [Option.getD_some, List.length_append]; have := (h.get hg).1; omega
     ·simp only [burn_files, burn_cap, List.length_append]
      omega
theorem WFD.sync {d : DiskM} (h : WFD d) (k : Key) : WFD (dSync d k).2 := by
 unfold dSync
 split
 ·exact h
 ·split
  ·exact h
  ·rename_i f hg
   split
   ·exact h.burn
   ·refine WFD.put h.burn (h.get hg).2 (Nat.le_refl _) ?_
    have hrm := h.room
    simp only [burn_files, burn_cap, hg, Option.getD_some]
    omega
theorem WFD.rename {d : DiskM} (h : WFD d) (a b : Key) : WFD (dRename d a b).2 := by
 unfold dRename
 split
 ·exact h
 ·split
  ·exact h
  ·rename_i hab
   simp only [not_or] at hab
   split
   ·exact h
   ·rename_i f hg
    split
    ·exact h
    ·split
     ·exact h.burn
     ·have hb := h.burn
      refine ⟨up_fdel (up_fput h.up) a, Nat.le_trans (used_fdel_fput h.up hg hab.2) h.room, h.cap, hb.fuse0, hb.fuse1, fun q hq => ?_⟩
      rcases mem_fput (List.mem_filter.1 hq).1 with rfl | hq
      ·exact ⟨(h.get hg).1, right_len (by simpa using hab.1)⟩
      ·exact h.each q hq
theorem WFD.del {d : DiskM} (h : WFD d) (k : Key) : WFD { d with files := fdel k d.files } :=
 ⟨up_fdel h.up k, Nat.le_trans (used_fdel_le k _) h.room, h.cap, h.fuse0, h.fuse1, fun q hq => h.each q (List.mem_filter.1 hq).1⟩
theorem WFD.remove {d : DiskM} (h : WFD d) (k : Key) : WFD (dRemove d k).2 := by
 unfold dRemove
 split
 ·exact h
 ·split
  ·exact h
  ·split
   ·exact h.burn
   ·exact WFD.del h.burn k
theorem WFD.fuse {d : DiskM} (h : WFD d) (n : Int) (hn : n ≤ 9223372036854775807) : WFD (dFuse d n).2 := by
 unfold dFuse
 split
 ·exact h
 ·split
  ·exact h
  ·exact ⟨h.up, h.room, h.cap, by show -1 ≤ n; omega, hn, h.each⟩
theorem keepN_lt (keep : List Int) (i n : Nat) (hn : 0 < n) : keepN keep i n < n := by
 unfold keepN
 split
 ·exact hn
 ·rename_i v _
  have h1 : (v.tmod n + n).tmod n < n := Int.tmod_lt_of_pos _ (by omega)
  have h2 : 0 ≤ (v.tmod n + n).tmod n := Int.tmod_nonneg _ (by have := Int.lt_tmod_of_pos v (show (0 : Int) < n by omega); omega)
  omega
theorem cutF_le (keep : List Int) (i : Nat) (f : FileM) : (cutF keep i f).b.length ≤ f.b.length := by
 show (f.b.take _).length ≤ _
 rw [List.length_take]
 omega
theorem restartL_mem (keep : List Int) : ∀ (l : List (Key × FileM)) (i : Nat) (q : Key × FileM), q ∈ restartL keep i l → (∃ f, (q.1, f) ∈ l) ∧ q.2.whole = true ∧ (∃ i f, (q.1, f) ∈ l ∧ (q.2 = f ∨ q.2 = cutF keep i f))
 | [], _, _, h => by cases h
 | (y, u) :: r, i, q, h => by
   have lift : ∀ i, q ∈ restartL keep i r → (∃ f, (q.1, f) ∈ (y, u) :: r) ∧ q.2.whole = true ∧ (∃ i f, (q.1, f) ∈ (y, u) :: r ∧ (q.2 = f ∨ q.2 = cutF keep i f)) := fun i h => by
    obtain ⟨⟨f, hf⟩, h2, i', f', h3, h4⟩ := restartL_mem keep r i q h
    exact ⟨⟨f, List.mem_cons_of_mem _ hf⟩, h2, i', f', List.mem_cons_of_mem _ h3, h4⟩
   unfold restartL at h
   split at h
   ·rename_i hw
    rcases List.mem_cons.1 h with rfl | h
    ·exact ⟨⟨u, List.mem_cons_self⟩, hw, 0, u, List.mem_cons_self, .inl rfl⟩
    ·exact lift _ h
   ·split at h
    ·exact lift _ h
    ·rcases List.mem_cons.1 h with rfl | h
     ·exact ⟨⟨u, List.mem_cons_self⟩, by simp [FileM.whole, cutF], i, u, List.mem_cons_self, .inr rfl⟩
     ·exact lift _ h
theorem up_restartL (keep : List Int) : ∀ (l : List (Key × FileM)) (i : Nat), Up l → Up (restartL keep i l)
 | [], _, _ => up_nil
 | (y, u) :: r, i, h => by
   obtain ⟨h1, h2⟩ := up_cons.1 h
   have hh : ∀ j v, Up ((y, v) :: restartL keep j r) := fun j v => up_cons.2 ⟨fun q hq => by
    obtain ⟨⟨f, hf⟩, _⟩ := restartL_mem keep r j q hq
    exact h1 (q.1, f) hf, up_restartL keep r j h2⟩
   unfold restartL
   split
   ·exact hh _ _
   ·split
    ·exact up_restartL keep r _ h2
    ·exact hh _ _
theorem used_restartL (keep : List Int) : ∀ (l : List (Key × FileM)) (i : Nat), used (restartL keep i l) ≤ used l
 | [], _ => Nat.le_refl _
 | (y, u) :: r, i => by
   unfold restartL
   split
   ·have := used_restartL keep r i; show _ + _ ≤ _ + used r; simp only at *; omega
   ·split
    ·have := used_restartL keep r (i + 1); show _ ≤ _ + used r; simp only at *; omega
    ·have := used_restartL keep r (i + 1); have := cutF_le keep i u; show _ + _ ≤ _ + used r; simp only at *; omega
theorem length_restartL (keep : List Int) : ∀ (l : List (Key × FileM)) (i : Nat), (restartL keep i l).length ≤ l.length
 | [], _ => Nat.le_refl _
 | (y, u) :: r, i => by
   unfold restartL
   have h1 := length_restartL keep r i
   have h2 := length_restartL keep r (i + 1)
   split
   ·simp only [List.length_cons]; omega
   ·split <;> simp only [List.length_cons] <;> omega
theorem WFD.restart {d : DiskM} (h : WFD d) (keep : List Int) : WFD (dRestart d keep) := by
 refine ⟨up_restartL keep _ _ h.up, Nat.le_trans (used_restartL keep _ _) h.room, h.cap, by show (-1 : Int) ≤ -1; omega, by show (-1 : Int) ≤ _; omega, fun q hq => ?_⟩
 obtain ⟨_, hw, i, f, hf, he⟩ := restartL_mem keep _ _ q hq
 have he2 := h.each _ hf
 refine ⟨?_, he2.2⟩
 rcases he with e | e
 ·rw [e]; exact he2.1
 ·rw [e]; exact Nat.le_refl _
end Go.Proofs.YtkljkbeahdipfaaGreatDoor
/-
  The disk in memory: its record, its map, its files' bytes.
-/
namespace Go.Proofs.YtkljkbeahdipfaaGreatDoor
open Go.RowKit Go.Maps
structure FV where
 m : FileM
 a : Option Addr
 c : Nat
def FV.val (v : FV) : Value := .agg #[.slice v.a v.m.b.length v.c, .int .i64 (v.m.safe : Nat), .bool v.m.ever]
def zeroF : Value := .agg #[.slice none 0 0, .int .i64 0, .bool false]
def optF : Option FV → Value
 | some v => v.val
 | none => zeroF
def heldR (v : Value) : Option (DataW Value × List MemPlace) := some (.held v, [])
def heldF (v : FV) : DataW Value := .held v.val
/-- but for two blocks nothing has turned -/
structure But (p m : Nat) (w w' : World) : Prop where
 os : w'.os = w.os
 tape : w'.tape = w.tape
 output : w'.output = w.output
 size : w.heap.size ≤ w'.heap.size
 block : ∀ i, i < w.heap.size → i ≠ p → i ≠ m → w'.heap[i]? = w.heap[i]?
section
variable {p m : Nat} {w w' w'' : World}
theorem But.refl (p m : Nat) (w : World) : But p m w w := ⟨rfl, rfl, rfl, Nat.le_refl _, fun _ _ _ _ => rfl⟩
theorem But.trans (h : But p m w w') (k : But p m w' w'') : But p m w w'' :=
 ⟨k.os.trans h.os, k.tape.trans h.tape, k.output.trans h.output, Nat.le_trans h.size k.size, fun i hi h1 h2 => (k.block i (Nat.lt_of_lt_of_le hi h.size) h1 h2).trans (h.block i hi h1 h2)⟩
theorem But.drew (h : But p m w w') : But p m w w'.drew := ⟨h.os, h.tape, h.output, h.size, h.block⟩
theorem But.below (h : But p m w w') (k : Below w'.heap.size w' w'') : But p m w w'' :=
 h.trans ⟨k.os, k.tape, k.output, k.size, fun i hi _ _ => k.block i hi⟩
theorem But.of_below (k : Below w.heap.size w w') : But p m w w' := (But.refl p m w).below k
theorem But.alloc (h : But p m w w') (o : Obj) : But p m w (w'.alloc o) := h.below ((Below.refl _ _).alloc (Nat.le_refl _) o)
theorem But.set_ (h : But p m w w') (i : Nat) (u : Value) : But p m w (w'.setCell ⟨p, i, none⟩ u) :=
 h.trans ⟨rfl, rfl, rfl, by simp [World.setCell], fun j _ h1 _ => Below.heap_setCell _ _ _ _ h1⟩
theorem But.setNew (h : But p m w w') {q : Addr} (hq : w.heap.size ≤ q.block) (u : Value) : But p m w (w'.setCell q u) :=
 ⟨h.os, h.tape, h.output, by simpa [World.setCell] using h.size, fun j hj h1 h2 => (Below.heap_setCell _ _ _ _ (by omega)).trans (h.block j hj h1 h2)⟩
theorem But.turned (h : But p m w w') (k : w'.mapTurned w'' m) : But p m w w'' := by
 have g := k.grown
 exact h.trans ⟨g.os, g.tape, g.output, g.size, fun i hi _ h2 => g.block i hi (fun e => h2 (by injection e))⟩
theorem But.toBelow (h : But p m w w') {B : Nat} (hB : B ≤ w.heap.size) (hp : B ≤ p) (hm : B ≤ m) : Below B w w' :=
 ⟨h.os, h.tape, h.output, h.size, fun i hi => h.block i (by omega) (by omega) (by omega)⟩
end

/-- the disk's record -/
def dcells (mb cap : Nat) (fuse : Int) (lost : Bool) : Array Value := #[.int .i64 (cap : Nat), .map (some mb), .int .i64 fuse, .bool lost]
structure DiskAt (w : World) (p mb : Nat) (es : List (Key × FV)) (cap : Nat) (fuse : Int) (lost : Bool) : Prop where
 cells : Blk w p 100 (dcells mb cap fuse lost)
 map : w.ownsMap Tryz.prog 9 heldR mb es.length (dmap heldF es)
 up : Up es
 bytes : ∀ q ∈ es, Reads w w.heap.size 1 q.2.a q.2.m.b.length (u8s q.2.m.b) ∧ q.2.m.b.length ≤ q.2.c
def Disk (w : World) (p mb : Nat) (d : DiskM) : Prop := ∃ es, d.files = fmap FV.m es ∧ DiskAt w p mb es d.cap d.fuse d.lost

theorem string_key : Keyed Tryz.prog 9 := string_keyed Tryz.underlying9
theorem zero_file (w : World) : (zeroValue 103).run Tryz.prog w = .ok zeroF w := by kernel_rfl
theorem key_of (s : ByteArray) (hs : s.size ≤ maxLen) : keyOf Tryz.prog 9 (.string s) = some (.string s.data.toList) := Go.WideMaps.keyOf_string_mk Tryz.underlying9 hs

theorem u8_away {w : World} {p mb cap : Nat} {fuse : Int} {lost : Bool} {t : TypeId} (h : Blk w p t (dcells mb cap fuse lost)) {ad : Addr} {x : Int} (hc : w.cell? ad = some (.int .u8 x)) : ad.block ≠ p := by
 intro e
 unfold Blk at h
 unfold World.cell? at hc
 rw [e, h] at hc
 simp only [dcells] at hc
 split at hc
 ·cases hc
 ·rcases ho : ad.off with _ | _ | _ | _ | n <;> rw [ho] at hc <;> simp at hc
theorem map_away {w : World} {mb n : Nat} {D : DataW Value} {P : Program} {k : TypeId} {R : Value → Option (DataW Value × List MemPlace)} (h : w.ownsMap P k R mb n D) {ad : Addr} {x : Value} (hc : w.cell? ad = some x) : ad.block ≠ mb := by
 intro e
 obtain ⟨es, clock, hb, _⟩ := h
 unfold World.cell? at hc
 rw [e, hb] at hc
 cases hc
theorem blk_away {w : World} {mb n p : Nat} {D : DataW Value} {P : Program} {k t : TypeId} {R : Value → Option (DataW Value × List MemPlace)} (h : w.ownsMap P k R mb n D) {cs : Array Value} (hc : Blk w p t cs) : p ≠ mb := by
 intro e
 obtain ⟨es, clock, hb, _⟩ := h
 unfold Blk at hc
 rw [e, hb] at hc
 cases hc
section
variable {w w' : World} {p mb cap : Nat} {es : List (Key × FV)} {fuse : Int} {lost : Bool}
theorem DiskAt.ne (h : DiskAt w p mb es cap fuse lost) : p ≠ mb := blk_away h.map h.cells
theorem DiskAt.reads_but (hd : DiskAt w p mb es cap fuse lost) (hb : But p mb w w') {A : Option Addr} {n : Nat} {l : List UInt8} (h : Reads w w.heap.size 1 A n (u8s l)) : Reads w' w'.heap.size 1 A n (u8s l) := by
 refine ⟨h.1, fun hn => ?_⟩
 obtain ⟨ad, rfl, hlt, hc⟩ := h.2 hn
 have hl : 0 < l.length := by have := h.1; rw [u8s_length] at this; omega
 have h0 := hc 0 _ (by rw [u8s_get, List.getElem?_eq_getElem hl]; rfl)
 have a1 := u8_away hd.cells h0
 have a2 := map_away hd.map h0
 rw [block_of_add] at a1 a2
 refine ⟨ad, rfl, Nat.lt_of_lt_of_le hlt hb.size, fun j u hu => ?_⟩
 have hk := hb.block ad.block hlt a1 a2
 exact (World.cell?_of_block (by rw [block_of_add]; exact hk)).trans (hc j u hu)
theorem DiskAt.below (h : DiskAt w p mb es cap fuse lost) (hb : Below w.heap.size w w') : DiskAt w' p mb es cap fuse lost := by
 refine ⟨h.cells.below hb h.cells.lt, ?_, h.up, fun x hx => ⟨((h.bytes x hx).1.below hb).more hb.size, (h.bytes x hx).2⟩⟩
 have hlt := h.map.lt
 obtain ⟨a, c, hh, r⟩ := h.map
 exact ⟨a, c, (hb.block mb hlt).trans hh, r⟩
/-- this one has turned -/
theorem DiskAt.turn {es' : List (Key × FV)} {cap' : Nat} {fuse' : Int} {lost' : Bool} {n : Nat} (hd : DiskAt w p mb es cap fuse lost) (hb : But p mb w w') (hc : Blk w' p 100 (dcells mb cap' fuse' lost'))
 (hm : w'.ownsMap Tryz.prog 9 heldR mb n (dmap heldF es')) (hup : Up es') (hnew : ∀ q ∈ es', q ∈ es ∨ Reads w' w'.heap.size 1 q.2.a q.2.m.b.length (u8s q.2.m.b) ∧ q.2.m.b.length ≤ q.2.c) : DiskAt w' p mb es' cap' fuse' lost' := by
 refine ⟨hc, ?_, hup, fun q hq => ?_⟩
 ·obtain ⟨a, c, hh, F, hs, hD⟩ := hm
  refine ⟨a, c, hh, F, ?_, hD⟩
  have e1 : Maps.size (dmap heldF es') = a.size := by rw [hD]; simp [Maps.size, length_sorted]
  rw [dmap_size] at e1
  omega
 ·rcases hnew q hq with h | h
  ·exact ⟨hd.reads_but hb (hd.bytes q h).1, (hd.bytes q h).2⟩
  ·exact h
end
/-! the map's operations -/
section
variable {w : World} {mb n : Nat} {es : List (Key × FV)}
theorem look_run (h : w.ownsMap Tryz.prog 9 heldR mb n (dmap heldF es)) (s : ByteArray) (hs : s.size ≤ maxLen) :
 (Instr.lookup 98 (.map (some mb)) (.string s) true).run Tryz.prog w = .ok (.tuple #[optF (fget s.data.toList es), .bool (fget s.data.toList es).isSome]) w := by
 obtain ⟨v, ps, hrun, hv⟩ := h.look_ok string_key Tryz.underlying98 (zero_file w) (zd := .held zeroF) (zp := []) rfl (key_of s hs)
 rw [hrun, dmap_has]
 rw [dmap_at] at hv
 have : v = optF (fget s.data.toList es) := by
  cases hg : fget s.data.toList es with
  | none => rw [hg] at hv; simp [heldR] at hv; rw [hv.1]; rfl
  | some f => rw [hg] at hv; simp [heldR, heldF] at hv; rw [hv.1]; rfl
 rw [this]
theorem look_run1 (h : w.ownsMap Tryz.prog 9 heldR mb n (dmap heldF es)) (s : ByteArray) (hs : s.size ≤ maxLen) :
 (Instr.lookup 98 (.map (some mb)) (.string s) false).run Tryz.prog w = .ok (optF (fget s.data.toList es)) w := by
 obtain ⟨v, ps, hrun, hv⟩ := h.lookup string_key Tryz.underlying98 (zero_file w) (zd := .held zeroF) (zp := []) rfl (key_of s hs)
 rw [hrun]
 rw [dmap_at] at hv
 have : v = optF (fget s.data.toList es) := by
  cases hg : fget s.data.toList es with
  | none => rw [hg] at hv; simp [heldR] at hv; rw [hv.1]; rfl
  | some f => rw [hg] at hv; simp [heldR, heldF] at hv; rw [hv.1]; rfl
 rw [this]
theorem store_run (h : w.ownsMap Tryz.prog 9 heldR mb n (dmap heldF es)) (hup : Up es) (hn : n < maxLen) (s : ByteArray) (hs : s.size ≤ maxLen) (v : FV) :
 ∃ w', (Instr.mapUpdate 98 (.map (some mb)) (.string s) v.val).run Tryz.prog w = .ok () w' ∧ w'.ownsMap Tryz.prog 9 heldR mb (n + 1) (dmap heldF (fput s.data.toList v es)) ∧ w.mapTurned w' mb := by
 obtain ⟨w', h1, h2, h3⟩ := h.store string_key Tryz.underlying98 hn (key_of s hs) (val := v.val) (d := heldF v) (ps := []) rfl
 rw [dmap_put heldF hup] at h2
 exact ⟨w', h1, h2, h3⟩
theorem drop_run (h : w.ownsMap Tryz.prog 9 heldR mb n (dmap heldF es)) (s : ByteArray) (hs : s.size ≤ maxLen) (ty : TypeId) :
 ∃ w', (Builtin.delete_ #[98, 9] ty #[.map (some mb), .string s]).run Tryz.prog w = .ok (.tuple #[]) w' ∧ w'.ownsMap Tryz.prog 9 heldR mb n (dmap heldF (fdel s.data.toList es)) ∧ w.mapTurned w' mb := by
 obtain ⟨w', h1, h2, h3⟩ := h.drop string_key Tryz.underlying98 (key_of s hs) ty
 rw [dmap_del heldF] at h2
 exact ⟨w', h1, h2, h3⟩
end
end Go.Proofs.YtkljkbeahdipfaaGreatDoor
/-
  Walks of the disk's small functions.
-/
namespace Go.Proofs.YtkljkbeahdipfaaGreatDoor
open Go.RowKit Go.Maps
theorem whole_any (A : Option Addr) (n c : Nat) (s : Nat) (ev : Bool) (w : World) :
 Calls Tryz.prog 79 #[.agg #[.slice A n c, .int .i64 (s : Nat), .bool ev]] w fun e w' => e = .returned (.bool (ev && decide (s = n))) ∧ Below w.heap.size w w' := by
 cases ev with
 | false =>
   go_enter Tryz.func79, Tryz.ntmps79
   go_wp2
   go_ret
   exact ⟨rfl, (Below.refl _ _).alloc (Nat.le_refl _) _⟩
 | true =>
   by_cases h : s = n
   ·subst h
    go_enter Tryz.func79, Tryz.ntmps79
    go_wp2
    go_ret
    exact ⟨by simp, (Below.refl _ _).alloc (Nat.le_refl _) _⟩
   ·have h1 : ((s : Int) == (n : Int)) = false := by simp; omega
    go_enter Tryz.func79, Tryz.ntmps79
    go_wp2
    go_ret
    exact ⟨by simp [h], (Below.refl _ _).alloc (Nat.le_refl _) _⟩
section
variable {w : World} {p mb cap : Nat} {es : List (Key × FV)} {fuse : Int} {lost : Bool}
theorem DiskAt.c0 (h : DiskAt w p mb es cap fuse lost) : w.cell? ⟨p, 0, none⟩ = some (.int .i64 (cap : Nat)) := by rw [h.cells.cell]; rfl
theorem DiskAt.c1 (h : DiskAt w p mb es cap fuse lost) : w.cell? ⟨p, 1, none⟩ = some (.map (some mb)) := by rw [h.cells.cell]; rfl
theorem DiskAt.c2 (h : DiskAt w p mb es cap fuse lost) : w.cell? ⟨p, 2, none⟩ = some (.int .i64 fuse) := by rw [h.cells.cell]; rfl
theorem DiskAt.c3 (h : DiskAt w p mb es cap fuse lost) : w.cell? ⟨p, 3, none⟩ = some (.bool lost) := by rw [h.cells.cell]; rfl
end
theorem gone_at (p : Nat) (lost : Bool) (w : World) (c3 : w.cell? ⟨p, 3, none⟩ = some (.bool lost)) :
 Calls Tryz.prog 53 #[.pointer (some ⟨p, 0, none⟩)] w fun e w' => e = .returned (.int .i64 (if lost = true then 6 else 0)) ∧ w' = w := by
 cases lost
 all_goals
  go_enter Tryz.func53, Tryz.ntmps53
  go_wp2
  go_ret
  exact ⟨rfl, rfl⟩
theorem lost_at (p : Nat) (lost : Bool) (w : World) (c3 : w.cell? ⟨p, 3, none⟩ = some (.bool lost)) :
 Calls Tryz.prog 81 #[.pointer (some ⟨p, 0, none⟩)] w fun e w' => e = .returned (.bool lost) ∧ w' = w := by
 go_enter Tryz.func81, Tryz.ntmps81
 go_wp2
 go_ret
 exact ⟨rfl, rfl⟩
/-- the power may go -/
theorem burns_at {w : World} {p mb cap : Nat} {es : List (Key × FV)} {fuse : Int} {lost : Bool} (h : DiskAt w p mb es cap fuse lost) (h0 : -1 ≤ fuse) (h1 : fuse ≤ 9223372036854775807) :
 Calls Tryz.prog 139 #[.pointer (some ⟨p, 0, none⟩)] w fun e w' => e = .returned (.bool (decide (fuse = 0))) ∧ DiskAt w' p mb es cap (if 0 < fuse then fuse - 1 else fuse) (decide (fuse = 0)) ∧ But p mb w w' := by
 have c0 := h.c0
 have c2 := h.c2
 have c3 := h.c3
 have f0 := h.cells.frozen 2
 have f1 := h.cells.frozen 3
 have H := Lib.hid h
 have fin : ∀ (fu : Int) (l : Bool) (w' : World), Blk w' p 100 (dcells mb cap fu l) → But p mb w w' → w'.ownsMap Tryz.prog 9 heldR mb es.length (dmap heldF es) → DiskAt w' p mb es cap fu l := fun fu l w' hc hb hm => H.out.turn hb hc hm H.out.up fun q hq => .inl hq
 have hne := h.ne
 have FIN := Lib.hid fin
 clear fin h
 by_cases hz : fuse = 0
 ·subst hz
  go_enter Tryz.func139, Tryz.ntmps139
  go_wp2
  go_ret
  have hb := (But.refl p mb w).set_ 3 (.bool true)
  exact ⟨rfl, FIN.out _ _ _ (H.out.cells.set_ 3 (.bool true)) hb (H.out.map.setCell (fun e => hne e.symm) _), hb⟩
 ·have z1 : (fuse == 0) = false := by simp [hz]
  have z2 : (decide (fuse = 0)) = false := by simp [hz]
  rw [z2]
  by_cases hp : 0 < fuse
  ·rw [if_pos hp]
   go_enter Tryz.func139, Tryz.ntmps139
   go_wp2
   go_ret
   have hb := ((But.refl p mb w).set_ 3 (.bool false)).set_ 2 (.int .i64 (fuse - 1))
   exact ⟨rfl, FIN.out _ _ _ ((H.out.cells.set_ 3 (.bool false)).set_ 2 (.int .i64 (fuse - 1))) hb ((H.out.map.setCell (fun e => hne e.symm) _).setCell (fun e => hne e.symm) _), hb⟩
  ·rw [if_neg hp]
   have hp' : decide (0 < fuse) = false := by simp; omega
   go_enter Tryz.func139, Tryz.ntmps139
   go_wp2
   go_ret
   have hb := (But.refl p mb w).set_ 3 (.bool false)
   exact ⟨rfl, FIN.out _ _ _ (H.out.cells.set_ 3 (.bool false)) hb (H.out.map.setCell (fun e => hne e.symm) _), hb⟩
end Go.Proofs.YtkljkbeahdipfaaGreatDoor
/-
  Walks of the disk's functions that look up a file.
-/
namespace Go.Proofs.YtkljkbeahdipfaaGreatDoor
open Go.RowKit Go.Maps
theorem look_none {w : World} {mb n : Nat} {es : List (Key × FV)} (h : w.ownsMap Tryz.prog 9 heldR mb n (dmap heldF es)) (s : ByteArray) (hs : s.size ≤ maxLen) (hg : fget s.data.toList es = none) :
 (Instr.lookup 98 (.map (some mb)) (.string s) true).run Tryz.prog w = .ok (.tuple #[.agg #[.slice none 0 0, .int .i64 0, .bool false], .bool false]) w := by
 rw [look_run h s hs, hg]; rfl
theorem look_some {w : World} {mb n : Nat} {es : List (Key × FV)} (h : w.ownsMap Tryz.prog 9 heldR mb n (dmap heldF es)) (s : ByteArray) (hs : s.size ≤ maxLen) {b : List UInt8} {sf : Nat} {ev : Bool} {A : Option Addr} {c : Nat} (hg : fget s.data.toList es = some ⟨⟨b, sf, ev⟩, A, c⟩) :
 (Instr.lookup 98 (.map (some mb)) (.string s) true).run Tryz.prog w = .ok (.tuple #[.agg #[.slice A b.length c, .int .i64 (sf : Nat), .bool ev], .bool true]) w := by
 rw [look_run h s hs, hg]; rfl
theorem look1_some {w : World} {mb n : Nat} {es : List (Key × FV)} (h : w.ownsMap Tryz.prog 9 heldR mb n (dmap heldF es)) (s : ByteArray) (hs : s.size ≤ maxLen) {b : List UInt8} {sf : Nat} {ev : Bool} {A : Option Addr} {c : Nat} (hg : fget s.data.toList es = some ⟨⟨b, sf, ev⟩, A, c⟩) :
 (Instr.lookup 98 (.map (some mb)) (.string s) false).run Tryz.prog w = .ok (.agg #[.slice A b.length c, .int .i64 (sf : Nat), .bool ev]) w := by
 rw [look_run1 h s hs, hg]; rfl
set_option maxRecDepth 100000 in
theorem there_at {w : World} {p mb cap : Nat} {es : List (Key × FV)} {fuse : Int} {lost : Bool} (h : DiskAt w p mb es cap fuse lost) (s : ByteArray) (hs : s.size ≤ maxLen) :
 Calls Tryz.prog 80 #[.pointer (some ⟨p, 0, none⟩), .string s] w fun e w' => e = .returned (.int .i64 (if lost = true then 6 else if (fget s.data.toList es).isSome = true then 0 else 7)) ∧ Below w.heap.size w w' := by
 have c1 := h.c1
 have Hg := Lib.hid (gone_at p lost w h.c3)
 cases lost with
 | true =>
   clear h
   go_enter Tryz.func80, Tryz.ntmps80
   go_wp2_with fail
   refine Hg.out.mono ?_
   rintro e w1 ⟨rfl, rfl⟩
   go_wp2
   go_ret
   exact ⟨rfl, Below.refl _ _⟩
 | false =>
   cases hg : fget s.data.toList es with
   | none =>
     have hl := look_none h.map s hs hg
     clear h hg
     go_enter Tryz.func80, Tryz.ntmps80
     go_wp2_with fail
     refine Hg.out.mono ?_
     rintro e w1 ⟨rfl, rfl⟩
     go_wp2
     go_ret
     exact ⟨rfl, by repeat (first | exact Below.refl _ _ | refine Below.setCell ?_ (by simp) _ | refine Below.alloc ?_ (by simp) _)⟩
   | some f =>
     obtain ⟨⟨b, sf, ev⟩, A, c⟩ := f
     have hl := look_some h.map s hs hg
     clear h hg
     go_enter Tryz.func80, Tryz.ntmps80
     go_wp2_with fail
     refine Hg.out.mono ?_
     rintro e w1 ⟨rfl, rfl⟩
     go_wp2
     go_ret
     exact ⟨rfl, by repeat (first | exact Below.refl _ _ | refine Below.setCell ?_ (by simp) _ | refine Below.alloc ?_ (by simp) _)⟩
theorem new_at (n : Nat) (hn : n ≤ 4194304) (w : World) : Calls Tryz.prog 16 #[.int .i64 (n : Nat)] w fun e w' => ∃ p mb, e = .returned (.tuple #[.pointer (some ⟨p, 0, none⟩), .int .i64 0]) ∧ DiskAt w' p mb [] n (-1) false ∧ w.heap.size ≤ p ∧ w.heap.size ≤ mb ∧ Below w.heap.size w w' := by
 have hmm := @run_makeMap Tryz.prog
 have h1 : decide ((n : Int) < 0) = false := by simp
 have h2 : decide ((n : Int) > 4194304) = false := by simp; omega
 go_enter Tryz.func16, Tryz.ntmps16
 go_wp2
 go_ret2
 refine ⟨w.heap.size + 1, w.heap.size, by simp,  ⟨?_, ?_, up_nil, fun q hq => by cases hq⟩, by omega, by omega, ((Below.refl _ _).alloc (by simp) _).alloc (by simp) _⟩
 ·have hk := Blk.new (w.alloc (.map #[] 0)) 100 (dcells w.heap.size n (-1) false)
  rw [World.size_alloc] at hk
  exact hk
 ·exact (World.ownsMap_made w _ _ _).alloc _
end Go.Proofs.YtkljkbeahdipfaaGreatDoor
/-
  Walks of the disk's changes: Fuse, Remove, Lose, Sync.
-/
namespace Go.Proofs.YtkljkbeahdipfaaGreatDoor
open Go.RowKit Go.Maps
theorem fget_m (k : Key) (es : List (Key × FV)) : fget k (fmap FV.m es) = (fget k es).map FV.m := fget_fmap FV.m k es
set_option maxRecDepth 100000 in
theorem fuse_at {w : World} {p mb : Nat} {d : DiskM} (h : Disk w p mb d) (n : Int) :
 Calls Tryz.prog 27 #[.pointer (some ⟨p, 0, none⟩), .int .i64 n] w fun e w' => e = .returned (.int .i64 (dFuse d n).1) ∧ Disk w' p mb (dFuse d n).2 ∧ But p mb w w' := by
 obtain ⟨cap, files, fuse, lost⟩ := d
 obtain ⟨es, hf, h⟩ := h
 obtain rfl : files = fmap FV.m es := hf
 have Hg := Lib.hid (gone_at p lost w h.c3)
 have H := Lib.hid h
 have c2 := h.c2
 have f2 := h.cells.frozen 2
 have hne := h.ne
 unfold dFuse
 cases lost with
 | true =>
   clear h
   go_enter Tryz.func27, Tryz.ntmps27
   go_wp2_with fail
   refine Hg.out.mono ?_
   rintro e w1 ⟨rfl, rfl⟩
   go_wp2
   go_ret
   exact ⟨rfl, ⟨es, rfl, H.out⟩, But.refl _ _ _⟩
 | false =>
   simp only [Bool.false_eq_true, if_false] at *
   by_cases hn : n < 0
   ·have hn' : decide (n < 0) = true := by simp [hn]
    rw [if_pos hn]
    clear h
    go_enter Tryz.func27, Tryz.ntmps27
    go_wp2_with fail
    refine Hg.out.mono ?_
    rintro e w1 ⟨rfl, rfl⟩
    go_wp2
    go_ret
    exact ⟨rfl, ⟨es, rfl, H.out⟩, But.refl _ _ _⟩
   ·have hn' : decide (n < 0) = false := by simp; omega
    rw [if_neg hn]
    clear h
    go_enter Tryz.func27, Tryz.ntmps27
    go_wp2_with fail
    refine Hg.out.mono ?_
    rintro e w1 ⟨rfl, rfl⟩
    go_wp2
    go_ret
    have hb := (But.refl p mb w1).set_ 2 (.int .i64 n)
    exact ⟨rfl, ⟨es, rfl, H.out.turn hb (H.out.cells.set_ 2 _) (H.out.map.setCell (fun e => hne e.symm) _) H.out.up fun q hq => .inl hq⟩, hb⟩
/-- a file is taken away -/
theorem DiskAt.drop {w w' : World} {p mb cap : Nat} {es : List (Key × FV)} {fuse : Int} {lost : Bool} (h : DiskAt w p mb es cap fuse lost) (k : Key) {n : Nat} (hm : w'.ownsMap Tryz.prog 9 heldR mb n (dmap heldF (fdel k es))) (ht : w.mapTurned w' mb) :
 DiskAt w' p mb (fdel k es) cap fuse lost ∧ But p mb w w' := by
 have hb := (But.refl p mb w).turned ht
 refine ⟨h.turn hb ?_ hm (up_fdel h.up k) fun q hq => .inl (List.mem_filter.1 hq).1, hb⟩
 exact h.cells.grown ht.grown (fun e => h.ne (by injection e))
end Go.Proofs.YtkljkbeahdipfaaGreatDoor
/-
  Walks of the disk's changes: Remove, Sync.
-/
namespace Go.Proofs.YtkljkbeahdipfaaGreatDoor
open Go.RowKit Go.Maps
set_option maxRecDepth 100000 in
theorem remove_at {w : World} {p mb : Nat} {d : DiskM} (h : Disk w p mb d) (hf : WFD d) (s : ByteArray) (hs : s.size ≤ maxLen) :
 Calls Tryz.prog 74 #[.pointer (some ⟨p, 0, none⟩), .string s] w fun e w' => e = .returned (.int .i64 (dRemove d s.data.toList).1) ∧ Disk w' p mb (dRemove d s.data.toList).2 ∧ But p mb w w' := by
 have hf0 := hf.fuse0
 have hf1 := hf.fuse1
 clear hf
 obtain ⟨cap, files, fuse, lost⟩ := d
 obtain ⟨es, hf, h⟩ := h
 obtain rfl : files = fmap FV.m es := hf
 have Ht := Lib.hid (there_at h s hs)
 have H := Lib.hid h
 unfold dRemove
 simp only [fget_m] at hf0 hf1 ⊢
 cases lost with
 | true =>
   clear h
   go_enter Tryz.func74, Tryz.ntmps74
   go_wp2_with fail
   refine Ht.out.mono ?_
   rintro e w1 ⟨rfl, hb⟩
   go_wp2
   go_ret
   exact ⟨rfl, ⟨es, rfl, H.out.below hb⟩, But.of_below hb⟩
 | false =>
   cases hg : fget s.data.toList es with
   | none =>
     rw [hg] at Ht
     clear h hg
     go_enter Tryz.func74, Tryz.ntmps74
     go_wp2_with fail
     refine Ht.out.mono ?_
     rintro e w1 ⟨rfl, hb⟩
     go_wp2
     go_ret
     exact ⟨rfl, ⟨es, rfl, H.out.below hb⟩, But.of_below hb⟩
   | some f =>
     rw [hg] at Ht
     clear h hg
     go_enter Tryz.func74, Tryz.ntmps74
     go_wp2_with fail
     refine Ht.out.mono ?_
     rintro e w1 ⟨rfl, hb⟩
     have HB := Lib.hid hb
     have Hu := Lib.hid (burns_at (H.out.below hb) hf0 hf1)
     clear hb
     go_wp2_with fail
     refine Hu.out.mono ?_
     rintro e w2 ⟨rfl, h2, hb2⟩
     have HB2 := Lib.hid ((But.of_below HB.out).trans hb2)
     by_cases hz : fuse = 0
     ·have H2 := Lib.hid h2
      have hd : decide (fuse = 0) = true := by simp [hz]
      rw [hd] at H2 ⊢
      clear h2 hb2 HB
      go_wp2
      go_ret
      subst hz
      exact ⟨rfl, ⟨es, rfl, H2.out⟩, HB2.out⟩
     ·have hd : decide (fuse = 0) = false := by simp [hz]
      have c1 := h2.c1
      obtain ⟨w3, hrun, hm, ht⟩ := drop_run h2.map s hs 0
      obtain ⟨hdr, hb3⟩ := h2.drop s.data.toList hm ht
      have Hd := Lib.hid hdr
      have Hb := Lib.hid (HB2.out.trans hb3)
      rw [hd] at Hd ⊢
      clear h2 hb2 HB hm ht hdr hb3
      go_wp2
      go_ret
      exact ⟨rfl, ⟨_, (fdel_fmap FV.m _ es).symm, by show DiskAt _ _ _ _ _ _ (decide (fuse = 0)); rw [hd]; exact Hd.out⟩, Hb.out⟩
/-- a file is put -/
theorem DiskAt.store {w w1 w' : World} {p mb cap cap0 : Nat} {es : List (Key × FV)} {fuse fuse0 : Int} {lost lost0 : Bool} (h : DiskAt w p mb es cap0 fuse0 lost0) (hw : But p mb w w1) (hc : Blk w1 p 100 (dcells mb cap fuse lost)) (k : Key) (v : FV) {n : Nat} (hm : w'.ownsMap Tryz.prog 9 heldR mb n (dmap heldF (fput k v es))) (ht : w1.mapTurned w' mb)
 (hv : Reads w' w'.heap.size 1 v.a v.m.b.length (u8s v.m.b) ∧ v.m.b.length ≤ v.c) :
 DiskAt w' p mb (fput k v es) cap fuse lost ∧ But p mb w w' := by
 have hb := hw.turned ht
 refine ⟨h.turn hb ?_ hm (up_fput h.up) fun q hq => ?_, hb⟩
 ·exact hc.grown ht.grown (fun e => h.ne (by injection e))
 ·rcases mem_fput hq with rfl | hq
  ·exact .inr hv
  ·exact .inl hq
theorem store_some {w : World} {mb n : Nat} {es : List (Key × FV)} (h : w.ownsMap Tryz.prog 9 heldR mb n (dmap heldF es)) (hup : Up es) (hn : n < maxLen) (s : ByteArray) (hs : s.size ≤ maxLen) (b : List UInt8) (sf : Nat) (ev : Bool) (A : Option Addr) (c : Nat) :
 ∃ w', (Instr.mapUpdate 98 (.map (some mb)) (.string s) (.agg #[.slice A b.length c, .int .i64 (sf : Nat), .bool ev])).run Tryz.prog w = .ok () w' ∧ w'.ownsMap Tryz.prog 9 heldR mb (n + 1) (dmap heldF (fput s.data.toList ⟨⟨b, sf, ev⟩, A, c⟩ es)) ∧ w.mapTurned w' mb :=
 store_run h hup hn s hs ⟨⟨b, sf, ev⟩, A, c⟩
set_option maxRecDepth 100000 in
theorem sync_at {w : World} {p mb : Nat} {d : DiskM} (h : Disk w p mb d) (hf : WFD d) (hN : d.files.length < 1000000) (s : ByteArray) (hs : s.size ≤ maxLen) :
 Calls Tryz.prog 76 #[.pointer (some ⟨p, 0, none⟩), .string s] w fun e w' => e = .returned (.int .i64 (dSync d s.data.toList).1) ∧ Disk w' p mb (dSync d s.data.toList).2 ∧ But p mb w w' := by
 have hf0 := hf.fuse0
 have hf1 := hf.fuse1
 clear hf
 obtain ⟨cap, files, fuse, lost⟩ := d
 obtain ⟨es, hf, h⟩ := h
 obtain rfl : files = fmap FV.m es := hf
 have hN' : es.length < 1000000 := by simpa [fmap] using hN
 clear hN
 have Ht := Lib.hid (there_at h s hs)
 have H := Lib.hid h
 unfold dSync
 simp only [fget_m] at hf0 hf1 ⊢
 cases lost with
 | true =>
   clear h
   go_enter Tryz.func76, Tryz.ntmps76
   go_wp2_with fail
   refine Ht.out.mono ?_
   rintro e w1 ⟨rfl, hb⟩
   go_wp2
   go_ret
   exact ⟨rfl, ⟨es, rfl, H.out.below hb⟩, But.of_below hb⟩
 | false =>
   cases hg : fget s.data.toList es with
   | none =>
     rw [hg] at Ht
     clear h hg
     go_enter Tryz.func76, Tryz.ntmps76
     go_wp2_with fail
     refine Ht.out.mono ?_
     rintro e w1 ⟨rfl, hb⟩
     go_wp2
     go_ret
     exact ⟨rfl, ⟨es, rfl, H.out.below hb⟩, But.of_below hb⟩
   | some f =>
     obtain ⟨⟨b, sf, ev⟩, A, c⟩ := f
     rw [hg] at Ht
     have Hg := Lib.hid hg
     clear h hg
     go_enter Tryz.func76, Tryz.ntmps76
     go_wp2_with fail
     refine Ht.out.mono ?_
     rintro e w1 ⟨rfl, hb⟩
     have HB := Lib.hid hb
     have Hu := Lib.hid (burns_at (H.out.below hb) hf0 hf1)
     clear hb
     go_wp2_with fail
     refine Hu.out.mono ?_
     rintro e w2 ⟨rfl, h2, hb2⟩
     have HB2 := Lib.hid ((But.of_below HB.out).trans hb2)
     by_cases hz : fuse = 0
     ·have H2 := Lib.hid h2
      have hd : decide (fuse = 0) = true := by simp [hz]
      rw [hd] at H2 ⊢
      clear h2 hb2 HB
      go_wp2
      go_ret
      subst hz
      exact ⟨rfl, ⟨es, rfl, H2.out⟩, HB2.out⟩
     ·have hd : decide (fuse = 0) = false := by simp [hz]
      have c1 := h2.c1
      have H2 := Lib.hid h2
      have hl := look1_some h2.map s hs Hg.out
      rw [hd] at H2 ⊢
      clear h2 hb2 HB
      obtain ⟨w3, hrun, hm, ht⟩ := store_some (((H2.out.map.alloc (.cells #[.slice A b.length c, .int .i64 (b.length : Nat), .bool true] 103)).drew)) H2.out.up (by unfold maxLen; omega) s hs b b.length true A c
      have c1' := Lib.cell?_alloc_some (.cells #[.slice A b.length c, .int .i64 (b.length : Nat), .bool true] 103) c1
      have hb3 : But p mb w2 (w2.alloc (.cells #[.slice A b.length c, .int .i64 (b.length : Nat), .bool true] 103)).drew := ((But.refl _ _ _).alloc _).drew
      have hk := H2.out.bytes _ (fget_mem Hg.out)
      obtain ⟨hst, hbt⟩ := H2.out.store hb3 ((H2.out.cells.alloc _).drew) s.data.toList ⟨⟨b, b.length, true⟩, A, c⟩ hm ht ⟨H2.out.reads_but (hb3.turned ht) hk.1, hk.2⟩
      have HS := Lib.hid hst
      have HT := Lib.hid (HB2.out.trans hbt)
      clear hm ht hst hbt hb3 hk
      go_wp2
      go_region
      go_wp2
      go_ret
      exact ⟨rfl, ⟨_, (fput_fmap FV.m _ ⟨⟨b, b.length, true⟩, A, c⟩ es).symm, by show DiskAt _ _ _ _ _ _ (decide (fuse = 0)); rw [hd]; exact HS.out⟩, HT.out⟩
end Go.Proofs.YtkljkbeahdipfaaGreatDoor
/-
  Ranging over the disk's map.
-/
namespace Go.Proofs.YtkljkbeahdipfaaGreatDoor
open Go.RowKit Go.Maps
set_option maxRecDepth 100000 in
theorem wpList_next_files {w : World} {ops : Array Oper} {rest : List Oper} {o : Oper} {a : Act} {Q : Exit → Act → World → Prop} (hg : o.guard = none) (it : Operand) (hop : o.op = Op.next it false) (mb r n : Nat) (es : List (Key × FV)) (left : Lit → Bool) (cnt : Nat)
 (hit : a.eval it = .pointer (some ⟨r, 0, none⟩)) (h : w.ranges Tryz.prog 9 heldR mb r n (dmap heldF es) left cnt)
 (hDone : cnt = 0 → (∀ kl, left kl = false) → wpList Tryz.prog ops Q rest (a.put o.dst (.tuple #[.bool false])) w)
 (hMore : ∀ (x : Key) (v : FV) (w' : World) (cnt' : Nat), x.length ≤ maxLen → left (.string x) = true → fget x es = some v → w'.ranges Tryz.prog 9 heldR mb r n (dmap heldF es) (fun z => left z && !z.sameKey (.string x)) cnt' → cnt' < cnt →
  w.grownBy w' (some r) → w'.heap.size = w.heap.size → (Instr.entry (.pointer (some ⟨r, 0, none⟩))).run Tryz.prog w' = .ok (.tuple #[.string ⟨x.toArray⟩, .agg #[.slice v.a v.m.b.length v.c, .int .i64 (v.m.safe : Nat), .bool v.m.ever]]) w' →
  wpList Tryz.prog ops Q rest (a.put o.dst (.tuple #[.bool true, .string ⟨x.toArray⟩, .agg #[.slice v.a v.m.b.length v.c, .int .i64 (v.m.safe : Nat), .bool v.m.ever]])) w') :
 wpList Tryz.prog ops Q (o :: rest) a w := by
 refine wpList_next_ranges w hg it hop 9 string_key heldR encStr id (fun key kl hk => ?_) (fun v y _ => ⟨v, rfl⟩) mb r n _ left cnt hit h hDone ?_
 ·obtain ⟨x, hx, _⟩ := Maps.keyOf_str Tryz.underlying9 hk
  exact ⟨x, hx⟩
 ·intro x v kl y w' cnt' hkey hlk hv hat hrg hlt hgr hsz hen
  obtain ⟨x', ex, rfl, hxl⟩ := Maps.keyOf_str Tryz.underlying9 hkey
  obtain rfl : x = x' := encStr_inj ex
  obtain ⟨yd, yp⟩ := y
  have hv' : v = v ∧ yd = .held v := by
   simp only [heldR, id] at hv
   injection hv with hv
   injection hv with h1 h2
   exact ⟨rfl, h1.symm⟩
  have h1 := hat .nil
  rw [dmap_at] at h1
  cases hg : fget x es with
  | none => rw [hg] at h1; rw [hv'.2] at h1; cases h1
  | some fv =>
    rw [hg] at h1
    have e : v = FV.val fv := by rw [hv'.2] at h1; injection h1 with h1; exact h1.symm
    subst e
    exact hMore x fv w' cnt' hxl hlk hg hrg hlt hgr hsz hen
/-- the bytes of those files that have come -/
def usedL (left : Lit → Bool) : List (Key × FV) → Nat
 | [] => 0
 | q :: r => (if left (.string q.1) = true then 0 else q.2.m.b.length) + usedL left r
theorem usedL_start : ∀ {es all : List (Key × FV)}, (∀ q ∈ es, q ∈ all) → usedL (Maps.has (dmap heldF all)) es = 0
 | [], _, _ => rfl
 | q :: r, all, h => by
   have h1 : Maps.has (dmap heldF all) (.string q.1) = true := by
    rw [dmap_has]
    cases hg : fget q.1 all with
    | some v => rfl
    | none =>
      exfalso
      have hq := h q List.mem_cons_self
      clear h
      induction all with
      | nil => cases hq
      | cons z t ih =>
        rw [fget_cons] at hg
        split at hg
        ·cases hg
        ·rename_i hne
         rcases List.mem_cons.1 hq with e | hq
         ·subst e; exact hne rfl
         ·exact ih hg hq
   show (if Maps.has (dmap heldF all) (.string q.1) = true then 0 else q.2.m.b.length) + usedL _ r = 0
   rw [if_pos h1, usedL_start (fun z hz => h z (List.mem_cons_of_mem _ hz))]
theorem usedL_end {left : Lit → Bool} (h : ∀ kl, left kl = false) : ∀ es : List (Key × FV), usedL left es = used (fmap FV.m es)
 | [] => rfl
 | q :: r => by
   show (if left (.string q.1) = true then 0 else q.2.m.b.length) + usedL left r = q.2.m.b.length + used (fmap FV.m r)
   rw [h, if_neg (by simp), usedL_end h r]
theorem usedL_le (left : Lit → Bool) : ∀ es : List (Key × FV), usedL left es ≤ used (fmap FV.m es)
 | [] => Nat.le_refl _
 | q :: r => by
   show (if left (.string q.1) = true then 0 else q.2.m.b.length) + usedL left r ≤ q.2.m.b.length + used (fmap FV.m r)
   have := usedL_le left r
   split <;> omega
theorem usedL_out {left : Lit → Bool} {x : Key} : ∀ {es : List (Key × FV)}, (∀ q ∈ es, q.1 ≠ x) → usedL (fun z => left z && !z.sameKey (.string x)) es = usedL left es
 | [], _ => rfl
 | q :: r, h => by
   have h1 : (left (.string q.1) && !(Lit.string q.1).sameKey (.string x)) = left (.string q.1) := by
    rw [sameKey_str]; simp [h q List.mem_cons_self]
   show (if (left (.string q.1) && !(Lit.string q.1).sameKey (.string x)) = true then 0 else q.2.m.b.length) + usedL _ r = (if left (.string q.1) = true then 0 else q.2.m.b.length) + usedL left r
   rw [h1, usedL_out (fun z hz => h z (List.mem_cons_of_mem _ hz))]
theorem usedL_step {left : Lit → Bool} {x : Key} {v : FV} : ∀ {es : List (Key × FV)}, Up es → fget x es = some v → left (.string x) = true → usedL (fun z => left z && !z.sameKey (.string x)) es = usedL left es + v.m.b.length
 | q :: r, hup, hg, hl => by
   obtain ⟨h1, h2⟩ := up_cons.1 hup
   obtain ⟨y, u⟩ := q
   rw [fget_cons] at hg
   show (if (left (.string y) && !(Lit.string y).sameKey (.string x)) = true then 0 else u.m.b.length) + usedL _ r = (if left (.string y) = true then 0 else u.m.b.length) + usedL left r + v.m.b.length
   rw [sameKey_str]
   by_cases e : y = x
   ·rw [if_pos e] at hg
    injection hg with hg
    subst e hg
    rw [usedL_out (fun z hz e => before_ne (h1 z hz) e.symm)]
    simp [hl]; omega
   ·rw [if_neg e] at hg
    rw [usedL_step h2 hg hl]
    simp [e]; omega
end Go.Proofs.YtkljkbeahdipfaaGreatDoor
/-
  Walk of the disk's Room.
-/
namespace Go.Proofs.YtkljkbeahdipfaaGreatDoor
open Go.RowKit Go.Maps
set_option maxRecDepth 100000 in
theorem room_at {w : World} {p mb : Nat} {d : DiskM} (h : Disk w p mb d) (hf : WFD d) :
 Calls Tryz.prog 44 #[.pointer (some ⟨p, 0, none⟩)] w fun e w' => e = .returned (.int .i64 (d.room : Nat)) ∧ Below w.heap.size w w' := by
 obtain ⟨cap, files, fuse, lost⟩ := d
 obtain ⟨es, hfi, h⟩ := h
 obtain rfl : files = fmap FV.m es := hfi
 have hr : used (fmap FV.m es) ≤ cap := hf.room
 have hc : cap ≤ 4194304 := hf.cap
 have hup := h.up
 have c0 := h.c0
 have c1 := h.c1
 have hm := h.map
 have H := Lib.hid h
 have HU := Lib.hid hup
 clear h hf hup
 unfold DiskM.room
 go_enter Tryz.func44, Tryz.ntmps44
 go_wp2_with (first | (at_range; refine wpList_range_own _ rfl _ 98 rfl 9 103 string_key Tryz.underlying98 _ mb es.length (dmap heldF es) rfl hm ?_; intro w0 hrg0 hg0 hs0) | go_in)
 try go_frame
 have hb0 : Below w.heap.size w w0 := (Below.refl _ _).grown hg0 (Nat.le_refl _) (fun k hk => by cases hk)
 have HG := Lib.hid hrg0
 have HB := Lib.hid hb0
 clear hg0 hs0 hrg0 hb0
 go_loopw [3] (fun v wr => ∃ (left : Lit → Bool) (cnt : Nat), v = .int .i64 ((cap - usedL left es : Nat) : Int) ∧ Hid (wr.ranges Tryz.prog 9 heldR mb w.heap.size es.length (dmap heldF es) left cnt) ∧ Hid (Below w.heap.size w wr)) (fun _ wr => wr.rangeLeft mb w.heap.size)
 case atStart => exact ⟨_, _, by rw [usedL_start (fun _ h => h)]; rfl, HG, HB⟩
 case round =>
  obtain ⟨left, cnt, rfl, hrg, hb⟩ := hrel
  go_wp2_with (first | (at_next; refine wpList_next_files rfl _ rfl mb w.heap.size es.length es _ _ rfl hrg.out ?_ ?_) | go_in)
  ·intro _ hl0
   have e := usedL_end hl0 es
   rw [e]
   have HB1 := Lib.hid hb
   clear e hl0
   go_wp2
   go_ret
   exact ⟨rfl, hb.out⟩
  ·intro x ⟨⟨b, sf, ev⟩, A, c⟩ w1 cnt1 hxl hlx hget hrg1 hlt hg1 hs1 hen
   have hst := usedL_step HU.out hget hlx
   have hle := usedL_le (fun z => left z && !z.sameKey (.string x)) es
   have hbl := hb.out.size
   have hb1 := hb.out.grown hg1 hbl (fun k hk => by cases hk; exact Nat.le_refl _)
   have HB1 := Lib.hid hb1
   have HR1 := Lib.hid hrg1
   have HL := Lib.hid hlt
   have hn : (cap - usedL left es : Nat) = (cap - usedL left es : Nat) := rfl
   have hne : ((cap - usedL left es : Nat) : Int) - (b.length : Nat) = ((cap - usedL (fun z => left z && !z.sameKey (.string x)) es : Nat) : Int) := by simp only at hst; omega
   have hbd : (cap - usedL left es : Nat) ≤ 4194304 := by omega
   have hbd2 : b.length ≤ 4194304 := by simp only at hst; omega
   have HNE := Lib.hid hne
   clear hst hle hb1 hrg1 hlt hg1 hs1 hne hlx hget hn
   generalize (cap - usedL left es : Nat) = u at *
   go_wp2
   go_roundw
   case rel =>
    refine ⟨_, cnt1, by rw [HNE.out], HR1.out.alloc _, HB1.out.alloc ?_ _⟩
    exact HB1.out.size
   case measure =>
    rw [(HR1.out.alloc _).left_eq, hrg.out.left_eq]
    exact HL.out
end Go.Proofs.YtkljkbeahdipfaaGreatDoor
/-
  Walks: names that files may have; a name in the reference.
-/
namespace Go.Proofs.YtkljkbeahdipfaaGreatDoor
open Go.RowKit Go.Maps
theorem rightC_cases (c : UInt8) : (rightC c = true ∧ ((97 ≤ (c.toNat : Int) ∧ (c.toNat : Int) ≤ 122) ∨ (48 ≤ (c.toNat : Int) ∧ (c.toNat : Int) ≤ 57) ∨ (c.toNat : Int) = 46)) ∨
 (rightC c = false ∧ ((c.toNat : Int) < 46 ∨ (c.toNat : Int) = 47 ∨ (58 ≤ (c.toNat : Int) ∧ (c.toNat : Int) < 97) ∨ 122 < (c.toNat : Int))) := by
 unfold rightC
 by_cases h1 : 97 ≤ c.toNat ∧ c.toNat ≤ 122
 ·left; exact ⟨by simp [h1], .inl (by omega)⟩
 ·by_cases h2 : 48 ≤ c.toNat ∧ c.toNat ≤ 57
  ·left; exact ⟨by simp [h2], .inr (.inl (by omega))⟩
  ·by_cases h3 : c.toNat = 46
   ·left; exact ⟨by simp [h3], .inr (.inr (by omega))⟩
   ·right
    refine ⟨?_, by omega⟩
    have e1 : (decide (97 ≤ c.toNat) && decide (c.toNat ≤ 122)) = false := by simp; omega
    have e2 : (decide (48 ≤ c.toNat) && decide (c.toNat ≤ 57)) = false := by simp; omega
    rw [e1, e2]; simp [h3]
theorem right_bad (s : ByteArray) (k : Nat) (h : k < s.size) (hc : rightC s[k] = false) : right s.data.toList = false := by
 unfold right
 have : s.data.toList.all rightC = false := by
  rw [List.all_eq_false]
  exact ⟨s[k], by rw [show s[k] = s.data.toList[k]'(by simpa using h) from rfl]; exact List.getElem_mem _, by simp [hc]⟩
 rw [this]; rfl
theorem right_good (s : ByteArray) (h : (s.data.toList.take s.size).all rightC = true) : right s.data.toList = (decide (1 ≤ s.size) && decide (s.size ≤ 40)) := by
 have e : s.data.toList.length = s.size := by simp
 rw [List.take_of_length_le (by omega)] at h
 unfold right
 rw [h, e]; rfl
theorem dright_any (s : ByteArray) (hs : s.size ≤ 1000000000) (w : World) : Calls Tryz.prog 54 #[.string s] w fun e w' => e = .returned (.bool (right s.data.toList)) ∧ w' = w := by
 go_enter Tryz.func54, Tryz.ntmps54
 go_wp2
 go_loop [7] (fun i => ∃ k : Nat, i = .int .i64 k ∧ k ≤ s.size ∧ Hid ((s.data.toList.take k).all rightC = true)) (fun i => s.size - (intOf i).toNat)
 case atStart => exact ⟨0, rfl, by omega, rfl⟩
 case round =>
  obtain ⟨k, rfl, hk, hall⟩ := hrel
  by_cases hlt : k < s.size
  ·rcases rightC_cases s[k] with ⟨hc, hn⟩ | ⟨hc, hn⟩
   ·have Hc := Lib.hid hc
    clear hc
    rcases hn with ⟨hn, hn2⟩ | ⟨hn, hn2⟩ | hn
    all_goals
     go_wp2
     all_goals
      go_round
      case rel =>
       refine ⟨k + 1, by go_num, by omega, ?_⟩
       have h1 := hall.out
       show (s.data.toList.take (k + 1)).all rightC = true
       rw [take_snoc s k hlt]; simp only [List.all_append, h1, Bool.true_and, List.all_cons, List.all_nil, Bool.and_true]; exact Hc.out
      case measure => simp [intOf] <;> omega
   ·have Hv := Lib.hid (right_bad s k hlt hc)
    clear hc
    have hm1 : ((s[k].toNat : Int) == 46) = false := by simp; omega
    have hm2 : ((s[k].toNat : Int) != 46) = true := by simp; omega
    rcases hn with hn | hn | ⟨hn, hn2⟩ | hn
    all_goals
     go_wp2
     all_goals
      go_ret
      exact ⟨by rw [Hv.out]; rfl, rfl⟩
  ·obtain rfl : k = s.size := by omega
   have Hv := Lib.hid (right_good s hall.out)
   by_cases h1 : 1 ≤ s.size
   ·by_cases h2 : s.size ≤ 40
    ·go_wp2
     go_ret
     exact ⟨by rw [Hv.out]; simp [h1, h2] <;> omega, rfl⟩
    ·go_wp2
     go_ret
     exact ⟨by rw [Hv.out]; simp [h1, h2] <;> omega, rfl⟩
   ·go_wp2
    go_ret
    exact ⟨by rw [Hv.out]; simp [h1], rfl⟩
end Go.Proofs.YtkljkbeahdipfaaGreatDoor
/-
  The library's functions at the disk: bytes.Clone, slices.Sorted(maps.Keys(m)), slices.Grow, slices.Concat.
-/
namespace Go.Proofs.YtkljkbeahdipfaaGreatDoor
open Go.RowKit Go.Maps
theorem clone_any_DiskLib (A : Option Addr) (n c : Nat) (l : List UInt8) (w : World) (hl : l.length = n) (hn : n ≤ 1000000000) (hr : Reads w w.heap.size 1 A n (u8s l)) :
 Calls Tryz.prog 55 #[.slice A n c] w fun e w' => ∃ A' c', e = .returned (.slice A' n c') ∧ Reads w' w'.heap.size 1 A' n (u8s l) ∧ n ≤ c' ∧ Below w.heap.size w w' := by
 cases A with
 | none =>
   have h0 : n = 0 := by
    rcases Nat.eq_zero_or_pos n with h | h
    ·exact h
    ·obtain ⟨ad, h, _⟩ := hr.2 h; cases h
   subst h0
   refine (Tryz.bytes_Clone_nil 0 c w).mono ?_
   rintro e w' ⟨rfl, rfl⟩
   exact ⟨none, 0, rfl, hr, Nat.le_refl _, Below.refl _ _⟩
 | some a =>
   have hx : ∀ i, i < n → w.cell? (a.add i) = some (.int .u8 ((l.map fun b => ((b.toNat : Nat) : Int)).getD i 0)) := by
    intro i hi
    obtain ⟨ad, e, _, hc⟩ := hr.2 (by omega)
    injection e with e
    subst e
    have hil : i < l.length := by omega
    refine hc i _ ?_
    rw [u8s_get, List.getElem?_eq_getElem hil]
    simp [List.getD, hil]
   refine (Tryz.bytes_Clone_at a n c (l.map fun b => ((b.toNat : Nat) : Int)) w (by simpa using hl) (by omega) hx).mono ?_
   rintro e w' ⟨v, rfl, ho, _, hb⟩
   obtain ⟨A', c', rfl, h1, h2⟩ := own_reads ho
   refine ⟨A', c', rfl, ?_, h2, hb⟩
   rw [List.map_map] at h1
   exact h1
end Go.Proofs.YtkljkbeahdipfaaGreatDoor
/-
  Walk of slices.Concat of two rows of bytes.
-/
namespace Go.Proofs.YtkljkbeahdipfaaGreatDoor
open Go.RowKit Go.Maps
theorem grow_any (n : Nat) (hn : n ≤ 1000000000) (w : World) : Calls Tryz.prog 192 #[.slice none 0 0, .int .i64 (n : Nat)] w fun e w' => ∃ v, e = .returned v ∧ w'.ownsRow w.heap.size 5 1 v 0 [] ∧ Below w.heap.size w w' := by
 obtain ⟨i0, hi0, hz0, hz1, hz2⟩ := info_parts u8_info
 rcases Nat.eq_zero_or_pos n with h | h
 ·subst h
  refine (Any8.slices_Grow_room Tryz.grow192 none 0 0 0 w (Nat.le_refl _) (by omega) (by omega) (Nat.le_refl _)).mono ?_
  rintro e w' ⟨rfl, rfl⟩
  exact ⟨_, rfl, World.ownsRow_nil _ _ _ _, Below.refl _ _⟩
 ·refine (Any8.slices_Grow_grow Tryz.grow192 i0 (.int .u8 0) hi0 hz0 (by omega) none 0 0 n [] w (Nat.le_refl _) (by omega) (by rw [hz2]; omega) (by omega) (by simp) (fun _ => rfl) (fun a ha => by cases ha)).mono ?_
  rintro e w' ⟨rfl, rfl⟩
  rw [show Tryz.grow192_ren.t 25 = 5 from rfl]
  have hle := grownCap_le_maxLen w (0 + n) 0 5 (by unfold maxLen; omega)
  have hge := grownCap_ge w (0 + n) 0 5
  refine ⟨_, rfl, ?_, (Below.refl _ _).drew.alloc (Nat.le_refl _) _⟩
  refine World.ownsRow_made w.drew _ _ (Nat.le_refl _) hle ?_
  show (([].toArray ++ Builtin.zeroCells (Value.int IntKind.u8 0).cells (0 + n - 0)) ++ Builtin.zeroCells (Value.int IntKind.u8 0).cells (grownCap w (0 + n) 0 5 - (0 + n))).size = _
  simp only [Array.size_append, size_zeroCells]
  simp only [Value.cells, List.size_toArray, List.length_nil, List.length_cons]
  omega
set_option maxHeartbeats 1000000 in
set_option maxRecDepth 100000 in
theorem concat_two (g : Nat) (A1 A2 : Option Addr) (c1 c2 : Nat) (l1 l2 : List UInt8) (h1 : l1.length ≤ 100000000) (h2 : l2.length ≤ 100000000) (w : World) (hg : Blk w g 22 #[.slice A1 l1.length c1, .slice A2 l2.length c2])
 (r1 : Reads w w.heap.size 1 A1 l1.length (u8s l1)) (r2 : Reads w w.heap.size 1 A2 l2.length (u8s l2)) :
 Calls Tryz.prog 140 #[.slice (some ⟨g, 0, none⟩) 2 2] w fun e w' => ∃ A c, e = .returned (.slice A (l1 ++ l2).length c) ∧ Reads w' w'.heap.size 1 A (l1 ++ l2).length (u8s (l1 ++ l2)) ∧ (l1 ++ l2).length ≤ c ∧ Below w.heap.size w w' := by
 obtain ⟨i0, hi0, hz0, hz1, hz2⟩ := info_parts u8_info
 have k0 : w.cell? ⟨g, 0, none⟩ = some (.slice A1 l1.length c1) := by rw [hg.cell]; rfl
 have k1 : w.cell? ⟨g, 1, none⟩ = some (.slice A2 l2.length c2) := by rw [hg.cell]; rfl
 have HG := Lib.hid hg
 have R1 := Lib.hid r1
 have R2 := Lib.hid r2
 have HW := Lib.hid (grow_any (l1.length + l2.length) (by omega) w)
 rw [Int.natCast_add] at HW
 rw [List.length_append]
 have hll : (l1 ++ l2).length = l1.length + l2.length := List.length_append
 have HLL := Lib.hid hll
 clear hg r1 r2 hll
 generalize l1.length = n1 at *
 generalize l2.length = n2 at *
 go_enter Tryz.func140, Tryz.ntmps140
 go_wp2
 refine wp_loop_rounds 3 ?_
 rw [rounds_succ]
 go_wp2
 rw [rounds_succ]
 go_wp2
 rw [rounds_succ]
 go_wp2_with fail
 refine HW.out.mono ?_
 rintro e w1 ⟨v, rfl, ho, hb⟩
 have hs1 := hb.size
 have HB := Lib.hid hb
 have k0' : w1.cell? ⟨g, 0, none⟩ = some (.slice A1 n1 c1) := (hb.cell HG.out.lt).trans k0
 have k1' : w1.cell? ⟨g, 1, none⟩ = some (.slice A2 n2 c2) := (hb.cell HG.out.lt).trans k1
 clear hb k0 k1
 go_wp2
 refine wp_loop_rounds 3 ?_
 rw [rounds_succ]
 go_wp2_with (first | (at_builtin; refine wpList_append_any _ rfl _ _ 22 rfl w.heap.size 5 i0 _ 1 1 Tryz.underlying22 hi0 hz0 hz1 hz2 rfl (by omega) _ _ _ rfl ho A1 n1 c1 (u8s l1) rfl (Gives.of_reads (R1.out.below HB.out) (u8s_one l1)) ?c1 ?c2 hs1 ?_))
 case c1 => unfold maxLen; omega
 case c2 => omega
 intro v2 w2 ho2 hg2
 have hb2 := HB.out.grown hg2 hs1 (fun k hk => (ho.lt k hk).1)
 have HB2 := Lib.hid hb2
 have hs2 := hb2.size
 have k1'' : w2.cell? ⟨g, 1, none⟩ = some (.slice A2 n2 c2) := (hb2.cell HG.out.lt).trans ((HB.out.cell HG.out.lt).symm.trans k1')
 clear hb2 hg2 ho k0' k1'
 go_wp2
 rw [rounds_succ]
 go_wp2_with (first | (at_builtin; refine wpList_append_any _ rfl _ _ 22 rfl w.heap.size 5 i0 _ 1 1 Tryz.underlying22 hi0 hz0 hz1 hz2 rfl (by omega) _ _ _ rfl ho2 A2 n2 c2 (u8s l2) rfl (Gives.of_reads (R2.out.below HB2.out) (u8s_one l2)) ?c1 ?c2 hs2 ?_))
 case c1 => unfold maxLen; omega
 case c2 => omega
 intro v3 w3 ho3 hg3
 have hb3 := HB2.out.grown hg3 hs2 (fun k hk => (ho2.lt k hk).1)
 have HB3 := Lib.hid hb3
 clear hb3 hg3 ho2 k1''
 have HO := Lib.hid ho3
 clear ho3
 go_wp2
 rw [rounds_succ]
 go_wp2
 go_ret
 have ho3 := HO.out
 rw [← u8s_append] at ho3
 obtain ⟨A, c, rfl, hr, hc⟩ := own_reads ho3
 exact ⟨A, c, rfl, hr, hc, HB3.out⟩
end Go.Proofs.YtkljkbeahdipfaaGreatDoor
/-
  Walk of the disk's Append.
-/
namespace Go.Proofs.YtkljkbeahdipfaaGreatDoor
open Go.RowKit Go.Maps
theorem field_run (A : Option Addr) (n c : Nat) (s : Int) (ev : Bool) (w : World) : (Instr.field 103 (.agg #[.slice A n c, .int .i64 s, .bool ev]) 0).run Tryz.prog w = .ok (.slice A n c) w := by kernel_rfl
def zeroFV : FV := ⟨FileM.none_, none, 0⟩
theorem look_get {w : World} {mb n : Nat} {es : List (Key × FV)} (h : w.ownsMap Tryz.prog 9 heldR mb n (dmap heldF es)) (s : ByteArray) (hs : s.size ≤ maxLen) (fv : FV) (has : Bool) (hv : (fget s.data.toList es).getD zeroFV = fv) (hb : (fget s.data.toList es).isSome = has) :
 (Instr.lookup 98 (.map (some mb)) (.string s) true).run Tryz.prog w = .ok (.tuple #[.agg #[.slice fv.a fv.m.b.length fv.c, .int .i64 (fv.m.safe : Nat), .bool fv.m.ever], .bool has]) w := by
 rw [look_run h s hs, hb, ← hv]
 cases fget s.data.toList es <;> rfl
theorem DiskAt.get_reads {w : World} {p mb cap : Nat} {es : List (Key × FV)} {fuse : Int} {lost : Bool} (h : DiskAt w p mb es cap fuse lost) {k : Key} {fv : FV} (hv : (fget k es).getD zeroFV = fv) : Reads w w.heap.size 1 fv.a fv.m.b.length (u8s fv.m.b) ∧ fv.m.b.length ≤ fv.c := by
 cases hg : fget k es with
 | none => rw [hg] at hv; subst hv; exact ⟨Reads.none_, Nat.le_refl _⟩
 | some f => rw [hg] at hv; obtain rfl : f = fv := hv; exact h.bytes _ (fget_mem hg)
theorem Reads.take {w : World} {B n : Nat} {A : Option Addr} {l : List UInt8} (h : Reads w B 1 A n (u8s l)) {k : Nat} (hk : k ≤ n) : Reads w B 1 A k (u8s (l.take k)) := by
 refine ⟨?_, fun hk0 => ?_⟩
 ·have := h.1; rw [u8s_length] at this; rw [u8s_length, List.length_take]; omega
 ·obtain ⟨ad, e, hb, hc⟩ := h.2 (by omega)
  refine ⟨ad, e, hb, fun j u hu => hc j u ?_⟩
  rw [u8s_get] at hu ⊢
  rw [← hu]
  rw [List.getElem?_take]
  split
  ·rfl
  ·rename_i hj
   rw [List.getElem?_take, if_neg hj] at hu
   cases hu
theorem file_away {w : World} {g n c : Nat} {A : Option Addr} {s : Int} {ev : Bool} {t : TypeId} (h : Blk w g t #[.slice A n c, .int .i64 s, .bool ev]) {ad : Addr} {x : Int} (hc : w.cell? ad = some (.int .u8 x)) : ad.block ≠ g := by
 intro e
 unfold Blk at h
 unfold World.cell? at hc
 rw [e, h] at hc
 simp only at hc
 split at hc
 ·cases hc
 ·rcases ho : ad.off with _ | _ | _ | n <;> rw [ho] at hc <;> simp at hc
theorem reads_set {w : World} {B g n : Nat} {A : Option Addr} {l : List UInt8} (h : Reads w B 1 A n (u8s l)) (haw : ∀ (ad : Addr) (x : Int), w.cell? ad = some (.int .u8 x) → ad.block ≠ g) (i : Nat) (u : Value) : Reads (w.setCell ⟨g, i, none⟩ u) B 1 A n (u8s l) := by
 refine ⟨h.1, fun hn => ?_⟩
 obtain ⟨ad, rfl, hlt, hc⟩ := h.2 hn
 refine ⟨ad, rfl, hlt, fun j v hj => ?_⟩
 have h0 := hc j v hj
 have hv : ∃ x, v = .int .u8 x := by
  rw [u8s_get] at hj
  cases hl : l[j]? with
  | none => rw [hl] at hj; cases hj
  | some b => rw [hl] at hj; injection hj with hj; exact ⟨_, hj.symm⟩
 obtain ⟨x, rfl⟩ := hv
 have := haw _ _ h0
 rw [← h0]
 exact World.cell?_of_block (Below.heap_setCell _ _ _ _ this)
theorem concat_two' (g : Nat) (A1 A2 : Option Addr) (c1 c2 : Nat) (l1 l2 : List UInt8) (k : Nat) (hk : l2.length = k) (h1 : l1.length ≤ 100000000) (h2 : k ≤ 100000000) (w : World) (hg : Blk w g 22 #[.slice A1 l1.length c1, .slice A2 k c2])
 (r1 : Reads w w.heap.size 1 A1 l1.length (u8s l1)) (r2 : Reads w w.heap.size 1 A2 k (u8s l2)) :
 Calls Tryz.prog 140 #[.slice (some ⟨g, 0, none⟩) 2 2] w fun e w' => ∃ A c, e = .returned (.slice A (l1 ++ l2).length c) ∧ Reads w' w'.heap.size 1 A (l1 ++ l2).length (u8s (l1 ++ l2)) ∧ (l1 ++ l2).length ≤ c ∧ Below w.heap.size w w' := by
 subst hk
 exact concat_two g A1 A2 c1 c2 l1 l2 h1 h2 w hg r1 r2
set_option maxHeartbeats 1000000 in
set_option maxRecDepth 100000 in
theorem append_main {w : World} {p mb : Nat} {d : DiskM} (h : Disk w p mb d) (hf : WFD d) (hN : d.files.length < 1000000) (s : ByteArray) (hsm : s.size ≤ maxLen) (A : Option Addr) (n c : Nat) (l : List UInt8) (hl : l.length = n) (hn : n ≤ 10000000) (hnc : n ≤ c) (hr : Reads w w.heap.size 1 A n (u8s l))
 (hlo : d.lost = false) (hroom : ¬ d.room < n) (hg : Calls Tryz.prog 53 #[.pointer (some ⟨p, 0, none⟩)] w fun e w' => e = .returned (.int .i64 (if false = true then 6 else 0)) ∧ w' = w)
 (hrt : Calls Tryz.prog 54 #[.string s] w fun e w' => e = .returned (.bool true) ∧ w' = w)
 (hro : Calls Tryz.prog 44 #[.pointer (some ⟨p, 0, none⟩)] w fun e w' => e = .returned (.int .i64 (d.room : Nat)) ∧ Below w.heap.size w w') :
 Calls Tryz.prog 75 #[.pointer (some ⟨p, 0, none⟩), .string s, .slice A n c] w fun e w' =>
  e = .returned (.int .i64 (if d.fuse = 0 ∧ fget s.data.toList d.files = none ∧ (halved d l).length = 0 then (6, d.burn) else (d.burn.gone, { d.burn with files := fput s.data.toList { (fget s.data.toList d.files).getD FileM.none_ with b := ((fget s.data.toList d.files).getD FileM.none_).b ++ halved d l } d.files })).1) ∧
  Disk w' p mb (if d.fuse = 0 ∧ fget s.data.toList d.files = none ∧ (halved d l).length = 0 then (6, d.burn) else (d.burn.gone, { d.burn with files := fput s.data.toList { (fget s.data.toList d.files).getD FileM.none_ with b := ((fget s.data.toList d.files).getD FileM.none_).b ++ halved d l } d.files })).2 ∧ But p mb w w' := by
 have hf0 := hf.fuse0
 have hf1 := hf.fuse1
 have hrm := hf.room
 have hcp := hf.cap
 generalize hro' : d.room = ro at *
 obtain ⟨cap, files, fuse, lost⟩ := d
 obtain rfl : lost = false := hlo
 obtain ⟨es, hfi, h⟩ := h
 obtain rfl : files = fmap FV.m es := hfi
 have hN' : es.length < 1000000 := by simpa [fmap] using hN
 obtain ⟨fv, hv⟩ : ∃ fv, (fget s.data.toList es).getD zeroFV = fv := ⟨_, rfl⟩
 obtain ⟨has, hb⟩ : ∃ has, (fget s.data.toList es).isSome = has := ⟨_, rfl⟩
 have e1 : (fget s.data.toList (fmap FV.m es)).getD FileM.none_ = fv.m := by rw [fget_m, ← hv]; cases fget s.data.toList es <;> rfl
 have e2 : (fget s.data.toList (fmap FV.m es) = none) ↔ has = false := by rw [fget_m, ← hb]; cases fget s.data.toList es <;> simp
 have hfl : fv.m.b.length ≤ 4194304 := by
  cases hq : fget s.data.toList es with
  | none => rw [hq] at hv; subst hv; simp [zeroFV, FileM.none_]
  | some g => rw [hq] at hv; obtain rfl : g = fv := hv; have := used_get (k := s.data.toList) (f := g.m) (l := fmap FV.m es) (by rw [fget_m, hq]; rfl); simp only at hrm hcp; omega
 simp only [e1, e2]
 have Hg := Lib.hid hg
 have Hr := Lib.hid hrt
 have Hro := Lib.hid hro
 have HR := Lib.hid hr
 have H := Lib.hid h
 have HV := Lib.hid hv
 have HB := Lib.hid hb
 clear hf hrm hcp hro' hN hv hb e1 e2 hg hrt hro hr h
 simp only at hf0 hf1
 subst hl
 by_cases hz : fuse = 0
 ·obtain ⟨k, hk⟩ : ∃ k, l.length / 2 = k := ⟨_, rfl⟩
  obtain ⟨lk, hlk⟩ : ∃ lk, l.take k = lk := ⟨_, rfl⟩
  have hlkl : lk.length = k := by rw [← hlk, List.length_take]; omega
  have hrk : Hid (Reads w w.heap.size 1 A k (u8s lk)) := by rw [← hlk]; exact HR.out.take (by omega)
  have HLK := Lib.hid hlkl
  have e3 : halved ⟨cap, fmap FV.m es, fuse, false⟩ l = lk := by unfold halved; rw [if_pos hz, hk, hlk]
  have hkn : k ≤ l.length := by omega
  have hki : ((l.length : Nat) : Int).tdiv 2 = (k : Nat) := by rw [← hk]; exact Int.ofNat_tdiv _ _
  rw [e3, hlkl]
  have hd : decide (fuse = 0) = true := by simp [hz]
  have HZ := Lib.hid hz
  clear e3 hlkl hlk hz
  cases has with
  | true =>
    rw [if_neg (by simp)]
    go_enter Tryz.func75, Tryz.ntmps75
    go_wp2_with fail
    refine Hg.out.mono ?_
    rintro e w1 ⟨rfl, rfl⟩
    go_wp2_with fail
    refine Hr.out.mono ?_
    rintro e w1 ⟨rfl, rfl⟩
    go_wp2_with fail
    refine Hro.out.mono ?_
    rintro e w2 ⟨rfl, hb⟩
    have h2 := H.out.below hb
    have HB2 := Lib.hid hb
    have H2 := Lib.hid h2
    have c1 := h2.c1
    have hlk := look_get h2.map s hsm fv true HV.out HB.out
    clear h2 hb
    go_wp2_with fail
    have hA0 : But p mb w1 (w2.alloc (.cells #[.slice fv.a fv.m.b.length fv.c, .int .i64 (fv.m.safe : Nat), .bool fv.m.ever] 103)) := (But.of_below HB2.out).alloc _
    have h2a := H2.out.below ((Below.refl _ _).alloc (Nat.le_refl _) (.cells #[.slice fv.a fv.m.b.length fv.c, .int .i64 (fv.m.safe : Nat), .bool fv.m.ever] 103))
    have hF := Blk.new w2 103 #[.slice fv.a fv.m.b.length fv.c, .int .i64 (fv.m.safe : Nat), .bool fv.m.ever]
    have hpg : p ≠ w2.heap.size := Nat.ne_of_lt H2.out.cells.lt
    have hmg : mb ≠ w2.heap.size := Nat.ne_of_lt H2.out.map.lt
    have Hu := Lib.hid (burns_at h2a hf0 hf1)
    have hwg : w1.heap.size ≤ w2.heap.size := HB2.out.size
    refine Hu.out.mono ?_
    rintro e w3 ⟨rfl, h3, hb3⟩
    rw [hd] at h3 ⊢
    have hF3 : Blk w3 w2.heap.size 103 #[.slice fv.a fv.m.b.length fv.c, .int .i64 (fv.m.safe : Nat), .bool fv.m.ever] := (hb3.block _ (by simp) (fun e => hpg e.symm) (fun e => hmg e.symm)).trans hF
    have hA1 := hA0.trans hb3
    generalize w2.heap.size = gf at *
    have H3 := Lib.hid h3
    have HF3 := Lib.hid hF3
    have HA1 := Lib.hid hA1
    have HPG : Hid (p ≠ gf) := hpg
    have HMG : Hid (mb ≠ gf) := hmg
    have x0 : w3.cell? ⟨gf, 0, none⟩ = some (.slice fv.a fv.m.b.length fv.c) := by rw [hF3.cell]; rfl
    have FR := HR.out
    have HR3 : Hid (Reads w3 w3.heap.size 1 A k (u8s lk)) := H.out.reads_but hA1 hrk.out
    have HV3 := Lib.hid (h3.get_reads HV.out)
    clear hF3 h3 hb3 hF h2a hA0 hA1 hlk c1 Hu hpg hmg FR
    go_wp2_with fail
    have Hcat := Lib.hid (concat_two' w3.heap.size fv.a A fv.c c fv.m.b lk k HLK.out (by omega) (by omega) (w3.alloc (.cells #[.slice fv.a fv.m.b.length fv.c, .slice A k c] 22)) (Blk.new _ _ _) ((HV3.out.1.alloc (Nat.le_refl _) _).more (by simp)) ((HR3.out.alloc (Nat.le_refl _) _).more (by simp)))
    refine Hcat.out.mono ?_
    rintro e w4 ⟨A', c', rfl, hr4, hc4, hb4⟩
    obtain ⟨nl, hnl⟩ : ∃ nl, (fv.m.b ++ lk).length = nl := ⟨_, rfl⟩
    have hnl2 : nl = fv.m.b.length + k := by rw [← hnl, List.length_append, HLK.out]
    rw [hnl] at hr4 hc4 ⊢
    have hb4' : Below w3.heap.size w3 w4 := ((Below.refl _ _).alloc (Nat.le_refl _) _).trans (hb4.mono (by simp))
    have hF4 := HF3.out.below hb4' HF3.out.lt
    have hA4 := HA1.out.below hb4'
    have h4 := H3.out.below hb4'
    have y0 : (w4.cell? ⟨gf, 0, none⟩).isSome = true := by rw [hF4.cell]; rfl
    have x0' : w4.cell? ⟨gf, 0, none⟩ = some (.slice fv.a fv.m.b.length fv.c) := by rw [hF4.cell]; rfl
    have f0 := hF4.frozen 0
    obtain ⟨w5, hw5⟩ : ∃ w5, w5 = w4.setCell ⟨gf, 0, none⟩ (.slice A' nl c') := ⟨_, rfl⟩
    have hA5 : But p mb w1 w5 := by rw [hw5]; exact hA4.setNew hwg _
    have hF5 : Blk w5 gf 103 #[.slice A' nl c', .int .i64 (fv.m.safe : Nat), .bool fv.m.ever] := by rw [hw5]; exact hF4.set_ 0 _
    have h5c : Blk w5 p 100 (dcells mb cap (if 0 < fuse then fuse - 1 else fuse) true) := by rw [hw5]; exact h4.cells.far HPG.out _
    have h5m : w5.ownsMap Tryz.prog 9 heldR mb es.length (dmap heldF es) := by rw [hw5]; exact h4.map.setCell HMG.out _
    have hr5 : Reads w5 w5.heap.size 1 A' nl (u8s (fv.m.b ++ lk)) := by
     have := reads_set hr4 (fun ad x hc => file_away hF4 hc) 0 (.slice A' nl c')
     rw [← hw5] at this
     exact this.more (by rw [hw5]; simp [World.setCell])
    have h5 := H.out.turn hA5 h5c h5m H.out.up (fun q hq => .inl hq)
    obtain ⟨w6, hrun, hm6, ht6⟩ := store_some (w := w5.drew) h5m.drew H.out.up (by unfold maxLen; omega) s hsm (fv.m.b ++ lk) fv.m.safe fv.m.ever A' c'
    rw [hnl] at hrun
    obtain ⟨h6, hA6⟩ := H.out.store hA5.drew h5c.drew s.data.toList ⟨⟨fv.m.b ++ lk, fv.m.safe, fv.m.ever⟩, A', c'⟩ hm6 ht6 ⟨by rw [hnl]; exact h5.reads_but (((But.refl _ _ _).drew).turned ht6) hr5, by rw [hnl]; exact hc4⟩
    have z0 : w5.cell? ⟨gf, 0, none⟩ = some (.slice A' nl c') := by rw [hF5.cell]; rfl
    have z1 : w5.cell? ⟨gf, 1, none⟩ = some (.int .i64 (fv.m.safe : Nat)) := by rw [hF5.cell]; rfl
    have z2 : w5.cell? ⟨gf, 2, none⟩ = some (.bool fv.m.ever) := by rw [hF5.cell]; rfl
    have z3 : w5.cell? ⟨p, 1, none⟩ = some (.map (some mb)) := h5.c1
    have Hgo := Lib.hid (gone_at p _ w6 h6.c3)
    have H6 := Lib.hid h6
    have HA6 := Lib.hid hA6
    have HW5 := Lib.hid hw5
    have HNL := Lib.hid hnl
    clear h6 hA6 hm6 ht6 h5 h5m h5c hF5 hA5 hr5 hr4 hc4 hb4 hb4' hF4 hA4 h4 y0 hw5 hnl hnl2
    go_upto_region 15 with (first | fail)
    rw [← HW5.out]
    go_region
    go_wp2_with fail
    refine Hgo.out.mono ?_
    rintro e w7 ⟨rfl, rfl⟩
    go_wp2
    go_ret
    refine ⟨?_, ⟨fput s.data.toList ⟨⟨fv.m.b ++ lk, fv.m.safe, fv.m.ever⟩, A', c'⟩ es, ?_, ?_⟩, HA6.out⟩
    ·show _ = Ending.returned (.int .i64 (if (decide (fuse = 0)) = true then 6 else 0))
     rw [hd]
     rfl
    ·show _ = fmap FV.m (fput _ ⟨⟨fv.m.b ++ lk, fv.m.safe, fv.m.ever⟩, A', c'⟩ es)
     rw [fput_fmap]
    ·show DiskAt _ _ _ _ _ _ (decide (fuse = 0))
     rw [hd]
     exact H6.out
  | false =>
    by_cases hk0 : k = 0
    ·rw [if_pos ⟨HZ.out, rfl, hk0⟩]
     have hk1 : ((k : Nat) : Int) = 0 := by omega
     go_enter Tryz.func75, Tryz.ntmps75
     go_wp2_with fail
     refine Hg.out.mono ?_
     rintro e w1 ⟨rfl, rfl⟩
     go_wp2_with fail
     refine Hr.out.mono ?_
     rintro e w1 ⟨rfl, rfl⟩
     go_wp2_with fail
     refine Hro.out.mono ?_
     rintro e w2 ⟨rfl, hb⟩
     have h2 := H.out.below hb
     have HB2 := Lib.hid hb
     have H2 := Lib.hid h2
     have c1 := h2.c1
     have hlk := look_get h2.map s hsm fv false HV.out HB.out
     clear h2 hb
     go_wp2_with fail
     have hA0 : But p mb w1 (w2.alloc (.cells #[.slice fv.a fv.m.b.length fv.c, .int .i64 (fv.m.safe : Nat), .bool fv.m.ever] 103)) := (But.of_below HB2.out).alloc _
     have h2a := H2.out.below ((Below.refl _ _).alloc (Nat.le_refl _) (.cells #[.slice fv.a fv.m.b.length fv.c, .int .i64 (fv.m.safe : Nat), .bool fv.m.ever] 103))
     have hF := Blk.new w2 103 #[.slice fv.a fv.m.b.length fv.c, .int .i64 (fv.m.safe : Nat), .bool fv.m.ever]
     have hpg : p ≠ w2.heap.size := Nat.ne_of_lt H2.out.cells.lt
     have hmg : mb ≠ w2.heap.size := Nat.ne_of_lt H2.out.map.lt
     have Hu := Lib.hid (burns_at h2a hf0 hf1)
     have hwg : w1.heap.size ≤ w2.heap.size := HB2.out.size
     refine Hu.out.mono ?_
     rintro e w3 ⟨rfl, h3, hb3⟩
     rw [hd] at h3 ⊢
     have hF3 : Blk w3 w2.heap.size 103 #[.slice fv.a fv.m.b.length fv.c, .int .i64 (fv.m.safe : Nat), .bool fv.m.ever] := (hb3.block _ (by simp) (fun e => hpg e.symm) (fun e => hmg e.symm)).trans hF
     have hA1 := hA0.trans hb3
     generalize w2.heap.size = gf at *
     have H3 := Lib.hid h3
     have HF3 := Lib.hid hF3
     have HA1 := Lib.hid hA1
     have HPG : Hid (p ≠ gf) := hpg
     have HMG : Hid (mb ≠ gf) := hmg
     have x0 : w3.cell? ⟨gf, 0, none⟩ = some (.slice fv.a fv.m.b.length fv.c) := by rw [hF3.cell]; rfl
     have FR := HR.out
     have HR3 : Hid (Reads w3 w3.heap.size 1 A k (u8s lk)) := H.out.reads_but hA1 hrk.out
     have HV3 := Lib.hid (h3.get_reads HV.out)
     clear hF3 h3 hb3 hF h2a hA0 hA1 hlk c1 Hu hpg hmg FR
     go_wp2
     go_ret
     exact ⟨rfl, ⟨es, rfl, by show DiskAt _ _ _ _ _ _ (decide (fuse = 0)); rw [hd]; exact H3.out⟩, HA1.out⟩
    ·rw [if_neg (fun h => hk0 h.2.2)]
     have hk1 : (((k : Nat) : Int) == 0) = false := by simp; omega
     go_enter Tryz.func75, Tryz.ntmps75
     go_wp2_with fail
     refine Hg.out.mono ?_
     rintro e w1 ⟨rfl, rfl⟩
     go_wp2_with fail
     refine Hr.out.mono ?_
     rintro e w1 ⟨rfl, rfl⟩
     go_wp2_with fail
     refine Hro.out.mono ?_
     rintro e w2 ⟨rfl, hb⟩
     have h2 := H.out.below hb
     have HB2 := Lib.hid hb
     have H2 := Lib.hid h2
     have c1 := h2.c1
     have hlk := look_get h2.map s hsm fv false HV.out HB.out
     clear h2 hb
     go_wp2_with fail
     have hA0 : But p mb w1 (w2.alloc (.cells #[.slice fv.a fv.m.b.length fv.c, .int .i64 (fv.m.safe : Nat), .bool fv.m.ever] 103)) := (But.of_below HB2.out).alloc _
     have h2a := H2.out.below ((Below.refl _ _).alloc (Nat.le_refl _) (.cells #[.slice fv.a fv.m.b.length fv.c, .int .i64 (fv.m.safe : Nat), .bool fv.m.ever] 103))
     have hF := Blk.new w2 103 #[.slice fv.a fv.m.b.length fv.c, .int .i64 (fv.m.safe : Nat), .bool fv.m.ever]
     have hpg : p ≠ w2.heap.size := Nat.ne_of_lt H2.out.cells.lt
     have hmg : mb ≠ w2.heap.size := Nat.ne_of_lt H2.out.map.lt
     have Hu := Lib.hid (burns_at h2a hf0 hf1)
     have hwg : w1.heap.size ≤ w2.heap.size := HB2.out.size
     refine Hu.out.mono ?_
     rintro e w3 ⟨rfl, h3, hb3⟩
     rw [hd] at h3 ⊢
     have hF3 : Blk w3 w2.heap.size 103 #[.slice fv.a fv.m.b.length fv.c, .int .i64 (fv.m.safe : Nat), .bool fv.m.ever] := (hb3.block _ (by simp) (fun e => hpg e.symm) (fun e => hmg e.symm)).trans hF
     have hA1 := hA0.trans hb3
     generalize w2.heap.size = gf at *
     have H3 := Lib.hid h3
     have HF3 := Lib.hid hF3
     have HA1 := Lib.hid hA1
     have HPG : Hid (p ≠ gf) := hpg
     have HMG : Hid (mb ≠ gf) := hmg
     have x0 : w3.cell? ⟨gf, 0, none⟩ = some (.slice fv.a fv.m.b.length fv.c) := by rw [hF3.cell]; rfl
     have FR := HR.out
     have HR3 : Hid (Reads w3 w3.heap.size 1 A k (u8s lk)) := H.out.reads_but hA1 hrk.out
     have HV3 := Lib.hid (h3.get_reads HV.out)
     clear hF3 h3 hb3 hF h2a hA0 hA1 hlk c1 Hu hpg hmg FR
     go_wp2_with fail
     have Hcat := Lib.hid (concat_two' w3.heap.size fv.a A fv.c c fv.m.b lk k HLK.out (by omega) (by omega) (w3.alloc (.cells #[.slice fv.a fv.m.b.length fv.c, .slice A k c] 22)) (Blk.new _ _ _) ((HV3.out.1.alloc (Nat.le_refl _) _).more (by simp)) ((HR3.out.alloc (Nat.le_refl _) _).more (by simp)))
     refine Hcat.out.mono ?_
     rintro e w4 ⟨A', c', rfl, hr4, hc4, hb4⟩
     obtain ⟨nl, hnl⟩ : ∃ nl, (fv.m.b ++ lk).length = nl := ⟨_, rfl⟩
     have hnl2 : nl = fv.m.b.length + k := by rw [← hnl, List.length_append, HLK.out]
     rw [hnl] at hr4 hc4 ⊢
     have hb4' : Below w3.heap.size w3 w4 := ((Below.refl _ _).alloc (Nat.le_refl _) _).trans (hb4.mono (by simp))
     have hF4 := HF3.out.below hb4' HF3.out.lt
     have hA4 := HA1.out.below hb4'
     have h4 := H3.out.below hb4'
     have y0 : (w4.cell? ⟨gf, 0, none⟩).isSome = true := by rw [hF4.cell]; rfl
     have x0' : w4.cell? ⟨gf, 0, none⟩ = some (.slice fv.a fv.m.b.length fv.c) := by rw [hF4.cell]; rfl
     have f0 := hF4.frozen 0
     obtain ⟨w5, hw5⟩ : ∃ w5, w5 = w4.setCell ⟨gf, 0, none⟩ (.slice A' nl c') := ⟨_, rfl⟩
     have hA5 : But p mb w1 w5 := by rw [hw5]; exact hA4.setNew hwg _
     have hF5 : Blk w5 gf 103 #[.slice A' nl c', .int .i64 (fv.m.safe : Nat), .bool fv.m.ever] := by rw [hw5]; exact hF4.set_ 0 _
     have h5c : Blk w5 p 100 (dcells mb cap (if 0 < fuse then fuse - 1 else fuse) true) := by rw [hw5]; exact h4.cells.far HPG.out _
     have h5m : w5.ownsMap Tryz.prog 9 heldR mb es.length (dmap heldF es) := by rw [hw5]; exact h4.map.setCell HMG.out _
     have hr5 : Reads w5 w5.heap.size 1 A' nl (u8s (fv.m.b ++ lk)) := by
      have := reads_set hr4 (fun ad x hc => file_away hF4 hc) 0 (.slice A' nl c')
      rw [← hw5] at this
      exact this.more (by rw [hw5]; simp [World.setCell])
     have h5 := H.out.turn hA5 h5c h5m H.out.up (fun q hq => .inl hq)
     obtain ⟨w6, hrun, hm6, ht6⟩ := store_some (w := w5.drew) h5m.drew H.out.up (by unfold maxLen; omega) s hsm (fv.m.b ++ lk) fv.m.safe fv.m.ever A' c'
     rw [hnl] at hrun
     obtain ⟨h6, hA6⟩ := H.out.store hA5.drew h5c.drew s.data.toList ⟨⟨fv.m.b ++ lk, fv.m.safe, fv.m.ever⟩, A', c'⟩ hm6 ht6 ⟨by rw [hnl]; exact h5.reads_but (((But.refl _ _ _).drew).turned ht6) hr5, by rw [hnl]; exact hc4⟩
     have z0 : w5.cell? ⟨gf, 0, none⟩ = some (.slice A' nl c') := by rw [hF5.cell]; rfl
     have z1 : w5.cell? ⟨gf, 1, none⟩ = some (.int .i64 (fv.m.safe : Nat)) := by rw [hF5.cell]; rfl
     have z2 : w5.cell? ⟨gf, 2, none⟩ = some (.bool fv.m.ever) := by rw [hF5.cell]; rfl
     have z3 : w5.cell? ⟨p, 1, none⟩ = some (.map (some mb)) := h5.c1
     have Hgo := Lib.hid (gone_at p _ w6 h6.c3)
     have H6 := Lib.hid h6
     have HA6 := Lib.hid hA6
     have HW5 := Lib.hid hw5
     have HNL := Lib.hid hnl
     clear h6 hA6 hm6 ht6 h5 h5m h5c hF5 hA5 hr5 hr4 hc4 hb4 hb4' hF4 hA4 h4 y0 hw5 hnl hnl2
     go_upto_region 15 with (first | fail)
     rw [← HW5.out]
     go_region
     go_wp2_with fail
     refine Hgo.out.mono ?_
     rintro e w7 ⟨rfl, rfl⟩
     go_wp2
     go_ret
     refine ⟨?_, ⟨fput s.data.toList ⟨⟨fv.m.b ++ lk, fv.m.safe, fv.m.ever⟩, A', c'⟩ es, ?_, ?_⟩, HA6.out⟩
     ·show _ = Ending.returned (.int .i64 (if (decide (fuse = 0)) = true then 6 else 0))
      rw [hd]
      rfl
     ·show _ = fmap FV.m (fput _ ⟨⟨fv.m.b ++ lk, fv.m.safe, fv.m.ever⟩, A', c'⟩ es)
      rw [fput_fmap]
     ·show DiskAt _ _ _ _ _ _ (decide (fuse = 0))
      rw [hd]
      exact H6.out
 ·have e3 : halved ⟨cap, fmap FV.m es, fuse, false⟩ l = l := by unfold halved; rw [if_neg hz]
  rw [e3, if_neg (fun h => hz h.1)]
  clear e3
  have hd : decide (fuse = 0) = false := by simp [hz]
  go_enter Tryz.func75, Tryz.ntmps75
  go_wp2_with fail
  refine Hg.out.mono ?_
  rintro e w1 ⟨rfl, rfl⟩
  go_wp2_with fail
  refine Hr.out.mono ?_
  rintro e w1 ⟨rfl, rfl⟩
  go_wp2_with fail
  refine Hro.out.mono ?_
  rintro e w2 ⟨rfl, hb⟩
  have h2 := H.out.below hb
  have HB2 := Lib.hid hb
  have H2 := Lib.hid h2
  have c1 := h2.c1
  have hlk := look_get h2.map s hsm fv has HV.out HB.out
  clear h2 hb
  go_wp2_with fail
  have hA0 : But p mb w1 (w2.alloc (.cells #[.slice fv.a fv.m.b.length fv.c, .int .i64 (fv.m.safe : Nat), .bool fv.m.ever] 103)) := (But.of_below HB2.out).alloc _
  have h2a := H2.out.below ((Below.refl _ _).alloc (Nat.le_refl _) (.cells #[.slice fv.a fv.m.b.length fv.c, .int .i64 (fv.m.safe : Nat), .bool fv.m.ever] 103))
  have hF := Blk.new w2 103 #[.slice fv.a fv.m.b.length fv.c, .int .i64 (fv.m.safe : Nat), .bool fv.m.ever]
  have hpg : p ≠ w2.heap.size := Nat.ne_of_lt H2.out.cells.lt
  have hmg : mb ≠ w2.heap.size := Nat.ne_of_lt H2.out.map.lt
  have Hu := Lib.hid (burns_at h2a hf0 hf1)
  have hwg : w1.heap.size ≤ w2.heap.size := HB2.out.size
  refine Hu.out.mono ?_
  rintro e w3 ⟨rfl, h3, hb3⟩
  rw [hd] at h3 ⊢
  have hF3 : Blk w3 w2.heap.size 103 #[.slice fv.a fv.m.b.length fv.c, .int .i64 (fv.m.safe : Nat), .bool fv.m.ever] := (hb3.block _ (by simp) (fun e => hpg e.symm) (fun e => hmg e.symm)).trans hF
  have hA1 := hA0.trans hb3
  generalize w2.heap.size = gf at *
  have H3 := Lib.hid h3
  have HF3 := Lib.hid hF3
  have HA1 := Lib.hid hA1
  have HPG : Hid (p ≠ gf) := hpg
  have HMG : Hid (mb ≠ gf) := hmg
  have x0 : w3.cell? ⟨gf, 0, none⟩ = some (.slice fv.a fv.m.b.length fv.c) := by rw [hF3.cell]; rfl
  have FR := HR.out
  have HR3 : Hid (Reads w3 w3.heap.size 1 A l.length (u8s l)) := H.out.reads_but hA1 HR.out
  have HV3 := Lib.hid (h3.get_reads HV.out)
  clear hF3 h3 hb3 hF h2a hA0 hA1 hlk c1 Hu hpg hmg FR
  go_wp2_with fail
  have Hcat := Lib.hid (concat_two w3.heap.size fv.a A fv.c c fv.m.b l (by omega) (by omega) (w3.alloc (.cells #[.slice fv.a fv.m.b.length fv.c, .slice A l.length c] 22)) (Blk.new _ _ _) ((HV3.out.1.alloc (Nat.le_refl _) _).more (by simp)) ((HR3.out.alloc (Nat.le_refl _) _).more (by simp)))
  refine Hcat.out.mono ?_
  rintro e w4 ⟨A', c', rfl, hr4, hc4, hb4⟩
  obtain ⟨nl, hnl⟩ : ∃ nl, (fv.m.b ++ l).length = nl := ⟨_, rfl⟩
  have hnl2 : nl = fv.m.b.length + l.length := by rw [← hnl, List.length_append]
  rw [hnl] at hr4 hc4 ⊢
  have hb4' : Below w3.heap.size w3 w4 := ((Below.refl _ _).alloc (Nat.le_refl _) _).trans (hb4.mono (by simp))
  have hF4 := HF3.out.below hb4' HF3.out.lt
  have hA4 := HA1.out.below hb4'
  have h4 := H3.out.below hb4'
  have y0 : (w4.cell? ⟨gf, 0, none⟩).isSome = true := by rw [hF4.cell]; rfl
  have x0' : w4.cell? ⟨gf, 0, none⟩ = some (.slice fv.a fv.m.b.length fv.c) := by rw [hF4.cell]; rfl
  have f0 := hF4.frozen 0
  obtain ⟨w5, hw5⟩ : ∃ w5, w5 = w4.setCell ⟨gf, 0, none⟩ (.slice A' nl c') := ⟨_, rfl⟩
  have hA5 : But p mb w1 w5 := by rw [hw5]; exact hA4.setNew hwg _
  have hF5 : Blk w5 gf 103 #[.slice A' nl c', .int .i64 (fv.m.safe : Nat), .bool fv.m.ever] := by rw [hw5]; exact hF4.set_ 0 _
  have h5c : Blk w5 p 100 (dcells mb cap (if 0 < fuse then fuse - 1 else fuse) false) := by rw [hw5]; exact h4.cells.far HPG.out _
  have h5m : w5.ownsMap Tryz.prog 9 heldR mb es.length (dmap heldF es) := by rw [hw5]; exact h4.map.setCell HMG.out _
  have hr5 : Reads w5 w5.heap.size 1 A' nl (u8s (fv.m.b ++ l)) := by
   have := reads_set hr4 (fun ad x hc => file_away hF4 hc) 0 (.slice A' nl c')
   rw [← hw5] at this
   exact this.more (by rw [hw5]; simp [World.setCell])
  have h5 := H.out.turn hA5 h5c h5m H.out.up (fun q hq => .inl hq)
  obtain ⟨w6, hrun, hm6, ht6⟩ := store_some (w := w5.drew) h5m.drew H.out.up (by unfold maxLen; omega) s hsm (fv.m.b ++ l) fv.m.safe fv.m.ever A' c'
  rw [hnl] at hrun
  obtain ⟨h6, hA6⟩ := H.out.store hA5.drew h5c.drew s.data.toList ⟨⟨fv.m.b ++ l, fv.m.safe, fv.m.ever⟩, A', c'⟩ hm6 ht6 ⟨by rw [hnl]; exact h5.reads_but (((But.refl _ _ _).drew).turned ht6) hr5, by rw [hnl]; exact hc4⟩
  have z0 : w5.cell? ⟨gf, 0, none⟩ = some (.slice A' nl c') := by rw [hF5.cell]; rfl
  have z1 : w5.cell? ⟨gf, 1, none⟩ = some (.int .i64 (fv.m.safe : Nat)) := by rw [hF5.cell]; rfl
  have z2 : w5.cell? ⟨gf, 2, none⟩ = some (.bool fv.m.ever) := by rw [hF5.cell]; rfl
  have z3 : w5.cell? ⟨p, 1, none⟩ = some (.map (some mb)) := h5.c1
  have Hgo := Lib.hid (gone_at p _ w6 h6.c3)
  have H6 := Lib.hid h6
  have HA6 := Lib.hid hA6
  have HW5 := Lib.hid hw5
  have HNL := Lib.hid hnl
  clear h6 hA6 hm6 ht6 h5 h5m h5c hF5 hA5 hr5 hr4 hc4 hb4 hb4' hF4 hA4 h4 y0 hw5 hnl hnl2
  go_upto_region 15 with (first | fail)
  rw [← HW5.out]
  go_region
  go_wp2_with fail
  refine Hgo.out.mono ?_
  rintro e w7 ⟨rfl, rfl⟩
  go_wp2
  go_ret
  refine ⟨?_, ⟨fput s.data.toList ⟨⟨fv.m.b ++ l, fv.m.safe, fv.m.ever⟩, A', c'⟩ es, ?_, ?_⟩, HA6.out⟩
  ·show _ = Ending.returned (.int .i64 (if (decide (fuse = 0)) = true then 6 else 0))
   rw [hd]
   rfl
  ·show _ = fmap FV.m (fput _ ⟨⟨fv.m.b ++ l, fv.m.safe, fv.m.ever⟩, A', c'⟩ es)
   rw [fput_fmap]
  ·show DiskAt _ _ _ _ _ _ (decide (fuse = 0))
   rw [hd]
   exact H6.out
set_option maxHeartbeats 1000000 in
set_option maxRecDepth 100000 in
theorem append_at {w : World} {p mb : Nat} {d : DiskM} (h : Disk w p mb d) (hf : WFD d) (hN : d.files.length < 1000000) (s : ByteArray) (hs : s.size ≤ 1000000000) (A : Option Addr) (n c : Nat) (l : List UInt8) (hl : l.length = n) (hn : n ≤ 10000000) (hnc : n ≤ c) (hr : Reads w w.heap.size 1 A n (u8s l)) :
 Calls Tryz.prog 75 #[.pointer (some ⟨p, 0, none⟩), .string s, .slice A n c] w fun e w' => e = .returned (.int .i64 (dAppend d s.data.toList l).1) ∧ Disk w' p mb (dAppend d s.data.toList l).2 ∧ But p mb w w' := by
 have hsm : s.size ≤ maxLen := by unfold maxLen; omega
 have hf0 := hf.fuse0
 have hf1 := hf.fuse1
 have Hro := Lib.hid (room_at h hf)
 have HF := Lib.hid hf
 clear hf
 unfold dAppend
 have Hgo := fun (lo : Bool) (e : d.lost = lo) => gone_at p lo w (by rw [← e]; exact h.choose_spec.2.c3)
 have HD := Lib.hid h
 have HR := Lib.hid hr
 clear h hr
 cases hlo : d.lost with
 | true =>
   have Hg := Lib.hid (Hgo true hlo)
   clear Hgo hlo
   rw [if_pos rfl]
   go_enter Tryz.func75, Tryz.ntmps75
   go_wp2_with fail
   refine Hg.out.mono ?_
   rintro e w1 ⟨rfl, rfl⟩
   go_wp2
   go_ret
   exact ⟨rfl, HD.out, But.refl _ _ _⟩
 | false =>
   have Hg := Lib.hid (Hgo false hlo)
   have Hr := Lib.hid (dright_any s hs w)
   have HLO := Lib.hid hlo
   clear Hgo hlo
   rw [if_neg (by simp)]
   cases hrt : right s.data.toList with
   | false =>
     rw [hrt] at Hr
     rw [if_pos rfl]
     clear hrt
     go_enter Tryz.func75, Tryz.ntmps75
     go_wp2_with fail
     refine Hg.out.mono ?_
     rintro e w1 ⟨rfl, rfl⟩
     go_wp2_with fail
     refine Hr.out.mono ?_
     rintro e w1 ⟨rfl, rfl⟩
     go_wp2
     go_ret
     exact ⟨rfl, HD.out, But.refl _ _ _⟩
   | true =>
     rw [hrt] at Hr
     rw [if_neg (by simp)]
     clear hrt
     by_cases hroom : d.room < l.length
     ·rw [if_pos hroom]
      rw [hl] at hroom
      generalize d.room = ro at *
      go_enter Tryz.func75, Tryz.ntmps75
      go_wp2_with fail
      refine Hg.out.mono ?_
      rintro e w1 ⟨rfl, rfl⟩
      go_wp2_with fail
      refine Hr.out.mono ?_
      rintro e w1 ⟨rfl, rfl⟩
      go_wp2_with fail
      refine Hro.out.mono ?_
      rintro e w2 ⟨rfl, hb⟩
      go_wp2
      go_ret
      obtain ⟨es, hes, hd⟩ := HD.out
      exact ⟨rfl, ⟨es, hes, hd.below hb⟩, But.of_below hb⟩
     ·rw [if_neg hroom]
      rw [hl] at hroom
      exact append_main HD.out HF.out hN s hsm A n c l hl hn hnc HR.out HLO.out hroom Hg.out Hr.out Hro.out
end Go.Proofs.YtkljkbeahdipfaaGreatDoor
/-
  Walk of the disk's Read.
-/
namespace Go.Proofs.YtkljkbeahdipfaaGreatDoor
open Go.RowKit Go.Maps
def dRead (d : DiskM) (k : Key) : List UInt8 × Int :=
 if d.lost = true then ([], 6) else match fget k d.files with
 | none => ([], 7)
 | some f => (f.b, 0)
end Go.Proofs.YtkljkbeahdipfaaGreatDoor
/-
  A region that draws its order, by facts: of each operation what its slot then holds is said once (a value, or a word on the value and the world); each operation is shown to do so from the words on what it looks at; in whatever order they come up, at the end all words hold.
-/
namespace Go.Proofs.YtkljkbeahdipfaaGreatDoor
open Go Go.RowKit
/-- what is said of an operation's slot: it is a value; a word holds of it, to the end; a word holds of it, till it is used -/
inductive Fact where
 | det (v : Value)
 | held (p : Value → World → Prop)
 | used (p : Value → World → Prop)
def Fact.says : Fact → Value → World → Prop
 | .det v, x, _ => x = v
 | .held p, x, w => p x w
 | .used p, x, w => p x w
def Fact.keeps : Fact → Bool
 | .used _ => false
 | _ => true
/-- what holds of the world from behind one operation up to another -/
structure Phase where
 start : Option Nat
 upto : Option Nat
 looks : List Nat
 p : (Nat → Value) → World → Prop
 ext : ∀ σ σ' w, (∀ t ∈ looks, σ t = σ' t) → p σ w → p σ' w
/-- what the slots hold -/
def sig (ev : Operand → Value) : Nat → Value := fun t => ev (.tmp t)
def onB (o : Oper) (j : Nat) : Bool := o.after.any fun e => Region.binds .any e && e.on == j
def dstIs (l : List Oper) (j t : Nat) : Bool := match l[j]? with | some o => o.dst == some t | none => false
/-- k waits for i -/
def blk (l : List Oper) (i : Nat) : Nat → Nat → Bool
 | 0, _ => false
 | f + 1, k => k == i || (match l[k]? with | some o => o.after.any fun e => Region.binds .any e && blk l i f e.on | none => false)
/-- an operation looks at what another one ahead has yielded -/
def usesB (l : List Oper) (o : Oper) (j : Nat) : Bool := onB o j && (match l[j]? with | some oj => (match oj.dst with | some t => (o.looksAt l.toArray).contains t | none => false) | none => false)
def needB (l : List Oper) (F : List Fact) (i j : Nat) : Bool :=
 !blk l i l.length j && ((F.getD j (.det undef)).keeps || (List.range l.length).any fun k => (k != i && !blk l k l.length i) && (match l[k]? with | some o => usesB l o j | none => false))
/-- which operation ahead has written a slot -/
def srcOf (l : List Oper) (o : Oper) (t : Nat) : Option Nat := (List.range l.length).find? fun j => onB o j && dstIs l j t
def slotSays (l : List Oper) (F : List Fact) (a0 : Array Value) (o : Oper) (t : Nat) (x : Value) (w : World) : Prop :=
 match srcOf l o t with
 | some j => (F.getD j (.det undef)).says x w
 | none => x = a0.getD t undef
/-- an operation finds a phase alive -/
def seesB (l : List Oper) (i : Nat) (s u : Option Nat) : Bool :=
 (match s with | some a => a != i && blk l a l.length i | none => true) && (match u with | some b => blk l i l.length b | none => true)
/-- an operation may come up while a phase is alive -/
def liveB (l : List Oper) (i : Nat) (s u : Option Nat) : Bool :=
 (match s with | some a => !blk l i l.length a | none => true) && (match u with | some b => !blk l b l.length i | none => true)
def lookB (l : List Oper) (i : Nat) (o : Oper) (t : Nat) : Bool :=
 (List.range l.length).all fun j => !dstIs l j t || onB o j || blk l i l.length j
def checkB (l : List Oper) (n : Nat) : Bool :=
 (List.range l.length).all fun i => match l[i]? with
  | none => true
  | some o => (match o.dst with | some t => decide (t < n) && (List.range l.length).all fun j => j == i || !dstIs l j t | none => true) && (o.after.all fun e => !Region.binds .any e || decide (e.on < i)) &&
   (o.looksAt l.toArray).all fun t => lookB l i o t
/-- slots that a phase looks at are written ahead of its start alone -/
def lkB (l : List Oper) (ps : List (Option Nat × List Nat)) : Bool :=
 (List.range l.length).all fun i => match l[i]? with
  | some o => (match o.dst with
    | some d => ps.all fun q => !q.2.contains d || (match q.1 with | some s => s != i && blk l i l.length s | none => false)
    | none => true)
  | none => true
structure EvOk (ev : Operand → Value) : Prop where
 const : ∀ v, ev (.const v) = v
 global : ∀ g, ev (.global g) = .pointer (some ⟨g, 0, none⟩)
 func : ∀ f, ev (.func f) = .func (.func f) #[] #[]
def Does (P : Program) (ev : Operand → Value) (o : Oper) (w : World) (K : Value → World → Prop) : Prop :=
 match (execOp ev o).run P w with
 | .ok (.value v) w' => K v w'
 | .ok .skip w' => K undef w'
 | .ok (.enter f args) w' => Calls P f args w' fun e w'' => ∃ v, e = .returned v ∧ K v w''
 | _ => False
def wantedBy (l : List Oper) (o : Oper) (ev : Operand → Value) : Bool :=
 match o.guard with
 | none => true
 | some (g, b) => match (l[g]?).bind (·.dst) with
   | some t => (match ev (.tmp t) with | .bool q => q == b | _ => false)
   | none => false
section
variable {P : Program} {l : List Oper} {F : List Fact} {Ph : List Phase} {C : World → Prop} {T : Nat → World → World → Prop} {a0 : Array Value}
/-- what is to be shown of an operation -/
def Ob (P : Program) (l : List Oper) (F : List Fact) (Ph : List Phase) (C : World → Prop) (T : Nat → World → World → Prop) (a0 : Array Value) (i : Nat) (o : Oper) : Prop :=
 ∀ (ev : Operand → Value) (w : World), EvOk ev → C w → (∀ t ∈ o.looksAt l.toArray, slotSays l F a0 o t (ev (.tmp t)) w) → (∀ ph ∈ Ph, seesB l i ph.start ph.upto = true → ph.p (sig ev) w) →
   if wantedBy l o ev = true then Does P ev o w (fun v w' => C w' ∧ T i w w' ∧ (F.getD i (.det undef)).says v w' ∧ ∀ ph ∈ Ph, ph.start = some i → ph.p (sig ev) w') else T i w w ∧ (F.getD i (.det undef)).says undef w ∧ ∀ ph ∈ Ph, ph.start = some i → ph.p (sig ev) w
theorem does_value {P : Program} {ev : Operand → Value} {o : Oper} {w w' : World} {v : Value} {K : Value → World → Prop} (h : (execOp ev o).run P w = .ok (.value v) w') (hK : K v w') : Does P ev o w K := by
 unfold Does; rw [h]; exact hK
theorem does_skip {P : Program} {ev : Operand → Value} {o : Oper} {w w' : World} {K : Value → World → Prop} (h : (execOp ev o).run P w = .ok .skip w') (hK : K undef w') : Does P ev o w K := by
 unfold Does; rw [h]; exact hK
theorem does_enter {P : Program} {ev : Operand → Value} {o : Oper} {w w' : World} {f : FuncId} {args : Array Value} {K : Value → World → Prop} (h : (execOp ev o).run P w = .ok (.enter f args) w') (hK : Calls P f args w' fun e w'' => ∃ v, e = .returned v ∧ K v w'') : Does P ev o w K := by
 unfold Does; rw [h]; exact hK
theorem ob_yes {i : Nat} {o : Oper} {ev : Operand → Value} {w : World} (hw : wantedBy l o ev = true) (h : Does P ev o w (fun v w' => C w' ∧ T i w w' ∧ (F.getD i (.det undef)).says v w' ∧ ∀ ph ∈ Ph, ph.start = some i → ph.p (sig ev) w')) :
 if wantedBy l o ev = true then Does P ev o w (fun v w' => C w' ∧ T i w w' ∧ (F.getD i (.det undef)).says v w' ∧ ∀ ph ∈ Ph, ph.start = some i → ph.p (sig ev) w') else T i w w ∧ (F.getD i (.det undef)).says undef w ∧ ∀ ph ∈ Ph, ph.start = some i → ph.p (sig ev) w := by
 rw [if_pos hw]; exact h
theorem ob_no {i : Nat} {o : Oper} {ev : Operand → Value} {w : World} (hw : wantedBy l o ev = false) (hT : T i w w) (h : (F.getD i (.det undef)).says undef w) (hs : ∀ ph ∈ Ph, ph.start = some i → ph.p (sig ev) w) :
 if wantedBy l o ev = true then Does P ev o w (fun v w' => C w' ∧ T i w w' ∧ (F.getD i (.det undef)).says v w' ∧ ∀ ph ∈ Ph, ph.start = some i → ph.p (sig ev) w') else T i w w ∧ (F.getD i (.det undef)).says undef w ∧ ∀ ph ∈ Ph, ph.start = some i → ph.p (sig ev) w := by
 rw [if_neg (by simp [hw])]; exact ⟨hT, h, hs⟩
/-- what is left behind the region: the slots are set to what is said of them -/
def FinK (σ : Nat → Value) (K : Array Value → Prop) (w : World) : List (Oper × Fact) → Array Value → Prop
 | [], arr => K arr
 | (⟨some t, _, _, _, _, _⟩, .det v) :: r, arr => FinK σ K w r (arr.setIfInBounds t v)
 | (⟨some t, _, _, _, _, _⟩, .held p) :: r, arr => ∀ x, x = σ t → p x w → FinK σ K w r (arr.setIfInBounds t x)
 | (⟨some t, _, _, _, _, _⟩, .used _) :: r, arr => ∀ x, x = σ t → FinK σ K w r (arr.setIfInBounds t x)
 | (⟨none, _, _, _, _, _⟩, _) :: r, arr => FinK σ K w r arr
structure Inv (l : List Oper) (F : List Fact) (Ph : List Phase) (C : World → Prop) (a0 : Array Value) (ds : List Deferred) (listed : Array Bool) (a : Act) (w : World) : Prop where
 world : C w
 lsize : listed.size = l.length
 size : a.tmps.size = a0.size
 defers : a.defers = ds
 closed : ∀ j oj, l[j]? = some oj → listed.getD j false = true → ∀ e ∈ oj.after, Region.binds .any e = true → listed.getD e.on false = true
 same : ∀ t, (∀ j o, l[j]? = some o → listed.getD j false = true → o.dst ≠ some t) → a.tmps[t]? = a0[t]?
 fact : ∀ j o t, l[j]? = some o → listed.getD j false = true → o.dst = some t →
  ((F.getD j (.det undef)).keeps = true ∨ ∃ (k : Nat) (ok : Oper), l[k]? = some ok ∧ listed.getD k false = false ∧ usesB l ok j = true) → (F.getD j (.det undef)).says (a.tmps.getD t undef) w
 phase : ∀ ph ∈ Ph, (∀ a, ph.start = some a → listed.getD a false = true) → (∀ b, ph.upto = some b → listed.getD b false = false) → ph.p (sig a.eval) w
theorem getD_two {listed : Array Bool} {i : Nat} (h : listed.getD i true = false) : listed.getD i false = false := by
 rcases Nat.lt_or_ge i listed.size with h' | h'
 ·simp [h'] at h ⊢; exact h
 ·simp [Array.getElem?_eq_none h'] at h
theorem getD_inn {listed : Array Bool} {i : Nat} (hi : i < listed.size) (h : listed.getD i false = false) : listed.getD i true = false := by
 simp [hi] at h ⊢; exact h
theorem onB_spec {o : Oper} {j : Nat} (h : onB o j = true) : ∃ e ∈ o.after, Region.binds .any e = true ∧ e.on = j := by
 unfold onB at h
 obtain ⟨e, he, hb⟩ := Array.any_eq_true'.1 h
 simp only [Bool.and_eq_true, beq_iff_eq] at hb
 exact ⟨e, he, hb.1, hb.2⟩
theorem blk_listed {listed : Array Bool} (hc : ∀ j oj, l[j]? = some oj → listed.getD j false = true → ∀ e ∈ oj.after, Region.binds .any e = true → listed.getD e.on false = true) (i : Nat) :
 ∀ (f k : Nat), blk l i f k = true → listed.getD k false = true → listed.getD i false = true
 | 0, _, h, _ => by simp [blk] at h
 | f + 1, k, h, hk => by
   unfold blk at h
   rw [Bool.or_eq_true, beq_iff_eq] at h
   rcases h with rfl | h
   ·exact hk
   ·cases ho : l[k]? with
    | none => rw [ho] at h; cases h
    | some o =>
      rw [ho] at h
      obtain ⟨e, he, hb⟩ := Array.any_eq_true'.1 h
      simp only [Bool.and_eq_true] at hb
      exact blk_listed hc i f e.on hb.2 (hc k o ho hk e he hb.1)
theorem srcOf_some {o : Oper} {t j : Nat} (h : srcOf l o t = some j) : onB o j = true ∧ ∃ oj, l[j]? = some oj ∧ oj.dst = some t := by
 have := List.find?_some h
 rw [Bool.and_eq_true] at this
 refine ⟨this.1, ?_⟩
 have h2 := this.2
 unfold dstIs at h2
 cases ho : l[j]? with
 | none => rw [ho] at h2; cases h2
 | some oj => rw [ho] at h2; exact ⟨oj, rfl, by simpa using h2⟩
theorem srcOf_none {o : Oper} {t : Nat} (h : srcOf l o t = none) {j : Nat} {oj : Oper} (hj : l[j]? = some oj) (hd : oj.dst = some t) : onB o j = false := by
 have h2 := (List.find?_eq_none.1 h) j (List.mem_range.2 (List.getElem?_eq_some_iff.1 hj).1)
 have h3 : dstIs l j t = true := by unfold dstIs; rw [hj]; simp [hd]
 rw [h3, Bool.and_true] at h2
 simpa using h2
theorem checkB_look {n i : Nat} {o : Oper} (h : checkB l n = true) (hi : l[i]? = some o) : ∀ t ∈ o.looksAt l.toArray, ∀ j oj, l[j]? = some oj → oj.dst = some t → onB o j = true ∨ blk l i l.length j = true := by
 intro t ht j oj hj hd
 have h1 := List.all_eq_true.1 h i (List.mem_range.2 (List.getElem?_eq_some_iff.1 hi).1)
 rw [hi] at h1
 simp only [Bool.and_eq_true] at h1
 have h2 := List.all_eq_true.1 h1.2 t ht
 have h3 := List.all_eq_true.1 h2 j (List.mem_range.2 (List.getElem?_eq_some_iff.1 hj).1)
 have h4 : dstIs l j t = true := by unfold dstIs; rw [hj]; simp [hd]
 rw [h4] at h3
 simpa using h3
theorem checkB_dst {n i : Nat} {o : Oper} {t : Nat} (h : checkB l n = true) (hi : l[i]? = some o) (hd : o.dst = some t) : t < n ∧ ∀ j oj, l[j]? = some oj → oj.dst = some t → j = i := by
 have h1 := List.all_eq_true.1 h i (List.mem_range.2 (List.getElem?_eq_some_iff.1 hi).1)
 rw [hi] at h1
 simp only [Bool.and_eq_true, hd, decide_eq_true_eq] at h1
 refine ⟨h1.1.1.1, fun j oj hj hdj => ?_⟩
 have h3 := List.all_eq_true.1 h1.1.1.2 j (List.mem_range.2 (List.getElem?_eq_some_iff.1 hj).1)
 have h4 : dstIs l j t = true := by unfold dstIs; rw [hj]; simp [hdj]
 rw [h4] at h3
 simpa using h3
theorem checkB_back {n i : Nat} {o : Oper} (h : checkB l n = true) (hi : l[i]? = some o) : ∀ e ∈ o.after, Region.binds .any e = true → e.on < i := by
 intro e he hb
 have h1 := List.all_eq_true.1 h i (List.mem_range.2 (List.getElem?_eq_some_iff.1 hi).1)
 rw [hi] at h1
 simp only [Bool.and_eq_true] at h1
 have h2 := Array.all_eq_true'.1 h1.1.2 e he
 rw [hb] at h2
 simpa using h2
theorem wanted_eq {o : Oper} {a : Act} : Region.wanted o (yielded l.toArray a.tmps) = wantedBy l o a.eval := by
 unfold Region.wanted wantedBy
 cases o.guard with
 | none => rfl
 | some g =>
   obtain ⟨g, b⟩ := g
   simp only [yielded, List.getElem?_toArray]
   cases hd : (l[g]?).bind (·.dst) with
   | none => simp
   | some t =>
     simp only [Option.bind_some, Act.eval]
     cases ht : a.tmps[t]? with
     | none => simp [ht, undef]
     | some v => cases v <;> simp [ht]
theorem evOk (a : Act) : EvOk a.eval := ⟨fun _ => rfl, fun _ => rfl, fun _ => rfl⟩
theorem does_wp {Q : Exit → Act → World → Prop} {a : Act} {o : Oper} {w : World} {K : Value → World → Prop} {next : Act → World → Prop} (h : Does P a.eval o w K) (hn : ∀ v w', K v w' → next (a.put o.dst v) w') : o.wp P a w next Q := by
 unfold Does at h
 unfold Oper.wp
 generalize (execOp a.eval o).run P w = r at *
 cases r with
 | ok nx w' =>
   cases nx <;> first
    | exact hn _ _ h
    | exact h.elim
    | exact Calls.mono h fun e w'' ⟨v, he, hk⟩ => by subst he; exact hn _ _ hk
 | halt x w' => exact h.elim
theorem put_get {a : Act} {t : Nat} {v : Value} (h : t < a.tmps.size) : (a.put (some t) v).tmps.getD t undef = v := by
 simp [Act.put, h]
theorem put_other {a : Act} {d : Option Tmp} {t : Nat} {v : Value} (h : d ≠ some t) : (a.put d v).tmps[t]? = a.tmps[t]? := by
 cases d with
 | none => rfl
 | some d =>
   have : d ≠ t := fun e => h (by rw [e])
   simp [Act.put, Array.getElem?_setIfInBounds_ne this]
theorem getD_of_get {x y : Array Value} {t : Nat} (h : x[t]? = y[t]?) : x.getD t undef = y.getD t undef := by
 rw [Array.getD_eq_getD_getElem?, Array.getD_eq_getD_getElem?, h]
theorem put_size (a : Act) (d : Option Tmp) (v : Value) : (a.put d v).tmps.size = a.tmps.size := by cases d <;> simp [Act.put]
theorem put_def (a : Act) (d : Option Tmp) (v : Value) : (a.put d v).defers = a.defers := by cases d <;> rfl
theorem listed_ne {listed : Array Bool} {i j : Nat} (hij : i ≠ j) : (listed.setIfInBounds i true).getD j false = listed.getD j false := getD_set_ne false hij
theorem sig_eval (a : Act) : sig a.eval = fun t => a.tmps.getD t undef := rfl
theorem sig_put {a : Act} {d : Option Tmp} {t : Nat} {v : Value} (h : d ≠ some t) : sig a.eval t = sig (a.put d v).eval t := by
 rw [sig_eval, sig_eval]
 exact (getD_of_get (put_other h)).symm
theorem Inv.step {n : Nat} {ds : List Deferred} {listed : Array Bool} {a : Act} {w w' : World} {i : Nat} {o : Oper} {v : Value} (h : Inv l F Ph C a0 ds listed a w) (hB : checkB l n = true) (hn : a0.size = n) (hi : l[i]? = some o) (hr : i ∈ Region.ready .any l.toArray listed)
 (hstab : ∀ i j x w w', needB l F i j = true → i ≠ j → C w → (F.getD j (.det undef)).says x w → T i w w' → (F.getD j (.det undef)).says x w')
 (hph : ∀ i (ph : Phase) σ w w', ph ∈ Ph → ph.start ≠ some i → ph.upto ≠ some i → liveB l i ph.start ph.upto = true → C w → ph.p σ w → T i w w' → ph.p σ w')
 (hC : C w') (hT : T i w w') (hF : (F.getD i (.det undef)).says v w') (hS : ∀ ph ∈ Ph, ph.start = some i → ph.p (sig a.eval) w') (hlk : lkB l (Ph.map fun ph => (ph.start, ph.looks)) = true) : Inv l F Ph C a0 ds (listed.setIfInBounds i true) (a.put o.dst v) w' := by
 obtain ⟨hun, o', ho', hall⟩ := mem_ready.1 hr
 have hoo : o' = o := by
  rw [List.getElem?_toArray, hi] at ho'
  exact (Option.some.inj ho').symm
 subst hoo
 have hil : i < listed.size := by rw [h.lsize]; exact (List.getElem?_eq_some_iff.1 hi).1
 have hun2 := getD_two hun
 refine ⟨hC, by simp [h.lsize], by rw [put_size, h.size], by rw [put_def, h.defers], ?_, ?_, ?_, ?_⟩
 ·intro j oj hj hl e he hb
  by_cases hij : i = j
  ·subst hij
   have : oj = o' := Option.some.inj (hj.symm.trans hi)
   subst this
   exact getD_set_true (hall e he hb)
  ·rw [listed_ne hij] at hl
   exact getD_set_true (h.closed j oj hj hl e he hb)
 ·intro t ht
  have hd : o'.dst ≠ some t := ht i o' hi (by simp [hil])
  rw [put_other hd]
  exact h.same t fun j oj hj hl => ht j oj hj (getD_set_true hl)
 ·intro j oj t hj hl hd hne
  by_cases hij : i = j
  ·subst hij
   have : oj = o' := Option.some.inj (hj.symm.trans hi)
   subst this
   have hlt := (checkB_dst hB hi hd).1
   rw [hd, put_get (by rw [h.size, hn]; exact hlt)]
   exact hF
  ·rw [listed_ne hij] at hl
   have hd2 : o'.dst ≠ some t := fun e => hij ((checkB_dst hB hj hd).2 i o' hi e)
   rw [getD_of_get (put_other hd2)]
   have hne2 : (F.getD j (.det undef)).keeps = true ∨ ∃ (k : Nat) (ok : Oper), l[k]? = some ok ∧ listed.getD k false = false ∧ usesB l ok j = true := by
    rcases hne with hk | ⟨k, ok, hk, hkl, hon⟩
    ·exact .inl hk
    ·refine .inr ⟨k, ok, hk, ?_, hon⟩
     by_cases hik : i = k
     ·subst hik; exact hun2
     ·rw [listed_ne hik] at hkl; exact hkl
   refine hstab i j _ w w' ?_ hij h.world (h.fact j oj t hj hl hd hne2) hT
   unfold needB
   have hnb : blk l i l.length j = false := by
    cases hb : blk l i l.length j with
    | false => rfl
    | true =>
      have := blk_listed h.closed i l.length j hb hl
      rw [hun2] at this
      cases this
   rw [hnb, Bool.not_false, Bool.true_and, Bool.or_eq_true]
   rcases hne with hk | ⟨k, ok, hk, hkl, hon⟩
   ·exact .inl hk
   ·refine .inr (List.any_eq_true.2 ⟨k, List.mem_range.2 (List.getElem?_eq_some_iff.1 hk).1, ?_⟩)
    rw [hk]
    have hik : k ≠ i := fun e => by
     subst e
     simp [hil] at hkl
    rw [listed_ne (fun e => hik e.symm)] at hkl
    have hbk : blk l k l.length i = false := by
     cases hbb : blk l k l.length i with
     | false => rfl
     | true =>
       exfalso
       obtain ⟨f, hf⟩ : ∃ f, l.length = f + 1 := ⟨l.length - 1, by have := (List.getElem?_eq_some_iff.1 hi).1; omega⟩
       rw [hf] at hbb
       unfold blk at hbb
       rw [Bool.or_eq_true, beq_iff_eq] at hbb
       rcases hbb with e | hbb
       ·exact hik e.symm
       ·rw [hi] at hbb
        obtain ⟨e, he, hb2⟩ := Array.any_eq_true'.1 hbb
        simp only [Bool.and_eq_true] at hb2
        have := blk_listed h.closed k f e.on hb2.2 (hall e he hb2.1)
        rw [hkl] at this
        cases this
    simp [hik, hon, hbk]
 ·intro ph hp hfrom hupto
  have hlook : ∀ d, o'.dst = some d → d ∈ ph.looks → ∃ s, ph.start = some s ∧ s ≠ i ∧ blk l i l.length s = true := fun d hd hdl => by
   have h1 := List.all_eq_true.1 hlk i (List.mem_range.2 (List.getElem?_eq_some_iff.1 hi).1)
   rw [hi] at h1
   simp only [hd] at h1
   have h2 := List.all_eq_true.1 h1 _ (List.mem_map.2 ⟨ph, hp, rfl⟩)
   simp only [Bool.or_eq_true, Bool.not_eq_true'] at h2
   rcases h2 with h2 | h2
   ·simp [hdl] at h2
   ·cases hst : ph.start with
    | none => rw [hst] at h2; cases h2
    | some s =>
      rw [hst] at h2
      simp only [Bool.and_eq_true, bne_iff_ne] at h2
      exact ⟨s, rfl, h2.1, h2.2⟩
  by_cases hs : ph.start = some i
  ·refine ph.ext _ _ w' (fun t ht => sig_put fun hd => ?_) (hS ph hp hs)
   obtain ⟨s, h1, h2, _⟩ := hlook t hd ht
   rw [hs] at h1
   exact h2 (Option.some.inj h1).symm
  ·have hu : ph.upto ≠ some i := fun e => by
    have := hupto i e
    simp [hil] at this
   have hf2 : ∀ a, ph.start = some a → listed.getD a false = true := fun a ha => by
    have h1 := hfrom a ha
    rwa [listed_ne (fun e => hs (by rw [e]; exact ha))] at h1
   have hu2 : ∀ b, ph.upto = some b → listed.getD b false = false := fun b hb => by
    have h1 := hupto b hb
    rwa [listed_ne (fun e => hu (by rw [e]; exact hb))] at h1
   refine ph.ext _ _ w' (fun t ht => sig_put fun hd => ?_) (hph i ph _ w w' hp hs hu ?_ h.world (h.phase ph hp hf2 hu2) hT)
   ·obtain ⟨s, h1, _, h3⟩ := hlook t hd ht
    have := blk_listed h.closed i l.length s h3 (hf2 s h1)
    rw [hun2] at this
    cases this
   unfold liveB
   rw [Bool.and_eq_true]
   constructor
   ·cases ha : ph.start with
    | none => rfl
    | some a =>
      cases hb : blk l i l.length a with
      | false => simp [hb]
      | true =>
        have := blk_listed h.closed i l.length a hb (hf2 a ha)
        rw [hun2] at this
        cases this
   ·cases hb : ph.upto with
    | none => rfl
    | some b =>
      cases hc : blk l b l.length i with
      | false => simp [hc]
      | true =>
        exfalso
        have hbl := hu2 b hb
        have hpos : 0 < l.length := Nat.lt_of_le_of_lt (Nat.zero_le _) (List.getElem?_eq_some_iff.1 hi).1
        obtain ⟨f, hf⟩ : ∃ f, l.length = f + 1 := ⟨l.length - 1, by omega⟩
        rw [hf] at hc
        unfold blk at hc
        rw [Bool.or_eq_true, beq_iff_eq] at hc
        rcases hc with e | hc
        ·exact hu (by rw [hb, e])
        ·rw [hi] at hc
         obtain ⟨e, he, hbb⟩ := Array.any_eq_true'.1 hc
         simp only [Bool.and_eq_true] at hbb
         have := blk_listed h.closed b f e.on hbb.2 (hall e he hbb.1)
         rw [hbl] at this
         cases this
theorem fin_of (K : Array Value → Prop) (w : World) (g : Nat → Value) : ∀ (m : List (Oper × Fact)) (arr : Array Value), FinK g K w m arr → (∀ p ∈ m, ∀ t, p.1.dst = some t → p.2.keeps = true → p.2.says (g t) w) →
 K (m.foldl (fun arr p => match p.1.dst with | some t => arr.setIfInBounds t (g t) | none => arr) arr)
 | [], arr, h, _ => h
 | (⟨d, _, _, _, _, _⟩, f) :: r, arr, h, hs => by
   cases d with
   | none => exact fin_of K w g r arr h fun p hp => hs p (List.mem_cons_of_mem _ hp)
   | some t =>
     have h0 := hs _ (List.mem_cons_self) t rfl
     have hr := fun p hp => hs p (List.mem_cons_of_mem _ hp)
     cases f with
     | det v =>
       have hv : g t = v := h0 rfl
       subst hv
       exact fin_of K w g r _ h hr
     | held p => exact fin_of K w g r _ (h (g t) rfl (h0 rfl)) hr
     | used p => exact fin_of K w g r _ (h (g t) rfl) hr
theorem fold_get (g : Nat → Value) : ∀ (m : List (Oper × Fact)) (arr : Array Value) (t : Nat),
 (m.foldl (fun arr p => match p.1.dst with | some t => arr.setIfInBounds t (g t) | none => arr) arr)[t]? = if (∃ p ∈ m, p.1.dst = some t) ∧ t < arr.size then some (g t) else arr[t]?
 | [], arr, t => by simp
 | (o, f) :: r, arr, t => by
   rw [List.foldl_cons, fold_get g r]
   cases hd : o.dst with
   | none =>
     have e : (∃ p, p ∈ (o, f) :: r ∧ p.1.dst = some t) ↔ ∃ p, p ∈ r ∧ p.1.dst = some t := by simp [hd]
     simp only [e]
   | some d =>
     simp only [Array.size_setIfInBounds, List.mem_cons, exists_eq_or_imp]
     by_cases hr : ∃ p ∈ r, p.1.dst = some t
     ·by_cases hlt : t < arr.size
      ·rw [if_pos ⟨hr, hlt⟩, if_pos ⟨.inr hr, hlt⟩]
      ·rw [if_neg (fun h => hlt h.2), if_neg (fun h => hlt h.2), Array.getElem?_eq_none (by simp; omega), Array.getElem?_eq_none (by omega)]
     ·rw [if_neg (fun h => hr h.1)]
      by_cases hdt : d = t
      ·subst hdt
       by_cases hlt : d < arr.size
       ·rw [if_pos ⟨.inl hd, hlt⟩]
        simp [hlt]
       ·have e : arr.setIfInBounds d (g d) = arr := by simp [Array.setIfInBounds, hlt]
        rw [if_neg (fun h => hlt h.2), e]
      ·rw [Array.getElem?_setIfInBounds_ne hdt, if_neg]
       rintro ⟨h | h, _⟩
       ·rw [hd] at h; exact hdt (Option.some.inj h)
       ·exact hr h
theorem wpAny_facts {Q : Exit → Act → World → Prop} {a : Act} {w : World} (n : Nat) (F : List Fact) (Ph : List Phase) (C : World → Prop) (T : Nat → World → World → Prop) (hn : a.tmps.size = n) (hB : checkB l n = true) (hFl : F.length = l.length) (hC : C { w with drawn := w.drawn + 1 })
 (hstab : ∀ i j x w w', needB l F i j = true → i ≠ j → C w → (F.getD j (.det undef)).says x w → T i w w' → (F.getD j (.det undef)).says x w')
 (hph0 : ∀ ph ∈ Ph, ph.start = none → ph.p (sig a.eval) { w with drawn := w.drawn + 1 })
 (hph : ∀ i (ph : Phase) σ w w', ph ∈ Ph → ph.start ≠ some i → ph.upto ≠ some i → liveB l i ph.start ph.upto = true → C w → ph.p σ w → T i w w' → ph.p σ w')
 (hpl : ∀ ph ∈ Ph, ∀ a, ph.start = some a → a < l.length)
 (hob : ∀ i o, l[i]? = some o → Ob P l F Ph C T a.tmps i o)
 (hlk : lkB l (Ph.map fun ph => (ph.start, ph.looks)) = true)
 (hfin : ∀ σ w', C w' → (∀ ph ∈ Ph, ph.upto = none → ph.p σ w') → FinK σ (fun arr => Q .normal ⟨arr, a.defers⟩ w') w' (l.zip F) a.tmps) : wpAny P .any l.toArray Q l.toArray.size (Array.replicate l.toArray.size false) a { w with drawn := w.drawn + 1 } := by
 have main : ∀ (fuel : Nat) (listed : Array Bool) (a' : Act) (w' : World), Inv l F Ph C a.tmps a.defers listed a' w' → listed.toList.countP (fun b => !b) ≤ fuel → wpAny P .any l.toArray Q fuel listed a' w' := by
  have done : ∀ (listed : Array Bool) (a' : Act) (w' : World), Inv l F Ph C a.tmps a.defers listed a' w' → Region.ready .any l.toArray listed = [] → (∀ j, j < l.length → listed.getD j false = true) → Q .normal a' w' := by
   intro listed a' w' hI _ hall
   have h1 := fin_of (fun arr => Q .normal ⟨arr, a.defers⟩ w') w' (fun t => a'.tmps.getD t undef) (l.zip F) a.tmps (hfin (fun t => a'.tmps.getD t undef) w' hI.world fun ph hp hu => sig_eval a' ▸ hI.phase ph hp (fun a ha => hall a (hpl ph hp a ha)) (fun b hb => by rw [hu] at hb; cases hb)) (by
    intro p hp t hd hk
    obtain ⟨j, hj, e⟩ := List.getElem_of_mem hp
    have hjl : j < l.length := by rw [List.length_zip] at hj; omega
    have hjF : j < F.length := by omega
    rw [List.getElem_zip] at e
    have e1 : l[j]? = some p.1 := by rw [List.getElem?_eq_getElem hjl, ← e]
    have e2 : F.getD j (.det undef) = p.2 := by rw [List.getD_eq_getElem?_getD, List.getElem?_eq_getElem hjF, ← e]; rfl
    have := hI.fact j p.1 t e1 (hall j hjl) hd (.inl (by rw [e2]; exact hk))
    rw [e2] at this
    exact this)
   have h2 : ((l.zip F).foldl (fun arr p => match p.1.dst with | some t => arr.setIfInBounds t (a'.tmps.getD t undef) | none => arr) a.tmps) = a'.tmps := by
    apply Array.ext_getElem?
    intro t
    rw [fold_get]
    by_cases hex : ∃ p ∈ l.zip F, p.1.dst = some t
    ·obtain ⟨p, hp, hd⟩ := hex
     obtain ⟨j, hj, e⟩ := List.getElem_of_mem hp
     have hjl : j < l.length := by rw [List.length_zip] at hj; omega
     rw [List.getElem_zip] at e
     have e1 : l[j]? = some p.1 := by rw [List.getElem?_eq_getElem hjl, ← e]
     have hlt := (checkB_dst hB e1 hd).1
     rw [if_pos ⟨⟨p, hp, hd⟩, by omega⟩, Array.getD_eq_getD_getElem?, Array.getElem?_eq_getElem (by rw [hI.size]; omega)]
     rfl
    ·rw [if_neg (fun h => hex h.1)]
     refine (hI.same t fun j o hj _ hd => hex ?_).symm
     have hjl := (List.getElem?_eq_some_iff.1 hj).1
     have hjF : j < F.length := by omega
     refine ⟨(l[j], F[j]), ?_, ?_⟩
     ·have hz : j < (l.zip F).length := by rw [List.length_zip]; omega
      have : (l.zip F)[j] = (l[j], F[j]) := List.getElem_zip
      rw [← this]
      exact List.getElem_mem hz
     ·have : l[j] = o := (List.getElem?_eq_some_iff.1 hj).2
      rw [this]; exact hd
   rw [h2, ← hI.defers] at h1
   exact h1
  have allOf : ∀ (listed : Array Bool), listed.size = l.length → listed.toList.countP (fun b => !b) = 0 → ∀ j, j < l.length → listed.getD j false = true := by
   intro listed hs hc j hj
   rw [List.countP_eq_zero] at hc
   have h1 : j < listed.size := by omega
   have h2 := hc listed[j] (by simp)
   simpa [h1] using h2
  intro fuel
  induction fuel with
  | zero =>
    intro listed a' w' hI hf
    have hall := allOf listed hI.lsize (by omega)
    have hr : Region.ready .any l.toArray listed = [] := by
     rw [List.eq_nil_iff_forall_not_mem]
     intro i hi
     obtain ⟨hun, o, ho, _⟩ := mem_ready.1 hi
     have hlt : i < l.length := by
      rw [List.getElem?_toArray] at ho
      exact (List.getElem?_eq_some_iff.1 ho).1
     have := hall i hlt
     rw [getD_two hun] at this
     cases this
    exact ⟨hr, done listed a' w' hI hr hall⟩
  | succ fuel ih =>
    intro listed a' w' hI hf
    have stepd : ∀ i ∈ Region.ready .any l.toArray listed, wpOp P l.toArray Q i (wpAny P .any l.toArray Q fuel (listed.setIfInBounds i true)) a' w' := by
     intro i hi
     obtain ⟨hun, o, ho, hall⟩ := mem_ready.1 hi
     rw [List.getElem?_toArray] at ho
     have hlt := (List.getElem?_eq_some_iff.1 ho).1
     have hcount : (listed.setIfInBounds i true).toList.countP (fun b => !b) ≤ fuel := by
      have hls : i < listed.size := by rw [hI.lsize]; exact hlt
      have hget : listed[i] = false := by simpa [hls] using hun
      have := List.countP_set (p := fun b => !b) (l := listed.toList) (i := i) (a := true) (by simpa using hls)
      have hpos : 0 < listed.toList.countP (fun b => !b) := List.countP_pos_iff.2 ⟨listed[i], by simp, by simp [hget]⟩
      rw [Array.toList_setIfInBounds, this, if_pos (by simp [hget]), if_neg (by simp)]
      omega
     have hob1 := hob i o ho a'.eval w' (evOk a') hI.world (by
      intro t ht
      unfold slotSays
      cases hs : srcOf l o t with
      | some j =>
        obtain ⟨hon, oj, hj, hd⟩ := srcOf_some hs
        obtain ⟨e, he, hb, rfl⟩ := onB_spec hon
        exact hI.fact e.on oj t hj (hall e he hb) hd (.inr ⟨i, o, ho, getD_two hun, by unfold usesB; rw [hon, hj]; simp only [hd, Bool.true_and]; simpa using ht⟩)
      | none =>
        refine getD_of_get (hI.same t fun j oj hj hl hd => ?_)
        rcases checkB_look hB ho t ht j oj hj hd with h | h
        ·rw [srcOf_none hs hj hd] at h; cases h
        ·have := blk_listed hI.closed i l.length j h hl
         rw [getD_two hun] at this
         cases this) (by
      intro ph hp hs
      unfold seesB at hs
      rw [Bool.and_eq_true] at hs
      refine hI.phase ph hp (fun a ha => ?_) (fun b hb => ?_)
      ·have h1 := hs.1
       rw [ha] at h1
       simp only [Bool.and_eq_true, bne_iff_ne] at h1
       obtain ⟨f, hf⟩ : ∃ f, l.length = f + 1 := ⟨l.length - 1, by omega⟩
       have h2 := h1.2
       rw [hf] at h2
       unfold blk at h2
       rw [Bool.or_eq_true, beq_iff_eq] at h2
       rcases h2 with e | h2
       ·exact absurd e.symm h1.1
       ·rw [ho] at h2
        obtain ⟨e, he, hbb⟩ := Array.any_eq_true'.1 h2
        simp only [Bool.and_eq_true] at hbb
        exact blk_listed hI.closed a f e.on hbb.2 (hall e he hbb.1)
      ·have h1 := hs.2
       rw [hb] at h1
       cases hl : listed.getD b false with
       | false => rfl
       | true =>
         have := blk_listed hI.closed i l.length b h1 hl
         rw [getD_two hun] at this
         cases this)
     unfold wpOp
     simp only [List.getElem?_toArray, ho]
     rw [wanted_eq]
     by_cases hw : wantedBy l o a'.eval = true
     ·rw [if_pos hw] at hob1 ⊢
      exact .inl (does_wp hob1 fun v w'' ⟨hC2, hT2, hF2, hS2⟩ => ih _ _ _ (hI.step hB hn ho hi hstab hph hC2 hT2 hF2 hS2 hlk) hcount)
     ·rw [if_neg hw] at hob1 ⊢
      exact ih _ _ _ (hI.step hB hn ho hi hstab hph hI.world hob1.1 hob1.2.1 hob1.2.2 hlk) hcount
    refine ⟨fun hr => ?_, stepd⟩
    refine done listed a' w' hI hr ?_
    intro j
    induction j using Nat.strongRecOn with
    | _ j jh =>
      intro hj
      cases hl : listed.getD j false with
      | true => rfl
      | false =>
        exfalso
        have hnr : j ∉ Region.ready .any l.toArray listed := by rw [hr]; simp
        refine hnr (mem_ready.2 ⟨getD_inn (by rw [hI.lsize]; exact hj) hl, l[j], by rw [List.getElem?_toArray, List.getElem?_eq_getElem hj], fun e he hb => ?_⟩)
        have hlt := checkB_back hB (List.getElem?_eq_getElem hj) e he hb
        exact jh e.on hlt (by omega)
 have hrep : ∀ j, (Array.replicate l.toArray.size false).getD j false = false := fun j => by
  rw [Array.getD_eq_getD_getElem?]
  by_cases h : j < l.toArray.size
  ·rw [Array.getElem?_replicate, if_pos h]; rfl
  ·rw [Array.getElem?_replicate, if_neg h]; rfl
 refine main _ _ _ _ ⟨hC, by simp, rfl, rfl, ?_, fun _ _ => rfl, ?_, ?_⟩ ?_
 ·intro j oj hj hl
  rw [hrep j] at hl
  cases hl
 ·intro j o t hj hl
  rw [hrep j] at hl
  cases hl
 ·intro ph hp hs _
  cases ha : ph.start with
  | none => exact hph0 ph hp ha
  | some a =>
    have := hs a ha
    rw [hrep a] at this
    cases this
 ·rw [Array.toList_replicate]
  exact Nat.le_trans List.countP_le_length (by simp)
theorem wp_region_facts {id : Nat} {Q : Exit → Act → World → Prop} {a : Act} {w : World} (n : Nat) (F : List Fact) (Ph : List Phase) (C : World → Prop) (T : Nat → World → World → Prop) (hm : P.follows .mixedOrders = true) (hn : a.tmps.size = n) (hB : checkB l n = true) (hFl : F.length = l.length) (hC : C { w with drawn := w.drawn + 1 })
 (hstab : ∀ i j x w w', needB l F i j = true → i ≠ j → C w → (F.getD j (.det undef)).says x w → T i w w' → (F.getD j (.det undef)).says x w')
 (hph0 : ∀ ph ∈ Ph, ph.start = none → ph.p (sig a.eval) { w with drawn := w.drawn + 1 })
 (hph : ∀ i (ph : Phase) σ w w', ph ∈ Ph → ph.start ≠ some i → ph.upto ≠ some i → liveB l i ph.start ph.upto = true → C w → ph.p σ w → T i w w' → ph.p σ w')
 (hpl : ∀ ph ∈ Ph, ∀ a, ph.start = some a → a < l.length)
 (hob : ∀ i o, l[i]? = some o → Ob P l F Ph C T a.tmps i o)
 (hlk : lkB l (Ph.map fun ph => (ph.start, ph.looks)) = true)
 (hfin : ∀ σ w', C w' → (∀ ph ∈ Ph, ph.upto = none → ph.p σ w') → FinK σ (fun arr => Q .normal ⟨arr, a.defers⟩ w') w' (l.zip F) a.tmps) : (Code.region id l.toArray true).wp P Q a w :=
 wp_region_any hm (wpAny_facts n F Ph C T hn hB hFl hC hstab hph0 hph hpl hob hlk hfin)
def ObAll (P : Program) (l : List Oper) (F : List Fact) (Ph : List Phase) (C : World → Prop) (T : Nat → World → World → Prop) (a0 : Array Value) : Nat → List Oper → Prop
 | _, [] => True
 | i, o :: r => Ob P l F Ph C T a0 i o ∧ ObAll P l F Ph C T a0 (i + 1) r
theorem obAll_go : ∀ (r : List Oper) (k : Nat), ObAll P l F Ph C T a0 k r → ∀ i o, r[i]? = some o → Ob P l F Ph C T a0 (k + i) o
 | [], _, _, i, o, h => by simp at h
 | o :: r, k, h, 0, o', ho => by
   have : o = o' := by simpa using ho
   subst this
   exact h.1
 | o :: r, k, h, i + 1, o', ho => by
   have := obAll_go r (k + 1) h.2 i o' (by simpa using ho)
   rw [show k + (i + 1) = k + 1 + i by omega]
   exact this
theorem ob_all (h : ObAll P l F Ph C T a0 0 l) : ∀ i o, l[i]? = some o → Ob P l F Ph C T a0 i o := fun i o ho => by
 have := obAll_go l 0 h i o ho
 rwa [Nat.zero_add] at this
theorem see_out {o : Oper} {ev : Operand → Value} {w : World} {v : Value} (hs : ∀ t ∈ o.looksAt l.toArray, slotSays l F a0 o t (ev (.tmp t)) w) (t : Nat) (h1 : (o.looksAt l.toArray).contains t = true) (h2 : srcOf l o t = none) (h3 : a0[t]? = some v) : ev (.tmp t) = v := by
 have := hs t (by simpa using h1)
 unfold slotSays at this
 rw [h2] at this
 simp only at this
 rw [this, Array.getD_eq_getD_getElem?, h3]; rfl
theorem see_det {o : Oper} {ev : Operand → Value} {w : World} {v : Value} (hs : ∀ t ∈ o.looksAt l.toArray, slotSays l F a0 o t (ev (.tmp t)) w) (t j : Nat) (h1 : (o.looksAt l.toArray).contains t = true) (h2 : srcOf l o t = some j) (h3 : F.getD j (.det undef) = .det v) : ev (.tmp t) = v := by
 have := hs t (by simpa using h1)
 unfold slotSays at this
 rw [h2] at this
 simp only at this
 rw [h3] at this
 exact this
theorem see_held {o : Oper} {ev : Operand → Value} {w : World} {p : Value → World → Prop} (hs : ∀ t ∈ o.looksAt l.toArray, slotSays l F a0 o t (ev (.tmp t)) w) (t j : Nat) (h1 : (o.looksAt l.toArray).contains t = true) (h2 : srcOf l o t = some j) (h3 : F.getD j (.det undef) = .held p) : p (ev (.tmp t)) w := by
 have := hs t (by simpa using h1)
 unfold slotSays at this
 rw [h2] at this
 simp only at this
 rw [h3] at this
 exact this
theorem see_used {o : Oper} {ev : Operand → Value} {w : World} {p : Value → World → Prop} (hs : ∀ t ∈ o.looksAt l.toArray, slotSays l F a0 o t (ev (.tmp t)) w) (t j : Nat) (h1 : (o.looksAt l.toArray).contains t = true) (h2 : srcOf l o t = some j) (h3 : F.getD j (.det undef) = .used p) : p (ev (.tmp t)) w := by
 have := hs t (by simpa using h1)
 unfold slotSays at this
 rw [h2] at this
 simp only at this
 rw [h3] at this
 exact this
theorem wanted_none {o : Oper} {ev : Operand → Value} (h : o.guard = none) : wantedBy l o ev = true := by unfold wantedBy; rw [h]
theorem wanted_bool {o : Oper} {ev : Operand → Value} {g : Nat} {b q r : Bool} {t : Nat} (h : o.guard = some (g, b)) (hd : (l[g]?).bind (·.dst) = some t) (hv : ev (.tmp t) = .bool q) (hr : (q == b) = r) : wantedBy l o ev = r := by
 unfold wantedBy
 rw [h]
 simp only [hd, hv]
 exact hr
theorem no_start {i : Nat} (hp : Ph.all (fun ph => ph.start != some i) = true) {w : World} {σ : Nat → Value} : ∀ ph ∈ Ph, ph.start = some i → ph.p σ w := fun ph h1 h2 => by
 have := List.all_eq_true.1 hp ph h1
 rw [h2] at this
 simp at this
/-- an operation that yields a value and leaves the world -/
theorem ob_det {i : Nat} {o : Oper} {ev : Operand → Value} {w : World} {v : Value} (hw : wantedBy l o ev = true) (hF : F.getD i (.det undef) = .det v) (hp : Ph.all (fun ph => ph.start != some i) = true) (hC : C w) (hT : T i w w) (h : (execOp ev o).run P w = .ok (.value v) w) :
 if wantedBy l o ev = true then Does P ev o w (fun v w' => C w' ∧ T i w w' ∧ (F.getD i (.det undef)).says v w' ∧ ∀ ph ∈ Ph, ph.start = some i → ph.p (sig ev) w') else T i w w ∧ (F.getD i (.det undef)).says undef w ∧ ∀ ph ∈ Ph, ph.start = some i → ph.p (sig ev) w :=
 ob_yes hw (does_value h ⟨hC, hT, by rw [hF]; rfl, no_start hp⟩)
def StabF (C : World → Prop) (R : World → World → Prop) : Fact → Prop
 | .det _ => True
 | .held p => ∀ x w w', C w → p x w → R w w' → p x w'
 | .used p => ∀ x w w', C w → p x w → R w w' → p x w'
def StabAll (C : World → Prop) (R : World → World → Prop) : List Fact → Prop
 | [] => True
 | f :: r => StabF C R f ∧ StabAll C R r
theorem StabF.use {R : World → World → Prop} {f : Fact} (h : StabF C R f) {x : Value} {w w' : World} (hC : C w) (hx : f.says x w) (hR : R w w') : f.says x w' := by
 cases f with
 | det v => exact hx
 | held p => exact h x w w' hC hx hR
 | used p => exact h x w w' hC hx hR
theorem stabAll_at {R : World → World → Prop} : ∀ {F : List Fact}, StabAll C R F → ∀ j, StabF C R (F.getD j (.det undef))
 | [], _, j => by simp [StabF]
 | f :: r, h, 0 => h.1
 | f :: r, h, j + 1 => by
   have := stabAll_at h.2 j
   simpa using this
def Fact.isDet : Fact → Bool
 | .det _ => true
 | _ => false
/-- what an operation does to the world: some do what is said of them, the others what all do -/
def TSp (sp : List (Nat × (World → World → Prop))) (R : World → World → Prop) (i : Nat) (w w' : World) : Prop := match sp.find? (fun p => p.1 == i) with | some p => p.2 w w' | none => R w w'
theorem TSp.of {sp : List (Nat × (World → World → Prop))} {R : World → World → Prop} {i : Nat} {w w' : World} (hn : sp.find? (fun p => p.1 == i) = none) (h : R w w') : TSp sp R i w w' := by unfold TSp; rw [hn]; exact h
theorem TSp.sp {sp : List (Nat × (World → World → Prop))} {R : World → World → Prop} {i : Nat} {p : Nat × (World → World → Prop)} {w w' : World} (hn : sp.find? (fun p => p.1 == i) = some p) (h : p.2 w w') : TSp sp R i w w' := by unfold TSp; rw [hn]; exact h
def stabChk (l : List Oper) (ds ks : List Bool) (js : List (Nat × Nat)) (apps : List Nat) : Bool :=
 apps.all fun i => (List.range l.length).all fun j => ds.getD j true || j == i || blk l i l.length j ||
  !(ks.getD j true || (List.range l.length).any fun k => (k != i && !blk l k l.length i) && (match l[k]? with | some o => usesB l o j | none => false)) || js.contains (i, j)
def phChk (l : List Oper) (ps : List (Option Nat × Option Nat)) (jp : List (Nat × Nat)) (apps : List Nat) : Bool :=
 apps.all fun i => (List.range ps.length).all fun k => match ps[k]? with
  | some q => q.1 == some i || q.2 == some i || !liveB l i q.1 q.2 || jp.contains (i, k)
  | none => true
theorem map_getD {B : Type} (f : Fact → B) (d : Fact) {db : B} (hd : f d = db) (j : Nat) : (F.map f).getD j db = f (F.getD j d) := by
 rw [List.getD_eq_getElem?_getD, List.getD_eq_getElem?_getD, List.getElem?_map]
 cases F[j]? with
 | none => exact hd.symm
 | some x => rfl
def JsAll (F : List Fact) (C : World → Prop) (sp : List (Nat × (World → World → Prop))) : List (Nat × Nat) → Prop
 | [] => True
 | p :: r => (match sp.find? (fun q => q.1 == p.1) with | some q => StabF C q.2 (F.getD p.2 (.det undef)) | none => False) ∧ JsAll F C sp r
theorem jsAll_at {sp : List (Nat × (World → World → Prop))} : ∀ {js : List (Nat × Nat)}, JsAll F C sp js → ∀ i j, (i, j) ∈ js → (match sp.find? (fun q => q.1 == i) with | some q => StabF C q.2 (F.getD j (.det undef)) | none => False)
 | [], _, _, _, h => by cases h
 | p :: r, h, i, j, hm => by
   rcases List.mem_cons.1 hm with e | e
   ·subst e; exact h.1
   ·exact jsAll_at h.2 i j e
theorem stab_sp {R : World → World → Prop} (sp : List (Nat × (World → World → Prop))) (ds ks : List Bool) (js : List (Nat × Nat)) (hds : F.map Fact.isDet = ds) (hks : F.map Fact.keeps = ks) (hFl : F.length = l.length) (hchk : stabChk l ds ks js (sp.map (·.1)) = true) (h : StabAll C R F) (hjs : JsAll F C sp js) :
 ∀ i j x w w', needB l F i j = true → i ≠ j → C w → (F.getD j (.det undef)).says x w → TSp sp R i w w' → (F.getD j (.det undef)).says x w' := by
 intro i j x w w' hn hij hC hx hT
 unfold TSp at hT
 cases ha : sp.find? (fun p => p.1 == i) with
 | none => rw [ha] at hT; exact (stabAll_at h j).use hC hx hT
 | some p =>
   rw [ha] at hT
   have hpm := List.mem_of_find?_eq_some ha
   have hpi : p.1 = i := by simpa using List.find?_some ha
   cases hd : (F.getD j (.det undef)).isDet with
   | true =>
     generalize F.getD j (.det undef) = f at *
     cases f with
     | det v => exact hx
     | held p => cases hd
     | used p => cases hd
   | false =>
     have hj : j < l.length := by
      rcases Nat.lt_or_ge j l.length with h | h
      ·exact h
      ·rw [List.getD_eq_getElem?_getD, List.getElem?_eq_none (by omega)] at hd; cases hd
     have h1 := List.all_eq_true.1 (List.all_eq_true.1 hchk i (List.mem_map.2 ⟨p, hpm, hpi⟩)) j (List.mem_range.2 hj)
     have e1 : ds.getD j true = (F.getD j (.det undef)).isDet := by rw [← hds]; exact map_getD Fact.isDet (.det undef) rfl j
     have e2 : ks.getD j true = (F.getD j (.det undef)).keeps := by rw [← hks]; exact map_getD Fact.keeps (.det undef) rfl j
     rw [e1, e2, hd] at h1
     unfold needB at hn
     rw [Bool.and_eq_true, Bool.not_eq_true'] at hn
     rw [hn.1, hn.2, show (j == i) = false from by simpa using fun e => hij e.symm] at h1
     have hm : (i, j) ∈ js := by simpa using h1
     have h2 := jsAll_at hjs i j hm
     rw [ha] at h2
     exact StabF.use h2 hC hx hT
def JpAll (Ph : List Phase) (C : World → Prop) (sp : List (Nat × (World → World → Prop))) : List (Nat × Nat) → Prop
 | [] => True
 | p :: r => (match sp.find? (fun q => q.1 == p.1), Ph[p.2]? with | some q, some ph => ∀ σ w w', C w → ph.p σ w → q.2 w w' → ph.p σ w' | _, _ => False) ∧ JpAll Ph C sp r
theorem jpAll_at {sp : List (Nat × (World → World → Prop))} : ∀ {jp : List (Nat × Nat)}, JpAll Ph C sp jp → ∀ i k, (i, k) ∈ jp → (match sp.find? (fun q => q.1 == i), Ph[k]? with | some q, some ph => ∀ σ w w', C w → ph.p σ w → q.2 w w' → ph.p σ w' | _, _ => False)
 | [], _, _, _, h => by cases h
 | p :: r, h, i, k, hm => by
   rcases List.mem_cons.1 hm with e | e
   ·subst e; exact h.1
   ·exact jpAll_at h.2 i k e
theorem phase_sp {R : World → World → Prop} (sp : List (Nat × (World → World → Prop))) (ps : List (Option Nat × Option Nat)) (jp : List (Nat × Nat)) (hps : Ph.map (fun ph => (ph.start, ph.upto)) = ps) (hchk : phChk l ps jp (sp.map (·.1)) = true) (h : ∀ ph ∈ Ph, ∀ σ w w', C w → ph.p σ w → R w w' → ph.p σ w') (hjp : JpAll Ph C sp jp) :
 ∀ i (ph : Phase) σ w w', ph ∈ Ph → ph.start ≠ some i → ph.upto ≠ some i → liveB l i ph.start ph.upto = true → C w → ph.p σ w → TSp sp R i w w' → ph.p σ w' := by
 intro i ph σ w w' hp hs hu hl hC hx hT
 unfold TSp at hT
 cases ha : sp.find? (fun p => p.1 == i) with
 | none => rw [ha] at hT; exact h ph hp σ w w' hC hx hT
 | some p =>
   rw [ha] at hT
   have hpm := List.mem_of_find?_eq_some ha
   have hpi : p.1 = i := by simpa using List.find?_some ha
   obtain ⟨k, hk, hke⟩ := List.getElem_of_mem hp
   have hkp : ps[k]? = some (ph.start, ph.upto) := by
    rw [← hps, List.getElem?_map, List.getElem?_eq_getElem hk, hke]; rfl
   have h1 := List.all_eq_true.1 (List.all_eq_true.1 hchk i (List.mem_map.2 ⟨p, hpm, hpi⟩)) k (List.mem_range.2 (List.getElem?_eq_some_iff.1 hkp).1)
   rw [hkp] at h1
   simp only [Bool.or_eq_true, beq_iff_eq, hl, Bool.not_true] at h1
   rcases h1 with ((h1 | h1) | h1) | h1
   ·exact absurd h1 hs
   ·exact absurd h1 hu
   ·cases h1
   ·have h2 := jpAll_at hjp i k (by simpa using h1)
    rw [ha, List.getElem?_eq_getElem hk, hke] at h2
    exact h2 σ w w' hC hx hT
/-- what only makes memory -/
def Grows (w w' : World) : Prop := Below w.heap.size w w'
theorem Grows.refl (w : World) : Grows w w := Below.refl _ _
end
end Go.Proofs.YtkljkbeahdipfaaGreatDoor
